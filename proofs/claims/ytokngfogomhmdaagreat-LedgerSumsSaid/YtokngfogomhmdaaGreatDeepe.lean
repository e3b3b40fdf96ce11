/- Arguments that are lists of accounts. -/
import Derived.Test.YtokngfogomhmdaaGreatDeepz
import Derived.Test.YtokngfogomhmdaaGreatEnt
namespace Go.Ai
open Go.RowKit

theorem ints3_of : ∀ {n : Nat} {az : List AV}, AsAre (repS n [.int .i64, .int .i64, .int .i64]) az → ∃ l : List E3, l.length = n ∧ az = en l
  | 0, _, .nil => ⟨[], rfl, rfl⟩
  | n + 1, az, h => by
    obtain ⟨a, b, rfl, h1, h2⟩ := AsAre.split h
    obtain ⟨l, e1, rfl⟩ := ints3_of h1
    cases h2 with
    | cons h3 h4 =>
      cases h4 with
      | cons h5 h6 =>
        cases h6 with
        | cons h7 h8 =>
          cases h8
          cases h3
          cases h5
          cases h7
          rename_i x _ y _ z _
          exact ⟨l ++ [(x, y, z)], by simp [e1], by rw [en_append]; rfl⟩
theorem ents_of {x : AV} (h : AIs (.sl 24 [.int .i64, .int .i64, .int .i64]) x) : ∃ l : List E3, l.length < 9223372036854775807 ∧ x = .sl l.length (en l) := by
  cases h with
  | sl h5 hb =>
    obtain ⟨l, e1, rfl⟩ := ints3_of h5
    refine ⟨l, ?_, by rw [e1]⟩
    subst e1
    have e : reachBytes < 9223372036854775807 := by decide
    omega
end Go.Ai
