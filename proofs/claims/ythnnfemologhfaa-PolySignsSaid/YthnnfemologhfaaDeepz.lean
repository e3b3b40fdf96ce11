/- Arguments that are numbers of any size, polynomials, dyadic numbers, read as typed lists. -/
import Derived.Test.YthnnfemologhfaaAbs18
import Derived.Test.YthnnfemologhfaaWalk
namespace Go.Ai
open Go.RowKit

theorem AsAre.split : ∀ {ks ls : List SH} {as : List AV}, AsAre (ks ++ ls) as → ∃ a b, as = a ++ b ∧ AsAre ks a ∧ AsAre ls b
  | [], _, as, h => ⟨[], as, rfl, .nil, h⟩
  | _ :: _, _, _, .cons h hs => by
    obtain ⟨a, b, rfl, h1, h2⟩ := AsAre.split hs
    exact ⟨_ :: a, b, rfl, .cons h h1, h2⟩
theorem wf_u32 {n : Int} (h : (Lit.int .u32 n).wf = true) : 0 ≤ n ∧ n < 4294967296 := by
  simp only [Lit.wf, IntKind.min, IntKind.max, IntKind.signed, IntKind.bits] at h
  simp at h
  omega
theorem wf_i64 {n : Int} (h : (Lit.int .i64 n).wf = true) : -9223372036854775808 ≤ n ∧ n ≤ 9223372036854775807 := by
  simp only [Lit.wf, IntKind.min, IntKind.max, IntKind.signed, IntKind.bits] at h
  simp at h
  omega
theorem limbs_of : ∀ {n : Nat} {as : List AV}, AsAre (repS n [.int .u32]) as → ∃ xs : List Int, xs.length = n ∧ U32 xs ∧ as = lm xs
  | 0, _, .nil => ⟨[], rfl, (fun x hx => nomatch hx), rfl⟩
  | n + 1, as, h => by
    obtain ⟨a, b, rfl, h1, h2⟩ := AsAre.split h
    obtain ⟨xs, e1, e2, rfl⟩ := limbs_of h1
    cases h2 with
    | cons h3 h4 =>
      cases h4
      cases h3 with
      | int hw =>
        rename_i m
        refine ⟨xs ++ [m], by simp [e1], fun x hx => ?_, by simp [lm]⟩
        rcases List.mem_append.1 hx with g | g
        · exact e2 x g
        · rw [List.mem_singleton.1 g]; exact wf_u32 hw
theorem int_of {as : List AV} (h : AsAre [.bool, .sl [.int .u32]] as) : ∃ r : Rn, U32 r.2 ∧ as = [.bool r.1, .sl r.2.length (lm r.2)] := by
  cases h with
  | cons h1 h2 =>
    cases h1
    cases h2 with
    | cons h3 h4 =>
      cases h4
      cases h3 with
      | sl h5 =>
        obtain ⟨xs, rfl, e2, rfl⟩ := limbs_of h5
        exact ⟨(_, xs), e2, rfl⟩
theorem ints_of : ∀ {n : Nat} {as : List AV}, AsAre (repS n [.bool, .sl [.int .u32]]) as → ∃ rs : List Rn, rs.length = n ∧ (∀ r ∈ rs, U32 r.2) ∧ as = pc rs
  | 0, _, .nil => ⟨[], rfl, (fun x hx => nomatch hx), rfl⟩
  | n + 1, as, h => by
    obtain ⟨a, b, rfl, h1, h2⟩ := AsAre.split h
    obtain ⟨rs, e1, e2, rfl⟩ := ints_of h1
    obtain ⟨r, hr, rfl⟩ := int_of h2
    refine ⟨rs ++ [r], by simp [e1], fun x hx => ?_, by rw [pc_append]; rfl⟩
    rcases List.mem_append.1 hx with g | g
    · exact e2 x g
    · rw [List.mem_singleton.1 g]; exact hr
abbrev polyS : SH := .sl [.bool, .sl [.int .u32]]
theorem poly_of {x : AV} (h : AIs polyS x) : ∃ rs : List Rn, (∀ r ∈ rs, U32 r.2) ∧ x = .sl rs.length (pc rs) := by
  cases h with
  | sl h1 =>
    obtain ⟨rs, rfl, h2, rfl⟩ := ints_of h1
    exact ⟨rs, h2, rfl⟩
abbrev dyS : List SH := [.bool, .sl [.int .u32], .int .i64]
theorem dyadic_of {as : List AV} (h : AsAre dyS as) : ∃ (r : Rn) (e : Int), U32 r.2 ∧ (-9223372036854775808 ≤ e ∧ e ≤ 9223372036854775807) ∧ as = [.bool r.1, .sl r.2.length (lm r.2), .int .i64 e] := by
  obtain ⟨a, b, rfl, h1, h2⟩ := AsAre.split (ks := [.bool, .sl [.int .u32]]) (ls := [.int .i64]) h
  obtain ⟨r, hr, rfl⟩ := int_of h1
  cases h2 with
  | cons h3 h4 =>
    cases h4
    cases h3 with
    | int hw => exact ⟨r, _, hr, wf_i64 hw, rfl⟩
end Go.Ai
