/- Arguments that are numbers of any size, polynomials, dyadic numbers, read as typed lists. -/
import Derived.Test.YtokngfogomhmdaaGreatAbs18
import Derived.Test.YtokngfogomhmdaaGreatWalk
namespace Go.Ai
open Go.RowKit

theorem AsAre.split : ∀ {ks ls : List SH} {az : List AV}, AsAre (ks ++ ls) az → ∃ a b, az = a ++ b ∧ AsAre ks a ∧ AsAre ls b
  | [], _, az, h => ⟨[], az, rfl, .nil, h⟩
  | _ :: _, _, _, .cons h hs => by
    obtain ⟨a, b, rfl, h1, h2⟩ := AsAre.split hs
    exact ⟨_ :: a, b, rfl, .cons h h1, h2⟩
theorem wf_u32 {n : Int} (h : (Lit.int .u32 n).wf = true) : 0 ≤ n ∧ n < 4294967296 := by
  simp only [Lit.wf, IntKind.min, IntKind.max, IntKind.signed, IntKind.bits] at h
  simp at h
  omega
theorem wf_i64 {n : Int} (h : (Lit.int .i64 n).wf = true) : -9223372036854775808 ≤ n ∧ n ≤ 9223372036854775807 := by
  simp only [Lit.wf, IntKind.min, IntKind.max, IntKind.signed, IntKind.bits] at h
  simp at h
  omega
theorem limbs_of : ∀ {n : Nat} {az : List AV}, AsAre (repS n [.int .u32]) az → ∃ xs : List Int, xs.length = n ∧ U32 xs ∧ az = lm xs
  | 0, _, .nil => ⟨[], rfl, (fun x hx => nomatch hx), rfl⟩
  | n + 1, az, h => by
    obtain ⟨a, b, rfl, h1, h2⟩ := AsAre.split h
    obtain ⟨xs, e1, e2, rfl⟩ := limbs_of h1
    cases h2 with
    | cons h3 h4 =>
      cases h4
      cases h3 with
      | int hw =>
        rename_i m
        refine ⟨xs ++ [m], by simp [e1], fun x hx => ?_, by simp [lm]⟩
        rcases List.mem_append.1 hx with g | g
        · exact e2 x g
        · rw [List.mem_singleton.1 g]; exact wf_u32 hw
/-- A number that fits in the memory. -/
def Big (r : Rn) : Prop := Good 35184372088832 r
theorem int_of {az : List AV} (h : AsAre [.bool, .sl 4 [.int .u32]] az) : ∃ r : Rn, Big r ∧ az = [.bool r.1, .sl r.2.length (lm r.2)] := by
  cases h with
  | cons h1 h2 =>
    cases h1
    cases h2 with
    | cons h3 h4 =>
      cases h4
      cases h3 with
      | sl h5 hb =>
        obtain ⟨xs, rfl, e2, rfl⟩ := limbs_of h5
        exact ⟨(_, xs), ⟨e2, by show xs.length ≤ _; unfold reachBytes at hb; omega⟩, rfl⟩
theorem ints_of : ∀ {n : Nat} {az : List AV}, AsAre (repS n [.bool, .sl 4 [.int .u32]]) az → ∃ rs : List Rn, rs.length = n ∧ (∀ r ∈ rs, Big r) ∧ az = pc rs
  | 0, _, .nil => ⟨[], rfl, (fun x hx => nomatch hx), rfl⟩
  | n + 1, az, h => by
    obtain ⟨a, b, rfl, h1, h2⟩ := AsAre.split h
    obtain ⟨rs, e1, e2, rfl⟩ := ints_of h1
    obtain ⟨r, hr, rfl⟩ := int_of h2
    refine ⟨rs ++ [r], by simp [e1], fun x hx => ?_, by rw [pc_append]; rfl⟩
    rcases List.mem_append.1 hx with g | g
    · exact e2 x g
    · rw [List.mem_singleton.1 g]; exact hr
abbrev polyS : SH := .sl 32 [.bool, .sl 4 [.int .u32]]
theorem poly_of {x : AV} (h : AIs polyS x) : ∃ rs : List Rn, (∀ r ∈ rs, Big r) ∧ x = .sl rs.length (pc rs) := by
  cases h with
  | sl h1 =>
    obtain ⟨rs, rfl, h2, rfl⟩ := ints_of h1
    exact ⟨rs, h2, rfl⟩
abbrev dyS : List SH := [.bool, .sl 4 [.int .u32], .int .i64]
theorem dyadic_of {az : List AV} (h : AsAre dyS az) : ∃ (r : Rn) (e : Int), Big r ∧ (-9223372036854775808 ≤ e ∧ e ≤ 9223372036854775807) ∧ az = [.bool r.1, .sl r.2.length (lm r.2), .int .i64 e] := by
  obtain ⟨a, b, rfl, h1, h2⟩ := AsAre.split (ks := [.bool, .sl 4 [.int .u32]]) (ls := [.int .i64]) h
  obtain ⟨r, hr, rfl⟩ := int_of h1
  cases h2 with
  | cons h3 h4 =>
    cases h4
    cases h3 with
    | int hw => exact ⟨r, _, hr, wf_i64 hw, rfl⟩
abbrev rootS : List SH := polyS :: (dyS ++ dyS)
theorem root_of {az : List AV} (h : AsAre rootS az) : ∃ (rs : List Rn) (r : Rn) (e : Int) (t : Rn) (f : Int), (∀ r ∈ rs, Big r) ∧ Big r ∧ Big t ∧ (-9223372036854775808 ≤ e ∧ e ≤ 9223372036854775807) ∧ (-9223372036854775808 ≤ f ∧ f ≤ 9223372036854775807) ∧
    az = [.sl rs.length (pc rs), .bool r.1, .sl r.2.length (lm r.2), .int .i64 e, .bool t.1, .sl t.2.length (lm t.2), .int .i64 f] := by
  cases h with
  | cons h1 h2 =>
    obtain ⟨a, b, rfl, h3, h4⟩ := AsAre.split h2
    obtain ⟨rs, k1, rfl⟩ := poly_of h1
    obtain ⟨r, e, k2, k3, rfl⟩ := dyadic_of h3
    obtain ⟨t, f, k4, k5, rfl⟩ := dyadic_of h4
    exact ⟨rs, r, e, t, f, k1, k2, k4, k3, k5, rfl⟩
end Go.Ai
