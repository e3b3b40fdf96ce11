/- The package algebra, by what the polynomials are at all numbers. -/
import Derived.Test.YthakfjlnhldehaaAlgB
namespace Go.Proofs.Ythakfjlnhldehaa
open Go.Ai
set_option maxRecDepth 100000

/-- A polynomial that is f, of at most n coefficients of at most K limbs. -/
structure IsP (ts : List Rn) (f : Int → Int) (n K : Nat) : Prop where
  len : ts.length ≤ n
  good : ∀ r ∈ ts, Good K r
  ev : ∀ x, peval (vals ts) x = f x
theorem IsP.of_cn {p : List Int} {f : Int → Int} {n K : Nat} (h1 : p.length ≤ n) (h2 : ∀ x ∈ p, Fits K x) (h3 : ∀ x, peval p x = f x) : IsP (p.map cn) f n K :=
  ⟨by rw [List.length_map]; exact h1, good_cns h2, fun x => by rw [vals_cn]; exact h3 x⟩
theorem ints_P {xs : List Int} (hx : ∀ x ∈ xs, -9223372036854775808 ≤ x ∧ x ≤ 9223372036854775807) (hN : xs.length ≤ 1048576) : ∃ ts, IsP ts (peval xs) xs.length 2 ∧ Runs Try.ir 73 [.sl xs.length (li xs)] (.fresh 2 ts.length (pc ts)) := by
  refine ⟨(trimL xs).map cn, IsP.of_cn (trim_len xs) (fits_mem_trim fun x h => fits_i64 (hx x h)) (fun x => peval_trim xs x), ?_⟩
  rw [List.length_map]
  exact aints_run hx hN
theorem plus_P {xs ys : List Rn} {f g : Int → Int} {n m K L : Nat} (hx : IsP xs f n K) (hy : IsP ys g m L) (hK : max K L < 1048576) (hn : max n m ≤ 1048576) : ∃ ts, IsP ts (fun x => f x + g x) (max n m) (max K L + 1) ∧ Runs Try.ir 65 [.sl xs.length (pc xs), .sl ys.length (pc ys)] (.fresh 2 ts.length (pc ts)) := by
  have h1 := hx.len
  have h2 := hy.len
  have g1 : ∀ r ∈ xs, Good (max K L) r := fun r h => (hx.good r h).mono (by omega)
  have g2 : ∀ r ∈ ys, Good (max K L) r := fun r h => (hy.good r h).mono (by omega)
  have hl := padd_len (vals xs) (vals ys)
  rw [vals_length, vals_length] at hl
  refine ⟨(padd (vals xs) (vals ys)).map cn, IsP.of_cn (by omega) (fits_mem_padd (fits_vals g1) (fits_vals g2)) (fun x => by rw [peval_padd, hx.ev, hy.ev]), ?_⟩
  rw [List.length_map]
  exact aplus_run g1 g2 hK (by omega) (by omega)
theorem minus_P {xs ys : List Rn} {f g : Int → Int} {n m K L : Nat} (hx : IsP xs f n K) (hy : IsP ys g m L) (hK : max K L < 1048576) (hn : max n m ≤ 1048576) : ∃ ts, IsP ts (fun x => f x - g x) (max n m) (max K L + 1) ∧ Runs Try.ir 63 [.sl xs.length (pc xs), .sl ys.length (pc ys)] (.fresh 2 ts.length (pc ts)) := by
  have h1 := hx.len
  have h2 := hy.len
  have g1 : ∀ r ∈ xs, Good (max K L) r := fun r h => (hx.good r h).mono (by omega)
  have g2 : ∀ r ∈ ys, Good (max K L) r := fun r h => (hy.good r h).mono (by omega)
  have hl := psub_len (vals xs) (vals ys)
  rw [vals_length, vals_length] at hl
  refine ⟨(psub (vals xs) (vals ys)).map cn, IsP.of_cn (by omega) (fits_mem_psub (fits_vals g1) (fits_vals g2)) (fun x => by rw [peval_psub, hx.ev, hy.ev]), ?_⟩
  rw [List.length_map]
  exact aminus_run g1 g2 hK (by omega) (by omega)
theorem times_P {xs ys : List Rn} {f g : Int → Int} {n m K L : Nat} (hx : IsP xs f n K) (hy : IsP ys g m L) (hK : 2 * max K L + n < 1048576) (hn : n + m ≤ 1048576) : ∃ ts, IsP ts (fun x => f x * g x) (n + m) (K + L + n) ∧ Runs Try.ir 66 [.sl xs.length (pc xs), .sl ys.length (pc ys)] (.fresh 2 ts.length (pc ts)) := by
  have h1 := hx.len
  have h2 := hy.len
  have g1 : ∀ r ∈ xs, Good (max K L) r := fun r h => (hx.good r h).mono (by omega)
  have g2 : ∀ r ∈ ys, Good (max K L) r := fun r h => (hy.good r h).mono (by omega)
  have hl := pmul_len (vals xs) (vals ys)
  rw [vals_length, vals_length] at hl
  refine ⟨(pmul (vals xs) (vals ys)).map cn, IsP.of_cn (by omega) (fun x h => (fits_mem_pmul (fits_vals hx.good) (fits_vals hy.good) x h).mono (by rw [vals_length]; omega)) (fun x => by rw [peval_pmul, hx.ev, hy.ev]), ?_⟩
  rw [List.length_map]
  exact atimes_run g1 g2 (by omega) (by omega)

def TAP : Table := TAB
theorem TAP_holds : THolds Try.ir TAP := TAB_holds
end Go.Proofs.Ythakfjlnhldehaa
