/- The set near a blade, as conditions and case by case: plain facts. -/
import Derived.Test.YthakfjlnhldehaaWords
namespace Go.Proofs.Ythakfjlnhldehaa
open Go.Ai
theorem sq_lt_abs {b m : Int} (hm : 0 < m) (h : b * b < m * m) : -m < b ∧ b < m := by
  refine ⟨Int.not_le.1 fun g => ?_, Int.not_le.1 fun g => ?_⟩
  · have := Int.mul_le_mul (show m ≤ -b by omega) (show m ≤ -b by omega) (by omega) (by omega)
    rw [Int.neg_mul_neg] at this; omega
  · have := Int.mul_le_mul g g (by omega) (by omega); omega
theorem flip_core {x y c s n L R : Int} (hcs : c * c + s * s = n * n) (hn : 0 < n) (hL : 1 ≤ L) (hR : 1 ≤ R) :
    (if x * c + y * s ≤ 0 then decide (x * x + y * y < R * R) else if x * c + y * s ≥ L * n then decide (n * (x * x + y * y + L * L - R * R) < 2 * L * (x * c + y * s))
      else decide (max (c * y - s * x) (-(c * y - s * x)) < R * n)) =
    (decide (x * x + y * y < R * R) || (decide (0 < n * ((R * R - L * L) - (x * x + y * y)) + 2 * L * (x * c + y * s)) ||
      (decide (0 < x * c + y * s) && (decide (0 < L * n - (x * c + y * s)) && (decide (0 < R * n - (c * y - s * x)) && decide (0 < R * n + (c * y - s * x))))))) := by
  have key : (x * c + y * s) * (x * c + y * s) + (c * y - s * x) * (c * y - s * x) = (x * x + y * y) * (n * n) := by rw [← hcs]; grind
  generalize x * c + y * s = a at *
  generalize c * y - s * x = b at *
  generalize x * x + y * y = S at *
  rw [Bool.eq_iff_iff]
  split
  · rename_i ha
    simp only [Bool.or_eq_true, Bool.and_eq_true, decide_eq_true_eq]
    constructor
    · intro h; exact Or.inl h
    · rintro (h | h | h)
      · exact h
      · have h2 := Int.mul_le_mul_of_nonneg_left ha (show 0 ≤ 2 * L by omega)
        have h3 : 0 < n * (R * R - L * L - S) := by omega
        have h4 : 0 < R * R - L * L - S := Int.pos_of_mul_pos_right h3 (by omega)
        have h5 := Int.mul_pos (show 0 < L by omega) (show 0 < L by omega)
        omega
      · omega
  · split
    · rename_i ha hb
      have e1 : n * (S + L * L - R * R) = -(n * (R * R - L * L - S)) := by grind
      simp only [Bool.or_eq_true, Bool.and_eq_true, decide_eq_true_eq]
      constructor
      · intro h; right; left; omega
      · rintro (h | h | h)
        · have h1 := Int.mul_pos hn (show 0 < R * R - S by omega)
          have h2 := Int.mul_le_mul_of_nonneg_left hb (show 0 ≤ 2 * L by omega)
          have h3 := Int.mul_pos (Int.mul_pos (show 0 < L by omega) (show 0 < L by omega)) hn
          have e2 : 2 * L * (L * n) = 2 * (L * L * n) := by grind
          have e3 : n * (S + L * L - R * R) = L * L * n - n * (R * R - S) := by grind
          omega
        · omega
        · omega
    · rename_i ha hb
      have hRn : 0 < R * n := Int.mul_pos (by omega) hn
      have aux : b * b < (R * n) * (R * n) → max b (-b) < R * n := fun h => by
        have := sq_lt_abs hRn h; omega
      simp only [Bool.or_eq_true, Bool.and_eq_true, decide_eq_true_eq]
      constructor
      · intro h; right; right; omega
      · rintro (h | h | h)
        · apply aux
          have h1 := Int.mul_pos (show 0 < R * R - S by omega) (Int.mul_pos hn hn)
          have h2 := Int.mul_pos (show 0 < a by omega) (show 0 < a by omega)
          have e : (R * R - S) * (n * n) = R * n * (R * n) - S * (n * n) := by grind
          omega
        · apply aux
          have h1 := Int.mul_pos hn h
          have h2 := Int.mul_pos (show 0 < L * n - a by omega) (show 0 < L * n - a by omega)
          have e : n * (n * (R * R - L * L - S) + 2 * L * a) = R * n * (R * n) - S * (n * n) - (L * n * (L * n) - 2 * (L * n * a)) := by grind
          have e2 : (L * n - a) * (L * n - a) = L * n * (L * n) - 2 * (L * n * a) + a * a := by grind
          omega
        · omega
end Go.Proofs.Ythakfjlnhldehaa
