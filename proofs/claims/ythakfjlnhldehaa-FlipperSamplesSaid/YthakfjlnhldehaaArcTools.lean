/- Plain facts of the small vectors' functions: exact values inside bounds, and how they answer to the mirror x -> -x. -/
import Derived.Test.YthakfjlnhldehaaArcLaws
namespace Go.Proofs.Ythakfjlnhldehaa
open Go.Ai

-- a point inside a square of half side n
def In (n x y : Int) : Prop := -n ≤ x ∧ x ≤ n ∧ -n ≤ y ∧ y ≤ n

theorem near12_yes {x y : Int} (h : near12 x y = true) : In 1048576 x y := by
  unfold near12 at h
  unfold In
  repeat (split at h; rotate_left; · simp at h)
  simp only [decide_eq_true_eq] at *
  omega

theorem smallOf {n x y : Int} (hn : n ≤ 1073741824) (h : In n x y) : smallB x y = true := by
  unfold In at h; exact smallB_mk (by omega)

theorem subV_eq {a b c d : Int} (h1 : In 536870912 a b) (h2 : In 536870912 c d) : subV a b c d = (a - c, b - d) := by
  unfold subV keptV
  rw [smallOf (by decide) h1, smallOf (by decide) h2]
  unfold In at h1 h2
  rw [smallB_mk (by omega)]
  rfl

theorem scaleV_eq {a b : Int} (h : In 1048576 a b) : scaleV a b 256 = (a * 256, b * 256) := by
  unfold scaleV keptV
  rw [smallOf (by decide) h]
  unfold In at h
  rw [smallB_mk (by omega)]
  by_cases h0 : a = 0 ∧ b = 0
  · obtain ⟨rfl, rfl⟩ := h0; rfl
  · have : (a == 0 && b == 0) = false := by
      simp only [Bool.and_eq_false_iff, beq_eq_false_iff_ne]; omega
    rw [this]; rfl

theorem scaleV_neg {a b : Int} (h : In 1073741824 a b) : scaleV a b (-1) = (-a, -b) := by
  unfold scaleV keptV
  rw [smallOf (by decide) h]
  unfold In at h
  rw [smallB_mk (by omega)]
  by_cases h0 : a = 0 ∧ b = 0
  · obtain ⟨rfl, rfl⟩ := h0; rfl
  · have : (a == 0 && b == 0) = false := by
      simp only [Bool.and_eq_false_iff, beq_eq_false_iff_ne]; omega
    rw [this]
    simp [Int.mul_neg]

theorem dotI_eq {a b c d : Int} (h1 : In 1073741824 a b) (h2 : In 1073741824 c d) : dotI a b c d = a * c + b * d := by
  unfold dotI; rw [smallOf (by decide) h1, smallOf (by decide) h2]; rfl
theorem crossI_eq {a b c d : Int} (h1 : In 1073741824 a b) (h2 : In 1073741824 c d) : crossI a b c d = a * d - b * c := by
  unfold crossI; rw [smallOf (by decide) h1, smallOf (by decide) h2]; rfl

theorem In.mono {n m x y : Int} (h : In n x y) (hm : n ≤ m) : In m x y := by unfold In at *; omega
theorem In.flip {n x y : Int} (h : In n x y) : In n (-x) y := by unfold In at *; omega
theorem In.sub {n m k x y a b : Int} (h : In n x y) (h' : In m a b) (hk : n + m ≤ k) : In k (x - a) (y - b) := by unfold In at *; omega
theorem In.times {x y : Int} (h : In 1048576 x y) : In 268435456 (x * 256) (y * 256) := by unfold In at *; omega

theorem flip12_eq {x y : Int} (h : In 1073741824 x y) : flip12 x y = (-x, y) := by
  unfold flip12; unfold In at h
  rw [w64 (by omega) (by omega)]
  simp

theorem halveGo_flip (k : Nat) : ∀ (x y : Int), halveGo k (-x) y = (-(halveGo k x y).1, (halveGo k x y).2) := by
  induction k with
  | zero => intro x y; rfl
  | succ k ih =>
    intro x y
    have hb : bigB (-x) y = bigB x y := by
      unfold bigB; rw [Bool.eq_iff_iff]; simp only [Bool.or_eq_true, decide_eq_true_eq]; omega
    unfold halveGo
    rw [hb, Int.neg_tdiv, ih]
    split <;> rfl

theorem half_bd {x B : Int} (h1 : -B ≤ x) (h2 : x ≤ B) : -B ≤ Int.tdiv x 2 ∧ Int.tdiv x 2 ≤ B := by
  rcases Int.le_total 0 x with h | h
  · rw [Int.tdiv_eq_ediv_of_nonneg h]; omega
  · have e : x = -(-x) := by omega
    rw [e, Int.neg_tdiv, Int.tdiv_eq_ediv_of_nonneg (by omega)]; omega

theorem halveGo_in (k : Nat) : ∀ (x y : Int), In 1073741824 x y → In 1073741824 (halveGo k x y).1 (halveGo k x y).2 := by
  induction k with
  | zero => intro x y h; exact h
  | succ k ih =>
    intro x y h
    unfold halveGo
    split
    · apply ih
      have a1 := half_bd h.1 h.2.1
      have a2 := half_bd h.2.2.1 h.2.2.2
      exact ⟨a1.1, a1.2, a2.1, a2.2⟩
    · exact h

theorem halveV_flip {x y : Int} (h : In 1073741824 x y) : halveV (-x) y = (-(halveV x y).1, (halveV x y).2) := by
  unfold halveV
  rw [smallOf (by decide) h, smallOf (by decide) h.flip]
  exact halveGo_flip 10 x y
theorem halveV_in {x y : Int} (h : In 1073741824 x y) : In 1073741824 (halveV x y).1 (halveV x y).2 := by
  unfold halveV
  rw [smallOf (by decide) h]
  exact halveGo_in 10 x y h
end Go.Proofs.Ythakfjlnhldehaa
