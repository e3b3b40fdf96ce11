/- Plain facts of the package wall's functions: exact values inside bounds. -/
import Derived.Test.YthakfjlnhldehaaGreatWall
import Derived.Test.YthakfjlnhldehaaGreatAbs17
namespace Go.Proofs.YthakfjlnhldehaaGreat
open Go.Ai

-- a point inside a square of half side n
def In (n x y : Int) : Prop := -n ≤ x ∧ x ≤ n ∧ -n ≤ y ∧ y ≤ n

theorem near11_yes {x y : Int} (h : near11 x y = true) : In 1048576 x y := by
  unfold near11 at h
  unfold In
  repeat (split at h; rotate_left; · simp at h)
  simp only [decide_eq_true_eq] at *
  omega
theorem close11_yes {x y : Int} (h : close11 x y = true) : In 10000 x y := by
  unfold close11 at h
  unfold In
  repeat (split at h; rotate_left; · simp at h)
  simp only [decide_eq_true_eq] at *
  omega
theorem near11_no {x y : Int} (h : near11 x y = false) : ¬ In 1048576 x y := by
  intro hi
  unfold In at hi
  unfold near11 at h
  rw [decide_eq_true (show x ≥ -1048576 by omega), decide_eq_true (show x ≤ 1048576 by omega), decide_eq_true (show y ≥ -1048576 by omega), decide_eq_true (show y ≤ 1048576 by omega)] at h
  cases h

theorem smallOf {n x y : Int} (hn : n ≤ 1073741824) (h : In n x y) : smallB x y = true := by
  unfold In at h; exact smallB_mk (by omega)
theorem In.mono {n m x y : Int} (h : In n x y) (hm : n ≤ m) : In m x y := by unfold In at *; omega
theorem In.flip {n x y : Int} (h : In n x y) : In n (-x) y := by unfold In at *; omega
theorem In.sub {n m k x y a b : Int} (h : In n x y) (h' : In m a b) (hk : n + m ≤ k) : In k (x - a) (y - b) := by unfold In at *; omega
theorem In.times {n x y : Int} (h : In n x y) : In (n * 256) (x * 256) (y * 256) := by unfold In at *; omega

theorem subV_eq {a b c d : Int} (h1 : In 536870912 a b) (h2 : In 536870912 c d) : subV a b c d = (a - c, b - d) := by
  unfold subV keptV
  rw [smallOf (by decide) h1, smallOf (by decide) h2]
  unfold In at h1 h2
  rw [smallB_mk (by omega)]
  rfl
theorem scaleV_eq {a b : Int} (h : In 1048576 a b) : scaleV a b 256 = (a * 256, b * 256) := by
  unfold scaleV keptV
  rw [smallOf (by decide) h]
  unfold In at h
  rw [smallB_mk (by omega)]
  by_cases h0 : a = 0 ∧ b = 0
  · obtain ⟨rfl, rfl⟩ := h0; rfl
  · have : (a == 0 && b == 0) = false := by
      simp only [Bool.and_eq_false_iff, beq_eq_false_iff_ne]; omega
    rw [this]; rfl
theorem dotI_eq {a b c d : Int} (h1 : In 1073741824 a b) (h2 : In 1073741824 c d) : dotI a b c d = a * c + b * d := by
  unfold dotI; rw [smallOf (by decide) h1, smallOf (by decide) h2]; rfl
theorem crossI_eq {a b c d : Int} (h1 : In 1073741824 a b) (h2 : In 1073741824 c d) : crossI a b c d = a * d - b * c := by
  unfold crossI; rw [smallOf (by decide) h1, smallOf (by decide) h2]; rfl
theorem perpV_eq {a b : Int} (h1 : In 1073741824 a b) : perpV a b = (-b, a) := by
  unfold perpV; rw [smallOf (by decide) h1]; rfl
theorem boxOf {n m x y : Int} (h : In m x y) (hm : m ≤ n) : boxB n x y = true := by
  unfold In at h; exact boxB_mk (by omega)

theorem sq_nn (y : Int) : 0 ≤ y * y := by
  rcases Int.le_total 0 y with g | g
  · exact Int.mul_nonneg g g
  · have := Int.mul_nonneg (show 0 ≤ -y by omega) (show 0 ≤ -y by omega)
    rwa [Int.neg_mul_neg] at this
theorem sq_le {x n : Int} (h : -n ≤ x ∧ x ≤ n) : x * x ≤ n * n := (mul_bd h.1 h.2 h.1 h.2).2

theorem inDisc_eq {p1 p2 z1 z2 R : Int} (hp : In 2097152 p1 p2) (hz : In 1048576 z1 z2) (hR : 1 ≤ R ∧ R ≤ 524288) : inDisc p1 p2 z1 z2 R = decide ((p1 - z1) * (p1 - z1) + (p2 - z2) * (p2 - z2) < R * R) := by
  unfold inDisc
  have hx : In 1073741824 (p1 - z1) (p2 - z2) := In.sub hp hz (by decide)
  have hRR := sq_le (x := R) (n := 524288) (by omega)
  have := sq_nn R
  rw [boxOf hp (by decide), boxOf hz (by decide), decide_eq_false (show ¬ R < 1 by omega), decide_eq_false (show ¬ R > 524288 by omega), subV_eq (hp.mono (by decide)) (hz.mono (by decide)), dotI_eq hx hx, w64 (n := R * R) (by omega) (by omega)]

theorem mid_cut (X Y W : Int) (hW : 0 < W) : (match decide (X / W < Y / W) with | true => true | false => match X / W == Y / W with | true => decide (X % W < Y % W) | false => false) = decide (X < Y) := by
  have e1 := Int.mul_ediv_add_emod X W
  have e2 := Int.mul_ediv_add_emod Y W
  have l1 := Int.emod_nonneg X (show W ≠ 0 by omega)
  have l2 := Int.emod_nonneg Y (show W ≠ 0 by omega)
  have u1 := Int.emod_lt_of_pos X hW
  have u2 := Int.emod_lt_of_pos Y hW
  generalize X / W = a at *
  generalize Y / W = b at *
  generalize X % W = c at *
  generalize Y % W = d at *
  by_cases h1 : a < b
  · rw [decide_eq_true h1]
    have : W * (a + 1) ≤ W * b := Int.mul_le_mul_of_nonneg_left (by omega) (by omega)
    rw [Int.mul_add, Int.mul_one] at this
    symm; rw [decide_eq_true_iff]; omega
  · rw [decide_eq_false h1]
    by_cases h2 : a = b
    · subst h2
      have : (a == a) = true := by simp
      rw [this]
      dsimp only
      rw [decide_eq_decide]; omega
    · have h3 : (a == b) = false := by simpa using h2
      rw [h3]
      have : W * (b + 1) ≤ W * a := Int.mul_le_mul_of_nonneg_left (by omega) (by omega)
      rw [Int.mul_add, Int.mul_one] at this
      symm; rw [decide_eq_false_iff_not]; omega

theorem belowB_eq {c R n : Int} (hc : 0 ≤ c ∧ c ≤ 4611686018427387904) (hR : 1 ≤ R ∧ R ≤ 524288) (hn : 0 ≤ n ∧ n ≤ 4611686018427387904) : belowB c R n = decide (c * c < R * R * n) := by
  unfold belowB
  have hRR := sq_le (x := R) (n := 524288) (by omega)
  have := sq_nn R
  rw [w64 (n := R * R) (by omega) (by omega), wu64 (n := R * R) (by omega) (by omega), wu64 (n := c) (by omega) (by omega), wu64 (n := n) (by omega) (by omega)]
  exact mid_cut _ _ _ (by decide)

def capP (x y u v R : Int) : Prop :=
  x * x + y * y < R * R ∨ (x - u) * (x - u) + (y - v) * (y - v) < R * R ∨ (0 < x * u + y * v ∧ x * u + y * v < u * u + v * v ∧ (u * y - v * x) * (u * y - v * x) < R * R * (u * u + v * v))
instance (x y u v R : Int) : Decidable (capP x y u v R) := inferInstanceAs (Decidable (_ ∨ _ ∨ (_ ∧ _ ∧ _)))

theorem absmax_sq {c : Int} (h : -4611686018427387904 ≤ c ∧ c ≤ 4611686018427387904) : ∃ m, (if IntKind.i64.wrap (0 - c) > c then IntKind.i64.wrap (0 - c) else c) = m ∧ 0 ≤ m ∧ m ≤ 4611686018427387904 ∧ m * m = c * c := by
  rw [w64 (n := 0 - c) (by omega) (by omega)]
  by_cases g : 0 - c > c
  · refine ⟨-c, by rw [if_pos g]; omega, by omega, by omega, Int.neg_mul_neg c c⟩
  · exact ⟨c, by rw [if_neg g], by omega, by omega, rfl⟩

theorem inCap_eq {p1 p2 a1 a2 b1 b2 R : Int} (hp : In 2097152 p1 p2) (ha : In 1048576 a1 a2) (hb : In 1048576 b1 b2) (hR : 1 ≤ R ∧ R ≤ 524288) :
    inCap p1 p2 a1 a2 b1 b2 R = decide (capP (p1 - a1) (p2 - a2) (b1 - a1) (b2 - a2) R) := by
  unfold inCap
  have hx : In 3145728 (p1 - a1) (p2 - a2) := In.sub hp ha (by decide)
  have hd : In 2097152 (b1 - a1) (b2 - a2) := In.sub hb ha (by decide)
  rw [boxOf hp (by decide), boxOf ha (by decide), boxOf hb (by decide), decide_eq_false (show ¬ R < 1 by omega), decide_eq_false (show ¬ R > 524288 by omega), inDisc_eq hp ha hR, inDisc_eq hp hb hR,
    subV_eq (hp.mono (by decide)) (ha.mono (by decide)), subV_eq (hb.mono (by decide)) (ha.mono (by decide))]
  have e1 : p1 - b1 = (p1 - a1) - (b1 - a1) := by omega
  have e2 : p2 - b2 = (p2 - a2) - (b2 - a2) := by omega
  rw [e1, e2]
  generalize p1 - a1 = x at *
  generalize p2 - a2 = y at *
  generalize b1 - a1 = u at *
  generalize b2 - a2 = v at *
  dsimp only [Bool.and_self]
  rw [dotI_eq (hx.mono (by decide)) (hd.mono (by decide)), dotI_eq (hd.mono (by decide)) (hd.mono (by decide)), crossI_eq (hd.mono (by decide)) (hx.mono (by decide))]
  unfold capP
  unfold In at hx hd
  have m1 := mul_bd (x := u) (y := y) (p := 2097152) (q := 3145728) (by omega) (by omega) (by omega) (by omega)
  have m2 := mul_bd (x := v) (y := x) (p := 2097152) (q := 3145728) (by omega) (by omega) (by omega) (by omega)
  have m3 := sq_le (x := u) (n := 2097152) (by omega)
  have m4 := sq_le (x := v) (n := 2097152) (by omega)
  have n3 := sq_nn u
  have n4 := sq_nn v
  obtain ⟨m, em, k1, k2, k3⟩ := absmax_sq (c := u * y - v * x) (by omega)
  rw [em, belowB_eq ⟨k1, k2⟩ hR (by omega), k3]
  by_cases g1 : x * x + y * y < R * R
  · simp [g1]
  · by_cases g2 : (x - u) * (x - u) + (y - v) * (y - v) < R * R
    · simp [g1, g2]
    · by_cases g3 : x * u + y * v ≤ 0
      · have g3' : ¬ 0 < x * u + y * v := by omega
        simp [g1, g2, g3, g3']
      · have g3' : 0 < x * u + y * v := by omega
        by_cases g4 : x * u + y * v ≥ u * u + v * v
        · have g4' : ¬ x * u + y * v < u * u + v * v := by omega
          simp [g1, g2, g3, g4, g4']
        · have g4' : x * u + y * v < u * u + v * v := by omega
          simp [g1, g2, g3, g3', g4, g4']

/-- A slice of points. -/
theorem vecs_two {x : AV} {k : IntKind} (h : VecsAV k x) : (∃ n cs, x = .sl n cs ∧ decide (((n : Nat) : Int) < 2) = true) ∨ ∃ n a1 a2 b1 b2 cs, x = .sl n (.int k a1 :: .int k a2 :: .int k b1 :: .int k b2 :: cs) ∧ decide (((n : Nat) : Int) < 2) = false := by
  obtain ⟨xs, h⟩ := h
  match xs, h with
  | [], h => exact .inl ⟨_, _, h, by simp⟩
  | [_], h => exact .inl ⟨_, _, h, by simp⟩
  | p :: q :: l, h => exact .inr ⟨_, p.1, p.2, q.1, q.2, l.flatMap fun p => [.int k p.1, .int k p.2], h, by simp; omega⟩

end Go.Proofs.YthakfjlnhldehaaGreat
