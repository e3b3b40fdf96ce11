/- The plain law of ArcCircle: four quarter arcs of one circle answer as the ring does. -/
import Derived.Test.YthakfjlnhldehaaArcPlain
namespace Go.Proofs.Ythakfjlnhldehaa
open Go.Ai

theorem le_div_iff_sq {x n : Nat} (hx : 0 < x) : x ≤ n / x ↔ x * x ≤ n := Nat.le_div_iff_mul_le hx

theorem rootGo_spec (n : Nat) : ∀ k r, r * r ≤ n → n < (r + 2 ^ k) * (r + 2 ^ k) → rootGo n k r * rootGo n k r ≤ n ∧ n < (rootGo n k r + 1) * (rootGo n k r + 1) := by
  intro k
  induction k with
  | zero => intro r h1 h2; simpa [rootGo] using ⟨h1, h2⟩
  | succ k ih =>
    intro r h1 h2
    have hp : 0 < 2 ^ k := Nat.two_pow_pos k
    unfold rootGo
    split
    · rename_i h
      rw [le_div_iff_sq (by omega)] at h
      refine ih _ h ?_
      have e : r + 2 ^ k + 2 ^ k = r + 2 ^ (k + 1) := by rw [Nat.pow_succ]; omega
      rw [e]; exact h2
    · rename_i h
      rw [le_div_iff_sq (by omega)] at h
      exact ih r h1 (by omega)

theorem sq_lt {a b : Nat} (h : a * a < b * b) : a < b := by
  rcases Nat.lt_or_ge a b with g | g
  · exact g
  · exact absurd (Nat.mul_le_mul g g) (by omega)

theorem rootI_sq (q : Nat) (h : q ≤ 32768) (h0 : 0 < q) : rootI ((q : Int) * q) = q := by
  unfold rootI
  have hq : 0 < q * q := Nat.mul_pos h0 h0
  have e : ((q : Int) * q).toNat = q * q := by
    rw [← Int.natCast_mul]; rfl
  rw [if_neg (by rw [← Int.natCast_mul]; omega), e]
  have hm : q * q ≤ 32768 * 32768 := Nat.mul_le_mul h h
  obtain ⟨a, b⟩ := rootGo_spec (q * q) 32 0 (by omega) (by simp; omega)
  have a' : rootGo (q * q) 32 0 < q + 1 := by
    apply sq_lt
    have : (q + 1) * (q + 1) = q * q + 2 * q + 1 := by grind
    omega
  have b' := sq_lt b
  have : rootGo (q * q) 32 0 = q := by omega
  rw [this]

theorem radN_circle (q : Int) (h : 2 ≤ q ∧ q ≤ 32768) : radN (q * q) (q * q) (q * q) = (q, true) := by
  obtain ⟨n, rfl⟩ : ∃ n : Nat, q = n := ⟨q.toNat, by omega⟩
  have b := mul_bd (x := (n : Int)) (y := (n : Int)) (p := 32768) (q := 32768) (by omega) (by omega) (by omega) (by omega)
  have hpos : 0 < (n : Int) * n := Int.mul_pos (by omega) (by omega)
  unfold radN
  rw [rootI_sq n (by omega) (by omega), w64 (by omega) (by omega)]
  have e1 : decide ((n : Int) < 1) = false := by simp; omega
  have e2 : decide ((n : Int) > 262144) = false := by simp; omega
  have e3 : decide ((n : Int) * n ≤ 0) = false := by simp; omega
  rw [bne_self_eq_false, e1, e2, e3]

/-- A quarter of the ring. -/
def quarterB (q reach dS dE c1 c2 d : Int) : Bool := decide (dS < reach * reach) || decide (dE < reach * reach) || (decide (0 < c1) && decide (0 < c2) && decide (d < (q + reach) * (q + reach)) && decide ((q - reach) * (q - reach) < d))

theorem insN_circle (q reach dS dE c1 c2 d : Int) (hq : 2 ≤ q ∧ q ≤ 32768) (hr : 1 ≤ reach ∧ reach < q) : insN (q, true) reach dS dE c1 c2 d = quarterB q reach dS dE c1 c2 d := by
  have b1 := mul_bd (x := reach) (y := reach) (p := 65536) (q := 65536) (by omega) (by omega) (by omega) (by omega)
  have b2 := mul_bd (x := q + reach) (y := q + reach) (p := 65536) (q := 65536) (by omega) (by omega) (by omega) (by omega)
  have b3 := mul_bd (x := q - reach) (y := q - reach) (p := 65536) (q := 65536) (by omega) (by omega) (by omega) (by omega)
  have e1 : decide (reach < 1) = false := by simp; omega
  have e2 : decide (reach ≥ q) = false := by simp; omega
  have e3 : decide (reach > 524288) = false := by simp; omega
  unfold insN discB quarterB
  dsimp only
  rw [e1, e2, e3, w64 (n := q + reach) (by omega) (by omega), w64 (n := q - reach) (by omega) (by omega), w64 (by omega) (by omega), w64 (by omega) (by omega), w64 (by omega) (by omega)]
  have f1 : decide (0 < c1) = !decide (c1 ≤ 0) := by rw [Bool.eq_iff_iff]; simp
  have f2 : decide (0 < c2) = !decide (c2 ≤ 0) := by rw [Bool.eq_iff_iff]; simp
  rw [f1, f2]
  dsimp only
  cases decide (dS < reach * reach) <;> cases decide (dE < reach * reach) <;> cases decide (c1 ≤ 0) <;> cases decide (c2 ≤ 0) <;> cases decide (d < (q + reach) * (q + reach)) <;> rfl

theorem sq_lt_out {a b : Int} (h : a * a < b * b) (hb : 0 ≤ b) : -b < a ∧ a < b := by
  constructor
  · by_cases g : -b < a
    · exact g
    · have := Int.mul_le_mul (show b ≤ -a by omega) (show b ≤ -a by omega) hb (by omega)
      rw [Int.neg_mul_neg] at this; omega
  · by_cases g : a < b
    · exact g
    · have := Int.mul_le_mul (show b ≤ a by omega) (show b ≤ a by omega) hb (by omega)
      omega

theorem mul_lt2 {a b : Int} (h : a < b) (ha : 0 ≤ a) : a * a < b * b := by
  have h1 := Int.mul_le_mul_of_nonneg_left (show a ≤ b by omega) ha
  have h2 := Int.mul_lt_mul_of_pos_right h (show 0 < b by omega)
  omega

theorem sq_lt_in {a b : Int} (h1 : -b < a) (h2 : a < b) : a * a < b * b := by
  rcases Int.le_total 0 a with g | g
  · exact mul_lt2 h2 g
  · have := mul_lt2 (show -a < b by omega) (by omega)
    rwa [Int.neg_mul_neg] at this

theorem sq_nonneg (y : Int) : 0 ≤ y * y := by
  rcases Int.le_total 0 y with g | g
  · exact Int.mul_nonneg g g
  · have := Int.mul_nonneg (show 0 ≤ -y by omega) (show 0 ≤ -y by omega)
    rwa [Int.neg_mul_neg] at this

theorem disc_ring {q r x y : Int} (hr : 1 ≤ r) (hq : r < q) (h : (x - q) * (x - q) + y * y < r * r) : (q - r) * (q - r) < x * x + y * y ∧ x * x + y * y < (q + r) * (q + r) := by
  have hy := sq_nonneg y
  obtain ⟨a, b⟩ := sq_lt_out (a := x - q) (b := r) (by omega) (by omega)
  constructor
  · have := mul_lt2 (show q - r < x by omega) (by omega)
    omega
  · have e : (x - q) * (x - q) = x * x - 2 * (q * x) + q * q := by grind
    have e2 : (q + r) * (q + r) = r * r + 2 * (q * (q + r)) - q * q := by grind
    have := Int.mul_le_mul_of_nonneg_left (show x ≤ q + r by omega) (show 0 ≤ q by omega)
    omega

theorem axis_disc {q r x : Int} (hr : 1 ≤ r) (hq : r < q) (h1 : (q - r) * (q - r) < x * x) (h2 : x * x < (q + r) * (q + r)) : (x - q) * (x - q) < r * r ∨ (x + q) * (x + q) < r * r := by
  obtain ⟨a, b⟩ := sq_lt_out h2 (by omega)
  rcases Int.le_total 0 x with g | g
  · left
    have : q - r < x := by
      by_cases k : q - r < x
      · exact k
      · have := Int.mul_le_mul (show x ≤ q - r by omega) (show x ≤ q - r by omega) g (by omega)
        omega
    exact sq_lt_in (by omega) (by omega)
  · right
    have : q - r < -x := by
      by_cases k : q - r < -x
      · exact k
      · have := Int.mul_le_mul (show -x ≤ q - r by omega) (show -x ≤ q - r by omega) (by omega) (by omega)
        rw [Int.neg_mul_neg] at this
        omega
    exact sq_lt_in (by omega) (by omega)

theorem pos_mul_iff {q x : Int} (hq : 0 < q) : 0 < q * x ↔ 0 < x := by
  constructor
  · intro h
    by_cases g : 0 < x
    · exact g
    · have := Int.mul_nonneg (show 0 ≤ q by omega) (show 0 ≤ -x by omega)
      rw [Int.mul_neg] at this
      omega
  · intro h; exact Int.mul_pos hq h

/-- The four quarters together are the ring. -/
theorem ring_eq {q r x y : Int} (hr : 1 ≤ r) (hq : r < q) :
    ((((x - q) * (x - q) + (y - 0) * (y - 0) < r * r ∨ (x - 0) * (x - 0) + (y - q) * (y - q) < r * r) ∨ (((0 < y ∧ 0 < x) ∧ x * x + y * y < (q + r) * (q + r)) ∧ (q - r) * (q - r) < x * x + y * y)) ∨
     (((x - 0) * (x - 0) + (y - q) * (y - q) < r * r ∨ (x - -q) * (x - -q) + (y - 0) * (y - 0) < r * r) ∨ (((0 < -x ∧ 0 < y) ∧ x * x + y * y < (q + r) * (q + r)) ∧ (q - r) * (q - r) < x * x + y * y)) ∨
     (((x - -q) * (x - -q) + (y - 0) * (y - 0) < r * r ∨ (x - 0) * (x - 0) + (y - -q) * (y - -q) < r * r) ∨ (((0 < -y ∧ 0 < -x) ∧ x * x + y * y < (q + r) * (q + r)) ∧ (q - r) * (q - r) < x * x + y * y)) ∨
     (((x - 0) * (x - 0) + (y - -q) * (y - -q) < r * r ∨ (x - q) * (x - q) + (y - 0) * (y - 0) < r * r) ∨ (((0 < x ∧ 0 < -y) ∧ x * x + y * y < (q + r) * (q + r)) ∧ (q - r) * (q - r) < x * x + y * y))) ↔
    (x * x + y * y < (q + r) * (q + r) ∧ (q - r) * (q - r) < x * x + y * y) := by
  simp only [Int.sub_zero, Int.sub_neg]
  have d1 : (x - q) * (x - q) + y * y < r * r → (q - r) * (q - r) < x * x + y * y ∧ x * x + y * y < (q + r) * (q + r) := fun h => disc_ring hr hq h
  have d2 : x * x + (y - q) * (y - q) < r * r → (q - r) * (q - r) < x * x + y * y ∧ x * x + y * y < (q + r) * (q + r) := fun h => by
    have := disc_ring (x := y) (y := x) hr hq (by omega); omega
  have d3 : (x + q) * (x + q) + y * y < r * r → (q - r) * (q - r) < x * x + y * y ∧ x * x + y * y < (q + r) * (q + r) := fun h => by
    have e : (-x - q) * (-x - q) = (x + q) * (x + q) := by grind
    have := disc_ring (x := -x) (y := y) hr hq (by rw [e]; exact h)
    rwa [Int.neg_mul_neg] at this
  have d4 : x * x + (y + q) * (y + q) < r * r → (q - r) * (q - r) < x * x + y * y ∧ x * x + y * y < (q + r) * (q + r) := fun h => by
    have e : (-y - q) * (-y - q) = (y + q) * (y + q) := by grind
    have := disc_ring (x := -y) (y := x) hr hq (by rw [e]; omega)
    rw [Int.neg_mul_neg] at this; omega
  constructor
  · intro h
    grind
  · rintro ⟨h1, h2⟩
    by_cases hx : x = 0
    · subst hx
      have := axis_disc (x := y) hr hq (by omega) (by omega)
      grind
    · by_cases hy : y = 0
      · subst hy
        have := axis_disc (x := x) hr hq (by omega) (by omega)
        grind
      · have : (0 < x ∨ 0 < -x) ∧ (0 < y ∨ 0 < -y) := by omega
        grind

theorem quarterB_iff {q r dS dE c1 c2 d : Int} : quarterB q r dS dE c1 c2 d = true ↔ (dS < r * r ∨ dE < r * r) ∨ (((0 < c1 ∧ 0 < c2) ∧ d < (q + r) * (q + r)) ∧ (q - r) * (q - r) < d) := by
  unfold quarterB; simp only [Bool.or_eq_true, Bool.and_eq_true, decide_eq_true_eq]

theorem arcCircle_true (px py q reach : Int) : arcCircle px py q reach = true := by
  unfold arcCircle
  cases c1 : decide (q < 2)
  rotate_left
  · rfl
  cases c2 : decide (q > 32768)
  rotate_left
  · rfl
  cases c3 : decide (reach < 1)
  rotate_left
  · rfl
  cases c4 : decide (reach ≥ q)
  rotate_left
  · rfl
  cases c5 : near12 px py
  · rfl
  simp only [decide_eq_false_iff_not] at c1 c2 c3 c4
  have hp := near12_yes c5
  have h0 : In 1048576 0 0 := by unfold In; decide
  have hA : In 1048576 q 0 := by unfold In; omega
  have hB : In 1048576 0 q := by unfold In; omega
  have hC : In 1048576 (-q) 0 := by unfold In; omega
  have hD : In 1048576 0 (-q) := by unfold In; omega
  have wq : IntKind.i64.wrap (0 - q) = -q := by rw [w64 (by omega) (by omega)]; omega
  have rA : radius 0 0 q 0 0 q = (q, true) := by
    rw [radius_eq h0 hA hB, ← radN_circle q (by omega)]; congr 1 <;> grind
  have rB : radius 0 0 0 q (-q) 0 = (q, true) := by
    rw [radius_eq h0 hB hC, ← radN_circle q (by omega)]; congr 1 <;> grind
  have rC : radius 0 0 (-q) 0 0 (-q) = (q, true) := by
    rw [radius_eq h0 hC hD, ← radN_circle q (by omega)]; congr 1 <;> grind
  have rD : radius 0 0 0 (-q) q 0 = (q, true) := by
    rw [radius_eq h0 hD hA, ← radN_circle q (by omega)]; congr 1 <;> grind
  have hq0 : 0 < q := by omega
  have s1 := inside_eq hp h0 hA hB reach
  have s2 := inside_eq hp h0 hB hC reach
  have s3 := inside_eq hp h0 hC hD reach
  have s4 := inside_eq hp h0 hD hA reach
  rw [rA, insN_circle _ _ _ _ _ _ _ (by omega) (by omega)] at s1
  rw [rB, insN_circle _ _ _ _ _ _ _ (by omega) (by omega)] at s2
  rw [rC, insN_circle _ _ _ _ _ _ _ (by omega) (by omega)] at s3
  rw [rD, insN_circle _ _ _ _ _ _ _ (by omega) (by omega)] at s4
  have e1 : (q - 0) * (py - 0) - (0 - 0) * (px - 0) = q * py := by grind
  have e2 : (px - 0) * (q - 0) - (py - 0) * (0 - 0) = q * px := by grind
  have e3 : (0 - 0) * (py - 0) - (q - 0) * (px - 0) = q * -px := by grind
  have e4 : (px - 0) * (0 - 0) - (py - 0) * (-q - 0) = q * py := by grind
  have e5 : (-q - 0) * (py - 0) - (0 - 0) * (px - 0) = q * -py := by grind
  have e6 : (px - 0) * (-q - 0) - (py - 0) * (0 - 0) = q * -px := by grind
  have e7 : (0 - 0) * (py - 0) - (-q - 0) * (px - 0) = q * px := by grind
  have e8 : (px - 0) * (0 - 0) - (py - 0) * (q - 0) = q * -py := by grind
  have e9 : (px - 0) * (px - 0) + (py - 0) * (py - 0) = px * px + py * py := by grind
  rw [e1, e2, e9] at s1
  rw [e3, e4, e9] at s2
  rw [e5, e6, e9] at s3
  rw [e7, e8, e9] at s4
  have bx := mul_bd (x := px) (y := px) (p := 1048576) (q := 1048576) hp.1 hp.2.1 hp.1 hp.2.1
  have by' := mul_bd (x := py) (y := py) (p := 1048576) (q := 1048576) hp.2.2.1 hp.2.2.2 hp.2.2.1 hp.2.2.2
  have b2 := mul_bd (x := q + reach) (y := q + reach) (p := 65536) (q := 65536) (by omega) (by omega) (by omega) (by omega)
  have b3 := mul_bd (x := q - reach) (y := q - reach) (p := 65536) (q := 65536) (by omega) (by omega) (by omega) (by omega)
  have key := ring_eq (q := q) (r := reach) (x := px) (y := py) (by omega) (by omega)
  rw [wq, w64 (n := px * px) (by omega) (by omega), w64 (n := py * py) (by omega) (by omega), w64 (n := q + reach) (by omega) (by omega), w64 (n := q - reach) (by omega) (by omega),
    w64 (n := px * px + py * py) (by omega) (by omega), w64 (n := (q + reach) * (q + reach)) (by omega) (by omega), w64 (n := (q - reach) * (q - reach)) (by omega) (by omega)]
  have t1 := (Bool.eq_iff_iff.1 s1).trans quarterB_iff
  have t2 := (Bool.eq_iff_iff.1 s2).trans quarterB_iff
  have t3 := (Bool.eq_iff_iff.1 s3).trans quarterB_iff
  have t4 := (Bool.eq_iff_iff.1 s4).trans quarterB_iff
  rw [pos_mul_iff hq0, pos_mul_iff hq0] at t1 t2 t3 t4
  rw [← t1, ← t2, ← t3, ← t4] at key
  revert key
  generalize inside px py 0 0 q 0 0 q reach = i1
  generalize inside px py 0 0 0 q (-q) 0 reach = i2
  generalize inside px py 0 0 (-q) 0 0 (-q) reach = i3
  generalize inside px py 0 0 0 (-q) q 0 reach = i4
  intro key
  clear t1 t2 t3 t4 s1 s2 s3 s4
  have k1 : decide (px * px + py * py > (q - reach) * (q - reach)) = decide ((q - reach) * (q - reach) < px * px + py * py) := rfl
  rw [k1]
  have key2 : (i1 || i2 || i3 || i4) = (decide (px * px + py * py < (q + reach) * (q + reach)) && decide ((q - reach) * (q - reach) < px * px + py * py)) := by
    rw [Bool.eq_iff_iff]; simp only [Bool.or_eq_true, Bool.and_eq_true, decide_eq_true_eq]
    rw [← key]; simp only [or_assoc]
  revert key2
  generalize decide (px * px + py * py < (q + reach) * (q + reach)) = g1
  generalize decide ((q - reach) * (q - reach) < px * px + py * py) = g2
  clear key
  revert i1 i2 i3 i4 g1 g2
  decide
end Go.Proofs.Ythakfjlnhldehaa
