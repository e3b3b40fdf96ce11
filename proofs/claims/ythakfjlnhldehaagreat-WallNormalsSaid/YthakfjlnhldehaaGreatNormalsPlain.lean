/- The plain law of WallNormals: normals are mirrored, do not depend on the order of the ends, are not zero outside, and lead away. -/
import Derived.Test.YthakfjlnhldehaaGreatSetsPlain
namespace Go.Proofs.YthakfjlnhldehaaGreat
open Go.Ai

theorem halveGo_flip (k : Nat) : ∀ (x y : Int), halveGo k (-x) y = (-(halveGo k x y).1, (halveGo k x y).2) := by
  induction k with
  | zero => intro x y; rfl
  | succ k ih =>
    intro x y
    have hb : bigB (-x) y = bigB x y := by
      unfold bigB; rw [Bool.eq_iff_iff]; simp only [Bool.or_eq_true, decide_eq_true_eq]; omega
    unfold halveGo
    rw [hb, Int.neg_tdiv, ih]
    split <;> rfl

theorem halveV_flip {x y : Int} (h : In 1073741824 x y) : halveV (-x) y = (-(halveV x y).1, (halveV x y).2) := by
  unfold halveV
  rw [smallOf (by decide) h, smallOf (by decide) h.flip]
  exact halveGo_flip 10 x y

theorem tdiv4 (x : Int) : Int.tdiv (x * 256) 2 = x * 128 := by
  have : x * 256 = x * 128 * 2 := by omega
  rw [this, Int.mul_tdiv_cancel _ (by decide)]
theorem tdiv2 (x : Int) : Int.tdiv (x * 128) 2 = x * 64 := by
  have : x * 128 = x * 64 * 2 := by omega
  rw [this, Int.mul_tdiv_cancel _ (by decide)]

/-- A vector of whole numbers, 256 times, halved: at least 64 times. -/
theorem halve_256 {x y : Int} (h : In 20000 x y) : ∃ k, (k = 256 ∨ k = 128 ∨ k = 64) ∧ halveV (x * 256) (y * 256) = (x * k, y * k) := by
  unfold halveV
  unfold In at h
  rw [smallB_mk (by omega)]
  have e1 : halveGo 10 (x * 256) (y * 256) = if bigB (x * 256) (y * 256) then halveGo 9 (Int.tdiv (x * 256) 2) (Int.tdiv (y * 256) 2) else (x * 256, y * 256) := rfl
  have e2 : halveGo 9 (x * 128) (y * 128) = if bigB (x * 128) (y * 128) then halveGo 8 (Int.tdiv (x * 128) 2) (Int.tdiv (y * 128) 2) else (x * 128, y * 128) := rfl
  have e3 : halveGo 8 (x * 64) (y * 64) = if bigB (x * 64) (y * 64) then halveGo 7 (Int.tdiv (x * 64) 2) (Int.tdiv (y * 64) 2) else (x * 64, y * 64) := rfl
  have e4 : bigB (x * 64) (y * 64) = false := by unfold bigB; simp; omega
  rw [if_pos rfl, e1, tdiv4, tdiv4, e2, tdiv2, tdiv2, e3, e4]
  cases bigB (x * 256) (y * 256)
  · exact ⟨256, .inl rfl, rfl⟩
  · cases bigB (x * 128) (y * 128)
    · exact ⟨128, .inr (.inl rfl), rfl⟩
    · exact ⟨64, .inr (.inr rfl), rfl⟩

theorem gcd_dvd_l (x y : Int) : ∃ q, x = q * ((Nat.gcd x.natAbs y.natAbs : Nat) : Int) := by
  have h := Nat.gcd_dvd_left x.natAbs y.natAbs
  have : ((Nat.gcd x.natAbs y.natAbs : Nat) : Int) ∣ x := Int.natAbs_dvd_natAbs.1 (by simpa using h)
  obtain ⟨q, hq⟩ := this
  exact ⟨q, by rw [Int.mul_comm]; exact hq⟩
theorem gcd_dvd_r (x y : Int) : ∃ q, y = q * ((Nat.gcd x.natAbs y.natAbs : Nat) : Int) := by
  have h := Nat.gcd_dvd_right x.natAbs y.natAbs
  have : ((Nat.gcd x.natAbs y.natAbs : Nat) : Int) ∣ y := Int.natAbs_dvd_natAbs.1 (by simpa using h)
  obtain ⟨q, hq⟩ := this
  exact ⟨q, by rw [Int.mul_comm]; exact hq⟩

/-- A vector that is not zero, reduced: it is a multiple of the result. -/
theorem reduce_ok {x y : Int} (h : In 1073741824 x y) (h0 : ¬ (x = 0 ∧ y = 0)) : ∃ g, 0 < g ∧ x = (reduceV x y).1 * g ∧ y = (reduceV x y).2 * g := by
  unfold reduceV
  have e2 : (x == 0 && y == 0) = false := by simp; omega
  have hpos : 0 < Nat.gcd x.natAbs y.natAbs := by
    rcases Nat.eq_zero_or_pos (Nat.gcd x.natAbs y.natAbs) with hz | hz
    · have := Nat.eq_zero_of_gcd_eq_zero_left hz
      have := Nat.eq_zero_of_gcd_eq_zero_right hz
      omega
    · exact hz
  rw [smallOf (by decide) h, e2]
  obtain ⟨q1, h1⟩ := gcd_dvd_l x y
  obtain ⟨q2, h2⟩ := gcd_dvd_r x y
  generalize hg : ((Nat.gcd x.natAbs y.natAbs : Nat) : Int) = g at *
  refine ⟨g, by omega, ?_, ?_⟩
  · show x = Int.tdiv x g * g
    rw [h1, Int.mul_tdiv_cancel _ (by omega)]
  · show y = Int.tdiv y g * g
    rw [h2, Int.mul_tdiv_cancel _ (by omega)]

theorem reduce_flip {x y : Int} : reduceV (-x) y = (-(reduceV x y).1, (reduceV x y).2) := by
  unfold reduceV
  have e1 : smallB (-x) y = smallB x y := by
    unfold smallB; rw [Bool.eq_iff_iff]; simp only [Bool.and_eq_true, decide_eq_true_eq]; omega
  have e2 : (-x == 0 && y == 0) = (x == 0 && y == 0) := by
    rw [Bool.eq_iff_iff]; simp
  rw [e1, e2, Int.natAbs_neg, Int.neg_tdiv]
  split <;> rfl

/-- The normal of a point: x is seen from the point. -/
theorem discN_eq {q1 q2 z1 z2 : Int} (hq : In 2560000 q1 q2) (hz : In 10000 z1 z2) : discN q1 q2 z1 z2 = halveV (q1 - z1 * 256) (q2 - z2 * 256) := by
  unfold discN
  rw [boxOf hz (by decide), scaleV_eq (hz.mono (by decide)), subV_eq (hq.mono (by decide)) (hz.times.mono (by decide))]

def capC (q1 q2 a1 a2 b1 b2 : Int) : Int × Int :=
  if (q1 - a1 * 256) * (b1 - a1) + (q2 - a2 * 256) * (b2 - a2) ≤ 0 then halveV (q1 - a1 * 256) (q2 - a2 * 256)
  else if (q1 - a1 * 256) * (b1 - a1) + (q2 - a2 * 256) * (b2 - a2) ≥ 256 * ((b1 - a1) * (b1 - a1) + (b2 - a2) * (b2 - a2)) then halveV (q1 - b1 * 256) (q2 - b2 * 256)
  else if (b1 - a1) * (q2 - a2 * 256) - (b2 - a2) * (q1 - a1 * 256) > 0 then reduceV (-(b2 - a2)) (b1 - a1)
  else if (b1 - a1) * (q2 - a2 * 256) - (b2 - a2) * (q1 - a1 * 256) < 0 then reduceV (-(a2 - b2)) (a1 - b1)
  else (0, 0)

theorem capN_eq {q1 q2 a1 a2 b1 b2 : Int} (hq : In 2560000 q1 q2) (ha : In 10000 a1 a2) (hb : In 10000 b1 b2) : capN q1 q2 a1 a2 b1 b2 = capC q1 q2 a1 a2 b1 b2 := by
  unfold capN capC
  have hd : In 1073741824 (b1 - a1) (b2 - a2) := In.sub hb ha (by decide)
  have hd' : In 1073741824 (a1 - b1) (a2 - b2) := In.sub ha hb (by decide)
  have hx : In 1073741824 (q1 - a1 * 256) (q2 - a2 * 256) := In.sub hq ha.times (by decide)
  rw [boxOf ha (by decide), boxOf hb (by decide), scaleV_eq (ha.mono (by decide)), subV_eq (hq.mono (by decide)) (ha.times.mono (by decide)), subV_eq (hb.mono (by decide)) (ha.mono (by decide)), subV_eq (ha.mono (by decide)) (hb.mono (by decide)),
    discN_eq hq ha, discN_eq hq hb, dotI_eq hx hd, dotI_eq hd hd, crossI_eq hd hx, perpV_eq hd, perpV_eq hd']
  have m3 := sq_le (x := b1 - a1) (n := 20000) (by unfold In at ha hb; omega)
  have m4 := sq_le (x := b2 - a2) (n := 20000) (by unfold In at ha hb; omega)
  have n3 := sq_nn (b1 - a1)
  have n4 := sq_nn (b2 - a2)
  rw [w64 (by omega) (by omega)]
  by_cases g1 : (q1 - a1 * 256) * (b1 - a1) + (q2 - a2 * 256) * (b2 - a2) ≤ 0
  · rw [decide_eq_true g1, if_pos g1]; rfl
  · rw [decide_eq_false g1, if_neg g1]
    by_cases g2 : (q1 - a1 * 256) * (b1 - a1) + (q2 - a2 * 256) * (b2 - a2) ≥ 256 * ((b1 - a1) * (b1 - a1) + (b2 - a2) * (b2 - a2))
    · rw [decide_eq_true g2, if_pos g2]; rfl
    · rw [decide_eq_false g2, if_neg g2]
      by_cases g3 : (b1 - a1) * (q2 - a2 * 256) - (b2 - a2) * (q1 - a1 * 256) > 0
      · rw [decide_eq_true g3, if_pos g3]; rfl
      · rw [decide_eq_false g3, if_neg g3]
        by_cases g4 : (b1 - a1) * (q2 - a2 * 256) - (b2 - a2) * (q1 - a1 * 256) < 0
        · rw [decide_eq_true g4, if_pos g4]; rfl
        · rw [decide_eq_false g4, if_neg g4]; rfl

theorem sq_zero {x y : Int} (h : x * x + y * y ≤ 0) : x = 0 ∧ y = 0 := by
  have h1 := sq_nn x
  have h2 := sq_nn y
  constructor
  · exact (Int.mul_eq_zero.1 (by omega)).elim id id
  · exact (Int.mul_eq_zero.1 (by omega)).elim id id

theorem capC_swap (q1 q2 a1 a2 b1 b2 : Int) : capC q1 q2 b1 b2 a1 a2 = capC q1 q2 a1 a2 b1 b2 := by
  unfold capC
  have e1 : (q1 - b1 * 256) * (a1 - b1) + (q2 - b2 * 256) * (a2 - b2) = 256 * ((b1 - a1) * (b1 - a1) + (b2 - a2) * (b2 - a2)) - ((q1 - a1 * 256) * (b1 - a1) + (q2 - a2 * 256) * (b2 - a2)) := by grind
  have e2 : (a1 - b1) * (a1 - b1) + (a2 - b2) * (a2 - b2) = (b1 - a1) * (b1 - a1) + (b2 - a2) * (b2 - a2) := by grind
  have e3 : (a1 - b1) * (q2 - b2 * 256) - (a2 - b2) * (q1 - b1 * 256) = -((b1 - a1) * (q2 - a2 * 256) - (b2 - a2) * (q1 - a1 * 256)) := by grind
  rw [e1, e2, e3]
  have hz : (b1 - a1) * (b1 - a1) + (b2 - a2) * (b2 - a2) ≤ 0 → a1 = b1 ∧ a2 = b2 := by
    intro h
    have := sq_zero h
    omega
  generalize (q1 - a1 * 256) * (b1 - a1) + (q2 - a2 * 256) * (b2 - a2) = s at *
  generalize (b1 - a1) * (b1 - a1) + (b2 - a2) * (b2 - a2) = d at *
  generalize (b1 - a1) * (q2 - a2 * 256) - (b2 - a2) * (q1 - a1 * 256) = c at *
  by_cases g1 : s ≤ 0
  · rw [if_pos g1]
    by_cases g2 : 256 * d - s ≤ 0
    · rw [if_pos g2]
      obtain ⟨rfl, rfl⟩ := hz (by omega)
      rfl
    · rw [if_neg g2, if_pos (by omega)]
  · rw [if_neg g1]
    by_cases g2 : s ≥ 256 * d
    · rw [if_pos g2, if_pos (by omega)]
    · rw [if_neg g2, if_neg (by omega), if_neg (by omega)]
      by_cases g3 : c > 0
      · rw [if_pos g3, if_neg (by omega), if_pos (by omega)]
      · rw [if_neg g3]
        by_cases g4 : c < 0
        · rw [if_pos g4, if_pos (by omega)]
        · rw [if_neg g4, if_neg (by omega), if_neg (by omega)]

theorem capC_flip {q1 q2 a1 a2 b1 b2 : Int} (hq : In 2560000 q1 q2) (ha : In 10000 a1 a2) (hb : In 10000 b1 b2) : capC (-q1) q2 (-a1) a2 (-b1) b2 = (-(capC q1 q2 a1 a2 b1 b2).1, (capC q1 q2 a1 a2 b1 b2).2) := by
  unfold capC
  have e0 : -q1 - -a1 * 256 = -(q1 - a1 * 256) := by omega
  have e0' : -q1 - -b1 * 256 = -(q1 - b1 * 256) := by omega
  have e1 : -b1 - -a1 = -(b1 - a1) := by omega
  have e1' : -a1 - -b1 = -(a1 - b1) := by omega
  have e2 : -(b1 - a1) * (q2 - a2 * 256) - (b2 - a2) * -(q1 - a1 * 256) = -((b1 - a1) * (q2 - a2 * 256) - (b2 - a2) * (q1 - a1 * 256)) := by grind
  rw [e0, e0', e1, e1', e2, Int.neg_mul_neg, Int.neg_mul_neg, halveV_flip (In.sub hq ha.times (by decide)), halveV_flip (In.sub hq hb.times (by decide))]
  generalize (q1 - a1 * 256) * (b1 - a1) + (q2 - a2 * 256) * (b2 - a2) = s at *
  generalize (b1 - a1) * (b1 - a1) + (b2 - a2) * (b2 - a2) = d at *
  generalize (b1 - a1) * (q2 - a2 * 256) - (b2 - a2) * (q1 - a1 * 256) = c at *
  have r1 : reduceV (-(b2 - a2)) (-(b1 - a1)) = (-(reduceV (-(a2 - b2)) (a1 - b1)).1, (reduceV (-(a2 - b2)) (a1 - b1)).2) := by
    have g1 : -(b1 - a1) = a1 - b1 := by omega
    have g2 : -(b2 - a2) = -(-(a2 - b2)) := by omega
    rw [g1, g2, reduce_flip]
  have r2 : reduceV (-(a2 - b2)) (-(a1 - b1)) = (-(reduceV (-(b2 - a2)) (b1 - a1)).1, (reduceV (-(b2 - a2)) (b1 - a1)).2) := by
    have g1 : -(a1 - b1) = b1 - a1 := by omega
    have g2 : -(a2 - b2) = -(-(b2 - a2)) := by omega
    rw [g1, g2, reduce_flip]
  rw [r1, r2]
  by_cases g1 : s ≤ 0
  · rw [if_pos g1, if_pos g1]
  · rw [if_neg g1, if_neg g1]
    by_cases g2 : s ≥ 256 * d
    · rw [if_pos g2, if_pos g2]
    · rw [if_neg g2, if_neg g2]
      by_cases g3 : c > 0
      · rw [if_pos g3, if_neg (by omega), if_pos (by omega)]
      · rw [if_neg g3]
        by_cases g4 : c < 0
        · rw [if_pos g4, if_pos (by omega)]
        · rw [if_neg g4, if_neg (by omega), if_neg (by omega)]; rfl

theorem lagrange (X Y u v : Int) : (X * X + Y * Y) * (u * u + v * v) = (X * u + Y * v) * (X * u + Y * v) + (u * Y - v * X) * (u * Y - v * X) := by grind

theorem le_of_mul {a b d : Int} (hd : 0 < d) (h : a * d ≤ b * d) : a ≤ b := Int.le_of_mul_le_mul_right h hd

theorem mid_away {x y u v R g t n1 n2 : Int} (hg : 0 < g) (hdd : 0 < u * u + v * v) (hs1 : 0 < x * u + y * v) (hs2 : x * u + y * v < u * u + v * v) (o1 : ¬ x * x + y * y < R * R) (o2 : ¬ (x - u) * (x - u) + (y - v) * (y - v) < R * R)
    (o3 : ¬ (u * y - v * x) * (u * y - v * x) < R * R * (u * u + v * v)) (h1 : n1 * g = -v * t) (h2 : n2 * g = u * t) (ht : (t = 1 ∧ 0 < u * y - v * x) ∨ (t = -1 ∧ u * y - v * x < 0)) :
    ¬ (n1 = 0 ∧ n2 = 0) ∧ ¬ capP (x + n1) (y + n2) u v R := by
  have z1 : g * (n1 * u + n2 * v) = 0 := by
    have : g * (n1 * u + n2 * v) = n1 * g * u + n2 * g * v := by grind
    rw [this, h1, h2]; grind
  have z2 : n1 * u + n2 * v = 0 := by
    rcases Int.mul_eq_zero.1 z1 with h | h
    · omega
    · exact h
  have z3 : g * (u * n2 - v * n1) = t * (u * u + v * v) := by
    have : g * (u * n2 - v * n1) = u * (n2 * g) - v * (n1 * g) := by grind
    rw [this, h1, h2]; grind
  have s1 : (x + n1) * u + (y + n2) * v = x * u + y * v := by
    have : (x + n1) * u + (y + n2) * v = x * u + y * v + (n1 * u + n2 * v) := by grind
    rw [this, z2]; omega
  have s2 : u * (y + n2) - v * (x + n1) = (u * y - v * x) + (u * n2 - v * n1) := by grind
  have hc : (u * y - v * x) * (u * y - v * x) ≤ (u * (y + n2) - v * (x + n1)) * (u * (y + n2) - v * (x + n1)) := by
    rw [s2]
    generalize u * y - v * x = c at *
    generalize u * n2 - v * n1 = w at *
    have e : (c + w) * (c + w) = c * c + 2 * (c * w) + w * w := by grind
    have hw := sq_nn w
    have hcw : 0 ≤ c * w := by
      rcases ht with ⟨rfl, h⟩ | ⟨rfl, h⟩
      · have : 0 ≤ w := by
          by_cases hn : w < 0
          · have := Int.mul_neg_of_pos_of_neg hg hn; omega
          · omega
        exact Int.mul_nonneg (by omega) this
      · have : w ≤ 0 := by
          by_cases hn : 0 < w
          · have := Int.mul_pos hg hn; omega
          · omega
        have := Int.mul_nonneg (show 0 ≤ -c by omega) (show 0 ≤ -w by omega)
        rwa [Int.neg_mul_neg] at this
    rw [e]; omega
  constructor
  · rintro ⟨rfl, rfl⟩
    simp only [Int.zero_mul] at h1 h2
    have : u = 0 ∧ v = 0 := by rcases ht with ⟨rfl, _⟩ | ⟨rfl, _⟩ <;> omega
    obtain ⟨rfl, rfl⟩ := this
    simp at hdd
  · unfold capP
    have l0 := lagrange x y u v
    have l1 := lagrange (x + n1) (y + n2) u v
    have l2 := lagrange (x - u) (y - v) u v
    have l3 := lagrange (x + n1 - u) (y + n2 - v) u v
    have q1 : (x - u) * u + (y - v) * v = x * u + y * v - (u * u + v * v) := by grind
    have q2 : (x + n1 - u) * u + (y + n2 - v) * v = x * u + y * v - (u * u + v * v) := by
      have : (x + n1 - u) * u + (y + n2 - v) * v = (x + n1) * u + (y + n2) * v - (u * u + v * v) := by grind
      rw [this, s1]
    have q3 : u * (y - v) - v * (x - u) = u * y - v * x := by grind
    have q4 : u * (y + n2 - v) - v * (x + n1 - u) = u * (y + n2) - v * (x + n1) := by grind
    rw [s1] at l1
    rw [q1, q3] at l2
    rw [q2, q4] at l3
    rintro (h | h | ⟨_, _, h3⟩)
    · have : x * x + y * y ≤ (x + n1) * (x + n1) + (y + n2) * (y + n2) := by
        apply le_of_mul hdd
        rw [l0, l1]; omega
      omega
    · have : (x - u) * (x - u) + (y - v) * (y - v) ≤ (x + n1 - u) * (x + n1 - u) + (y + n2 - v) * (y + n2 - v) := by
        apply le_of_mul hdd
        rw [l2, l3]; omega
      omega
    · omega

/-- What a normal is worth: it is not zero, and moving along it leads away from the capsule. -/
theorem capC_away {x y u v R : Int} (hR : 1 ≤ R) (hx : In 20000 x y) (hu : In 20000 u v) (hxu : In 20000 (x - u) (y - v)) (hout : ¬ capP x y u v R) :
    ∃ n1 n2, capC (x * 256) (y * 256) 0 0 u v = (n1, n2) ∧ ¬ (n1 = 0 ∧ n2 = 0) ∧ ¬ capP (x + n1) (y + n2) u v R := by
  unfold capC
  have a1 : x * 256 - 0 * 256 = x * 256 := by omega
  have a2 : y * 256 - 0 * 256 = y * 256 := by omega
  have a3 : u - 0 = u := by omega
  have a4 : v - 0 = v := by omega
  have a5 : x * 256 * u + y * 256 * v = 256 * (x * u + y * v) := by grind
  have a6 : u * (y * 256) - v * (x * 256) = 256 * (u * y - v * x) := by grind
  have a7 : x * 256 - u * 256 = (x - u) * 256 := by omega
  have a8 : y * 256 - v * 256 = (y - v) * 256 := by omega
  rw [a1, a2, a3, a4, a5, a6, a7, a8]
  have hRR : 1 ≤ R * R := by
    have := Int.mul_le_mul hR hR (by decide) (by omega)
    omega
  unfold capP at hout
  have o1 : ¬ x * x + y * y < R * R := fun h => hout (.inl h)
  have o2 : ¬ (x - u) * (x - u) + (y - v) * (y - v) < R * R := fun h => hout (.inr (.inl h))
  have n1 := sq_nn x
  have n2 := sq_nn y
  have n3 := sq_nn (x - u)
  have n4 := sq_nn (y - v)
  have dn := sq_nn u
  have dn' := sq_nn v
  by_cases g1 : 256 * (x * u + y * v) ≤ 0
  · rw [if_pos g1]
    obtain ⟨k, hk, e⟩ := halve_256 hx
    refine ⟨_, _, e, ?_, ?_⟩
    · rintro ⟨h1, h2⟩
      have hx0 : x = 0 := by rcases hk with rfl | rfl | rfl <;> omega
      have hy0 : y = 0 := by rcases hk with rfl | rfl | rfl <;> omega
      subst hx0 hy0
      simp at o1
      omega
    · have hk0 : 0 < k := by rcases hk with rfl | rfl | rfl <;> omega
      have b1 : x + x * k = x * (1 + k) := by grind
      have b2 : y + y * k = y * (1 + k) := by grind
      have b3 : x * (1 + k) * u + y * (1 + k) * v = (1 + k) * (x * u + y * v) := by grind
      have b4 : x * (1 + k) * (x * (1 + k)) + y * (1 + k) * (y * (1 + k)) = (x * x + y * y) + (k * k + 2 * k) * (x * x + y * y) := by grind
      have b5 : (x * (1 + k) - u) * (x * (1 + k) - u) + (y * (1 + k) - v) * (y * (1 + k) - v) = (x * (1 + k) * (x * (1 + k)) + y * (1 + k) * (y * (1 + k))) - 2 * ((1 + k) * (x * u + y * v)) + (u * u + v * v) := by grind
      have kk := Int.mul_nonneg (show 0 ≤ k * k + 2 * k by have := sq_nn k; omega) (show 0 ≤ x * x + y * y by omega)
      have hs : (1 + k) * (x * u + y * v) ≤ 0 := by
        have := Int.mul_nonneg (show 0 ≤ 1 + k by omega) (show 0 ≤ -(x * u + y * v) by omega)
        rw [Int.mul_neg] at this
        omega
      unfold capP
      rw [b1, b2]
      rintro (h | h | ⟨h1, h2, h3⟩)
      · omega
      · rw [b5] at h; omega
      · rw [b3] at h1; omega
  · rw [if_neg g1]
    by_cases g2 : 256 * (x * u + y * v) ≥ 256 * (u * u + v * v)
    · rw [if_pos g2]
      obtain ⟨k, hk, e⟩ := halve_256 hxu
      refine ⟨_, _, e, ?_, ?_⟩
      · rintro ⟨h1, h2⟩
        have hx0 : x - u = 0 := by rcases hk with rfl | rfl | rfl <;> omega
        have hy0 : y - v = 0 := by rcases hk with rfl | rfl | rfl <;> omega
        rw [hx0, hy0] at o2
        simp at o2
        omega
      · have hk0 : 0 < k := by rcases hk with rfl | rfl | rfl <;> omega
        generalize hX : x - u = X at *
        generalize hY : y - v = Y at *
        have ex : x = X + u := by omega
        have ey : y = Y + v := by omega
        subst ex ey
        have c1 : (X + u) * u + (Y + v) * v = X * u + Y * v + (u * u + v * v) := by grind
        have c2 : (X + u + X * k) * u + (Y + v + Y * k) * v = (1 + k) * (X * u + Y * v) + (u * u + v * v) := by grind
        have c3 : (X + u + X * k - u) * (X + u + X * k - u) + (Y + v + Y * k - v) * (Y + v + Y * k - v) = (X * X + Y * Y) + (k * k + 2 * k) * (X * X + Y * Y) := by grind
        have c4 : (X + u + X * k) * (X + u + X * k) + (Y + v + Y * k) * (Y + v + Y * k) = (X * X + Y * Y) + (k * k + 2 * k) * (X * X + Y * Y) + 2 * ((1 + k) * (X * u + Y * v)) + (u * u + v * v) := by grind
        have kk := Int.mul_nonneg (show 0 ≤ k * k + 2 * k by have := sq_nn k; omega) (show 0 ≤ X * X + Y * Y by omega)
        have hs : 0 ≤ (1 + k) * (X * u + Y * v) := Int.mul_nonneg (by omega) (by omega)
        unfold capP
        rintro (h | h | ⟨h1, h2, h3⟩)
        · rw [c4] at h; omega
        · rw [c3] at h; omega
        · rw [c2] at h2; omega
    · rw [if_neg g2]
      have o3 : ¬ (u * y - v * x) * (u * y - v * x) < R * R * (u * u + v * v) := fun h => hout (.inr (.inr ⟨by omega, by omega, h⟩))
      have hdd : 0 < u * u + v * v := by omega
      have hne : ¬ (u = 0 ∧ v = 0) := by rintro ⟨rfl, rfl⟩; simp at hdd
      have hRd : 0 < R * R * (u * u + v * v) := Int.mul_pos (by omega) hdd
      have hc0 : u * y - v * x ≠ 0 := by
        intro h
        rw [h] at o3
        simp only [Int.mul_zero] at o3
        omega
      by_cases g3 : 256 * (u * y - v * x) > 0
      · rw [if_pos g3]
        obtain ⟨g, hg, r1, r2⟩ := reduce_ok (x := -v) (y := u) (by unfold In at *; omega) (by omega)
        refine ⟨(reduceV (-v) u).1, (reduceV (-v) u).2, rfl, ?_⟩
        exact mid_away (t := 1) hg hdd (by omega) (by omega) o1 o2 o3 (by rw [← r1]; omega) (by rw [← r2]; omega) (.inl ⟨rfl, by omega⟩)
      · rw [if_neg g3, if_pos (by omega)]
        obtain ⟨g, hg, r1, r2⟩ := reduce_ok (x := -(0 - v)) (y := 0 - u) (by unfold In at *; omega) (by omega)
        refine ⟨(reduceV (-(0 - v)) (0 - u)).1, (reduceV (-(0 - v)) (0 - u)).2, rfl, ?_⟩
        exact mid_away (t := -1) hg hdd (by omega) (by omega) o1 o2 o3 (by rw [← r1]; omega) (by rw [← r2]; omega) (.inr ⟨rfl, by omega⟩)

theorem in_close {x y : Int} (h : In 10000 x y) : In 2560000 (256 * x) (256 * y) := by unfold In at *; omega

theorem flip11_eq {x y : Int} (h : In 1073741824 x y) : flip11 x y = (-x, y) := by
  unfold flip11; unfold In at h
  rw [w64 (by omega) (by omega)]
  simp

theorem halveGo_in (k : Nat) : ∀ (x y : Int), In 1073741824 x y → In 1073741824 (halveGo k x y).1 (halveGo k x y).2 := by
  induction k with
  | zero => intro x y h; exact h
  | succ k ih =>
    intro x y h
    unfold halveGo
    split
    · apply ih
      unfold In at h
      have a1 := tdiv_small (x := x) (d := 2) (by decide) (by omega)
      have a2 := tdiv_small (x := y) (d := 2) (by decide) (by omega)
      exact ⟨a1.1, a1.2, a2.1, a2.2⟩
    · exact h
theorem halveV_in {x y : Int} : In 1073741824 (halveV x y).1 (halveV x y).2 := by
  unfold halveV
  split
  · rename_i h
    have := smallB_yes h
    exact halveGo_in 10 x y (by unfold In; omega)
  · unfold In; decide
theorem reduceV_in {x y : Int} : In 1073741824 (reduceV x y).1 (reduceV x y).2 := by
  unfold reduceV
  split
  · rename_i h
    simp only [Bool.and_eq_true] at h
    have hs := smallB_yes h.1
    rcases Nat.eq_zero_or_pos (Nat.gcd x.natAbs y.natAbs) with hz | hz
    · rw [hz]; simp [In]
    · have a1 := tdiv_small (x := x) (d := ((Nat.gcd x.natAbs y.natAbs : Nat) : Int)) (by omega) (by omega)
      have a2 := tdiv_small (x := y) (d := ((Nat.gcd x.natAbs y.natAbs : Nat) : Int)) (by omega) (by omega)
      exact ⟨a1.1, a1.2, a2.1, a2.2⟩
  · unfold In; decide
theorem capC_in (q1 q2 a1 a2 b1 b2 : Int) : In 1073741824 (capC q1 q2 a1 a2 b1 b2).1 (capC q1 q2 a1 a2 b1 b2).2 := by
  unfold capC
  split
  · exact halveV_in
  · split
    · exact halveV_in
    · split
      · exact reduceV_in
      · split
        · exact reduceV_in
        · unfold In; decide

theorem capC_shift (p1 p2 a1 a2 b1 b2 : Int) : capC (256 * p1) (256 * p2) a1 a2 b1 b2 = capC ((p1 - a1) * 256) ((p2 - a2) * 256) 0 0 (b1 - a1) (b2 - a2) := by
  unfold capC
  have e1 : 256 * p1 - a1 * 256 = (p1 - a1) * 256 - 0 * 256 := by omega
  have e2 : 256 * p2 - a2 * 256 = (p2 - a2) * 256 - 0 * 256 := by omega
  have e3 : 256 * p1 - b1 * 256 = (p1 - a1) * 256 - (b1 - a1) * 256 := by omega
  have e4 : 256 * p2 - b2 * 256 = (p2 - a2) * 256 - (b2 - a2) * 256 := by omega
  have e5 : b1 - a1 = b1 - a1 - 0 := by omega
  have e6 : b2 - a2 = b2 - a2 - 0 := by omega
  have e7 : a1 - b1 = 0 - (b1 - a1) := by omega
  have e8 : a2 - b2 = 0 - (b2 - a2) := by omega
  rw [e1, e2, e3, e4, e7, e8]
  generalize b1 - a1 = u at *
  generalize b2 - a2 = v at *
  rw [← e5, ← e6]

theorem normals_true (a1 a2 b1 b2 p1 p2 R : Int) : normalsB a1 a2 b1 b2 p1 p2 R = true := by
  unfold normalsB
  cases c1 : close11 p1 p2
  · rfl
  cases c2 : close11 a1 a2
  · rfl
  cases c3 : close11 b1 b2
  · rfl
  cases c4 : decide (R < 1)
  rotate_left
  · rfl
  cases c5 : decide (R > 4096)
  rotate_left
  · rfl
  simp only [decide_eq_false_iff_not] at c4 c5
  have hp := close11_yes c1
  have ha := close11_yes c2
  have hb := close11_yes c3
  have hq := in_close hp
  have hR : 1 ≤ R ∧ R ≤ 524288 := by omega
  have hx : In 20000 (p1 - a1) (p2 - a2) := In.sub hp ha (by decide)
  have hu : In 20000 (b1 - a1) (b2 - a2) := In.sub hb ha (by decide)
  have hxu : In 20000 (p1 - a1 - (b1 - a1)) (p2 - a2 - (b2 - a2)) := by
    have g1 : p1 - a1 - (b1 - a1) = p1 - b1 := by omega
    have g2 : p2 - a2 - (b2 - a2) = p2 - b2 := by omega
    rw [g1, g2]
    exact In.sub hp hb (by decide)
  have w1 : IntKind.i64.wrap (256 * p1) = 256 * p1 := w64 (by unfold In at hp; omega) (by unfold In at hp; omega)
  have w2 : IntKind.i64.wrap (256 * p2) = 256 * p2 := w64 (by unfold In at hp; omega) (by unfold In at hp; omega)
  rw [w1, w2, flip11_eq (hq.mono (by decide)), flip11_eq (ha.mono (by decide)), flip11_eq (hb.mono (by decide))]
  dsimp only
  rw [capN_eq hq ha hb, capN_eq hq hb ha, capN_eq hq.flip ha.flip hb.flip, capN_eq hq ha ha, discN_eq hq ha, capC_swap, capC_flip hq ha hb, flip11_eq (capC_in ..)]
  have e1 : capC (256 * p1) (256 * p2) a1 a2 a1 a2 = halveV (256 * p1 - a1 * 256) (256 * p2 - a2 * 256) := by
    unfold capC
    rw [if_pos (by simp)]
  rw [e1]
  simp only [beq_self_eq_true, Bool.and_self]
  rw [inCap_eq (hp.mono (by decide)) (ha.mono (by decide)) (hb.mono (by decide)) hR]
  by_cases hin : capP (p1 - a1) (p2 - a2) (b1 - a1) (b2 - a2) R
  · rw [decide_eq_true hin]
  · rw [decide_eq_false hin]
    obtain ⟨n1, n2, en, hne, haw⟩ := capC_away hR.1 hx hu hxu hin
    have hin2 := capC_in (256 * p1) (256 * p2) a1 a2 b1 b2
    rw [capC_shift, en] at hin2 ⊢
    dsimp only at hin2 ⊢
    have b1' : (n1 == 0 && (n2 == 0 && true)) = false := by simp; omega
    rw [b1', dotI_eq hin2 hin2]
    have b2' : 0 < n1 * n1 + n2 * n2 := by
      by_cases h : 0 < n1 * n1 + n2 * n2
      · exact h
      · exact absurd (sq_zero (by omega)) hne
    rw [decide_eq_true b2']
    unfold In at hp hin2
    rw [w64 (n := p1 + n1) (by omega) (by omega), w64 (n := p2 + n2) (by omega) (by omega)]
    cases hn : near11 (p1 + n1) (p2 + n2)
    · rfl
    · have hn' := near11_yes hn
      dsimp only
      rw [inCap_eq (hn'.mono (by decide)) (ha.mono (by decide)) (hb.mono (by decide)) hR]
      have g1 : p1 + n1 - a1 = p1 - a1 + n1 := by omega
      have g2 : p2 + n2 - a2 = p2 - a2 + n2 := by omega
      rw [g1, g2, decide_eq_false haw]
      rfl

theorem normals_run (p1 p2 : Int) (l : AV) (hl : VecsAV .i64 l) (R : Int) : Runs Tryz.ir 5 [.agg [.int .i64 p1, .int .i64 p2], l, .int .i64 R] (.bool true) := by
  rcases vecs_two hl with rfl | ⟨n, cs, rfl, h⟩ | ⟨n, a1, a2, b1, b2, cs, rfl, h⟩
  · exact Tryz.run5_0 p1 p2 R
  · exact Tryz.run5_1 n cs p1 p2 R h
  · have := Tryz.run5_2 n cs a1 a2 b1 b2 p1 p2 R h
    rwa [normals_true] at this
end Go.Proofs.YthakfjlnhldehaaGreat
