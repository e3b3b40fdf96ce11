/- The plain law of WallSets: a capsule contains the discs of its ends and of the middle, grows with its reach, and is that of a disc if its ends are one. -/
import Derived.Test.YthakfjlnhldehaaGreatWallTools
import Derived.Test.YthakfjlnhldehaaGreatAbs17
namespace Go.Proofs.YthakfjlnhldehaaGreat
open Go.Ai

theorem capP_swap {x y u v R : Int} (h : capP x y u v R) : capP (x - u) (y - v) (-u) (-v) R := by
  unfold capP at *
  have e1 : (x - u - -u) * (x - u - -u) + (y - v - -v) * (y - v - -v) = x * x + y * y := by
    have a : x - u - -u = x := by omega
    have b : y - v - -v = y := by omega
    rw [a, b]
  have e2 : (x - u) * -u + (y - v) * -v = u * u + v * v - (x * u + y * v) := by grind
  have e3 : -u * -u + -v * -v = u * u + v * v := by rw [Int.neg_mul_neg, Int.neg_mul_neg]
  have e4 : (-u * (y - v) - -v * (x - u)) * (-u * (y - v) - -v * (x - u)) = (u * y - v * x) * (u * y - v * x) := by grind
  rw [e1, e2, e3, e4]
  rcases h with h | h | ⟨h1, h2, h3⟩
  · exact .inr (.inl h)
  · exact .inl h
  · exact .inr (.inr ⟨by omega, by omega, h3⟩)

theorem capP_mono {x y u v R : Int} (hR : 1 ≤ R) (h : capP x y u v (R - 1)) : capP x y u v R := by
  unfold capP at *
  have e : R * R = (R - 1) * (R - 1) + (2 * R - 1) := by grind
  rcases h with h | h | ⟨h1, h2, h3⟩
  · exact .inl (by omega)
  · exact .inr (.inl (by omega))
  · refine .inr (.inr ⟨h1, h2, ?_⟩)
    have e2 : R * R * (u * u + v * v) = (R - 1) * (R - 1) * (u * u + v * v) + (2 * R - 1) * (u * u + v * v) := by rw [e, Int.add_mul]
    have := Int.mul_nonneg (show 0 ≤ 2 * R - 1 by omega) (show 0 ≤ u * u + v * v by have := sq_nn u; have := sq_nn v; omega)
    omega

theorem capP_mid {x y e f R : Int} (h : (x - e) * (x - e) + (y - f) * (y - f) < R * R) : capP x y (2 * e) (2 * f) R := by
  unfold capP
  have i1 : (x - e) * (x - e) + (y - f) * (y - f) = x * x + y * y - 2 * (x * e + y * f) + (e * e + f * f) := by grind
  have i2 : (x - 2 * e) * (x - 2 * e) + (y - 2 * f) * (y - 2 * f) = x * x + y * y - 4 * (x * e + y * f) + 4 * (e * e + f * f) := by grind
  have i3 : x * (2 * e) + y * (2 * f) = 2 * (x * e + y * f) := by grind
  have i4 : 2 * e * (2 * e) + 2 * f * (2 * f) = 4 * (e * e + f * f) := by grind
  have i5 : (2 * e * y - 2 * f * x) * (2 * e * y - 2 * f * x) = 4 * ((e * y - f * x) * (e * y - f * x)) := by grind
  have i6 : ((x - e) * (x - e) + (y - f) * (y - f)) * (e * e + f * f) = (e * y - f * x) * (e * y - f * x) + (x * e + y * f - (e * e + f * f)) * (x * e + y * f - (e * e + f * f)) := by grind
  rw [i2, i3, i4, i5]
  have n1 := sq_nn e
  have n2 := sq_nn f
  by_cases g1 : 2 * (x * e + y * f) ≤ 0
  · left; omega
  · by_cases g2 : 2 * (x * e + y * f) ≥ 4 * (e * e + f * f)
    · right; left; omega
    · right; right
      refine ⟨by omega, by omega, ?_⟩
      have hs := sq_nn (x * e + y * f - (e * e + f * f))
      have hpos : 0 < e * e + f * f := by omega
      have hl := Int.mul_lt_mul_of_pos_right h hpos
      have e7 : R * R * (4 * (e * e + f * f)) = 4 * (R * R * (e * e + f * f)) := by grind
      rw [e7]
      omega

theorem half_even {n : Int} (h : (Int.tmod n 2 == 0) = true) : 2 * Int.tdiv n 2 = n := by
  have h1 : Int.tmod n 2 = 0 := by simpa using h
  have := Int.mul_tdiv_add_tmod n 2
  omega

theorem sets_true (a1 a2 b1 b2 p1 p2 R : Int) : setsB a1 a2 b1 b2 p1 p2 R = true := by
  unfold setsB
  cases c1 : near11 p1 p2
  · rfl
  cases c2 : near11 a1 a2
  · rfl
  cases c3 : near11 b1 b2
  · rfl
  cases c4 : decide (R < 2)
  rotate_left
  · rfl
  cases c5 : decide (R > 524288)
  rotate_left
  · rfl
  simp only [decide_eq_false_iff_not] at c4 c5
  have hp := near11_yes c1
  have ha := near11_yes c2
  have hb := near11_yes c3
  have hp2 : In 2097152 p1 p2 := hp.mono (by decide)
  have hR : 1 ≤ R ∧ R ≤ 524288 := by omega
  have f5 : inCap p1 p2 b1 b2 a1 a2 R = inCap p1 p2 a1 a2 b1 b2 R := by
    rw [inCap_eq hp2 ha hb hR, inCap_eq hp2 hb ha hR, decide_eq_decide]
    constructor
    · intro h
      have := capP_swap h
      have g1 : p1 - b1 - (a1 - b1) = p1 - a1 := by omega
      have g2 : p2 - b2 - (a2 - b2) = p2 - a2 := by omega
      have g3 : -(a1 - b1) = b1 - a1 := by omega
      have g4 : -(a2 - b2) = b2 - a2 := by omega
      rwa [g1, g2, g3, g4] at this
    · intro h
      have := capP_swap h
      have g1 : p1 - a1 - (b1 - a1) = p1 - b1 := by omega
      have g2 : p2 - a2 - (b2 - a2) = p2 - b2 := by omega
      have g3 : -(b1 - a1) = a1 - b1 := by omega
      have g4 : -(b2 - a2) = a2 - b2 := by omega
      rwa [g1, g2, g3, g4] at this
  have f6 : inCap p1 p2 a1 a2 a1 a2 R = inDisc p1 p2 a1 a2 R := by
    rw [inCap_eq hp2 ha ha hR, inDisc_eq hp2 ha hR, decide_eq_decide]
    unfold capP
    have g1 : a1 - a1 = 0 := by omega
    have g2 : a2 - a2 = 0 := by omega
    rw [g1, g2]
    simp
  have f1 : inDisc p1 p2 a1 a2 R = true → inCap p1 p2 a1 a2 b1 b2 R = true := by
    rw [inDisc_eq hp2 ha hR, inCap_eq hp2 ha hb hR, decide_eq_true_iff, decide_eq_true_iff]
    exact fun h => .inl h
  have f2 : inDisc p1 p2 b1 b2 R = true → inCap p1 p2 a1 a2 b1 b2 R = true := by
    rw [inDisc_eq hp2 hb hR, inCap_eq hp2 ha hb hR, decide_eq_true_iff, decide_eq_true_iff]
    intro h
    refine .inr (.inl ?_)
    have g1 : p1 - a1 - (b1 - a1) = p1 - b1 := by omega
    have g2 : p2 - a2 - (b2 - a2) = p2 - b2 := by omega
    rwa [g1, g2]
  have f4 : inCap p1 p2 a1 a2 b1 b2 (IntKind.i64.wrap (R - 1)) = true → inCap p1 p2 a1 a2 b1 b2 R = true := by
    rw [w64 (n := R - 1) (by omega) (by omega), inCap_eq hp2 ha hb hR, inCap_eq hp2 ha hb (by omega), decide_eq_true_iff, decide_eq_true_iff]
    exact capP_mono (by omega)
  have f3 : (Int.tmod (IntKind.i64.wrap (a1 + b1)) 2 == 0) = true → (Int.tmod (IntKind.i64.wrap (a2 + b2)) 2 == 0) = true → inDisc p1 p2 (IntKind.i64.wrap (Int.tdiv (IntKind.i64.wrap (a1 + b1)) 2)) (IntKind.i64.wrap (Int.tdiv (IntKind.i64.wrap (a2 + b2)) 2)) R = true → inCap p1 p2 a1 a2 b1 b2 R = true := by
    intro k1 k2
    unfold In at ha hb
    rw [w64 (n := a1 + b1) (by omega) (by omega)] at k1 ⊢
    rw [w64 (n := a2 + b2) (by omega) (by omega)] at k2 ⊢
    have m1 := half_even k1
    have m2 := half_even k2
    generalize Int.tdiv (a1 + b1) 2 = m at *
    generalize Int.tdiv (a2 + b2) 2 = q at *
    rw [w64 (n := m) (by omega) (by omega), w64 (n := q) (by omega) (by omega), inDisc_eq hp2 (by unfold In; omega) hR, inCap_eq hp2 ha hb hR, decide_eq_true_iff, decide_eq_true_iff]
    intro h
    have g1 : b1 - a1 = 2 * (m - a1) := by omega
    have g2 : b2 - a2 = 2 * (q - a2) := by omega
    rw [g1, g2]
    apply capP_mid
    have g3 : p1 - a1 - (m - a1) = p1 - m := by omega
    have g4 : p2 - a2 - (q - a2) = p2 - q := by omega
    rwa [g3, g4]
  rw [f5, f6]
  clear f5 f6
  generalize inDisc p1 p2 (IntKind.i64.wrap (Int.tdiv (IntKind.i64.wrap (a1 + b1)) 2)) (IntKind.i64.wrap (Int.tdiv (IntKind.i64.wrap (a2 + b2)) 2)) R = m at f3 ⊢
  generalize (Int.tmod (IntKind.i64.wrap (a1 + b1)) 2 == 0) = e1 at f3 ⊢
  generalize (Int.tmod (IntKind.i64.wrap (a2 + b2)) 2 == 0) = e2 at f3 ⊢
  generalize inCap p1 p2 a1 a2 b1 b2 (IntKind.i64.wrap (R - 1)) = w at f4 ⊢
  generalize inDisc p1 p2 a1 a2 R = x at f1 ⊢
  generalize inDisc p1 p2 b1 b2 R = y at f2 ⊢
  generalize inCap p1 p2 a1 a2 b1 b2 R = z at f1 f2 f3 f4 ⊢
  clear c1 c2 c3 c4 c5 hp ha hb hp2 hR
  cases e1 <;> cases e2 <;> cases x <;> cases y <;> cases z <;> cases m <;> cases w <;> simp_all

/-- A slice of points. -/
theorem vecs_two {x : AV} {k : IntKind} (h : VecsAV k x) : x = .nil ∨ (∃ n cs, x = .sl n cs ∧ decide (((n : Nat) : Int) < 2) = true) ∨ ∃ n a1 a2 b1 b2 cs, x = .sl n (.int k a1 :: .int k a2 :: .int k b1 :: .int k b2 :: cs) ∧ decide (((n : Nat) : Int) < 2) = false := by
  rcases h with h | ⟨xs, h⟩
  · exact .inl h
  · right
    match xs, h with
    | [], h => exact .inl ⟨_, _, h, by simp⟩
    | [_], h => exact .inl ⟨_, _, h, by simp⟩
    | p :: q :: l, h => exact .inr ⟨_, p.1, p.2, q.1, q.2, l.flatMap fun p => [.int k p.1, .int k p.2], h, by simp; omega⟩

theorem sets_run (p1 p2 : Int) (l : AV) (hl : VecsAV .i64 l) (R : Int) : Runs Tryz.ir 6 [.agg [.int .i64 p1, .int .i64 p2], l, .int .i64 R] (.bool true) := by
  rcases vecs_two hl with rfl | ⟨n, cs, rfl, h⟩ | ⟨n, a1, a2, b1, b2, cs, rfl, h⟩
  · exact Tryz.run6_0 p1 p2 R
  · exact Tryz.run6_1 n cs p1 p2 R h
  · have := Tryz.run6_2 n cs a1 a2 b1 b2 p1 p2 R h
    rwa [sets_true] at this
end Go.Proofs.YthakfjlnhldehaaGreat
