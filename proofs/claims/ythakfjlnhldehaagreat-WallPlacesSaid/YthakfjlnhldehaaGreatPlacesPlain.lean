/- The plain law of WallPlaces: the places and the normals are those of the reference. -/
import Derived.Test.YthakfjlnhldehaaGreatWallP
namespace Go.Proofs.YthakfjlnhldehaaGreat
open Go.Ai

theorem nearR_box {m : Int} (h0 : 0 ≤ m) (h1 : m ≤ 4611686018427387904) (x y : Int) : nearR x y m = boxB m x y := by
  unfold nearR boxB
  rw [Int.zero_sub, w64 (n := -m) (by omega) (by omega)]
  by_cases g1 : -m ≤ x <;> by_cases g2 : x ≤ m <;> by_cases g3 : -m ≤ y <;> by_cases g4 : y ≤ m <;> simp [g1, g2, g3, g4]
theorem scaleR_eq (a b : Int) : scaleR a b 256 = scaleV a b 256 := by
  unfold scaleR scaleV
  cases h : smallB a b
  · rfl
  have g := smallB_yes h
  rw [w64 (n := a * 256) (by omega) (by omega), w64 (n := b * 256) (by omega) (by omega)]
  have k1 : (a == 0) = decide (a = 0) := rfl
  have k2 : (b == 0) = decide (b = 0) := rfl
  rw [k1, k2]
  by_cases h1 : a = 0 <;> by_cases h2 : b = 0 <;> simp [h1, h2]
theorem inDiscR_eq (p1 p2 z1 z2 R : Int) : inDiscR p1 p2 z1 z2 R = inDisc p1 p2 z1 z2 R := by
  unfold inDiscR inDisc
  rw [nearR_box (by decide) (by decide), nearR_box (by decide) (by decide)]
  rfl
theorem discNR_eq (q1 q2 z1 z2 : Int) : discNR q1 q2 z1 z2 = discN q1 q2 z1 z2 := by
  unfold discNR discN
  rw [nearR_box (by decide) (by decide), scaleR_eq]
  rfl
theorem scaleR_neg {a b : Int} (h : In 4194304 a b) : scaleR a b (-1) = (-a, -b) := by
  unfold scaleR keptV
  rw [smallOf (by decide) h]
  unfold In at h
  rw [w64 (n := a * -1) (by omega) (by omega), w64 (n := b * -1) (by omega) (by omega), smallB_mk (by omega)]
  have k1 : (a == 0) = decide (a = 0) := rfl
  have k2 : (b == 0) = decide (b = 0) := rfl
  rw [k1, k2]
  by_cases h1 : a = 0 <;> by_cases h2 : b = 0 <;> simp [h1, h2]
theorem capNR_eq (q1 q2 a1 a2 b1 b2 : Int) : capNR q1 q2 a1 a2 b1 b2 = capN q1 q2 a1 a2 b1 b2 := by
  unfold capNR capN
  rw [nearR_box (by decide) (by decide), nearR_box (by decide) (by decide), scaleR_eq, discNR_eq, discNR_eq]
  cases c1 : boxB 1048576 a1 a2
  · rfl
  cases c2 : boxB 1048576 b1 b2
  · rfl
  have ha : In 1048576 a1 a2 := boxB_yes c1
  have hb : In 1048576 b1 b2 := boxB_yes c2
  have hd : In 2097152 (b1 - a1) (b2 - a2) := In.sub hb ha (by decide)
  have hd' : In 2097152 (a1 - b1) (a2 - b2) := In.sub ha hb (by decide)
  have e : scaleR (perpV (subV b1 b2 a1 a2).1 (subV b1 b2 a1 a2).2).1 (perpV (subV b1 b2 a1 a2).1 (subV b1 b2 a1 a2).2).2 (-1) = perpV (subV a1 a2 b1 b2).1 (subV a1 a2 b1 b2).2 := by
    rw [subV_eq (hb.mono (by decide)) (ha.mono (by decide)), subV_eq (ha.mono (by decide)) (hb.mono (by decide)), perpV_eq (hd.mono (by decide)), perpV_eq (hd'.mono (by decide)), scaleR_neg (by unfold In at *; dsimp only; omega)]
    dsimp only
    rw [show - -(b2 - a2) = -(a2 - b2) by omega, show -(b1 - a1) = a1 - b1 by omega]
  rw [e]
  rfl
theorem cmp_lt (a b : Int) : decide (cmpI a b < 0) = decide (a < b) := by
  unfold cmpI
  by_cases h : a < b
  · simp [h]
  · by_cases h2 : b < a <;> simp [h, h2]
theorem inCapR_eq (p1 p2 a1 a2 b1 b2 R : Int) : inCapR p1 p2 a1 a2 b1 b2 R = inCap p1 p2 a1 a2 b1 b2 R := by
  cases c1 : boxB 2097152 p1 p2
  · unfold inCapR inCap
    rw [nearR_box (by decide) (by decide), c1]
  cases c2 : boxB 1048576 a1 a2
  · unfold inCapR inCap
    rw [nearR_box (by decide) (by decide), nearR_box (by decide) (by decide), c1, c2]; rfl
  cases c3 : boxB 1048576 b1 b2
  · unfold inCapR inCap
    rw [nearR_box (by decide) (by decide), nearR_box (by decide) (by decide), nearR_box (by decide) (by decide), c1, c2, c3]; rfl
  cases c4 : decide (R < 1)
  rotate_left
  · unfold inCapR inCap
    rw [nearR_box (by decide) (by decide), nearR_box (by decide) (by decide), nearR_box (by decide) (by decide), c1, c2, c3, c4]; rfl
  cases c5 : decide (R > 524288)
  rotate_left
  · unfold inCapR inCap
    rw [nearR_box (by decide) (by decide), nearR_box (by decide) (by decide), nearR_box (by decide) (by decide), c1, c2, c3, c4, c5]; rfl
  have hp : In 2097152 p1 p2 := boxB_yes c1
  have ha : In 1048576 a1 a2 := boxB_yes c2
  have hb : In 1048576 b1 b2 := boxB_yes c3
  have hR : 1 ≤ R ∧ R ≤ 524288 := by simp at c4 c5; omega
  rw [inCap_eq hp ha hb hR]
  unfold inCapR
  have hx : In 3145728 (p1 - a1) (p2 - a2) := In.sub hp ha (by decide)
  have hd : In 2097152 (b1 - a1) (b2 - a2) := In.sub hb ha (by decide)
  rw [nearR_box (by decide) (by decide), nearR_box (by decide) (by decide), nearR_box (by decide) (by decide), c1, c2, c3, c4, c5, inDiscR_eq, inDiscR_eq, inDisc_eq hp ha hR, inDisc_eq hp hb hR,
    subV_eq (hp.mono (by decide)) (ha.mono (by decide)), subV_eq (hb.mono (by decide)) (ha.mono (by decide))]
  have e1 : p1 - b1 = (p1 - a1) - (b1 - a1) := by omega
  have e2 : p2 - b2 = (p2 - a2) - (b2 - a2) := by omega
  rw [e1, e2]
  generalize p1 - a1 = x at *
  generalize p2 - a2 = y at *
  generalize b1 - a1 = u at *
  generalize b2 - a2 = v at *
  dsimp only
  rw [dotI_eq (hx.mono (by decide)) (hd.mono (by decide)), dotI_eq (hd.mono (by decide)) (hd.mono (by decide)), crossI_eq (hd.mono (by decide)) (hx.mono (by decide)), cmp_lt]
  unfold capP
  by_cases g1 : x * x + y * y < R * R
  · simp [g1]
  · by_cases g2 : (x - u) * (x - u) + (y - v) * (y - v) < R * R
    · simp [g1, g2]
    · by_cases g3 : 0 < x * u + y * v
      · by_cases g4 : x * u + y * v < u * u + v * v
        · simp [g1, g2, g3, g4]
        · simp [g1, g2, g3, g4]
      · simp [g1, g2, g3]
theorem places_true (a1 a2 b1 b2 p1 p2 R : Int) : placesB a1 a2 b1 b2 p1 p2 R = true := by
  unfold placesB
  rw [inDiscR_eq, inCapR_eq, discNR_eq, capNR_eq]
  simp

theorem places_run (p1 p2 : Int) (l : AV) (hl : VecsAV .i64 l) (R : Int) : Runs Tryz.ir 3 [.agg [.int .i64 p1, .int .i64 p2], l, .int .i64 R] (.bool true) := by
  rcases vecs_two hl with ⟨n, cs, rfl, h⟩ | ⟨n, a1, a2, b1, b2, cs, rfl, h⟩
  · exact Tryz.run3_1 n cs p1 p2 R h
  · have := Tryz.run3_2 n cs a1 a2 b1 b2 p1 p2 R h
    rwa [places_true] at this
end Go.Proofs.YthakfjlnhldehaaGreat
