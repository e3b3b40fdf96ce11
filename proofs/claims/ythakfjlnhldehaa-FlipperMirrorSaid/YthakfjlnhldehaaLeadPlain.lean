/- The plain law of FlipperLead: the surface velocity carries a point as far as the blade moves it, but for six units. -/
import Derived.Test.YthakfjlnhldehaaLead
namespace Go.Proofs.Ythakfjlnhldehaa
open Go.Ai

theorem tdiv_rem (x y : Int) (hy : 0 < y) : ∃ r, x = y * Int.tdiv x y + r ∧ -y < r ∧ r < y := by
  refine ⟨Int.tmod x y, ?_, ?_, ?_⟩
  · have := Int.mul_tdiv_add_tmod x y; omega
  · rcases Int.le_total 0 x with h | h
    · rw [Int.tmod_eq_emod_of_nonneg h]
      have := Int.emod_nonneg x (show y ≠ 0 by omega); omega
    · have e := Int.neg_tmod (-x) y
      rw [Int.neg_neg, Int.tmod_eq_emod_of_nonneg (show 0 ≤ -x by omega)] at e
      have := Int.emod_lt_of_pos (-x) hy; omega
  · rcases Int.le_total 0 x with h | h
    · rw [Int.tmod_eq_emod_of_nonneg h]
      exact Int.emod_lt_of_pos x hy
    · have e := Int.neg_tmod (-x) y
      rw [Int.neg_neg, Int.tmod_eq_emod_of_nonneg (show 0 ≤ -x by omega)] at e
      have := Int.emod_nonneg (-x) (show y ≠ 0 by omega); omega

theorem tdiv_bd {x y B : Int} (hy : 0 < y) (hB : 0 ≤ B) (h1 : -(B * y) ≤ x) (h2 : x ≤ B * y) : -B ≤ Int.tdiv x y ∧ Int.tdiv x y ≤ B := by
  rw [tdiv_abs]
  have ha : absI x ≤ B * y := by unfold absI; split <;> omega
  have h3 : absI x / y ≤ B := Int.ediv_le_of_le_mul hy ha
  have h4 : 0 ≤ absI x / y := Int.ediv_nonneg (absI_nonneg x) (by omega)
  split <;> omega

theorem le_cancel {n x y : Int} (hn : 0 < n) (h : n * x ≤ n * y) : x ≤ y := Int.le_of_mul_le_mul_left h hn

theorem lead_sign {m n D X T b g : Int} (hm : 65536 ≤ m) (hn : 65536 ≤ n) (hD0 : 0 ≤ D) (hD : 2 * D ≤ 3 * n) (hC : 512 * X ≤ 576 * m) (hX : 7 * m ≤ 8 * X) (hB1 : 576 * T - (216 + D) ≤ b) (hB2 : b ≤ 576 * T + (216 + D))
    (hG1 : 512 * (T * X) - D * m ≤ m * g) (hG2 : m * g ≤ 512 * (T * X) + D * m) (hT : 0 ≤ T) : (b ≥ g - 6 * n ∧ g ≥ 0) ∨ (-b ≥ -g - 6 * n ∧ g ≤ 0) := by
  have hTC : 0 ≤ T * (576 * m - 512 * X) := Int.mul_nonneg hT (by omega)
  have e1 : T * (576 * m - 512 * X) = 576 * (T * m) - 512 * (T * X) := by grind
  have mb1 : m * (576 * T - (216 + D)) ≤ m * b := Int.mul_le_mul_of_nonneg_left hB1 (by omega)
  have mb2 : m * b ≤ m * (576 * T + (216 + D)) := Int.mul_le_mul_of_nonneg_left hB2 (by omega)
  have e2 : m * (576 * T - (216 + D)) = 576 * (T * m) - 216 * m - D * m := by grind
  have e3 : m * (576 * T + (216 + D)) = 576 * (T * m) + 216 * m + D * m := by grind
  have low : -(216 + 2 * D) ≤ b - g := by
    apply le_cancel (show 0 < m by omega)
    have e4 : m * -(216 + 2 * D) = -(216 * m) - 2 * (D * m) := by grind
    have e5 : m * (b - g) = m * b - m * g := by grind
    rw [e4, e5]; omega
  by_cases hg : g ≥ 0
  · left; omega
  · right
    have hTX : 512 * (T * X) ≤ D * m := by
      have : m * g ≤ 0 := by
        have := Int.mul_le_mul_of_nonneg_left (show g ≤ 0 by omega) (show 0 ≤ m by omega)
        omega
      omega
    have hTm : 7 * (T * m) ≤ 8 * (T * X) := by
      have := Int.mul_le_mul_of_nonneg_left hX hT
      have e6 : T * (7 * m) = 7 * (T * m) := by grind
      have e7 : T * (8 * X) = 8 * (T * X) := by grind
      omega
    have hT448 : 448 * T ≤ D := by
      apply le_cancel (show 0 < m by omega)
      have e8 : m * (448 * T) = 448 * (T * m) := by grind
      have e9 : m * D = D * m := by grind
      omega
    have high : b - g ≤ 216 + 3 * D := by
      apply le_cancel (show 0 < m by omega)
      have e4 : m * (216 + 3 * D) = 216 * m + 3 * (D * m) := by grind
      have e5 : m * (b - g) = m * b - m * g := by grind
      have e10 : 128 * (T * m) ≤ D * m := by
        have := Int.mul_le_mul_of_nonneg_left (show 128 * T ≤ D by omega) (show 0 ≤ m by omega)
        have e8 : m * (128 * T) = 128 * (T * m) := by grind
        have e9 : m * D = D * m := by grind
        omega
      rw [e4, e5]; omega
    omega

theorem alg0 {s k dX dY n : Int} (hs : s * s = 1) (edX : dX = s * (65536 - k * k)) (edY : dY = 512 * k) (en : n = 65536 + k * k) : dX * dX + dY * dY = n * n := by
  subst edX edY en
  have : s * (65536 - k * k) * (s * (65536 - k * k)) = (s * s) * ((65536 - k * k) * (65536 - k * k)) := by grind
  rw [this, hs]; grind
theorem alg1 {L dX dY n fX fY rX rY : Int} (h1 : 256 * L * dX = n * fX + rX) (h2 : 256 * L * dY = n * fY + rY) (h3 : dX * dX + dY * dY = n * n) :
    n * (dX * fX + dY * fY - 256 * L * n) = -(dX * rX + dY * rY) := by
  obtain rfl : rX = 256 * L * dX - n * fX := by omega
  obtain rfl : rY = 256 * L * dY - n * fY := by omega
  have : n * (256 * L * n) = 256 * L * (dX * dX + dY * dY) := by rw [h3]; grind
  rw [Int.mul_sub, this]; grind
theorem alg2 {fX fY sc un wX wY sX sY dX dY P T : Int} (h1 : -fY * sc = un * wX + sX) (h2 : fX * sc = un * wY + sY) (h3 : sc * P = un * (576 * T)) :
    un * (dX * wY - dY * wX - 576 * T) = sc * (dX * fX + dY * fY - P) - (dX * sY - dY * sX) := by
  obtain rfl : sX = -fY * sc - un * wX := by omega
  obtain rfl : sY = fX * sc - un * wY := by omega
  rw [Int.mul_sub, ← h3]; grind
theorem alg2s {s k k' L n sc un T : Int} (esc : sc = s * (4608 * (k' - k))) (eun : un = 2048 * n) (hT : T = s * ((k' - k) * L)) : sc * (256 * L * n) = un * (576 * T) := by
  subst esc eun hT; grind
theorem alg3 {L eX eY m gX gY uX uY dX dY Q : Int} (h1 : L * eX = m * gX + uX) (h2 : L * eY = m * gY + uY) (h3 : dX * (L * eY) - dY * (L * eX) = Q) :
    m * (dX * gY - dY * gX) = Q - (dX * uY - dY * uX) := by
  obtain rfl : uX = L * eX - m * gX := by omega
  obtain rfl : uY = L * eY - m * gY := by omega
  subst h3; grind
theorem alg3s {s k k' L dX dY eX eY T X : Int} (edX : dX = s * (65536 - k * k)) (edY : dY = 512 * k) (eeX : eX = s * (65536 - k' * k')) (eeY : eY = 512 * k') (hT : T = s * ((k' - k) * L)) (hX : X = 65536 + k * k') :
    dX * (L * eY) - dY * (L * eX) = 512 * (T * X) := by
  subst edX edY eeX eeY hT hX; grind
theorem alg4 {k k' m X : Int} (hX : X = 65536 + k * k') (em : m = 65536 + k' * k') : X = m - k' * (k' - k) := by
  subst hX em; grind
theorem alg5 {m Q E G : Int} (h : m * G = Q - E) : m * -G = -Q + E := by rw [Int.mul_neg, h]; omega

theorem alg6 (n A B : Int) : n * (A + B) = A * n + B * n := by grind
theorem alg7 (n A B : Int) : n * -(A + B) = -(A * n) - B * n := by grind
theorem alg8 (n A B : Int) : n * (216 + (A + B)) = 216 * n + A * n + B * n := by grind
theorem alg9 (n A B : Int) : n * -(216 + (A + B)) = -(216 * n) - A * n - B * n := by grind
theorem alg10 (K : Int) : (K - 102) * (K - 102) = K * K - 204 * K + 10404 := by grind
theorem alg11 (J : Int) : (256 - J) * (256 - J) = 65536 - 512 * J + J * J := by grind

theorem alg12 (J : Int) : (256 + J) * (256 + J) = 65536 + 512 * J + J * J := by grind
theorem sq_nn (y : Int) : 0 ≤ y * y := by
  rcases Int.le_total 0 y with g | g
  · exact Int.mul_nonneg g g
  · have := Int.mul_nonneg (show 0 ≤ -y by omega) (show 0 ≤ -y by omega)
    rwa [Int.neg_mul_neg] at this

theorem lead_core {k k' L dX dY n eX eY m fX fY sc un wX wY gX gY s : Int} (hk : -256 ≤ k ∧ k ≤ 256) (hk' : -256 ≤ k' ∧ k' ≤ 256) (hd : -64 ≤ k' - k ∧ k' - k ≤ 64) (hs : s = 1 ∨ s = -1)
    (edX : dX = s * (65536 - k * k)) (edY : dY = 512 * k) (en : n = 65536 + k * k) (eeX : eX = s * (65536 - k' * k')) (eeY : eY = 512 * k') (em : m = 65536 + k' * k')
    (esc : sc = s * (4608 * (k' - k))) (eun : un = 2048 * n)
    (efX : ∃ r, 256 * L * dX = n * fX + r ∧ -n < r ∧ r < n) (efY : ∃ r, 256 * L * dY = n * fY + r ∧ -n < r ∧ r < n)
    (ewX : ∃ r, -fY * sc = un * wX + r ∧ -un < r ∧ r < un) (ewY : ∃ r, fX * sc = un * wY + r ∧ -un < r ∧ r < un)
    (egX : ∃ r, L * eX = m * gX + r ∧ -m < r ∧ r < m) (egY : ∃ r, L * eY = m * gY + r ∧ -m < r ∧ r < m) :
    (dX * wY - dY * wX ≥ dX * gY - dY * gX - 6 * n ∧ dX * gY - dY * gX ≥ 0) ∨ (-(dX * wY - dY * wX) ≥ -(dX * gY - dY * gX) - 6 * n ∧ dX * gY - dY * gX ≤ 0) := by
  obtain ⟨rX, frX, frX1, frX2⟩ := efX
  obtain ⟨rY, frY, frY1, frY2⟩ := efY
  obtain ⟨sX, wsX, wsX1, wsX2⟩ := ewX
  obtain ⟨sY, wsY, wsY1, wsY2⟩ := ewY
  obtain ⟨uX, gsX, gsX1, gsX2⟩ := egX
  obtain ⟨uY, gsY, gsY1, gsY2⟩ := egY
  have q1 := sq256 hk
  have q2 := sq256 hk'
  -- the size of d
  obtain ⟨K, hK0, hK1, hK2, hKK⟩ : ∃ K : Int, 0 ≤ K ∧ K ≤ 256 ∧ (-(512 * K) ≤ dY ∧ dY ≤ 512 * K) ∧ K * K = k * k := by
    rcases Int.le_total 0 k with h | h
    · exact ⟨k, h, by omega, by omega, rfl⟩
    · exact ⟨-k, by omega, by omega, by omega, by rw [Int.neg_mul_neg]⟩
  have hdX : -(65536 - k * k) ≤ dX ∧ dX ≤ 65536 - k * k := by
    rcases hs with rfl | rfl <;> omega
  have hK3 : 0 ≤ (K - 102) * (K - 102) := by
    rcases Int.le_total 0 (K - 102) with h | h
    · exact Int.mul_nonneg h h
    · have := Int.mul_nonneg (show 0 ≤ -(K - 102) by omega) (show 0 ≤ -(K - 102) by omega)
      rw [Int.neg_mul_neg] at this; exact this
  have hK4 : (K - 102) * (K - 102) = K * K - 204 * K + 10404 := alg10 K
  obtain ⟨A, hA⟩ : ∃ A, A = 65536 - k * k := ⟨_, rfl⟩
  obtain ⟨B, hB⟩ : ∃ B, B = 512 * K := ⟨_, rfl⟩
  have hD : 2 * (A + B) ≤ 3 * n := by omega
  rw [← hA] at hdX
  rw [← hB] at hK2
  have hA0 : 0 ≤ A := by omega
  have hB0 : 0 ≤ B := by omega
  have hn : 65536 ≤ n := by omega
  have hm : 65536 ≤ m := by omega
  have hun : 0 < un := by omega
  -- (i)
  have b1 := mul_bd (x := dX) (y := rX) (p := A) (q := n) (by omega) (by omega) (by omega) (by omega)
  have b2 := mul_bd (x := dY) (y := rY) (p := B) (q := n) (by omega) (by omega) (by omega) (by omega)
  have hsq : dX * dX + dY * dY = n * n := by
    have : s * s = 1 := by rcases hs with rfl | rfl <;> rfl
    exact alg0 this edX edY en
  have i1 : n * (dX * fX + dY * fY - 256 * L * n) = -(dX * rX + dY * rY) := alg1 frX frY hsq
  have z1 : dX * fX + dY * fY - 256 * L * n ≤ A + B := by
    apply le_cancel (show 0 < n by omega)
    have e : n * (A + B) = A * n + B * n := alg6 n A B
    rw [i1, e]; omega
  have z2 : -(A + B) ≤ dX * fX + dY * fY - 256 * L * n := by
    apply le_cancel (show 0 < n by omega)
    have e : n * -(A + B) = -(A * n) - B * n := alg7 n A B
    rw [i1, e]; omega
  -- (ii)
  have b3 := mul_bd (x := dX) (y := sY) (p := A) (q := un) (by omega) (by omega) (by omega) (by omega)
  have b4 := mul_bd (x := dY) (y := sX) (p := B) (q := un) (by omega) (by omega) (by omega) (by omega)
  have hsc : -294912 ≤ sc ∧ sc ≤ 294912 := by rcases hs with rfl | rfl <;> omega
  have b5 := mul_bd (x := sc) (y := dX * fX + dY * fY - 256 * L * n) (p := 294912) (q := A + B) (by omega) (by omega) (by omega) (by omega)
  obtain ⟨T, hT⟩ : ∃ T, T = s * ((k' - k) * L) := ⟨_, rfl⟩
  have i2 : un * (dX * wY - dY * wX - 576 * T) = sc * (dX * fX + dY * fY - 256 * L * n) - (dX * sY - dY * sX) := alg2 wsX wsY (alg2s esc eun hT)
  have w1 : dX * wY - dY * wX - 576 * T ≤ 216 + (A + B) := by
    apply le_cancel hun
    have e : un * (216 + (A + B)) = 216 * un + A * un + B * un := alg8 un A B
    rw [i2, e]; omega
  have w2 : -(216 + (A + B)) ≤ dX * wY - dY * wX - 576 * T := by
    apply le_cancel hun
    have e : un * -(216 + (A + B)) = -(216 * un) - A * un - B * un := alg9 un A B
    rw [i2, e]; omega
  -- (iii)
  have b6 := mul_bd (x := dX) (y := uY) (p := A) (q := m) (by omega) (by omega) (by omega) (by omega)
  have b7 := mul_bd (x := dY) (y := uX) (p := B) (q := m) (by omega) (by omega) (by omega) (by omega)
  obtain ⟨X, hX⟩ : ∃ X, X = 65536 + k * k' := ⟨_, rfl⟩
  have i3 : m * (dX * gY - dY * gX) = 512 * (T * X) - (dX * uY - dY * uX) := alg3 gsX gsY (alg3s edX edY eeX eeY hT hX)
  have eDm : (A + B) * m = A * m + B * m := Int.add_mul A B m
  -- X against m
  have hX1 : X = m - k' * (k' - k) := alg4 hX em
  have hkd : -(8 * (k' * (k' - k))) ≤ m ∧ 8 * (k' * (k' - k)) ≤ m := by
    obtain ⟨J, hJ0, hJ1, hJ2, hJJ⟩ : ∃ J : Int, 0 ≤ J ∧ J ≤ 256 ∧ (-J ≤ k' ∧ k' ≤ J) ∧ J * J = k' * k' := by
      rcases Int.le_total 0 k' with h | h
      · exact ⟨k', h, by omega, by omega, rfl⟩
      · exact ⟨-k', by omega, by omega, by omega, by rw [Int.neg_mul_neg]⟩
    have b8 := mul_bd (x := k') (y := k' - k) (p := J) (q := 64) (by omega) (by omega) (by omega) (by omega)
    have hJ3 : 0 ≤ (256 - J) * (256 - J) := Int.mul_nonneg (by omega) (by omega)
    have hJ4 : (256 - J) * (256 - J) = 65536 - 512 * J + J * J := alg11 J
    omega
  rcases Int.le_total 0 T with hT0 | hT0
  · exact lead_sign (b := dX * wY - dY * wX) (g := dX * gY - dY * gX) (T := T) (D := A + B) (X := X) hm hn (by omega) hD (by omega) (by omega) (by omega) (by omega) (by rw [i3, eDm]; omega) (by rw [i3, eDm]; omega) hT0
  · have i4 : m * -(dX * gY - dY * gX) = 512 * (-T * X) + (dX * uY - dY * uX) := by
      have := alg5 i3
      rw [Int.neg_mul]; omega
    have := lead_sign (b := -(dX * wY - dY * wX)) (g := -(dX * gY - dY * gX)) (T := -T) (D := A + B) (X := X) hm hn (by omega) hD (by omega) (by omega) (by omega) (by omega) (by rw [i4, eDm]; omega) (by rw [i4, eDm]; omega) (by omega)
    omega

theorem surface_eq {px py ln lo hi up dn mx kf kt fx fy : Int} (mi : Bool) (hp : permB px py ln lo hi up dn mx = true) (hf : -256 ≤ kf ∧ kf ≤ 256) (ht : -256 ≤ kt ∧ kt ≤ 256)
    (h1 : -1073741824 ≤ fx ∧ fx ≤ 1073741824) (h2 : -1073741824 ≤ fy ∧ fy ≤ 1073741824) :
    surface fx fy px py ln mi lo hi up dn mx kf kt = (Int.tdiv (-fy * (if mi then -(4608 * (kt - kf)) else 4608 * (kt - kf))) (2048 * (65536 + kf * kf)), Int.tdiv (fx * (if mi then -(4608 * (kt - kf)) else 4608 * (kt - kf))) (2048 * (65536 + kf * kf))) := by
  have hr1 : inR (-256) 256 kf = true := by simpa [inR] using hf
  have hr2 : inR (-256) 256 kt = true := by simpa [inR] using ht
  have hpv : perpV fx fy = (-fy, fx) := by
    unfold perpV; rw [smallB_mk (by omega)]; rfl
  unfold surface
  rw [hp, hr1, hr2, hpv]
  simp only [under_eq hf]
  rw [scale_neg ⟨hf, ht⟩, scale_eq ⟨hf, ht⟩]
  cases mi <;> rfl

theorem crossI_eq' {a b c d : Int} (h1 : (-1073741824 ≤ a ∧ a ≤ 1073741824) ∧ -1073741824 ≤ b ∧ b ≤ 1073741824) (h2 : (-1073741824 ≤ c ∧ c ≤ 1073741824) ∧ -1073741824 ≤ d ∧ d ≤ 1073741824) : crossI a b c d = a * d - b * c := by
  unfold crossI; rw [smallB_mk (by omega), smallB_mk (by omega)]; rfl

theorem lead_true (px py ln : Int) (mi : Bool) (lo hi up dn mx kf kt along : Int) (wt : -9223372036854775808 ≤ kt ∧ kt ≤ 9223372036854775807) : leadB px py ln mi lo hi up dn mx kf kt along = true := by
  unfold leadB
  cases c1 : flips px py ln lo hi up dn mx
  · rfl
  cases c2 : angleB kf
  · rfl
  cases c3 : angleB kt
  · rfl
  have hp := (flips_eq ..).symm.trans c1
  have hf := angleB_yes c2
  have ht := angleB_yes c3
  rw [w64 (n := kt - kf) (by omega) (by omega), w64 (n := kf - kt) (by omega) (by omega)]
  cases c4 : decide (kt - kf > 64)
  rotate_left
  · rfl
  cases c5 : decide (kf - kt > 64)
  rotate_left
  · rfl
  cases c6 : decide (along < 200)
  rotate_left
  · rfl
  cases c7 : decide (along > ln)
  rotate_left
  · rfl
  cases c8 : decide (ln > 32768)
  rotate_left
  · rfl
  simp only [decide_eq_false_iff_not] at c4 c5 c6 c7 c8
  rw [direction_eq mi hp hf, direction_eq mi hp ht]
  dsimp only
  have q1 := sq256 hf
  have q2 := sq256 ht
  obtain ⟨s, hs, hdx, hex, hsc⟩ : ∃ s : Int, (s = 1 ∨ s = -1) ∧ (if mi then -(65536 - kf * kf) else 65536 - kf * kf) = s * (65536 - kf * kf) ∧ (if mi then -(65536 - kt * kt) else 65536 - kt * kt) = s * (65536 - kt * kt) ∧ (if mi then -(4608 * (kt - kf)) else 4608 * (kt - kf)) = s * (4608 * (kt - kf)) := by
    cases mi
    · exact ⟨1, Or.inl rfl, by simp, by simp, by simp⟩
    · exact ⟨-1, Or.inr rfl, by simp, by simp, by simp⟩
  rw [hdx, hex]
  generalize edX : s * (65536 - kf * kf) = dX
  generalize eeX : s * (65536 - kt * kt) = eX
  generalize edY : 512 * kf = dY
  generalize eeY : 512 * kt = eY
  generalize en : 65536 + kf * kf = n
  generalize em : 65536 + kt * kt = m
  have hdX : -65536 ≤ dX ∧ dX ≤ 65536 ∧ -n ≤ dX ∧ dX ≤ n := by rcases hs with rfl | rfl <;> omega
  have heX : -65536 ≤ eX ∧ eX ≤ 65536 ∧ -m ≤ eX ∧ eX ≤ m := by rcases hs with rfl | rfl <;> omega
  have hdY : -n ≤ dY ∧ dY ≤ n ∧ -131072 ≤ dY ∧ dY ≤ 131072 := by
    have h1 := alg11 kf
    have h2 := sq_nn (256 - kf)
    have h3 := alg12 kf
    have h4 := sq_nn (256 + kf)
    omega
  have heY : -m ≤ eY ∧ eY ≤ m ∧ -131072 ≤ eY ∧ eY ≤ 131072 := by
    have h1 := alg11 kt
    have h2 := sq_nn (256 - kt)
    have h3 := alg12 kt
    have h4 := sq_nn (256 + kt)
    omega
  have hn : 65536 ≤ n ∧ n ≤ 131072 := by omega
  have hm : 65536 ≤ m ∧ m ≤ 131072 := by omega
  rw [w64 (n := 256 * along) (by omega) (by omega)]
  have p1 := mul_bd (x := 256 * along) (y := dX) (p := 8388608) (q := n) (by omega) (by omega) (by omega) (by omega)
  have p2 := mul_bd (x := 256 * along) (y := dY) (p := 8388608) (q := n) (by omega) (by omega) (by omega) (by omega)
  have p3 := mul_bd (x := along) (y := eX) (p := 32768) (q := m) (by omega) (by omega) (by omega) (by omega)
  have p4 := mul_bd (x := along) (y := eY) (p := 32768) (q := m) (by omega) (by omega) (by omega) (by omega)
  rw [w64 (n := 256 * along * dX) (by omega) (by omega), w64 (n := 256 * along * dY) (by omega) (by omega), w64 (n := along * eX) (by omega) (by omega), w64 (n := along * eY) (by omega) (by omega)]
  have t1 := tdiv_bd (x := 256 * along * dX) (y := n) (B := 8388608) (by omega) (by omega) (by omega) (by omega)
  have t2 := tdiv_bd (x := 256 * along * dY) (y := n) (B := 8388608) (by omega) (by omega) (by omega) (by omega)
  have t3 := tdiv_bd (x := along * eX) (y := m) (B := 32768) (by omega) (by omega) (by omega) (by omega)
  have t4 := tdiv_bd (x := along * eY) (y := m) (B := 32768) (by omega) (by omega) (by omega) (by omega)
  have r1 := tdiv_rem (256 * along * dX) n (by omega)
  have r2 := tdiv_rem (256 * along * dY) n (by omega)
  have r3 := tdiv_rem (along * eX) m (by omega)
  have r4 := tdiv_rem (along * eY) m (by omega)
  generalize Int.tdiv (256 * along * dX) n = fX at *
  generalize Int.tdiv (256 * along * dY) n = fY at *
  generalize Int.tdiv (along * eX) m = gX at *
  generalize Int.tdiv (along * eY) m = gY at *
  rw [w64 (n := fX) (by omega) (by omega), w64 (n := fY) (by omega) (by omega), w64 (n := gX) (by omega) (by omega), w64 (n := gY) (by omega) (by omega)]
  rw [surface_eq mi hp hf ht (by omega) (by omega), en, hsc]
  generalize esc : s * (4608 * (kt - kf)) = sc
  have hsc2 : -(2048 * n) ≤ sc ∧ sc ≤ 2048 * n := by rcases hs with rfl | rfl <;> omega
  have p5 := mul_bd (x := -fY) (y := sc) (p := 8388608) (q := 2048 * n) (by omega) (by omega) (by omega) (by omega)
  have p6 := mul_bd (x := fX) (y := sc) (p := 8388608) (q := 2048 * n) (by omega) (by omega) (by omega) (by omega)
  have t5 := tdiv_bd (x := -fY * sc) (y := 2048 * n) (B := 8388608) (by omega) (by omega) (by omega) (by omega)
  have t6 := tdiv_bd (x := fX * sc) (y := 2048 * n) (B := 8388608) (by omega) (by omega) (by omega) (by omega)
  have r5 := tdiv_rem (-fY * sc) (2048 * n) (by omega)
  have r6 := tdiv_rem (fX * sc) (2048 * n) (by omega)
  dsimp only
  cases c9 : (kt == kf)
  · generalize Int.tdiv (-fY * sc) (2048 * n) = wX at *
    generalize Int.tdiv (fX * sc) (2048 * n) = wY at *
    rw [crossI_eq' (by omega) (by omega), crossI_eq' (by omega) (by omega)]
    have key := lead_core (k := kf) (k' := kt) (L := along) (s := s) hf ht (by omega) hs edX.symm edY.symm en.symm eeX.symm eeY.symm em.symm esc.symm rfl r1 r2 r5 r6 r3 r4
    have z1 := mul_bd (x := dX) (y := wY) (p := 65536) (q := 8388608) (by omega) (by omega) (by omega) (by omega)
    have z2 := mul_bd (x := dY) (y := wX) (p := 131072) (q := 8388608) (by omega) (by omega) (by omega) (by omega)
    have z3 := mul_bd (x := dX) (y := gY) (p := 65536) (q := 8388608) (by omega) (by omega) (by omega) (by omega)
    have z4 := mul_bd (x := dY) (y := gX) (p := 131072) (q := 8388608) (by omega) (by omega) (by omega) (by omega)
    have hb : -2199023255552 ≤ dX * wY - dY * wX ∧ dX * wY - dY * wX ≤ 2199023255552 := by omega
    have hg : -2199023255552 ≤ dX * gY - dY * gX ∧ dX * gY - dY * gX ≤ 2199023255552 := by omega
    clear z1 z2 z3 z4 r1 r2 r3 r4 r5 r6
    generalize dX * wY - dY * wX = b at *
    generalize dX * gY - dY * gX = g at *
    rw [w64 (n := 6 * n) (by omega) (by omega), w64 (n := g - 6 * n) (by omega) (by omega), w64 (n := 0 - b) (by omega) (by omega), w64 (n := 0 - g) (by omega) (by omega), w64 (n := 0 - g - 6 * n) (by omega) (by omega)]
    dsimp only
    by_cases k1 : b ≥ g - 6 * n <;> by_cases k2 : g ≥ 0 <;> by_cases k3 : 0 - b ≥ 0 - g - 6 * n <;> by_cases k4 : g ≤ 0 <;> simp only [k1, k2, k3, k4, decide_true, decide_false] <;> omega
  · have hk : kt = kf := by simpa using c9
    have hz : sc = 0 := by rw [← esc, hk, Int.sub_self]; simp
    subst hz
    simp [crossI]
end Go.Proofs.Ythakfjlnhldehaa
