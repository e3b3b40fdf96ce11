/- The plain law of FlipperMirror: everything is mirrored with the flipper. -/
import Derived.Test.YthakfjlnhldehaaMir
import Derived.Test.YthakfjlnhldehaaArcTools
namespace Go.Proofs.Ythakfjlnhldehaa
open Go.Ai

theorem inR_neg (n x : Int) : inR (-n) n (-x) = inR (-n) n x := by
  unfold inR; rw [Bool.eq_iff_iff]; simp only [Bool.and_eq_true, decide_eq_true_eq]; omega
theorem permB_flip (px py ln lo hi up dn mx : Int) : permB (-px) py ln lo hi up dn mx = permB px py ln lo hi up dn mx := by
  unfold permB; rw [inR_neg]
theorem permB_in {px py ln lo hi up dn mx : Int} (h : permB px py ln lo hi up dn mx = true) : In 1048576 px py ∧ 1 ≤ ln ∧ ln ≤ 262144 := by
  unfold permB at h
  simp only [Bool.and_eq_true] at h
  have h1 := inR_yes h.1.1.1.1.1.1.1.1.1
  have h2 := inR_yes h.1.1.1.1.1.1.1.1.2
  have h3 := inR_yes h.1.1.1.1.1.1.1.2
  exact ⟨⟨h1.1, h1.2, h2.1, h2.2⟩, h3.1, h3.2⟩

def footC (s dX dY n L : Int) : Int × Int :=
  if s ≤ 0 then (0, 0) else if s ≥ 256 * L * n then (Int.tdiv (256 * L * dX) n, Int.tdiv (256 * L * dY) n) else (Int.tdiv (s * dX) (n * n), Int.tdiv (s * dY) (n * n))

theorem footC_flip (s dX dY n L : Int) : footC s (-dX) dY n L = (-(footC s dX dY n L).1, (footC s dX dY n L).2) := by
  unfold footC
  rw [Int.mul_neg, Int.mul_neg, Int.neg_tdiv, Int.neg_tdiv]
  split
  · rfl
  · split <;> rfl

theorem quot_bd {s d n L : Int} (hn : 0 < n) (hL : 0 ≤ L) (hd : -n ≤ d ∧ d ≤ n) (h0 : 0 ≤ s) (h1 : s ≤ L * n) : -L ≤ Int.tdiv (s * d) (n * n) ∧ Int.tdiv (s * d) (n * n) ≤ L := by
  have hb := mul_bd (x := s) (y := d) (p := L * n) (q := n) (by omega) (by omega) hd.1 hd.2
  have e : L * n * n = L * (n * n) := Int.mul_assoc L n n
  rw [e] at hb
  exact tdiv_bd (Int.mul_pos hn hn) hL hb.1 hb.2

theorem footC_in {s dX dY n L : Int} (hn : 0 < n) (hL : 0 ≤ L ∧ L ≤ 262144) (hx : -n ≤ dX ∧ dX ≤ n) (hy : -n ≤ dY ∧ dY ≤ n) : In 67108864 (footC s dX dY n L).1 (footC s dX dY n L).2 := by
  unfold footC
  split
  · exact ⟨by decide, by decide, by decide, by decide⟩
  · split
    · have hL2 : 0 ≤ 256 * L := by omega
      have b1 := mul_bd (x := 256 * L) (y := dX) (p := 256 * L) (q := n) (by omega) (by omega) hx.1 hx.2
      have b2 := mul_bd (x := 256 * L) (y := dY) (p := 256 * L) (q := n) (by omega) (by omega) hy.1 hy.2
      have t1 := tdiv_bd hn hL2 b1.1 b1.2
      have t2 := tdiv_bd hn hL2 b2.1 b2.2
      unfold In; dsimp only; omega
    · have hL2 : 0 ≤ 256 * L := by omega
      have t1 := quot_bd (s := s) hn hL2 hx (by omega) (by omega)
      have t2 := quot_bd (s := s) hn hL2 hy (by omega) (by omega)
      unfold In; dsimp only; omega

theorem mulDivI_eq {a b c : Int} (hc : 0 < c) (h : -67108864 ≤ Int.tdiv (a * b) c ∧ Int.tdiv (a * b) c ≤ 67108864) : mulDivI a b c = (Int.tdiv (a * b) c, true) := by
  unfold mulDivI
  rw [if_neg (by omega), if_pos (by omega)]

def dirX (mi : Bool) (K : Int) : Int := if mi then -(16777216 - K * K) else 16777216 - K * K
theorem dirX_not (mi : Bool) (K : Int) : dirX (!mi) K = -dirX mi K := by
  unfold dirX; cases mi <;> simp <;> omega

theorem dir16_bd {mi : Bool} {K : Int} (hK : -4096 ≤ K ∧ K ≤ 4096) : (16777216 ≤ 16777216 + K * K ∧ 16777216 + K * K ≤ 33554432) ∧ (-(16777216 + K * K) ≤ dirX mi K ∧ dirX mi K ≤ 16777216 + K * K) ∧ (-(16777216 + K * K) ≤ 8192 * K ∧ 8192 * K ≤ 16777216 + K * K) := by
  have q := sq4096 hK
  have e1 : (4096 - K) * (4096 - K) = 16777216 - 8192 * K + K * K := by grind
  have e2 : (4096 + K) * (4096 + K) = 16777216 + 8192 * K + K * K := by grind
  have s1 := sq_nn (4096 - K)
  have s2 := sq_nn (4096 + K)
  refine ⟨by omega, ?_, by omega⟩
  unfold dirX; cases mi <;> simp <;> omega

theorem foot_core {s dX dY n L : Int} (hn : 16777216 ≤ n ∧ n ≤ 33554432) (hL : 1 ≤ L ∧ L ≤ 262144) (hx : -n ≤ dX ∧ dX ≤ n) (hy : -n ≤ dY ∧ dY ≤ n) :
    (match decide (s ≤ 0) with
      | true => ((0 : Int), (0 : Int))
      | false => match decide (s ≥ IntKind.i64.wrap (IntKind.i64.wrap (256 * L) * n)) with
        | true => (IntKind.i64.wrap (Int.tdiv (IntKind.i64.wrap (IntKind.i64.wrap (256 * L) * dX)) n), IntKind.i64.wrap (Int.tdiv (IntKind.i64.wrap (IntKind.i64.wrap (256 * L) * dY)) n))
        | false => ((mulDivI s dX (IntKind.i64.wrap (n * n))).1, (mulDivI s dY (IntKind.i64.wrap (n * n))).1)) = footC s dX dY n L := by
  have hb := footC_in (s := s) (by omega) (show 0 ≤ L ∧ L ≤ 262144 by omega) hx hy
  have p1 := mul_bd (x := 256 * L) (y := n) (p := 67108864) (q := 33554432) (by omega) (by omega) (by omega) (by omega)
  have p2 := mul_bd (x := 256 * L) (y := dX) (p := 67108864) (q := 33554432) (by omega) (by omega) (by omega) (by omega)
  have p3 := mul_bd (x := 256 * L) (y := dY) (p := 67108864) (q := 33554432) (by omega) (by omega) (by omega) (by omega)
  have p4 := mul_bd (x := n) (y := n) (p := 33554432) (q := 33554432) (by omega) (by omega) (by omega) (by omega)
  rw [w64 (n := 256 * L) (by omega) (by omega), w64 (n := 256 * L * n) (by omega) (by omega), w64 (n := 256 * L * dX) (by omega) (by omega), w64 (n := 256 * L * dY) (by omega) (by omega), w64 (n := n * n) (by omega) (by omega)]
  have hnn : 0 < n * n := Int.mul_pos (by omega) (by omega)
  unfold footC at hb ⊢
  by_cases h1 : s ≤ 0
  · rw [if_pos h1, decide_eq_true h1]
  · rw [if_neg h1] at hb ⊢
    rw [decide_eq_false h1]
    dsimp only
    by_cases h2 : s ≥ 256 * L * n
    · rw [if_pos h2] at hb ⊢
      rw [decide_eq_true h2]
      unfold In at hb
      dsimp only at hb ⊢
      rw [w64 (by omega) (by omega), w64 (by omega) (by omega)]
    · rw [if_neg h2] at hb ⊢
      rw [decide_eq_false h2]
      unfold In at hb
      dsimp only at hb ⊢
      rw [mulDivI_eq hnn (by omega), mulDivI_eq hnn (by omega)]

theorem foot_eq {qx qy px py ln lo hi up dn mx kf kt j : Int} (mi : Bool) (hp : permB px py ln lo hi up dn mx = true) (hf : inR (-256) 256 kf = true) (ht : inR (-256) 256 kt = true) (hj : inR 0 16 j = true) (hq : In 2097152 qx qy) :
    footV qx qy px py ln mi lo hi up dn mx kf kt j = footC ((qx - px * 256) * dirX mi (16 * kf + (kt - kf) * j) + (qy - py * 256) * (8192 * (16 * kf + (kt - kf) * j))) (dirX mi (16 * kf + (kt - kf) * j)) (8192 * (16 * kf + (kt - kf) * j)) (16777216 + (16 * kf + (kt - kf) * j) * (16 * kf + (kt - kf) * j)) ln := by
  have hb := permB_in hp
  have hK := k16_bd (inR_yes hf) (inR_yes ht) (inR_yes hj)
  have hq1 : inR (-536870912) 536870912 qx = true := by unfold In at hq; unfold inR; simp only [Bool.and_eq_true, decide_eq_true_eq]; omega
  have hq2 : inR (-536870912) 536870912 qy = true := by unfold In at hq; unfold inR; simp only [Bool.and_eq_true, decide_eq_true_eq]; omega
  unfold footV
  rw [hp, hf, ht, hj, hq1, hq2, k16_eq (inR_yes hf) (inR_yes ht) (inR_yes hj), turned16 mi hK, scaleV_eq hb.1, subV_eq (hq.mono (by decide)) (hb.1.times.mono (by decide))]
  generalize 16 * kf + (kt - kf) * j = K at *
  have hd := dir16_bd (mi := mi) hK
  have hin1 : In 1073741824 (qx - px * 256) (qy - py * 256) := (In.sub (k := 1073741824) hq hb.1.times (by decide))
  have hin2 : In 1073741824 (dirX mi K) (8192 * K) := by unfold In; omega
  have e : (if mi = true then -(16777216 - K * K) else 16777216 - K * K) = dirX mi K := rfl
  rw [e]
  dsimp only [Bool.and_true, Bool.true_and]
  rw [dotI_eq hin1 hin2]
  exact foot_core hd.1 hb.2 hd.2.1 hd.2.2

theorem foot_none {qx qy px py ln lo hi up dn mx kf kt j : Int} (mi : Bool) (h : inR (-256) 256 kt = false ∨ inR 0 16 j = false) : footV qx qy px py ln mi lo hi up dn mx kf kt j = (0, 0) := by
  unfold footV
  rcases h with h | h
  · rw [h, Bool.and_false]
  · rw [h]; cases (permB px py ln lo hi up dn mx && inR (-256) 256 kf && inR (-256) 256 kt) <;> rfl

theorem foot_mirror {qx qy px py ln lo hi up dn mx kf : Int} (kt j : Int) (mi : Bool) (hp : permB px py ln lo hi up dn mx = true) (hf : inR (-256) 256 kf = true) (hq : In 2097152 qx qy) :
    footV (-qx) qy (-px) py ln (!mi) lo hi up dn mx kf kt j = (-(footV qx qy px py ln mi lo hi up dn mx kf kt j).1, (footV qx qy px py ln mi lo hi up dn mx kf kt j).2) ∧
    In 67108864 (footV qx qy px py ln mi lo hi up dn mx kf kt j).1 (footV qx qy px py ln mi lo hi up dn mx kf kt j).2 := by
  cases ht : inR (-256) 256 kt
  · rw [foot_none _ (.inl ht), foot_none _ (.inl ht)]; exact ⟨rfl, by unfold In; decide⟩
  cases hj : inR 0 16 j
  · rw [foot_none _ (.inr hj), foot_none _ (.inr hj)]; exact ⟨rfl, by unfold In; decide⟩
  rw [foot_eq mi hp hf ht hj hq, foot_eq (!mi) ((permB_flip ..).trans hp) hf ht hj hq.flip, dirX_not]
  have hK := k16_bd (inR_yes hf) (inR_yes ht) (inR_yes hj)
  generalize 16 * kf + (kt - kf) * j = K at *
  have hd := dir16_bd (mi := mi) hK
  have e : (-qx - -px * 256) * -dirX mi K = (qx - px * 256) * dirX mi K := by
    rw [← Int.neg_mul_neg (qx - px * 256)]
    congr 1; omega
  rw [e, footC_flip]
  have hL := (permB_in hp).2
  exact ⟨rfl, footC_in (by omega) (by omega) hd.2.1 hd.2.2⟩

theorem normal_mirror {qx qy px py ln lo hi up dn mx kf : Int} (kt j : Int) (mi : Bool) (hp : permB px py ln lo hi up dn mx = true) (hf : inR (-256) 256 kf = true) (hq : In 2097152 qx qy) :
    normalV (-qx) qy (-px) py ln (!mi) lo hi up dn mx kf kt j = (-(normalV qx qy px py ln mi lo hi up dn mx kf kt j).1, (normalV qx qy px py ln mi lo hi up dn mx kf kt j).2) ∧
    In 1073741824 (normalV qx qy px py ln mi lo hi up dn mx kf kt j).1 (normalV qx qy px py ln mi lo hi up dn mx kf kt j).2 := by
  have hm := foot_mirror kt j mi hp hf hq
  unfold normalV
  rw [permB_flip, hm.1, inR_neg]
  have hb := permB_in hp
  cases permB px py ln lo hi up dn mx && inR (-256) 256 kf && inR (-256) 256 kt
  · exact ⟨rfl, (show In 1073741824 0 0 by unfold In; decide)⟩
  cases inR 0 16 j
  · exact ⟨rfl, (show In 1073741824 0 0 by unfold In; decide)⟩
  cases inR (-536870912) 536870912 qx && inR (-536870912) 536870912 qy
  · exact ⟨rfl, (show In 1073741824 0 0 by unfold In; decide)⟩
  rw [scaleV_eq hb.1, scaleV_eq hb.1.flip, subV_eq (hq.mono (by decide)) (hb.1.times.mono (by decide)), subV_eq (hq.flip.mono (by decide)) (hb.1.flip.times.mono (by decide))]
  obtain ⟨-, hin⟩ := hm
  generalize footV qx qy px py ln mi lo hi up dn mx kf kt j = f at *
  dsimp only
  have h1 : In 270532608 (qx - px * 256) (qy - py * 256) := In.sub hq hb.1.times (by decide)
  have e : -qx - -px * 256 = -(qx - px * 256) := by omega
  rw [e, subV_eq (h1.mono (by decide)) (hin.mono (by decide)), subV_eq (h1.flip.mono (by decide)) (hin.flip.mono (by decide))]
  dsimp only
  have h2 : In 1073741824 (qx - px * 256 - f.1) (qy - py * 256 - f.2) := In.sub h1 hin (by decide)
  have e2 : -(qx - px * 256) - -f.1 = -(qx - px * 256 - f.1) := by omega
  rw [e2, halveV_flip h2]
  exact ⟨rfl, halveV_in h2⟩

theorem surface_none {fx fy px py ln lo hi up dn mx kf kt : Int} (mi : Bool) (h : inR (-256) 256 kt = false) : surface fx fy px py ln mi lo hi up dn mx kf kt = (0, 0) := by
  unfold surface
  rw [h, Bool.and_false]

theorem surface_mirror {fx fy px py ln lo hi up dn mx kf : Int} (kt : Int) (mi : Bool) (hp : permB px py ln lo hi up dn mx = true) (hf : inR (-256) 256 kf = true) (h : In 67108864 fx fy) :
    surface (-fx) fy (-px) py ln (!mi) lo hi up dn mx kf kt = (-(surface fx fy px py ln mi lo hi up dn mx kf kt).1, (surface fx fy px py ln mi lo hi up dn mx kf kt).2) ∧
    In 1073741824 (surface fx fy px py ln mi lo hi up dn mx kf kt).1 (surface fx fy px py ln mi lo hi up dn mx kf kt).2 := by
  cases ht : inR (-256) 256 kt
  · rw [surface_none _ ht, surface_none _ ht]; exact ⟨rfl, by unfold In; decide⟩
  have kf1 := inR_yes hf
  have kt1 := inR_yes ht
  unfold In at h
  rw [surface_eq mi hp kf1 kt1 (by omega) (by omega), surface_eq (!mi) ((permB_flip ..).trans hp) kf1 kt1 (by omega) (by omega)]
  have q := sq256 kf1
  obtain ⟨c, hc, hc1, hc2⟩ : ∃ c, (if mi = true then -(4608 * (kt - kf)) else 4608 * (kt - kf)) = c ∧ (if (!mi) = true then -(4608 * (kt - kf)) else 4608 * (kt - kf)) = -c ∧ -2359296 ≤ c ∧ c ≤ 2359296 := by
    cases mi
    · exact ⟨_, rfl, rfl, by simp; omega⟩
    · exact ⟨_, rfl, by simp, by simp; omega⟩
  rw [hc, hc1]
  have hn : 65536 ≤ 65536 + kf * kf := by omega
  generalize 65536 + kf * kf = n at *
  have b1 := mul_bd (x := -fy) (y := c) (p := 67108864) (q := 2359296) (by omega) (by omega) (by omega) (by omega)
  have b2 := mul_bd (x := fx) (y := c) (p := 67108864) (q := 2359296) (by omega) (by omega) (by omega) (by omega)
  have t1 := tdiv_bd (x := -fy * c) (y := 2048 * n) (B := 1073741824) (by omega) (by omega) (by omega) (by omega)
  have t2 := tdiv_bd (x := fx * c) (y := 2048 * n) (B := 1073741824) (by omega) (by omega) (by omega) (by omega)
  rw [Int.mul_neg, Int.neg_tdiv, Int.neg_mul_neg]
  exact ⟨rfl, t1.1, t1.2, t2.1, t2.2⟩

theorem surface_rest {fx fy px py ln lo hi up dn mx kf : Int} (mi : Bool) (hp : permB px py ln lo hi up dn mx = true) (hf : inR (-256) 256 kf = true) (h : In 67108864 fx fy) :
    surface fx fy px py ln mi lo hi up dn mx kf kf = (0, 0) := by
  have kf1 := inR_yes hf
  unfold In at h
  rw [surface_eq mi hp kf1 kf1 (by omega) (by omega), Int.sub_self]
  cases mi <;> simp

theorem turned1 {k : Int} (mi : Bool) (hk : -256 ≤ k ∧ k ≤ 256) : turnedI mi k 256 = ((if mi then -(65536 - k * k) else 65536 - k * k), 512 * k, 65536 + k * k) := by
  have := sq256 hk
  unfold turnedI
  have e1 : IntKind.i64.wrap (256 * 256) = 65536 := rfl
  have e2 : IntKind.i64.wrap (2 * 256) = 512 := rfl
  cases mi
  · simp only [e1, e2, w64 (n := k * k) (by omega) (by omega), w64 (n := 65536 - k * k) (by omega) (by omega), w64 (n := 512 * k) (by omega) (by omega), w64 (n := 65536 + k * k) (by omega) (by omega)]
    rfl
  · simp only [e1, e2, w64 (n := k * k) (by omega) (by omega), w64 (n := 65536 - k * k) (by omega) (by omega), w64 (n := 512 * k) (by omega) (by omega), w64 (n := 65536 + k * k) (by omega) (by omega), w64 (n := 0 - (65536 - k * k)) (by omega) (by omega)]
    rw [Int.zero_sub]
    rfl

theorem max_neg {c : Int} (h : -9223372036854775807 ≤ c ∧ c ≤ 9223372036854775807) : (if IntKind.i64.wrap (0 - -c) > -c then IntKind.i64.wrap (0 - -c) else -c) = (if IntKind.i64.wrap (0 - c) > c then IntKind.i64.wrap (0 - c) else c) := by
  rw [w64 (n := 0 - -c) (by omega) (by omega), w64 (n := 0 - c) (by omega) (by omega)]
  split <;> split <;> omega

theorem inside_mirror {qx qy px py ln lo hi up dn mx kf : Int} (mi : Bool) (hp : permB px py ln lo hi up dn mx = true) (hf : inR (-256) 256 kf = true) (hq : In 2097152 qx qy) (reach : Int) :
    insideB (-qx) qy (-px) py ln (!mi) lo hi up dn mx kf reach = insideB qx qy px py ln mi lo hi up dn mx kf reach := by
  have hb := permB_in hp
  have hk := inR_yes hf
  unfold insideB
  rw [permB_flip, inR_neg, turned1 mi hk, turned1 (!mi) hk, subV_eq (hq.mono (by decide)) (hb.1.mono (by decide)), subV_eq (hq.flip.mono (by decide)) (hb.1.flip.mono (by decide))]
  have h1 : In 3145728 (qx - px) (qy - py) := In.sub hq hb.1 (by decide)
  have e : -qx - -px = -(qx - px) := by omega
  rw [e]
  generalize qx - px = a at *
  generalize qy - py = b at *
  have q := sq256 hk
  obtain ⟨c, hc, hc1, hc2⟩ : ∃ c, (if mi = true then -(65536 - kf * kf) else 65536 - kf * kf) = c ∧ (if (!mi) = true then -(65536 - kf * kf) else 65536 - kf * kf) = -c ∧ -65536 ≤ c ∧ c ≤ 65536 := by
    cases mi
    · exact ⟨_, rfl, rfl, by simp; omega⟩
    · exact ⟨_, rfl, by simp, by simp; omega⟩
  rw [hc, hc1]
  generalize 65536 + kf * kf = n at *
  dsimp only
  have hin2 : In 1073741824 c (512 * kf) := by unfold In; omega
  have hi1 := h1.mono (m := 1073741824) (by decide)
  rw [dotI_eq hi1 hin2, dotI_eq hi1.flip hin2.flip, dotI_eq hi1 hi1, dotI_eq hi1.flip hi1.flip, crossI_eq hin2 hi1, crossI_eq hin2.flip hi1.flip, Int.neg_mul_neg, Int.neg_mul_neg]
  have e3 : -c * b - 512 * kf * -a = -(c * b - 512 * kf * a) := by rw [Int.neg_mul, Int.mul_neg]; omega
  unfold In at h1
  have b1 := mul_bd (x := c) (y := b) (p := 65536) (q := 3145728) (by omega) (by omega) (by omega) (by omega)
  have b2 := mul_bd (x := 512 * kf) (y := a) (p := 131072) (q := 3145728) (by omega) (by omega) (by omega) (by omega)
  rw [e3, max_neg (by omega)]

theorem near13_yes {x y : Int} (h : near13 x y = true) : In 2097152 x y := by
  unfold near13 at h
  unfold In
  repeat (split at h; rotate_left; · simp at h)
  simp only [decide_eq_true_eq] at *
  omega

theorem flip13_eq {x y : Int} (h : In 1073741824 x y) : flip13 x y = (-x, y) := by
  unfold flip13; unfold In at h
  rw [w64 (by omega) (by omega)]
  simp

theorem mirrored13_eq (nm : ByteArray) (lv px py ln : Int) (mi : Bool) (lo hi up dn mx rs gr co sw : Int) (h : In 1073741824 px py) : mirrored13 nm lv px py ln mi lo hi up dn mx rs gr co sw = (nm, lv, -px, py, ln, !mi, lo, hi, up, dn, mx, rs, gr, co, sw) := by
  unfold mirrored13
  rw [flip13_eq h]

theorem dir_sq {px py ln lo hi up dn mx k : Int} (mi : Bool) (hp : permB px py ln lo hi up dn mx = true) (hk : -256 ≤ k ∧ k ≤ 256) :
    dotI (direction px py ln mi lo hi up dn mx k).1 (direction px py ln mi lo hi up dn mx k).2.1 (direction px py ln mi lo hi up dn mx k).1 (direction px py ln mi lo hi up dn mx k).2.1 = IntKind.i64.wrap ((direction px py ln mi lo hi up dn mx k).2.2 * (direction px py ln mi lo hi up dn mx k).2.2) := by
  rw [direction_eq mi hp hk]
  have q := sq256 hk
  obtain ⟨s, hs, hdx⟩ : ∃ s : Int, s * s = 1 ∧ (if mi = true then -(65536 - k * k) else 65536 - k * k) = s * (65536 - k * k) := by
    cases mi
    · exact ⟨1, rfl, by simp⟩
    · exact ⟨-1, rfl, by simp⟩
  have h0 : -65536 ≤ (if mi = true then -(65536 - k * k) else 65536 - k * k) ∧ (if mi = true then -(65536 - k * k) else 65536 - k * k) ≤ 65536 := by
    cases mi <;> simp <;> omega
  dsimp only
  generalize (if mi = true then -(65536 - k * k) else 65536 - k * k) = c at *
  have hin : In 1073741824 c (512 * k) := by unfold In; omega
  rw [dotI_eq hin hin, alg0 hs hdx rfl rfl]
  have p := mul_bd (x := 65536 + k * k) (y := 65536 + k * k) (p := 131072) (q := 131072) (by omega) (by omega) (by omega) (by omega)
  rw [w64 (by omega) (by omega)]

theorem same2 (x y : Int) : (x == x && (y == y && true)) = true := by simp

theorem mirror_true (qx qy : Int) (nm : ByteArray) (lv px py ln : Int) (mi : Bool) (lo hi up dn mx rs gr co sw kf kt j : Int) : mirrorB qx qy nm lv px py ln mi lo hi up dn mx rs gr co sw kf kt j = true := by
  unfold mirrorB
  cases c1 : flips px py ln lo hi up dn mx
  · rfl
  cases c2 : near13 qx qy
  · rfl
  cases c3 : angleB kf
  · rfl
  have hp := (flips_eq ..).symm.trans c1
  have hk := angleB_yes c3
  have hf : inR (-256) 256 kf = true := by simpa [inR] using hk
  have hq := near13_yes c2
  have hb := permB_in hp
  have mf := foot_mirror kt j mi hp hf hq
  have mn := normal_mirror kt j mi hp hf hq
  have ms := surface_mirror kt mi hp hf mf.2
  rw [mirrored13_eq _ _ _ _ _ _ _ _ _ _ _ _ _ _ _ (hb.1.mono (by decide)), flip13_eq (hq.mono (by decide))]
  dsimp only
  rw [mf.1, mn.1, flip13_eq (mf.2.mono (by decide)), flip13_eq mn.2]
  dsimp only
  rw [ms.1, flip13_eq ms.2, surface_rest mi hp hf mf.2, inside_mirror mi hp hf hq, dir_sq mi hp hk]
  simp
end Go.Proofs.Ythakfjlnhldehaa
