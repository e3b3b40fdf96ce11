/- The plain law of ArcMirror: the mirror x -> -x changes nothing, and a longer reach loses no point. -/
import Derived.Test.YthakfjlnhldehaaArcTools
namespace Go.Proofs.Ythakfjlnhldehaa
open Go.Ai

def radN (dS dE cr : Int) : Int × Bool :=
  match (IntKind.i64.wrap (rootI dS * rootI dS) != dS) with
  | true => (0, false)
  | false => match (dE != dS) with
    | true => (0, false)
    | false => match decide (rootI dS < 1) with
      | true => (0, false)
      | false => match decide (rootI dS > 262144) with
        | true => (0, false)
        | false => match decide (cr ≤ 0) with
          | true => (0, false)
          | false => (rootI dS, true)

theorem radN_sym (a b c : Int) : radN a b c = radN b a c := by
  by_cases h : a = b
  · subst h; rfl
  · have h1 : (b != a) = true := by simp; omega
    have h2 : (a != b) = true := by simp; omega
    unfold radN
    rw [h1, h2]
    cases (IntKind.i64.wrap (rootI a * rootI a) != a) <;> cases (IntKind.i64.wrap (rootI b * rootI b) != b) <;> rfl

section
variable {px py cx cy sx sy ex ey : Int}
theorem radius_eq (hc : In 1048576 cx cy) (hs : In 1048576 sx sy) (he : In 1048576 ex ey) :
    radius cx cy sx sy ex ey = radN ((sx - cx) * (sx - cx) + (sy - cy) * (sy - cy)) ((ex - cx) * (ex - cx) + (ey - cy) * (ey - cy)) ((sx - cx) * (ey - cy) - (sy - cy) * (ex - cx)) := by
  have hS : In 1073741824 (sx - cx) (sy - cy) := hs.sub hc (by decide)
  have hE : In 1073741824 (ex - cx) (ey - cy) := he.sub hc (by decide)
  unfold radius radN
  rw [inB_mk hc, inB_mk hs, inB_mk he, subV_eq (hs.mono (by decide)) (hc.mono (by decide)), subV_eq (he.mono (by decide)) (hc.mono (by decide))]
  dsimp only
  rw [dotI_eq hS hS, dotI_eq hE hE, crossI_eq hS hE]
  rfl

theorem radius_flip (hc : In 1048576 cx cy) (hs : In 1048576 sx sy) (he : In 1048576 ex ey) :
    radius (-cx) cy (-ex) ey (-sx) sy = radius cx cy sx sy ex ey := by
  rw [radius_eq hc hs he, radius_eq hc.flip he.flip hs.flip, radN_sym]
  congr 1 <;> grind

def discB (d reach : Int) : Bool :=
  match decide (reach < 1) with
  | true => false
  | false => match decide (reach > 524288) with
    | true => false
    | false => decide (d < IntKind.i64.wrap (reach * reach))

theorem inDisc_eq (hp : In 1048576 px py) (hc : In 1048576 cx cy) (reach : Int) :
    inDisc px py cx cy reach = discB ((px - cx) * (px - cx) + (py - cy) * (py - cy)) reach := by
  have hv : In 1073741824 (px - cx) (py - cy) := hp.sub hc (by decide)
  unfold inDisc discB
  rw [inB_mk (hp.mono (by decide)), inB_mk hc, subV_eq (hp.mono (by decide)) (hc.mono (by decide))]
  dsimp only
  rw [dotI_eq hv hv]
  rfl

def insN (R : Int × Bool) (reach dS dE c1 c2 d : Int) : Bool :=
  match R.2 with
  | true => match decide (reach < 1) with
    | true => false
    | false => match decide (reach ≥ R.1) with
      | true => false
      | false => match discB dS reach with
        | true => true
        | false => match discB dE reach with
          | true => true
          | false => match decide (c1 ≤ 0) with
            | true => false
            | false => match decide (c2 ≤ 0) with
              | true => false
              | false => match decide (d < IntKind.i64.wrap (IntKind.i64.wrap (R.1 + reach) * IntKind.i64.wrap (R.1 + reach))) with
                | true => decide (d > IntKind.i64.wrap (IntKind.i64.wrap (R.1 - reach) * IntKind.i64.wrap (R.1 - reach)))
                | false => false
  | false => false

theorem insN_sym (R : Int × Bool) (reach dS dE c1 c2 d : Int) : insN R reach dS dE c1 c2 d = insN R reach dE dS c2 c1 d := by
  unfold insN
  cases R.2 <;> cases decide (reach < 1) <;> cases decide (reach ≥ R.1) <;> cases discB dS reach <;> cases discB dE reach <;> cases decide (c1 ≤ 0) <;> cases decide (c2 ≤ 0) <;> rfl

theorem inside_eq (hp : In 1048576 px py) (hc : In 1048576 cx cy) (hs : In 1048576 sx sy) (he : In 1048576 ex ey) (reach : Int) :
    inside px py cx cy sx sy ex ey reach = insN (radius cx cy sx sy ex ey) reach ((px - sx) * (px - sx) + (py - sy) * (py - sy)) ((px - ex) * (px - ex) + (py - ey) * (py - ey))
      ((sx - cx) * (py - cy) - (sy - cy) * (px - cx)) ((px - cx) * (ey - cy) - (py - cy) * (ex - cx)) ((px - cx) * (px - cx) + (py - cy) * (py - cy)) := by
  have hS : In 1073741824 (sx - cx) (sy - cy) := hs.sub hc (by decide)
  have hE : In 1073741824 (ex - cx) (ey - cy) := he.sub hc (by decide)
  have hP : In 1073741824 (px - cx) (py - cy) := hp.sub hc (by decide)
  unfold inside insN
  rw [inDisc_eq hp hs, inDisc_eq hp he, inB_mk (hp.mono (by decide)), subV_eq (hs.mono (by decide)) (hc.mono (by decide)), subV_eq (he.mono (by decide)) (hc.mono (by decide)), subV_eq (hp.mono (by decide)) (hc.mono (by decide))]
  dsimp only
  rw [dotI_eq hP hP, crossI_eq hS hP, crossI_eq hP hE]
  rfl

theorem inside_flip (hp : In 1048576 px py) (hc : In 1048576 cx cy) (hs : In 1048576 sx sy) (he : In 1048576 ex ey) (reach : Int) :
    inside (-px) py (-cx) cy (-ex) ey (-sx) sy reach = inside px py cx cy sx sy ex ey reach := by
  rw [inside_eq hp hc hs he, inside_eq hp.flip hc.flip he.flip hs.flip, radius_flip hc hs he, insN_sym]
  congr 1 <;> grind

theorem sector_eq (hp : In 1048576 px py) (hc : In 1048576 cx cy) (hs : In 1048576 sx sy) (he : In 1048576 ex ey) :
    sector cx cy sx sy ex ey px py = ((radius cx cy sx sy ex ey).2 && decide ((sx - cx) * (py - cy * 256) - (sy - cy) * (px - cx * 256) > 0)
      && decide ((px - cx * 256) * (ey - cy) - (py - cy * 256) * (ex - cx) > 0)) := by
  have hS : In 1073741824 (sx - cx) (sy - cy) := hs.sub hc (by decide)
  have hE : In 1073741824 (ex - cx) (ey - cy) := he.sub hc (by decide)
  have hP : In 1073741824 (px - cx * 256) (py - cy * 256) := hp.sub hc.times (by decide)
  unfold sector
  rw [inB_mk (hp.mono (by decide)), scaleV_eq hc]
  dsimp only
  rw [subV_eq (hs.mono (by decide)) (hc.mono (by decide)), subV_eq (he.mono (by decide)) (hc.mono (by decide)), subV_eq (hp.mono (by decide)) (hc.times.mono (by decide))]
  dsimp only
  rw [crossI_eq hS hP, crossI_eq hP hE]
  cases (radius cx cy sx sy ex ey).2 <;> cases decide ((sx - cx) * (py - cy * 256) - (sy - cy) * (px - cx * 256) > 0) <;> rfl

theorem sector_flip (hp : In 1048576 px py) (hc : In 1048576 cx cy) (hs : In 1048576 sx sy) (he : In 1048576 ex ey) :
    sector (-cx) cy (-ex) ey (-sx) sy (-px) py = sector cx cy sx sy ex ey px py := by
  rw [sector_eq hp hc hs he, sector_eq hp.flip hc.flip he.flip hs.flip, radius_flip hc hs he]
  have e1 : (-ex - -cx) * (py - cy * 256) - (ey - cy) * (-px - -cx * 256) = (px - cx * 256) * (ey - cy) - (py - cy * 256) * (ex - cx) := by grind
  have e2 : (-px - -cx * 256) * (sy - cy) - (py - cy * 256) * (-sx - -cx) = (sx - cx) * (py - cy * 256) - (sy - cy) * (px - cx * 256) := by grind
  rw [e1, e2, Bool.and_assoc, Bool.and_assoc]
  congr 1
  rw [Bool.and_comm]

def norN (R : Int × Bool) (sec : Bool) (vx vy ax ay bx by' : Int) : Int × Int :=
  match R.2 with
  | true => match sec with
    | true => match decide (vx * vx + vy * vy > IntKind.i64.wrap (IntKind.i64.wrap (IntKind.i64.wrap (256 * R.1) * 256) * R.1)) with
      | true => halveV vx vy
      | false => match decide (vx * vx + vy * vy < IntKind.i64.wrap (IntKind.i64.wrap (IntKind.i64.wrap (256 * R.1) * 256) * R.1)) with
        | true => halveV (-vx) (-vy)
        | false => (0, 0)
    | false => match decide (ax * ax + ay * ay < bx * bx + by' * by') with
      | true => halveV ax ay
      | false => match decide (ax * ax + ay * ay > bx * bx + by' * by') with
        | true => halveV bx by'
        | false => (0, 0)
  | false => (0, 0)

theorem discN_eq (hp : In 1048576 px py) (hc : In 1048576 cx cy) : discN px py cx cy = halveV (px - cx * 256) (py - cy * 256) := by
  unfold discN
  rw [inB_mk hc, scaleV_eq hc]
  dsimp only
  rw [subV_eq (hp.mono (by decide)) (hc.times.mono (by decide))]

theorem normal_eq (hp : In 1048576 px py) (hc : In 1048576 cx cy) (hs : In 1048576 sx sy) (he : In 1048576 ex ey) :
    normal px py cx cy sx sy ex ey = norN (radius cx cy sx sy ex ey) (sector cx cy sx sy ex ey px py) (px - cx * 256) (py - cy * 256) (px - sx * 256) (py - sy * 256) (px - ex * 256) (py - ey * 256) := by
  have hS : In 1073741824 (px - sx * 256) (py - sy * 256) := hp.sub hs.times (by decide)
  have hE : In 1073741824 (px - ex * 256) (py - ey * 256) := hp.sub he.times (by decide)
  have hP : In 1073741824 (px - cx * 256) (py - cy * 256) := hp.sub hc.times (by decide)
  unfold normal norN
  rw [discN_eq hp hs, discN_eq hp he, scaleV_eq hc, scaleV_eq hs, scaleV_eq he]
  dsimp only
  rw [subV_eq (hp.mono (by decide)) (hc.times.mono (by decide)), subV_eq (hp.mono (by decide)) (hs.times.mono (by decide)), subV_eq (hp.mono (by decide)) (he.times.mono (by decide))]
  dsimp only
  rw [scaleV_neg hP, dotI_eq hS hS, dotI_eq hE hE, dotI_eq hP hP]
  rfl

theorem norN_flip (R : Int × Bool) (sec : Bool) (vx vy ax ay bx by' : Int) (hv : In 1073741824 vx vy) (ha : In 1073741824 ax ay) (hb : In 1073741824 bx by') :
    norN R sec (-vx) vy (-bx) by' (-ax) ay = (-(norN R sec vx vy ax ay bx by').1, (norN R sec vx vy ax ay bx by').2) := by
  have hn : In 1073741824 (-vx) (-vy) := by unfold In at *; omega
  unfold norN
  rw [halveV_flip hv, halveV_flip ha, halveV_flip hb, halveV_flip hn, Int.neg_mul_neg, Int.neg_mul_neg, Int.neg_mul_neg]
  cases R.2
  · rfl
  · cases sec
    · rcases Int.lt_trichotomy (ax * ax + ay * ay) (bx * bx + by' * by') with h | h | h
      · have h1 : decide (ax * ax + ay * ay < bx * bx + by' * by') = true := by simpa using h
        have h2 : decide (bx * bx + by' * by' < ax * ax + ay * ay) = false := by simp; omega
        simp only [h1, h2]
      · rw [h]
        have h1 : decide (bx * bx + by' * by' < bx * bx + by' * by') = false := by simp
        simp only [h1]; rfl
      · have h1 : decide (ax * ax + ay * ay < bx * bx + by' * by') = false := by simp; omega
        have h2 : decide (bx * bx + by' * by' < ax * ax + ay * ay) = true := by simpa using h
        simp only [h1, h2]
    · dsimp only
      split
      · rfl
      · split <;> rfl

theorem norN_in (R : Int × Bool) (sec : Bool) (vx vy ax ay bx by' : Int) (hv : In 1073741824 vx vy) (ha : In 1073741824 ax ay) (hb : In 1073741824 bx by') :
    In 1073741824 (norN R sec vx vy ax ay bx by').1 (norN R sec vx vy ax ay bx by').2 := by
  have hn : In 1073741824 (-vx) (-vy) := by unfold In at *; omega
  have h0 : In 1073741824 0 0 := by unfold In; decide
  unfold norN
  split
  · split
    · split
      · exact halveV_in hv
      · split
        · exact halveV_in hn
        · exact h0
    · split
      · exact halveV_in ha
      · split
        · exact halveV_in hb
        · exact h0
  · exact h0

theorem normal_flip (hp : In 1048576 px py) (hc : In 1048576 cx cy) (hs : In 1048576 sx sy) (he : In 1048576 ex ey) :
    normal (-px) py (-cx) cy (-ex) ey (-sx) sy = (-(normal px py cx cy sx sy ex ey).1, (normal px py cx cy sx sy ex ey).2) := by
  have hS : In 1073741824 (px - sx * 256) (py - sy * 256) := hp.sub hs.times (by decide)
  have hE : In 1073741824 (px - ex * 256) (py - ey * 256) := hp.sub he.times (by decide)
  have hP : In 1073741824 (px - cx * 256) (py - cy * 256) := hp.sub hc.times (by decide)
  rw [normal_eq hp hc hs he, normal_eq hp.flip hc.flip he.flip hs.flip, radius_flip hc hs he, sector_flip hp hc hs he, ← norN_flip _ _ _ _ _ _ _ _ hP hS hE]
  have e (a b : Int) : -a - -b * 256 = -(a - b * 256) := by omega
  rw [e, e, e]

theorem normal_in (hp : In 1048576 px py) (hc : In 1048576 cx cy) (hs : In 1048576 sx sy) (he : In 1048576 ex ey) :
    In 1073741824 (normal px py cx cy sx sy ex ey).1 (normal px py cx cy sx sy ex ey).2 := by
  rw [normal_eq hp hc hs he]
  exact norN_in _ _ _ _ _ _ _ _ (hp.sub hc.times (by decide)) (hp.sub hs.times (by decide)) (hp.sub he.times (by decide))

theorem radN_le (a b c : Int) : (radN a b c).1 ≤ 262144 ∧ 0 ≤ (radN a b c).1 := by
  unfold radN
  repeat' split
  all_goals simp_all
  omega

theorem discB_more {d reach : Int} (h : discB d reach = true) (hr : reach + 1 ≤ 262144) : discB d (reach + 1) = true := by
  unfold discB at *
  split at h
  · cases h
  · rename_i h1
    split at h
    · cases h
    · simp only [decide_eq_true_eq, decide_eq_false_iff_not] at h h1
      have b1 := mul_bd (x := reach) (y := reach) (p := 262144) (q := 262144) (by omega) (by omega) (by omega) (by omega)
      have b2 := mul_bd (x := reach + 1) (y := reach + 1) (p := 262144) (q := 262144) (by omega) (by omega) (by omega) (by omega)
      rw [w64 (by omega) (by omega)] at h
      rw [w64 (by omega) (by omega)]
      have e1 : decide (reach + 1 < 1) = false := by simp; omega
      have e2 : decide (reach + 1 > 524288) = false := by simp; omega
      rw [e1, e2]
      dsimp only
      rw [decide_eq_true_eq]
      have e3 : (reach + 1) * (reach + 1) = reach * reach + 2 * reach + 1 := by grind
      omega

theorem insN_more {R : Int × Bool} {reach dS dE c1 c2 d : Int} (hR : R.1 ≤ 262144 ∧ 0 ≤ R.1) (h : insN R reach dS dE c1 c2 d = true) (hr : reach + 1 < R.1) :
    insN R (reach + 1) dS dE c1 c2 d = true := by
  unfold insN at *
  cases r2 : R.2
  · rw [r2] at h; cases h
  · rw [r2] at h
    dsimp only at h ⊢
    split at h
    · cases h
    · rename_i g1
      split at h
      · cases h
      · rename_i g2
        simp only [decide_eq_false_iff_not] at g1 g2
        have e1 : decide (reach + 1 < 1) = false := by simp; omega
        have e2 : decide (reach + 1 ≥ R.1) = false := by simp; omega
        rw [e1, e2]
        dsimp only
        split at h
        · rename_i g3
          rw [discB_more g3 (by omega)]
        · split
          · rfl
          · split at h
            · rename_i g3
              rw [discB_more g3 (by omega)]
            · split
              · rfl
              · split at h
                · cases h
                · split at h
                  · cases h
                  · split at h
                    · rename_i g7
                      simp only [decide_eq_true_eq] at h g7
                      have a1 : IntKind.i64.wrap (R.1 + reach) = R.1 + reach := w64 (by omega) (by omega)
                      have a2 : IntKind.i64.wrap (R.1 - reach) = R.1 - reach := w64 (by omega) (by omega)
                      have a3 : IntKind.i64.wrap (R.1 + (reach + 1)) = R.1 + (reach + 1) := w64 (by omega) (by omega)
                      have a4 : IntKind.i64.wrap (R.1 - (reach + 1)) = R.1 - (reach + 1) := w64 (by omega) (by omega)
                      have b1 := mul_bd (x := R.1 + reach) (y := R.1 + reach) (p := 1000000) (q := 1000000) (by omega) (by omega) (by omega) (by omega)
                      have b2 := mul_bd (x := R.1 - reach) (y := R.1 - reach) (p := 1000000) (q := 1000000) (by omega) (by omega) (by omega) (by omega)
                      have b3 := mul_bd (x := R.1 + (reach + 1)) (y := R.1 + (reach + 1)) (p := 1000000) (q := 1000000) (by omega) (by omega) (by omega) (by omega)
                      have b4 := mul_bd (x := R.1 - (reach + 1)) (y := R.1 - (reach + 1)) (p := 1000000) (q := 1000000) (by omega) (by omega) (by omega) (by omega)
                      rw [a1, w64 (by omega) (by omega)] at g7
                      rw [a2, w64 (by omega) (by omega)] at h
                      rw [a3, a4, w64 (by omega) (by omega), w64 (by omega) (by omega)]
                      have c1 : (R.1 + (reach + 1)) * (R.1 + (reach + 1)) = (R.1 + reach) * (R.1 + reach) + 2 * (R.1 + reach) + 1 := by grind
                      have c2 : (R.1 - (reach + 1)) * (R.1 - (reach + 1)) = (R.1 - reach) * (R.1 - reach) - 2 * (R.1 - reach) + 1 := by grind
                      have d1 : decide (d < (R.1 + (reach + 1)) * (R.1 + (reach + 1))) = true := by rw [decide_eq_true_eq]; omega
                      rw [d1]
                      dsimp only
                      rw [decide_eq_true_eq]
                      omega
                    · cases h
end

theorem arcMirror_true (px py : Int) (nm : ByteArray) (lv cx cy sx sy ex ey rs gr mi sw reach : Int) (hr : -9223372036854775808 ≤ reach ∧ reach ≤ 9223372036854775807) :
    arcMirror px py nm lv cx cy sx sy ex ey rs gr mi sw reach = true := by
  unfold arcMirror
  cases c1 : near12 cx cy
  · rfl
  cases c2 : near12 sx sy
  · rfl
  cases c3 : near12 ex ey
  · rfl
  cases c4 : near12 px py
  · rfl
  have hc := near12_yes c1
  have hs := near12_yes c2
  have he := near12_yes c3
  have hp := near12_yes c4
  unfold mirrored12
  rw [flip12_eq (hc.mono (by decide)), flip12_eq (hs.mono (by decide)), flip12_eq (he.mono (by decide)), flip12_eq (hp.mono (by decide)), flip12_eq (normal_in hp hc hs he)]
  dsimp only
  rw [radius_flip hc hs he, sector_flip hp hc hs he, normal_flip hp hc hs he, inside_flip hp hc hs he]
  simp only [bne_self_eq_false, beq_self_eq_true, Bool.and_self]
  split
  · rename_i h
    split
    · rfl
    · rename_i h2
      rw [radius_eq hc hs he] at h2
      rw [inside_eq hp hc hs he, radius_eq hc hs he] at h ⊢
      have hR := radN_le ((sx - cx) * (sx - cx) + (sy - cy) * (sy - cy)) ((ex - cx) * (ex - cx) + (ey - cy) * (ey - cy)) ((sx - cx) * (ey - cy) - (sy - cy) * (ex - cx))
      have hlt : reach < 9223372036854775807 := by
        by_cases g : reach < 9223372036854775807
        · exact g
        · exfalso
          unfold insN at h
          have e2 (x : Int) (hx : x ≤ 262144) : decide (reach ≥ x) = true := by simp; omega
          rw [e2 _ hR.1] at h
          revert h
          cases (radN ((sx - cx) * (sx - cx) + (sy - cy) * (sy - cy)) ((ex - cx) * (ex - cx) + (ey - cy) * (ey - cy)) ((sx - cx) * (ey - cy) - (sy - cy) * (ex - cx))).2 <;> cases decide (reach < 1) <;> intro h <;> cases h
      rw [w64 (by omega) (by omega)] at h2 ⊢
      simp only [decide_eq_false_iff_not] at h2
      exact insN_more hR h (by omega)
  · rfl
end Go.Proofs.Ythakfjlnhldehaa
