/- The packages wide and algebra: shifts to the left, signs at dyadic numbers, what they are. -/
import Derived.Test.YthnnfemologhfaaShlA
import Derived.Test.YthnnfemologhfaaPolA
namespace Go.Proofs.Ythnnfemologhfaa
open Go.Ai
set_option maxRecDepth 100000

theorem Try.loop124 {na : Bool} {xs : List Int} {z : Rn} {w s : Nat} (hx : U32 xs) (hs : s < 32) (hN : w + xs.length < 1048576) : ∀ (r i : Nat) (os : List Int), i + r = xs.length → os.length = w + xs.length + 1 → U32 os → valL os = 4294967296 ^ w * (2 ^ s * valL (xs.take i)) → os.getD (i + w) 0 < 2 ^ s → (∀ t, i + w < t → os.getD t 0 = 0) →
    ∃ os', RunsW Try.ir (.loop Try.c124) (Try.s124 na xs (w : Nat) (s : Nat) (w + xs.length + 1) os (xs.length : Nat) (i : Nat) z) (.exit 0) (Try.s124 na xs (w : Nat) (s : Nat) (w + xs.length + 1) os' (xs.length : Nat) (xs.length : Nat) z) ∧ os'.length = w + xs.length + 1 ∧ U32 os' ∧ valL os' = 4294967296 ^ w * (2 ^ s * valL xs) := by
  intro r
  induction r with
  | zero =>
    intro i os hi hl hu hv _ _
    have : i = xs.length := by omega
    subst this
    exact ⟨os, RunsW.loop_out (Try.k124_2 na xs _ _ _ os _ _ z (by simp)) (by intro e; cases e), hl, hu, by rw [hv, List.take_length]⟩
  | succ r ih =>
    intro i os hi hl hu hv hc hz
    have ei : IntKind.i64.wrap (((i : Nat) : Int) + 1) = ((i + 1 : Nat) : Int) := by rw [w64 (by omega) (by omega)]; omega
    have ew : IntKind.i64.wrap (((i : Nat) : Int) + ((w : Nat) : Int)) = ((i + w : Nat) : Int) := by rw [w64 (by omega) (by omega)]; omega
    have ew1 : IntKind.i64.wrap (((i + w : Nat) : Int) + 1) = ((i + w + 1 : Nat) : Int) := by rw [w64 (by omega) (by omega)]; omega
    have hxi := getD_u32 hx i
    have hoi := getD_u32 hu (i + w)
    obtain ⟨p0, p1, p2, q, q0, q1⟩ := shl_parts hxi hs
    have es : (2 : Int) ^ (min (Int.toNat ((s : Nat) : Int)) (IntKind.bits .u64)) = 2 ^ s := by
      rw [Int.toNat_natCast]
      congr 1
      show min s 64 = s
      omega
    have hk := Try.k124_1 na xs (w : Nat) (s : Nat) (w + xs.length + 1) os (xs.length : Nat) (i : Nat) z (by simp; omega) (by omega) (by omega) (by rw [ew]; omega) hl (by rw [ew, ew1]; omega) (by simpa using hl)
    rw [ei, ew, ew1, es, Int.toNat_natCast, Int.toNat_natCast, Int.toNat_natCast, wu64 (n := xs.getD i 0) (by omega), wu64 ⟨p0, p1⟩, fd32, wu32 (xs.getD i 0 * 2 ^ s), q1] at hk
    have hqs : q * 2 ^ s < 4294967296 := by rw [← q1]; omega
    rw [or32 q0 hqs (by omega) ⟨hoi.1, hc⟩] at hk
    have hhi : 0 ≤ xs.getD i 0 * 2 ^ s / 4294967296 := by omega
    have hp2 : (2 : Int) ^ s ≤ 4294967296 := by have := pow2_le (show s ≤ 32 by omega); rwa [show (2 : Int) ^ 32 = 4294967296 by decide] at this
    rw [w32 ⟨hhi, by omega⟩] at hk
    have hsum : 0 ≤ q * 2 ^ s + os.getD (i + w) 0 ∧ q * 2 ^ s + os.getD (i + w) 0 < 4294967296 := by
      have hq2 : 0 ≤ q * 2 ^ s := by rw [← q1]; omega
      refine ⟨by omega, ?_⟩
      have e := p32s (show s ≤ 32 by omega)
      rw [e] at hqs ⊢
      have hp := pow2_pos s
      have := Int.lt_of_mul_lt_mul_right hqs (by omega)
      have := Int.mul_le_mul_of_nonneg_right (show q + 1 ≤ 2 ^ (32 - s) by omega) (show (0 : Int) ≤ 2 ^ s by omega)
      rw [Int.add_mul, Int.one_mul] at this
      omega
    obtain ⟨os', g1, g2, g3, g4⟩ := ih (i + 1) ((os.set (i + w) (q * 2 ^ s + os.getD (i + w) 0)).set (i + w + 1) (xs.getD i 0 * 2 ^ s / 4294967296)) (by omega) (by simpa using hl) (u32_set (u32_set hu hsum) ⟨hhi, by omega⟩) (by
        rw [valL_set _ _ _ (by simp; omega), valL_set _ _ _ (by omega), getD_other (by omega), hz (i + w + 1) (by omega), hv, take_succ_val xs i (by omega), Int.pow_succ, Int.pow_add]
        have e3 : xs.getD i 0 * 2 ^ s = 4294967296 * (xs.getD i 0 * 2 ^ s / 4294967296) + q * 2 ^ s := by omega
        generalize (4294967296 : Int) ^ i = P at *
        generalize (4294967296 : Int) ^ w = V at *
        generalize xs.getD i 0 * 2 ^ s / 4294967296 = H at *
        generalize os.getD (i + w) 0 = o at *
        generalize q * 2 ^ s = Q at *
        have e4 : (2 : Int) ^ s * (valL (xs.take i) + P * xs.getD i 0) = 2 ^ s * valL (xs.take i) + P * (xs.getD i 0 * 2 ^ s) := by grind
        rw [e4, e3]
        grind) (by
        rw [show i + 1 + w = i + w + 1 by omega, show ((os.set (i + w) (q * 2 ^ s + os.getD (i + w) 0)).set (i + w + 1) (xs.getD i 0 * 2 ^ s / 4294967296)).getD (i + w + 1) 0 = xs.getD i 0 * 2 ^ s / 4294967296 by simp [List.getD_eq_getElem?_getD, show i + w + 1 < os.length by omega]]
        exact p2) (fun t ht => by rw [getD_other (by omega), getD_other (by omega)]; exact hz t (by omega))
    exact ⟨os', RunsW.loop hk g1, g2, g3, g4⟩
theorem wshl_run {neg : Bool} {xs : List Int} (hu : U32 xs) (n : Nat) (hn : n ≤ 9223372036854775807) (hN : n / 32 + xs.length + 1 ≤ 1048576) : Runs Try.ir 124 [.agg [.bool neg, .sl xs.length (lm xs)], .int .i64 (n : Nat)] (bigAV (rv neg xs * 2 ^ n)) := by
  have l1 := rv_len (neg := neg) hu
  have r1 := limbs_run (neg := neg) hu (by omega)
  generalize rv neg xs = a at *
  by_cases h0 : (limbs a.natAbs).length = 0
  · have h := Try.run124_1 neg _ xs (limbs a.natAbs) (n : Nat) (by rw [h0]; rfl) r1
    have ha : a = 0 := by have := (limbs_zero_len a.natAbs).1 h0; omega
    rw [ha, Int.zero_mul]
    exact h
  · have e1 : IntKind.i64.wrap (Int.tdiv ((n : Nat) : Int) 32) = ((n / 32 : Nat) : Int) := by
      rw [Int.tdiv_eq_ediv_of_nonneg (by omega), w64 (by omega) (by omega)]; omega
    have e2 : IntKind.u64.wrap (Int.tmod ((n : Nat) : Int) 32) = ((n % 32 : Nat) : Int) := by
      rw [Int.tmod_eq_emod_of_nonneg (by omega), wu64 (by omega)]; omega
    have e3 : IntKind.i64.wrap ((((limbs a.natAbs).length : Nat) : Int) + ((n / 32 : Nat) : Int)) = ((n / 32 + (limbs a.natAbs).length : Nat) : Int) := by rw [w64 (by omega) (by omega)]; omega
    have e4 : IntKind.i64.wrap (((n / 32 + (limbs a.natAbs).length : Nat) : Int) + 1) = ((n / 32 + (limbs a.natAbs).length + 1 : Nat) : Int) := by rw [w64 (by omega) (by omega)]; omega
    have hs : n % 32 < 32 := Nat.mod_lt _ (by decide)
    obtain ⟨os, g1, g2, g3, g4⟩ := Try.loop124 (na := decide (a < 0)) (xs := limbs a.natAbs) (z := z0) (w := n / 32) (big_u32 a.natAbs) hs (by omega) (limbs a.natAbs).length 0 (List.replicate (n / 32 + (limbs a.natAbs).length + 1) 0) (by omega) (by simp) (u32_zeros _) (by rw [valL_zeros]; simp [valL]) (by rw [getD_zeros]; exact pow2_pos _) (fun t _ => getD_zeros _ _)
    have hm := made_run (neg := decide (a < 0)) g3 (by omega)
    have hv : rv (decide (a < 0)) os = a * 2 ^ n := by
      rw [rv_scale (xs := limbs a.natAbs) (t := 2 ^ n) (by rw [g4, pow2_split n]; grind), rv_big]
    rw [hv, g2] at hm
    exact Try.run124_2 neg _ xs (limbs a.natAbs) os (n : Nat) _ _ _ _ _ _ _ (by rw [beq_eq_false_iff_ne]; omega) r1 (by rw [e1, e3, e4]; omega) (by rw [e1, e2, e3, e4, Int.toNat_natCast, repl_lim]; exact g1) hm

/-! SignAt -/
theorem Try.loop78 {K X : Nat} {ts : List Rn} {r : Rn} (ht : ∀ t ∈ ts, Good K t) (hr : Good X r) (e : Nat) (hS : K + 2 + (ts.length + 1) * (X + (e / 32 + 1) + 1) ≤ 1048576) (he : e ≤ 1073741824) :
    ∀ n (w : Rn), n ≤ ts.length → rval w = hv ((vals ts).drop n) (rval r) (2 ^ e) → Good (K + 1 + (ts.length - n) * (X + (e / 32 + 1) + 1)) w → 
    ∃ w' s', rval w' = hv (vals ts) (rval r) (2 ^ e) ∧ Good (K + 1 + ts.length * (X + (e / 32 + 1) + 1)) w' ∧ RunsW Try.ir (.loop Try.c78) (Try.s78 ts r (e : Nat) w (((n : Nat) : Int) - 1) ((e * (ts.length - n) : Nat) : Int)) (.exit 0) (Try.s78 ts r (e : Nat) w' (-1) s') := by
  have hle : ts.length ≤ 1048576 := by
    have : ts.length * 1 ≤ (ts.length + 1) * (X + (e / 32 + 1) + 1) := Nat.mul_le_mul (by omega) (by omega)
    omega
  intro n
  induction n with
  | zero =>
    intro w _ hw gw
    exact ⟨w, _, by simpa using hw, gw, RunsW.loop_out (Try.k78_2 ts r (e : Nat) w (((0 : Nat) : Int) - 1) _ (by simp)) (by intro e; cases e)⟩
  | succ n ih =>
    intro w hn hw gw
    obtain ⟨t1, t2⟩ := good_getD ht n
    have e0 : ((n + 1 : Nat) : Int) - 1 = ((n : Nat) : Int) := by omega
    have hK1 : (ts.length - (n + 1)) * (X + (e / 32 + 1) + 1) + (X + (e / 32 + 1) + 1) = (ts.length - n) * (X + (e / 32 + 1) + 1) := by
      rw [show ts.length - n = ts.length - (n + 1) + 1 by omega, Nat.add_mul, Nat.one_mul]
    have hK2 : (ts.length - n) * (X + (e / 32 + 1) + 1) ≤ (ts.length + 1) * (X + (e / 32 + 1) + 1) := Nat.mul_le_mul_right _ (by omega)
    have hsh : e * (ts.length - (n + 1)) / 32 ≤ (ts.length - (n + 1)) * (X + (e / 32 + 1) + 1) := by
      have h3 : e ≤ 32 * (e / 32 + 1) := by omega
      have h4 : e * (ts.length - (n + 1)) ≤ 32 * ((ts.length - (n + 1)) * (e / 32 + 1)) := by
        calc e * (ts.length - (n + 1)) ≤ (32 * (e / 32 + 1)) * (ts.length - (n + 1)) := Nat.mul_le_mul_right _ h3
          _ = 32 * ((ts.length - (n + 1)) * (e / 32 + 1)) := by rw [Nat.mul_assoc, Nat.mul_comm (e / 32 + 1)]
      have h5 : (ts.length - (n + 1)) * (e / 32 + 1) ≤ (ts.length - (n + 1)) * (X + (e / 32 + 1) + 1) := Nat.mul_le_mul_left _ (by omega)
      omega
    have hb1 : e * (ts.length - (n + 1)) ≤ 1073741824 * 1048576 := Nat.mul_le_mul he (by omega)
    have hb2 : e * (ts.length - n) ≤ 1073741824 * 1048576 := Nat.mul_le_mul he (by omega)
    have w1 : IntKind.i64.wrap (((e * (ts.length - (n + 1)) : Nat) : Int) + ((e : Nat) : Int)) = ((e * (ts.length - n) : Nat) : Int) := by
      have : e * (ts.length - n) = e * (ts.length - (n + 1)) + e := by rw [show ts.length - n = ts.length - (n + 1) + 1 by omega, Nat.mul_succ]
      rw [w64 (by omega) (by omega)]; omega
    have w2 : IntKind.i64.wrap (((n : Nat) : Int) - 1) = ((n : Nat) : Int) - 1 := w64 (by omega) (by omega)
    have hst : hv ((vals ts).drop n) (rval r) (2 ^ e) = rval w * rval r + rval (ts.getD n z0) * 2 ^ (e * (ts.length - (n + 1))) := by
      have h1 : (vals ts).drop n = (vals ts).getD n 0 :: (vals ts).drop (n + 1) := by
        rw [List.drop_eq_getElem_cons (by rw [vals_length]; omega)]
        congr 1
        rw [List.getD_eq_getElem?_getD, List.getElem?_eq_getElem (by rw [vals_length]; omega)]; rfl
      rw [h1, hv, vals_getD, List.length_drop, vals_length, ← hw, ← Int.pow_mul]
      generalize rval (ts.getD n z0) * 2 ^ (e * (ts.length - (n + 1))) = A
      grind
    have fw := gw.fits
    have fp := (fw.mul hr.fits)
    have ft : Fits (K + (e * (ts.length - (n + 1)) / 32 + 1)) (rval (ts.getD n z0) * 2 ^ (e * (ts.length - (n + 1)))) := (good_getD ht n).fits.mul (hfits_pow _)
    have hgood : Good (K + 1 + (ts.length - n) * (X + (e / 32 + 1) + 1)) (cn (rval w * rval r + rval (ts.getD n z0) * 2 ^ (e * (ts.length - (n + 1))))) := by
      refine (good_cn ((fp.mono (k := K + 1 + (ts.length - (n + 1)) * (X + (e / 32 + 1) + 1) + X + (e / 32 + 1)) (by omega)).add (ft.mono (by omega)))).mono (by omega)
    obtain ⟨w', s', q1, q2, q3⟩ := ih (cn (rval w * rval r + rval (ts.getD n z0) * 2 ^ (e * (ts.length - (n + 1))))) (by omega) (by rw [rval_cn, hst]) hgood
    refine ⟨w', s', q1, q2, ?_⟩
    rw [e0]
    have l1 := fp.len
    have l2 := ft.len
    obtain ⟨gw1, gw2⟩ := gw
    have k := Try.k78_1 ts r (e : Nat) w (n : Nat) ((e * (ts.length - (n + 1)) : Nat) : Int) (rval (ts.getD n z0) * 2 ^ (e * (ts.length - (n + 1)))) (by simp) (by omega)
      (wmul_run gw1 hr.1 (by have := hr.2; omega))
      (by rw [Int.toNat_natCast]; exact wshl_run t1 _ (by omega) (by omega))
      (by
        have := wadd_run (na := decide (rval w * rval r < 0)) (nb := decide (rval (ts.getD n z0) * 2 ^ (e * (ts.length - (n + 1))) < 0)) (big_u32 (rval w * rval r).natAbs) (big_u32 (rval (ts.getD n z0) * 2 ^ (e * (ts.length - (n + 1)))).natAbs) (by omega) (by omega)
        rw [rv_big, rv_big] at this
        exact this)
    rw [w1, w2] at k
    exact RunsW.loop k q3
theorem asignAt_run {K X : Nat} {rs : List Rn} {r : Rn} (ht : ∀ t ∈ rs, Good K t) (hr : Good X r) (e : Nat) (hS : K + 2 + (rs.length + 1) * (X + (e / 32 + 1) + 1) ≤ 1048576) (he : e ≤ 1073741824) :
    Runs Try.ir 78 [.sl rs.length (pc rs), .agg [.bool r.1, .sl r.2.length (lm r.2), .int .i64 (e : Nat)]] (.int .i64 (sgnI (hv (vals rs) (rval r) (2 ^ e)))) := by
  have hle : rs.length ≤ 1048576 := by
    have : rs.length * 1 ≤ (rs.length + 1) * (X + (e / 32 + 1) + 1) := Nat.mul_le_mul (by omega) (by omega)
    omega
  obtain ⟨w', s', q1, q2, q3⟩ := Try.loop78 ht hr e hS he rs.length z0 (Nat.le_refl _) (by rw [← vals_length, List.drop_length]; rfl) (good_z0 _)
  rw [Nat.sub_self, Nat.mul_zero] at q3
  have hK2 : rs.length * (X + (e / 32 + 1) + 1) ≤ (rs.length + 1) * (X + (e / 32 + 1) + 1) := Nat.mul_le_mul_right _ (by omega)
  have hs := wsign_run (neg := w'.1) q2.1 (by have := q2.2; omega)
  rw [show rv w'.1 w'.2 = rval w' from rfl, q1] at hs
  have e1 : IntKind.i64.wrap (((rs.length : Nat) : Int) - 1) = ((rs.length : Nat) : Int) - 1 := w64 (by omega) (by omega)
  exact Try.run78 rs r w' (e : Nat) (-1) s' _ (by rw [e1]; exact q3) hs

def TSB : Table := TSA
theorem TSB_holds : THolds Try.ir TSB := TSA_holds
end Go.Proofs.Ythnnfemologhfaa
