/- Sizes and signs of polynomials, what they are. -/
import Derived.Test.YthnnfemologhfaaSgnA
namespace Go.Proofs.Ythnnfemologhfaa
open Go.Ai
set_option maxRecDepth 100000

theorem pc_slice (rs : List Rn) (h : Nat) : List.take ((h - 0) * 2) (List.drop (0 * 2) (pc rs)) = pc (rs.take h) := by
  rw [Nat.zero_mul, List.drop_zero, Nat.sub_zero, pc_take]
theorem vals_take (rs : List Rn) (h : Nat) : vals (rs.take h) = (vals rs).take h := by simp [vals, List.map_take]
theorem trim_vals (rs : List Rn) : vals (rs.take (topN (vals rs) rs.length)) = trimL (vals rs) := by rw [vals_take, trimL, vals_length]

/-! Sizes -/
def bigC (x : Int) : Bool := decide (256 < (limbs x.natAbs).length)
def largeV (p : List Int) : Bool := decide (17 < (trimL p).length) || (trimL p).any bigC
theorem any_false {p : List Int} {f : Int → Bool} (h : p.any f = false) (i : Nat) (hi : i < p.length) : f (p.getD i 0) = false := by
  rw [List.any_eq_false] at h
  rw [List.getD_eq_getElem?_getD, List.getElem?_eq_getElem hi]
  simpa using h _ (List.getElem_mem hi)
theorem any_true {p : List Int} {f : Int → Bool} (h : p.any f = true) : ∃ i, i < p.length ∧ f (p.getD i 0) = true := by
  obtain ⟨x, hx, hf⟩ := List.any_eq_true.1 h
  obtain ⟨i, hi, rfl⟩ := List.mem_iff_getElem.1 hx
  refine ⟨i, hi, ?_⟩
  rw [List.getD_eq_getElem?_getD, List.getElem?_eq_getElem hi]
  simpa using hf
section
variable {rs : List Rn} {ps : List (List Rn)} {n k : Int}
theorem Try.loop61i (hg : ∀ r ∈ rs, Good 1048576 r) (hN : rs.length ≤ 1048576) :
    (largeV (vals rs) = false → (trimL (vals rs)).length ≤ 17 → RunsW Try.ir (.loop Try.c61i) (Try.s61i false ps n k rs (((topN (vals rs) rs.length : Nat) : Int) - 1) 0) (.exit 2) (Try.s61i false ps n k rs (((topN (vals rs) rs.length : Nat) : Int) - 1) (topN (vals rs) rs.length : Nat))) ∧
    (largeV (vals rs) = true → (trimL (vals rs)).length ≤ 17 → ∃ j : Nat, RunsW Try.ir (.loop Try.c61i) (Try.s61i false ps n k rs (((topN (vals rs) rs.length : Nat) : Int) - 1) 0) .ret (Try.s61i true ps n k rs (((topN (vals rs) rs.length : Nat) : Int) - 1) (j : Nat))) := by
  have hle := topN_le (vals rs) rs.length
  have hlen : (trimL (vals rs)).length = topN (vals rs) rs.length := by rw [trim_length, vals_length]
  have step : ∀ t : Nat, t < topN (vals rs) rs.length → bigC (rval (rs.getD t z0)) = false → RunsW Try.ir Try.c61i (Try.s61i false ps n k rs (((topN (vals rs) rs.length : Nat) : Int) - 1) (t : Nat)) .norm (Try.s61i false ps n k rs (((topN (vals rs) rs.length : Nat) : Int) - 1) ((t + 1 : Nat) : Int)) := by
    intro t ht hb
    have ei : IntKind.i64.wrap (((t : Nat) : Int) + 1) = ((t + 1 : Nat) : Int) := by rw [w64 (by omega) (by omega)]; omega
    obtain ⟨g1, g2⟩ := good_getD hg t
    have k2 := Try.k61i_2 false ps n k rs (((topN (vals rs) rs.length : Nat) : Int) - 1) (t : Nat) (((limbs (rval (rs.getD t z0)).natAbs).length : Nat) : Int) (by simp; omega) (by unfold bigC at hb; simp only [decide_eq_false_iff_not] at hb ⊢; omega) (by omega) (by rw [Int.toNat_natCast]; exact wsize_run g1 g2)
    rwa [ei] at k2
  refine ⟨fun hl _ => ?_, fun hl h17 => ?_⟩
  · unfold largeV at hl
    rw [Bool.or_eq_false_iff] at hl
    have h := RunsW.upTo (prog := Try.ir) (c := Try.c61i) (ex := .exit 2) (fun t => Try.s61i false ps n k rs (((topN (vals rs) rs.length : Nat) : Int) - 1) (t : Nat)) (topN (vals rs) rs.length) (by intro e; cases e) (Try.k61i_3 false ps n k rs _ _ (by simp; omega)) 0 (Nat.zero_le _) (fun t _ h2 => step t h2 (by
      have := any_false hl.2 t (by omega)
      rwa [getD_trim, vals_getD] at this))
    exact h
  · unfold largeV at hl
    rw [decide_eq_false (by omega), Bool.false_or] at hl
    obtain ⟨i, hi, hf⟩ := any_true hl
    rcases first_from (fun j => bigC (rval (rs.getD j z0))) (topN (vals rs) rs.length) _ 0 (by rw [Nat.zero_add]) with h | ⟨j, _, h2, h3, h4⟩
    · have := h i (by omega) (by omega)
      rw [getD_trim, vals_getD] at hf
      rw [hf] at this
      cases this
    · obtain ⟨g1, g2⟩ := good_getD hg j
      have k1 := Try.k61i_1 false ps n k rs (((topN (vals rs) rs.length : Nat) : Int) - 1) (j : Nat) (((limbs (rval (rs.getD j z0)).natAbs).length : Nat) : Int) (by simp; omega) (by unfold bigC at h3; simp only [decide_eq_true_eq] at h3 ⊢; omega) (by omega) (by rw [Int.toNat_natCast]; exact wsize_run g1 g2)
      exact ⟨j, RunsW.upTo (prog := Try.ir) (c := Try.c61i) (ex := .ret) (fun t => Try.s61i false ps n k rs (((topN (vals rs) rs.length : Nat) : Int) - 1) (t : Nat)) j (by intro e; cases e) k1 0 (Nat.zero_le _) (fun t _ h6 => step t (by omega) (h4 t (by omega) h6))⟩
end
theorem getD_mem {α : Type} {l : List (List α)} {i : Nat} (h : i < l.length) : l.getD i [] ∈ l := by
  rw [List.getD_eq_getElem?_getD, List.getElem?_eq_getElem h]; exact List.getElem_mem h
theorem plarge_run {ps : List (List Rn)} (hg : ∀ p ∈ ps, (∀ r ∈ p, Good 1048576 r) ∧ p.length ≤ 1048576) (hN : ps.length ≤ 1048576) : Runs Try.ir 61 [.sl ps.length (pp ps)] (.bool (ps.any fun p => largeV (vals p))) := by
  have hdeg : ∀ t, t < ps.length → Runs Try.ir 62 [.sl (ps.getD t []).length (pc (ps.getD t []))] (.int .i64 (((topN (vals (ps.getD t [])) (ps.getD t []).length : Nat) : Int) - 1)) := fun t ht => degree_run (hg _ (getD_mem ht)).1 (hg _ (getD_mem ht)).2
  have step : ∀ t : Nat, t < ps.length → largeV (vals (ps.getD t [])) = false → RunsW Try.ir Try.c61 (Try.s61 false ps (ps.length : Nat) (t : Nat)) .norm (Try.s61 false ps (ps.length : Nat) ((t + 1 : Nat) : Int)) := by
    intro t ht hl
    have ei : IntKind.i64.wrap (((t : Nat) : Int) + 1) = ((t + 1 : Nat) : Int) := by rw [w64 (by omega) (by omega)]; omega
    obtain ⟨g1, g2⟩ := hg _ (getD_mem ht)
    have hlen : (trimL (vals (ps.getD t []))).length = topN (vals (ps.getD t [])) (ps.getD t []).length := by rw [trim_length, vals_length]
    have h17 : (trimL (vals (ps.getD t []))).length ≤ 17 := by
      unfold largeV at hl
      rw [Bool.or_eq_false_iff, decide_eq_false_iff_not] at hl
      omega
    have k2 := Try.k61_2 false ps (ps.length : Nat) (t : Nat) (((topN (vals (ps.getD t [])) (ps.getD t []).length : Nat) : Int) - 1) _ (by simp; omega) (by rw [decide_eq_false_iff_not]; omega) (by omega) (by rw [Int.toNat_natCast]; exact hdeg t ht) (by rw [Int.toNat_natCast]; exact (Try.loop61i g1 g2).1 hl h17)
    rwa [ei] at k2
  rcases first_from (fun j => largeV (vals (ps.getD j []))) ps.length _ 0 (by rw [Nat.zero_add]) with h | ⟨j, _, h2, h3, h4⟩
  · have hany : (ps.any fun p => largeV (vals p)) = false := by
      rw [List.any_eq_false]
      intro p hp
      obtain ⟨i, hi, rfl⟩ := List.mem_iff_getElem.1 hp
      have := h i (by omega) hi
      rw [List.getD_eq_getElem?_getD, List.getElem?_eq_getElem hi] at this
      simpa using this
    rw [hany]
    exact Try.run61_n ps _ _ (RunsW.upTo (prog := Try.ir) (c := Try.c61) (ex := .exit 0) (fun t => Try.s61 false ps (ps.length : Nat) (t : Nat)) ps.length (by intro e; cases e) (Try.k61_3 false ps _ _ (by simp)) 0 (Nat.zero_le _) (fun t _ h6 => step t h6 (h t (by omega) h6)))
  · have hany : (ps.any fun p => largeV (vals p)) = true := by
      rw [List.any_eq_true]
      exact ⟨_, getD_mem h2, h3⟩
    rw [hany]
    obtain ⟨g1, g2⟩ := hg _ (getD_mem h2)
    have hlen : (trimL (vals (ps.getD j []))).length = topN (vals (ps.getD j [])) (ps.getD j []).length := by rw [trim_length, vals_length]
    have out : RunsW Try.ir Try.c61 (Try.s61 false ps (ps.length : Nat) (j : Nat)) .ret (Try.s61 true ps (ps.length : Nat) (j : Nat)) := by
      by_cases h17 : (trimL (vals (ps.getD j []))).length ≤ 17
      · obtain ⟨i, hi⟩ := (Try.loop61i (ps := ps) (n := (ps.length : Nat)) (k := (j : Nat)) g1 g2).2 h3 h17
        exact Try.k61y_2 false ps (ps.length : Nat) (j : Nat) (((topN (vals (ps.getD j [])) (ps.getD j []).length : Nat) : Int) - 1) _ (by simp; omega) (by rw [decide_eq_false_iff_not]; omega) (by omega) (by rw [Int.toNat_natCast]; exact hdeg j h2) (by rw [Int.toNat_natCast]; exact hi)
      · exact Try.k61_1 false ps (ps.length : Nat) (j : Nat) (((topN (vals (ps.getD j [])) (ps.getD j []).length : Nat) : Int) - 1) (by simp; omega) (by rw [decide_eq_true_eq]; omega) (by omega) (by rw [Int.toNat_natCast]; exact hdeg j h2)
    exact Try.run61_y ps _ _ (RunsW.upTo (prog := Try.ir) (c := Try.c61) (ex := .ret) (fun t => Try.s61 false ps (ps.length : Nat) (t : Nat)) j (by intro e; cases e) out 0 (Nat.zero_le _) (fun t _ h6 => step t (by omega) (h4 t (by omega) h6)))
theorem plarge1_run {rs : List Rn} (hg : ∀ r ∈ rs, Good 1048576 r) (hN : rs.length ≤ 1048576) : Runs Try.ir 61 [.sl 1 [.sl rs.length (pc rs)]] (.bool (largeV (vals rs))) := by
  have h := plarge_run (ps := [rs]) (fun p hp => by rw [List.mem_singleton.1 hp]; exact ⟨hg, hN⟩) (by simp)
  simpa [pp] using h
theorem trimL_limbs2 {xs : List Int} (hu : U32 xs) (neg : Bool) : decide (256 < (trimL xs).length) = bigC (rv neg xs) := by
  unfold bigC
  rw [trimL_rv (neg := neg) hu]
theorem r2large_run {rs : List Rn} (hg : ∀ r ∈ rs, Good 1048576 r) (hN : rs.length ≤ 1048576) : Runs Try.ir 67 [.sl rs.length (pc rs)] (.bool (largeV (vals rs))) := by
  have htr := qtrim_run hg hN
  have hl := trim_len (vals rs)
  rw [vals_length] at hl
  have hf : ∀ x ∈ trimL (vals rs), Fits 1048576 x := fits_mem_trim (fits_vals hg)
  have gts := good_cns hf
  have hvs := vals_cn (trimL (vals rs))
  have hpk : pk (trimL (vals rs)) = pc ((trimL (vals rs)).map cn) := rfl
  rw [hpk, ← List.length_map (f := cn)] at htr
  have hlm : ((trimL (vals rs)).map cn).length = (trimL (vals rs)).length := List.length_map ..
  have hgd : ∀ t, rval (((trimL (vals rs)).map cn).getD t z0) = (trimL (vals rs)).getD t 0 := fun t => by rw [← vals_getD, hvs]
  generalize (trimL (vals rs)).map cn = ts at *
  have e1 : IntKind.i64.wrap (((ts.length : Nat) : Int) - 1) = ((ts.length : Nat) : Int) - 1 := w64 (by omega) (by omega)
  have hcall : ∀ t, Runs Try.ir 79 [.agg [.bool (ts.getD t z0).1, .sl (ts.getD t z0).2.length (lm (ts.getD t z0).2)]] (.bool (bigC ((trimL (vals rs)).getD t 0))) := fun t => by
    obtain ⟨g1, g2⟩ := good_getD gts t
    have h := rlarge_run (neg := (ts.getD t z0).1) (xs := (ts.getD t z0).2) g2
    rw [trimL_limbs2 g1 (ts.getD t z0).1, show rv (ts.getD t z0).1 (ts.getD t z0).2 = rval (ts.getD t z0) from rfl, hgd] at h
    exact h
  have step : ∀ t : Nat, t < ts.length → bigC ((trimL (vals rs)).getD t 0) = false → RunsW Try.ir Try.c67 (Try.s67 false ts (t : Nat)) .norm (Try.s67 false ts ((t + 1 : Nat) : Int)) := by
    intro t ht hb
    have ei : IntKind.i64.wrap (((t : Nat) : Int) + 1) = ((t + 1 : Nat) : Int) := by rw [w64 (by omega) (by omega)]; omega
    have hc := hcall t
    rw [hb] at hc
    have k2 := Try.k67_2 false ts (t : Nat) false (by simp; omega) rfl (by omega) (by rw [Int.toNat_natCast]; exact hc)
    rwa [ei] at k2
  by_cases h17 : (trimL (vals rs)).length ≤ 17
  · have c1 : decide (IntKind.i64.wrap (((ts.length : Nat) : Int) - 1) > 16) = false := by rw [e1, decide_eq_false_iff_not]; omega
    rcases first_from (fun j => bigC ((trimL (vals rs)).getD j 0)) ts.length _ 0 (by rw [Nat.zero_add]) with h | ⟨j, _, h2, h3, h4⟩
    · have hf : largeV (vals rs) = false := by
        unfold largeV
        rw [decide_eq_false (by omega), Bool.false_or, List.any_eq_false]
        intro x hx
        obtain ⟨i, hi, rfl⟩ := List.mem_iff_getElem.1 hx
        have := h i (by omega) (by omega)
        rw [List.getD_eq_getElem?_getD, List.getElem?_eq_getElem hi] at this
        simpa using this
      rw [hf]
      exact Try.run67_n_2 rs ts _ c1 htr (RunsW.upTo (prog := Try.ir) (c := Try.c67) (ex := .exit 0) (fun t => Try.s67 false ts (t : Nat)) ts.length (by intro e; cases e) (Try.k67_3 false ts _ (by simp)) 0 (Nat.zero_le _) (fun t _ h6 => step t h6 (h t (by omega) h6)))
    · have hf : largeV (vals rs) = true := by
        unfold largeV
        rw [decide_eq_false (by omega), Bool.false_or, List.any_eq_true]
        refine ⟨(trimL (vals rs)).getD j 0, ?_, h3⟩
        rw [List.getD_eq_getElem?_getD, List.getElem?_eq_getElem (by omega)]
        exact List.getElem_mem _
      rw [hf]
      have hc := hcall j
      rw [h3] at hc
      have out := Try.k67_1 false ts (j : Nat) true (by simp; omega) rfl (by omega) (by rw [Int.toNat_natCast]; exact hc)
      exact Try.run67_y_2 rs ts _ c1 htr (RunsW.upTo (prog := Try.ir) (c := Try.c67) (ex := .ret) (fun t => Try.s67 false ts (t : Nat)) j (by intro e; cases e) out 0 (Nat.zero_le _) (fun t _ h6 => step t (by omega) (h4 t (by omega) h6)))
  · have hf : largeV (vals rs) = true := by unfold largeV; rw [decide_eq_true (by omega)]; rfl
    rw [hf]
    exact Try.run67_n_1 rs ts (by rw [e1, decide_eq_true_eq]; omega) htr
theorem r2degree_run {rs : List Rn} (hg : ∀ r ∈ rs, Good 1048576 r) (hN : rs.length ≤ 1048576) : Runs Try.ir 44 [.sl rs.length (pc rs)] (.int .i64 (((trimL (vals rs)).length : Nat) - 1 : Int)) := by
  have htr := qtrim_run hg hN
  have hl := trim_len (vals rs)
  rw [vals_length] at hl
  have hpk : pk (trimL (vals rs)) = pc ((trimL (vals rs)).map cn) := rfl
  rw [hpk, ← List.length_map (f := cn)] at htr
  have h := Try.run44 rs _ htr
  rw [w64 (by omega) (by rw [List.length_map]; omega), List.length_map] at h
  exact h

/-! Bits -/
theorem blen_half {x : Nat} (h : x ≠ 0) : blen x = blen (x / 2) + 1 := by
  unfold blen
  rw [if_neg h]
  by_cases h2 : x / 2 = 0
  · have : x = 1 := by omega
    subst this
    decide
  · rw [if_neg h2, log2_shift x 1 (by simpa using h2)]
theorem rbits_loop : ∀ (f x : Nat) (n : Nat), x ≤ f → x < 4294967296 → n + blen x ≤ 1073741824 → RunsW Try.ir (.loop Try.c80) (Try.s80 (n : Nat) (x : Nat)) (.exit 0) (Try.s80 ((n + blen x : Nat) : Int) 0) := by
  intro f
  induction f with
  | zero =>
    intro x n hx _ _
    have : x = 0 := by omega
    subst this
    exact RunsW.loop_out (Try.k80_2 _ _ (by simp)) (by intro e; cases e)
  | succ f ih =>
    intro x n hx hb hn
    by_cases h0 : x = 0
    · subst h0
      exact RunsW.loop_out (Try.k80_2 _ _ (by simp)) (by intro e; cases e)
    · have k := Try.k80_1 (n : Nat) (x : Nat) (by simp; omega)
      have e1 : Int.fdiv ((x : Nat) : Int) (2 ^ (min (Int.toNat 1) (IntKind.bits .u32))) = ((x / 2 : Nat) : Int) := shr32 x 1 (by omega)
      rw [e1, w64 (by omega) (by omega), show ((n : Nat) : Int) + 1 = ((n + 1 : Nat) : Int) by omega] at k
      have hbl := blen_half h0
      have h := ih (x / 2) (n + 1) (by omega) (by omega) (by omega)
      rw [show n + 1 + blen (x / 2) = n + blen x by omega] at h
      exact RunsW.loop k h
theorem rbits_run {neg : Bool} {xs : List Int} (hu : U32 xs) (hN : xs.length ≤ 1048576) : Runs Try.ir 80 [.agg [.bool neg, .sl xs.length (lm xs)]] (.int .i64 ((blen (rv neg xs).natAbs : Nat) : Int)) := by
  have hm := mag_run (xs := xs) hN
  rw [trimL_rv (neg := neg) hu] at hm
  have l1 := rv_len (neg := neg) hu
  generalize rv neg xs = a at *
  by_cases h0 : a.natAbs = 0
  · have h := Try.run80_1 neg xs _ (by rw [h0]; rfl) hm
    rw [show blen a.natAbs = 0 by unfold blen; rw [if_pos h0]]
    exact h
  · obtain ⟨t1, x, t2, t3, t4, t5⟩ := top_limb h0
    have e1 : IntKind.i64.wrap ((((limbs a.natAbs).length : Nat) : Int) - 1) = (((limbs a.natAbs).length - 1 : Nat) : Int) := by rw [w64 (by omega) (by omega)]; omega
    have hlog : Nat.log2 x < 32 := (Nat.log2_lt t3).2 t4
    have hbx : blen x = Nat.log2 x + 1 := by unfold blen; rw [if_neg t3]
    have e3 : IntKind.i64.wrap (32 * (((limbs a.natAbs).length - 1 : Nat) : Int)) = ((32 * ((limbs a.natAbs).length - 1) : Nat) : Int) := by rw [w64 (by omega) (by omega)]; omega
    have hl := rbits_loop x x (32 * ((limbs a.natAbs).length - 1)) (Nat.le_refl _) t4 (by omega)
    have h := Try.run80_2 neg xs (limbs a.natAbs) _ _ (by rw [beq_eq_false_iff_ne]; omega) hm (by rw [e1]; omega) (by rw [e1, Int.toNat_natCast, t2, e3]; exact hl)
    have e2 : blen a.natAbs = 32 * ((limbs a.natAbs).length - 1) + blen x := by
      rw [hbx]
      unfold blen
      rw [if_neg h0, log2_shift a.natAbs (32 * ((limbs a.natAbs).length - 1)) (by rw [t5]; exact t3), t5]
      omega
    rw [e2]
    exact h

/-! Signs -/
def signV (p : List Int) (n e : Int) : Int × Int :=
  if largeV p then (0, 2) else if bigC n then (0, 2) else if e < 0 then (0, 1) else if e > 4096 then (0, 1) else
  if 1 < (trimL p).length ∧ ((blen n.natAbs : Nat) + e) * (((trimL p).length : Nat) - 1 : Int) > 8192 then (0, 2) else (sgnI (hv (trimL p) n (2 ^ e.toNat)), 0)
theorem blen_lt {n : Nat} (K : Nat) (h : (limbs n).length ≤ K) : blen n ≤ 32 * K := by
  unfold blen
  split
  · omega
  · rename_i h0
    have h1 := valL_lt (big_u32 n)
    rw [limbs_val] at h1
    have h2 := Int.lt_of_lt_of_le h1 (pow32_mono h)
    rw [pow32_two] at h2
    have h3 : n < 2 ^ (32 * K) := by
      have e : (2 : Int) ^ (32 * K) = ((2 ^ (32 * K) : Nat) : Int) := by rw [Int.natCast_pow]; rfl
      rw [e] at h2; omega
    exact (Nat.log2_lt h0).2 h3
section
variable {K X : Nat} {rs : List Rn} {r : Rn} {e : Int}
theorem sign_sizes (hS : K + 2 + (rs.length + 1) * (X + 131) ≤ 1048576) (he : ¬ e < 0) (he2 : ¬ e > 4096) : K + 2 + (rs.length + 1) * (X + (e.toNat / 32 + 1) + 1) ≤ 1048576 := by
  have : (rs.length + 1) * (X + (e.toNat / 32 + 1) + 1) ≤ (rs.length + 1) * (X + 131) := Nat.mul_le_mul_left _ (by omega)
  omega
theorem sign_len (hS : K + 2 + (rs.length + 1) * (X + 131) ≤ 1048576) : rs.length ≤ 8004 ∧ X ≤ 1048576 := by
  have h1 : (rs.length + 1) * 131 ≤ (rs.length + 1) * (X + 131) := Nat.mul_le_mul_left _ (by omega)
  have h2 : 1 * (X + 131) ≤ (rs.length + 1) * (X + 131) := Nat.mul_le_mul_right _ (by omega)
  omega
theorem sign_cond (hl : (trimL (vals rs)).length ≤ 17) (hb : blen (rval r).natAbs ≤ 33554432) (he : 0 ≤ e ∧ e ≤ 4096) (h1 : 1 < (trimL (vals rs)).length) :
    IntKind.i64.wrap (IntKind.i64.wrap (((blen (rval r).natAbs : Nat) : Int) + e) * (((trimL (vals rs)).length : Nat) - 1 : Int)) = (((blen (rval r).natAbs : Nat) : Int) + e) * (((trimL (vals rs)).length : Nat) - 1 : Int) := by
  rw [w64 (n := ((blen (rval r).natAbs : Nat) : Int) + e) (by omega) (by omega)]
  have a := Int.mul_le_mul (show ((blen (rval r).natAbs : Nat) : Int) + e ≤ 33558528 by omega) (show (((trimL (vals rs)).length : Nat) - 1 : Int) ≤ 16 by omega) (by omega) (by omega)
  have b := Int.mul_nonneg (show 0 ≤ ((blen (rval r).natAbs : Nat) : Int) + e by omega) (show (0 : Int) ≤ (((trimL (vals rs)).length : Nat) - 1 : Int) by omega)
  exact w64 (by omega) (by omega)
theorem psign_run (ht : ∀ t ∈ rs, Good K t) (hr : Good X r) (hS : K + 2 + (rs.length + 1) * (X + 131) ≤ 1048576) :
    Runs Try.ir 29 [.sl rs.length (pc rs), .agg [.bool r.1, .sl r.2.length (lm r.2), .int .i64 e]] (.tup [.int .i64 (signV (vals rs) (rval r) e).1, .int .i64 (signV (vals rs) (rval r) e).2]) := by
  obtain ⟨hle, hXl⟩ := sign_len hS
  have hgK : ∀ r ∈ rs, Good 1048576 r := fun r h => (ht r h).mono (by omega)
  have hdeg := degree_run hgK (by omega)
  have hlg := plarge1_run hgK (by omega)
  have hsz := wsize_run (neg := r.1) hr.1 (by have := hr.2; omega)
  have hbt := wbits_run (neg := r.1) hr.1 (by have := hr.2; omega)
  have hlen : (trimL (vals rs)).length = topN (vals rs) rs.length := by rw [trim_length, vals_length]
  have htl := topN_le (vals rs) rs.length
  have erv : rv r.1 r.2 = rval r := rfl
  rw [erv] at hsz hbt
  have hbl : blen (rval r).natAbs ≤ 33554432 := by
    have := blen_lt X (show (limbs (rval r).natAbs).length ≤ X from hr.fits.len); omega
  unfold signV
  cases c1 : largeV (vals rs) with
  | true => rw [c1] at hlg; exact Try.run29_1 rs r e _ true rfl hdeg hlg
  | false =>
  rw [c1] at hlg
  have h17 : (trimL (vals rs)).length ≤ 17 := by
    unfold largeV at c1
    rw [Bool.or_eq_false_iff, decide_eq_false_iff_not] at c1
    omega
  cases c2 : bigC (rval r) with
  | true => exact Try.run29_2 rs r e _ _ false rfl (by unfold bigC at c2; rw [decide_eq_true_eq] at c2 ⊢; omega) hdeg hlg hsz
  | false =>
  have c2' : decide ((((limbs (rval r).natAbs).length : Nat) : Int) > 256) = false := by unfold bigC at c2; rw [decide_eq_false_iff_not] at c2 ⊢; omega
  by_cases c3 : e < 0
  · rw [if_pos c3]
    exact Try.run29_3 rs r e _ _ false rfl c2' (decide_eq_true c3) hdeg hlg hsz
  by_cases c4 : e > 4096
  · rw [if_neg c3, if_pos c4]
    exact Try.run29_4 rs r e _ _ false rfl c2' (decide_eq_false c3) (decide_eq_true c4) hdeg hlg hsz
  simp only [Bool.false_eq_true, if_false, if_neg c3, if_neg c4]
  have ew : IntKind.i64.wrap ((((topN (vals rs) rs.length : Nat) : Int) - 1) + 1) = ((topN (vals rs) rs.length : Nat) : Int) := by rw [w64 (by omega) (by omega)]; omega
  have hsa := asignAt_run (K := K) (X := X) (rs := rs.take (topN (vals rs) rs.length)) (r := r) (fun t h => ht t (List.mem_of_mem_take h)) hr e.toNat (by
    have h1 := sign_sizes hS c3 c4
    have h2 : ((rs.take (topN (vals rs) rs.length)).length + 1) * (X + (e.toNat / 32 + 1) + 1) ≤ (rs.length + 1) * (X + (e.toNat / 32 + 1) + 1) := Nat.mul_le_mul_right _ (by simp; omega)
    omega) (by omega)
  rw [trim_vals, show ((e.toNat : Nat) : Int) = e by omega, show (rs.take (topN (vals rs) rs.length)).length = topN (vals rs) rs.length by simp; omega] at hsa
  have n2 : 0 ≤ (Int.toNat (IntKind.i64.wrap ((((topN (vals rs) rs.length : Nat) : Int) - 1) + 1))) ∧ (Int.toNat (IntKind.i64.wrap ((((topN (vals rs) rs.length : Nat) : Int) - 1) + 1))) ≤ rs.length ∧ rs.length ≤ rs.length ∧ (false = true → true = true) := by
    rw [ew, Int.toNat_natCast]; exact ⟨Nat.zero_le _, htl, Nat.le_refl _, fun _ => rfl⟩
  by_cases c5 : 1 < (trimL (vals rs)).length
  · have hc := sign_cond (r := r) (e := e) h17 hbl ⟨by omega, by omega⟩ c5
    rw [hlen] at hc
    by_cases c6 : ((blen (rval r).natAbs : Nat) + e) * (((trimL (vals rs)).length : Nat) - 1 : Int) > 8192
    · rw [if_pos ⟨c5, c6⟩]
      exact Try.run29_5 rs r e _ _ _ false rfl c2' (decide_eq_false c3) (decide_eq_false c4) (by rw [decide_eq_true_eq]; omega) (by rw [hc, decide_eq_true_eq, ← hlen]; exact c6) hdeg hlg hsz hbt
    · rw [if_neg (fun h => c6 h.2)]
      exact Try.run29_6 rs r e _ _ _ _ false rfl c2' (decide_eq_false c3) (decide_eq_false c4) (by rw [decide_eq_true_eq]; omega) (by rw [hc, decide_eq_false_iff_not, ← hlen]; exact c6) (by rw [ew]; omega) n2 hdeg hlg hsz hbt (by rw [pc_slice, ew, Int.toNat_natCast, Nat.sub_zero]; exact hsa)
  · rw [if_neg (fun h => c5 h.1)]
    exact Try.run29_7 rs r e _ _ _ false rfl c2' (decide_eq_false c3) (decide_eq_false c4) (by rw [decide_eq_false_iff_not]; omega) (by rw [ew]; omega) n2 hdeg hlg hsz (by rw [pc_slice, ew, Int.toNat_natCast, Nat.sub_zero]; exact hsa)
theorem r2sign_run (ht : ∀ t ∈ rs, Good K t) (hr : Good X r) (hS : K + 2 + (rs.length + 1) * (X + 131) ≤ 1048576) :
    Runs Try.ir 30 [.sl rs.length (pc rs), .agg [.bool r.1, .sl r.2.length (lm r.2), .int .i64 e]] (.tup [.int .i64 (signV (vals rs) (rval r) e).1, .int .i64 (signV (vals rs) (rval r) e).2]) := by
  obtain ⟨hle, hXl⟩ := sign_len hS
  have hgK : ∀ r ∈ rs, Good 1048576 r := fun r h => (ht r h).mono (by omega)
  have hdeg := r2degree_run hgK (by omega)
  have hlg := r2large_run hgK (by omega)
  have hsz := rlarge_run (neg := r.1) (xs := r.2) (by have := hr.2; omega)
  rw [trimL_limbs2 hr.1 r.1, show rv r.1 r.2 = rval r from rfl] at hsz
  have hbt := rbits_run (neg := r.1) hr.1 (by have := hr.2; omega)
  rw [show rv r.1 r.2 = rval r from rfl] at hbt
  have hbl : blen (rval r).natAbs ≤ 33554432 := by
    have := blen_lt X (show (limbs (rval r).natAbs).length ≤ X from hr.fits.len); omega
  unfold signV
  cases c1 : largeV (vals rs) with
  | true => rw [c1] at hlg; exact Try.run30_1 rs r e true rfl hlg
  | false =>
  rw [c1] at hlg
  have h17 : (trimL (vals rs)).length ≤ 17 := by
    unfold largeV at c1
    rw [Bool.or_eq_false_iff, decide_eq_false_iff_not] at c1
    omega
  cases c2 : bigC (rval r) with
  | true => rw [c2] at hsz; exact Try.run30_2 rs r e false true rfl rfl hlg hsz
  | false =>
  rw [c2] at hsz
  by_cases c3 : e < 0
  · rw [if_pos c3]
    exact Try.run30_3 rs r e false false rfl rfl (decide_eq_true c3) hlg hsz
  by_cases c4 : e > 4096
  · rw [if_neg c3, if_pos c4]
    exact Try.run30_4 rs r e false false rfl rfl (decide_eq_false c3) (decide_eq_true c4) hlg hsz
  simp only [Bool.false_eq_true, if_false, if_neg c3, if_neg c4]
  have hq := qvalue_run ht hr e.toNat (sign_sizes hS c3 c4) (by omega)
  rw [show ((e.toNat : Nat) : Int) = e by omega] at hq
  have hf := hv_fits (K := K) hr.fits e.toNat (ts := trimL (vals rs)) (fits_mem_trim (fits_vals ht))
  have hl := trim_len (vals rs)
  rw [vals_length] at hl
  have hs1 := sign_sizes hS c3 c4
  have hs2 : (trimL (vals rs)).length * (X + (e.toNat / 32 + 1) + 1) ≤ (rs.length + 1) * (X + (e.toNat / 32 + 1) + 1) := Nat.mul_le_mul_right _ (by omega)
  have hsg := sign_run (n := hv (trimL (vals rs)) (rval r) (2 ^ e.toNat)) (by have := hf.len; omega)
  by_cases c5 : 1 < (trimL (vals rs)).length
  · have hc := sign_cond (r := r) (e := e) h17 hbl ⟨by omega, by omega⟩ c5
    by_cases c6 : ((blen (rval r).natAbs : Nat) + e) * (((trimL (vals rs)).length : Nat) - 1 : Int) > 8192
    · rw [if_pos ⟨c5, c6⟩]
      exact Try.run30_5 rs r e _ _ false false rfl rfl (decide_eq_false c3) (decide_eq_false c4) (by rw [decide_eq_true_eq]; omega) (by rw [hc, decide_eq_true_eq]; exact c6) hlg hsz hdeg hbt
    · rw [if_neg (fun h => c6 h.2)]
      exact Try.run30_6 rs r e _ _ _ _ false false rfl rfl (decide_eq_false c3) (decide_eq_false c4) (by rw [decide_eq_true_eq]; omega) (by rw [hc, decide_eq_false_iff_not]; exact c6) hlg hsz hdeg hbt hq hsg
  · rw [if_neg (fun h => c5 h.1)]
    exact Try.run30_7 rs r e _ _ _ false false rfl rfl (decide_eq_false c3) (decide_eq_false c4) (by rw [decide_eq_false_iff_not]; omega) hlg hsz hdeg hq hsg
end

def TGB : Table := TGA
theorem TGB_holds : THolds Try.ir TGB := TGA_holds
end Go.Proofs.Ythnnfemologhfaa
