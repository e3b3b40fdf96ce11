/- Closed runs over a heap of numbered objects: one more operation of a drawn region. -/
import Derived.Test.YtokngfogomhmdaaGreatHa12
namespace Go.Hp
open Go.Ai Go.RowKit
noncomputable section

section
variable {P : Program} {call : HCaller} {n : Nat} {rd : Option Nat} {ops : Array Oper} {Q : Exit → Act → World → Prop}
variable {h0 : Tr HO} {ρ0 : En} {rs : List Rec} {ρs : Nat → En} {nxs : Nat → Nat} {lgs : Nat → List Nat}
variable {μ0 μ : Mu} {a0 a : Act} {w0 w : World} {listed : Array Bool}

namespace Dw
variable (h : Dw P call n ops h0 rs ρs nxs lgs)
include h

theorem hd_dom (hc : QC call) {D : Nat → Bool} {e : Nat} {x : HO} (hx : heapD D e rs 0 (h0.get e) = some x) : (∃ o, h0.get e = some o) ∨ (nxs 0 ≤ e ∧ e < nxs ops.size) := by
  rcases heapD_cases (D := D) (a := e) (rs := rs) (i := 0) (b := h0.get e) with e1 | ⟨k, r, e1, _, e3, e4⟩
  · rw [e1] at hx; exact .inl ⟨x, hx⟩
  · have hk : k < ops.size := by
      have := (List.getElem?_eq_some_iff.1 e1).1
      have := h.len
      omega
    have m1 := h.nx_mono hc (i := 0) (j := k) (Nat.zero_le _) (by omega)
    have m2 := h.nx_mono hc (i := k + 1) (j := ops.size) (by omega) (Nat.le_refl _)
    have m3 := h.nx_mono hc (i := k) (j := ops.size) (by omega) (Nat.le_refl _)
    rw [e4] at hx
    rcases h.rdom hc e1 e3 hx with ⟨y, hy⟩ | hy
    · rcases h.view_dom hc k (by omega) hy with hz | hz
      · exact .inl hz
      · exact .inr ⟨hz.1, by omega⟩
    · exact .inr ⟨by omega, by omega⟩

/-- What an operation sees is what lies there. -/
theorem view_sub (hc : QC call) (hdom : ∀ a o, h0.get a = some o → ¬ (nxs 0 ≤ a ∧ a < nxs ops.size)) {D : Nat → Bool} {i : Nat} {o : Oper} {r : Rec} (hr : rs[i]? = some r) (hv : r.vis = visOf (ρs i) o) (hDi : D i = false) (hanc : ∀ j, memL j (ancOf ops i) = true → D j = true) (hun : ∀ j, i < j → D j = true → memL i (ancOf ops j) = false) {b : Nat} {x : HO}
    (hx : (seen (viewH (ancOf ops i) h0 (rs.take i)) (visOf (ρs i) o)).get b = some x) : heapD D b rs 0 (h0.get b) = some x := by
  obtain ⟨hx, hvis⟩ := seen_some hx
  have hi : i < ops.size := by
    have := (List.getElem?_eq_some_iff.1 hr).1
    have := h.len
    omega
  have hx0 := hx
  rw [viewH_get] at hx
  split at hx
  · cases hx
  · rename_i hh
    have hh : hidD (ancOf ops i) b (rs.take i) 0 = false := by simpa using hh
    rw [← hx]
    have e1 : heapD (fun j => memL j (ancOf ops i)) b (rs.take i) 0 (h0.get b) = heapD (fun j => decide (j < i) && memL j (ancOf ops i)) b (rs.take i) 0 (h0.get b) := heapD_congr fun j r' hr' _ => by
      have : j < i := by
        have := (List.getElem?_eq_some_iff.1 hr').1
        simp at this
        omega
      simp [this]
    rw [e1, heapD_take fun j r' hj _ _ => by simp; omega]
    refine heapD_congr fun j r' hr' hm => ?_
    simp only [Nat.zero_add]
    rcases Nat.lt_trichotomy j i with hji | hji | hji
    · have := hidD_spec hh j r' (by rw [List.getElem?_take_of_lt hji]; exact hr') hm
      rw [Nat.zero_add] at this
      rw [this, hanc j this]
      simp [hji]
    · subst hji
      rw [hDi]; simp
    · have hne : ¬ j < i := by omega
      simp only [hne, decide_false, Bool.false_and]
      cases hD : D j with
      | false => rfl
      | true =>
        exfalso
        obtain ⟨o', _, hf', _⟩ := h.recd hr'
        have hj : j < ops.size := by
          have := (List.getElem?_eq_some_iff.1 hr').1
          have := h.len
          omega
        rcases (hf'.ks b).1 hm with e | e
        · obtain ⟨l, h1, h2⟩ := (h.apart j i r r' hji hr hr' (hun j hji hD)).d b e
          exact h2 (hvis l (by rw [← hv]; exact h1))
        · have m1 := h.nx_mono hc (i := i) (j := j) (by omega) (by omega)
          have m2 := h.nx_mono hc (i := 0) (j := j) (Nat.zero_le _) (by omega)
          have m3 := h.nx_mono hc (i := j + 1) (j := ops.size) (by omega) (Nat.le_refl _)
          rcases h.view_dom hc i (by omega) hx0 with ⟨y, hy⟩ | hy
          · exact hdom b y hy ⟨by omega, by omega⟩
          · omega

/-- .. and its operands are what they are. -/
theorem tmp_sub (h0' : ρs 0 = ρ0) {D : Nat → Bool} {i : Nat} {r : Rec} (hr : rs[i]? = some r) (hDi : D i = false) (hanc : ∀ j, memL j (ancOf ops i) = true → D j = true) (hun : ∀ j, i < j → D j = true → memL i (ancOf ops j) = false) {t : Nat} {x : HV} (ht : t ∈ r.tm)
    (hx : (ρs i).get t = some x) : tmpD D t rs 0 (ρ0.get t) = some x := by
  have hi : i < ops.size := by
    have := (List.getElem?_eq_some_iff.1 hr).1
    have := h.len
    omega
  rw [h.tmps (by omega) h0'] at hx
  rw [← hx]
  have e1 : tmpD (fun _ => true) t (rs.take i) 0 (ρ0.get t) = tmpD (fun j => decide (j < i)) t (rs.take i) 0 (ρ0.get t) := tmpD_congr fun j r' hr' _ => by
    have : j < i := by
      have := (List.getElem?_eq_some_iff.1 hr').1
      simp at this
      omega
    simp [this]
  rw [e1, tmpD_take fun j r' hj _ _ => by simp; omega]
  refine tmpD_congr fun j r' hr' hm => ?_
  simp only [Nat.zero_add]
  rcases Nat.lt_trichotomy j i with hji | hji | hji
  · simp only [hji, decide_true]
    cases hanc' : memL j (ancOf ops i) with
    | true => exact hanc j hanc'
    | false => exact absurd ht ((h.apart i j r' r hji hr' hr hanc').a t hm)
  · subst hji
    rw [hDi]; simp
  · have hne : ¬ j < i := by omega
    simp only [hne, decide_false]
    cases hD : D j with
    | false => rfl
    | true => exact absurd ht ((h.apart j i r r' hji hr hr' (hun j hji hD)).b t hm)
end Dw

theorem DL_set {i j : Nat} (hi : i < listed.size) : DL (listed.setIfInBounds i true) j = if i = j then true else DL listed j := by
  unfold DL
  rw [getD_sets]
  by_cases e : i = j
  · rw [if_pos ⟨e, hi⟩, if_pos e]
  · rw [if_neg (fun h => e h.1), if_neg e]

theorem drawn_step (hc : HOk P call) (h : Dw P call n ops h0 rs ρs nxs lgs) (hdom : ∀ a o, h0.get a = some o → ¬ (nxs 0 ≤ a ∧ a < nxs ops.size)) (h0' : ρs 0 = ρ0) (hfree : Free μ0 (nxs 0) (nxs ops.size)) (hcl : Closed ops listed) (hls : listed.size = ops.size)
    (I : Inv P n h0 ρ0 rs nxs ops.size μ0 w0 a0 (DL listed) μ a w) {i : Nat} {o : Oper} (hi : ops[i]? = some o) (hni : listed.getD i true = false) (hpr : ∀ p ∈ preds o, listed.getD p false = true) {K : Act → World → Prop}
    (hK : ∀ a' μ' w', Inv P n h0 ρ0 rs nxs ops.size μ0 w0 a0 (DL (listed.setIfInBounds i true)) μ' a' w' → K a' w') : wpOpIn (W0 rd) 0 P ops Q i K a w := by
  have his : i < ops.size := (Array.getElem?_eq_some_iff.1 hi).1
  obtain ⟨r, hr, hf, hd, _⟩ := h.op i o hi
  have hDi : DL listed i = false := by
    unfold DL
    rw [Array.getD_eq_getD_getElem?, Array.getElem?_eq_getElem (by omega)] at hni ⊢
    exact hni
  have hanc : ∀ j, memL j (ancOf ops i) = true → DL listed j = true := fun j hm => anc_listed hcl i o hi hpr j (memL_iff.1 hm)
  have hun : ∀ j, i < j → DL listed j = true → memL i (ancOf ops j) = false := by
    intro j _ hj
    cases hm : memL i (ancOf ops j) with
    | false => rfl
    | true =>
      have := anc_done hcl hj hm
      rw [hDi] at this; cases this
  have hset : ∀ j, DL (listed.setIfInBounds i true) j = if i = j then true else DL listed j := fun j => DL_set (by omega)
  -- what the operation reads
  have hFR : FR μ n (onlyE (ρs i) (tmpsOf ops o)) a.tmps := ⟨I.size, fun t x hx => by
    obtain ⟨h1, h2⟩ := onlyE_get hx
    exact I.tmp t x (h.tmp_sub h0' hr hDi hanc hun (by rw [hf.tm]; exact h1) h2)⟩
  have hguard : ∀ q x, guardT ops o.guard = some q → (ρs i).get q.1 = some x → VR μ x (a.tmps.getD q.1 Go.undef) := by
    intro q x hq hx
    refine I.tmp q.1 x (h.tmp_sub h0' hr hDi hanc hun ?_ hx)
    rw [hf.tm]
    unfold tmpsOf
    rw [hq]
    exact List.mem_cons_self
  -- the temporaries behind it
  have htmp : ∀ (μ' : Mu) (v : Value), (∀ b q, μ b = some q → μ' b = some q) → VR μ' r.v v → ∀ t x, tmpD (DL (listed.setIfInBounds i true)) t rs 0 (ρ0.get t) = some x → VR μ' x ((a.put o.dst v).tmps.getD t Go.undef) := by
    intro μ' v hle hv t x hx
    by_cases hdt : o.dst = some t
    · have hlast := tmpD_last (D := DL (listed.setIfInBounds i true)) (t := t) (rs := rs) (i := 0) (k := i) (r := r) (b := ρ0.get t) hr (by rw [Nat.zero_add, hset, if_pos rfl]) (by rw [hf.d]; exact hdt) fun j r' hj hr' hm => by
        rw [Nat.zero_add, hset, if_neg (by omega)]
        cases hD : DL listed j with
        | false => rfl
        | true => exact ((h.apart j i r r' hj hr hr' (hun j hj hD)).c t (by rw [hf.d]; exact hdt) hm).elim
      rw [hlast] at hx
      cases hx
      rw [hdt] at hd ⊢
      have hd : Nat.blt t n = true := hd
      rw [Nat.blt_eq] at hd
      have hs := I.size
      show VR μ' r.v ((a.tmps.setIfInBounds t v).getD t Go.undef)
      rw [Array.getD_eq_getD_getElem?, Array.getElem?_setIfInBounds_self_of_lt (by omega)]
      exact hv
    · have e1 : tmpD (DL (listed.setIfInBounds i true)) t rs 0 (ρ0.get t) = tmpD (DL listed) t rs 0 (ρ0.get t) := tmpD_congr fun j r' hr' hm => by
        rw [Nat.zero_add, hset]
        by_cases e : i = j
        · subst e
          rw [hr] at hr'
          cases hr'
          exact absurd (hf.d.symm.trans hm) hdt
        · rw [if_neg e]
      rw [e1] at hx
      have hold := (I.tmp t x hx).mono hle
      cases hdd : o.dst with
      | none => exact hold
      | some d =>
        have hne : t ≠ d := fun e => hdt (by rw [hdd, e])
        show VR μ' x ((a.tmps.setIfInBounds d v).getD t Go.undef)
        rw [Array.getD_eq_getD_getElem?, Array.getElem?_setIfInBounds_ne (Ne.symm hne), ← Array.getD_eq_getD_getElem?]
        exact hold
  have hput : ∀ v, (a.put o.dst v).tmps.size = n := by
    intro v
    rw [← I.size]
    cases o.dst <;> simp [Act.put]
  unfold wpOpIn
  rcases hf.run with ⟨hw, hv, hrun⟩ | ⟨hw, hv, hrv, hnx, hlg⟩
  · -- it is wanted
    have hwt := wantH_ok hguard hw
    simp only [hi, hwt, if_true]
    have hsub : ∀ b x, (seen (viewH (ancOf ops i) h0 (rs.take i)) (visOf (ρs i) o)).get b = some x → heapD (DL listed) b rs 0 (h0.get b) = some x := fun b x hx => h.view_sub hc.qt hdom hr hv hDi hanc hun hx
    have hH : HR μ (seen (viewH (ancOf ops i) h0 (rs.take i)) (visOf (ρs i) o)) w := ⟨fun b x hx => I.obj b x (hsub b x hx), fun b b' x x' q q' hx hx' => I.inj b b' x x' q q' (hsub b x hx) (hsub b' x' hx'), I.lt⟩
    have m0 := h.nx_mono hc.qt (i := 0) (j := i) (Nat.zero_le _) (by omega)
    have m1 := h.nx_mono hc.qt (i := i + 1) (j := ops.size) (by omega) (Nat.le_refl _)
    have hmi := h.nx_step hc.qt his
    have hfr : Free μ (nxs i) (nxs (i + 1)) := by
      intro b h1 h2
      rw [I.st.stay b fun j hj hD hb => ?_]
      · exact hfree b (by omega) (by omega)
      · have hne : j ≠ i := fun e => by rw [e, hDi] at hD; cases hD
        rcases Nat.lt_or_ge j i with hji | hji
        · have := h.nx_mono hc.qt (i := j + 1) (j := i) (by omega) (by omega)
          omega
        · have := h.nx_mono hc.qt (i := i + 1) (j := j) (by omega) (by omega)
          omega
    have hq := evK_qt hc.qt hrun
    refine op_in (s := ⟨seen (viewH (ancOf ops i) h0 (rs.take i)) (visOf (ρs i) o), nxs i, []⟩) (s' := ⟨r.h, nxs (i + 1), lgs i⟩) hc hH hFR hfr hrun fun v μ' w' hH' st hvv => hK _ μ' w' ?_
    -- where an object comes from
    have hkeep : ∀ b, memL b r.ks = false → r.h.get b = (seen (viewH (ancOf ops i) h0 (rs.take i)) (visOf (ρs i) o)).get b := by
      intro b hb
      refine hq.keep b (fun e => ?_) fun e => ?_
      · rw [(hf.ks b).2 (.inl e)] at hb; cases hb
      · rw [(hf.ks b).2 (.inr e)] at hb; cases hb
    have origin : ∀ b x, heapD (DL (listed.setIfInBounds i true)) b rs 0 (h0.get b) = some x → r.h.get b = some x ∨ ((seen (viewH (ancOf ops i) h0 (rs.take i)) (visOf (ρs i) o)).get b = none ∧ heapD (DL listed) b rs 0 (h0.get b) = some x) := by
      intro b x hx
      cases hm : memL b r.ks with
      | true =>
        have hlast := heapD_last (D := DL (listed.setIfInBounds i true)) (a := b) (rs := rs) (i := 0) (k := i) (r := r) (b := h0.get b) hr (by rw [Nat.zero_add, hset, if_pos rfl]) hm fun j r' hj hr' hm' => by
          rw [Nat.zero_add, hset, if_neg (by omega)]
          cases hD : DL listed j with
          | false => rfl
          | true => exact (h.disjoint hc.qt hdom hj hr hr' (hun j hj hD) hm hm').elim
        rw [hlast] at hx
        exact .inl hx
      | false =>
        have e1 : heapD (DL (listed.setIfInBounds i true)) b rs 0 (h0.get b) = heapD (DL listed) b rs 0 (h0.get b) := heapD_congr fun j r' hr' hm' => by
          rw [Nat.zero_add, hset]
          by_cases e : i = j
          · subst e
            rw [hr] at hr'
            cases hr'
            rw [hm] at hm'; cases hm'
          · rw [if_neg e]
        rw [e1] at hx
        cases hs : (seen (viewH (ancOf ops i) h0 (rs.take i)) (visOf (ρs i) o)).get b with
        | none => exact .inr ⟨rfl, hx⟩
        | some y =>
          have := hsub b y hs
          rw [hx] at this
          cases this
          exact .inl ((hkeep b hm).trans hs)
    have mixed : ∀ b c x y p q, r.h.get b = some x → (seen (viewH (ancOf ops i) h0 (rs.take i)) (visOf (ρs i) o)).get c = none → heapD (DL listed) c rs 0 (h0.get c) = some y → μ' b = some p → μ' c = some q → p.1 = q.1 → b = c := by
      intro b c x y p q hb hcn hcy hp hq' hpq
      obtain ⟨qc, hqc, _⟩ := I.obj c y hcy
      have := st.le c qc hqc
      rw [hq'] at this
      cases this
      rcases st.new b p hp with e | ⟨d, z, e1, e2⟩ | e
      · rcases hq.dom b x hb with ⟨z, e1⟩ | e1
        · exact I.inj b c z y p q (hsub b z e1) hcy e hqc hpq
        · rw [hfr b e1.1 e1.2] at e; cases e
      · have := I.inj d c z y p q (hsub d z e1) hcy e2 hqc hpq
        rw [this, hcn] at e1; cases e1
      · have := I.lt c q hqc
        omega
    refine ⟨hput v, (put_defers _ _ _).trans I.defers, htmp μ' v st.le hvv, fun b x hx => ?_, fun b b' x x' p p' hx hx' h1 h2 h3 => ?_, hH'.lt, ?_⟩
    · rcases origin b x hx with hb | ⟨hbn, hbx⟩
      · exact hH'.obj b x hb
      · obtain ⟨q, h1, h2⟩ := I.obj b x hbx
        refine ⟨q, st.le _ _ h1, h2.same st.le (st.frame q.1 h2.lt fun c y q' hcy hq' e => ?_)⟩
        have := I.inj c b y x q' q (hsub c y hcy) hbx hq' h1 e
        have hcy' : (seen (viewH (ancOf ops i) h0 (rs.take i)) (visOf (ρs i) o)).get c = some y := hcy
        rw [this, hbn] at hcy'; cases hcy'
    · rcases origin b x hx with hb | ⟨hbn, hbx⟩
      · rcases origin b' x' hx' with hb' | ⟨hbn', hbx'⟩
        · exact hH'.inj b b' x x' p p' hb hb' h1 h2 h3
        · exact mixed b b' x x' p p' hb hbn' hbx' h1 h2 h3
      · rcases origin b' x' hx' with hb' | ⟨hbn', hbx'⟩
        · exact (mixed b' b x' x p' p hb' hbn hbx h2 h1 h3.symm).symm
        · obtain ⟨q, g1, _⟩ := I.obj b x hbx
          obtain ⟨q', g1', _⟩ := I.obj b' x' hbx'
          have e1 := st.le _ _ g1
          have e2 := st.le _ _ g1'
          rw [h1] at e1; cases e1
          rw [h2] at e2; cases e2
          exact I.inj b b' x x' p p' hbx hbx' g1 g1' h3
    · have back : ∀ e y q, (seen (viewH (ancOf ops i) h0 (rs.take i)) (visOf (ρs i) o)).get e = some y → μ e = some q → (∃ b z, h0.get b = some z ∧ μ0 b = some q) ∨ w0.heap.size ≤ q.1 := by
        intro e y q he hq'
        rcases I.st.new e q hq' with e1 | e1 | e1
        · rcases h.hd_dom hc.qt (hsub e y he) with ⟨z, hz⟩ | hz
          · exact .inl ⟨e, z, hz, e1⟩
          · rw [hfree e hz.1 hz.2] at e1; cases e1
        · exact .inl e1
        · exact .inr e1
      refine ⟨fun b q e => st.le b q (I.st.le b q e), st.os.trans I.st.os, st.tape.trans I.st.tape, st.out.trans I.st.out, Nat.le_trans I.st.size st.size, fun b q e => ?_, fun q hq' hn => ?_, fun b hb => ?_⟩
      · rcases st.new b q e with e | ⟨d, z, e1, e2⟩ | e
        · exact I.st.new b q e
        · rcases back d z q e1 e2 with e3 | e3
          · exact .inr (.inl e3)
          · exact .inr (.inr e3)
        · exact .inr (.inr (Nat.le_trans I.st.size e))
      · rw [st.frame q (Nat.lt_of_lt_of_le hq' I.st.size) fun c y p hcy hp e => ?_]
        · exact I.st.frame q hq' hn
        · rcases back c y p hcy hp with ⟨b, z, e1, e2⟩ | e3
          · exact hn b z p e1 e2 e
          · omega
      · rw [st.stay b fun e => hb i his (by rw [hset, if_pos rfl]) e]
        exact I.st.stay b fun j hj hD => hb j hj (by rw [hset]; split; rfl; exact hD)
  · -- it is not
    have hwt := wantH_ok hguard hw
    simp only [hi, hwt, Bool.false_eq_true, if_false]
    refine ⟨fun _ _ => trivial, hK _ μ w ?_⟩
    have hks : ∀ b, memL b r.ks = false := by
      intro b
      cases hm : memL b r.ks with
      | false => rfl
      | true =>
        rcases (hf.ks b).1 hm with e | e
        · rw [hlg] at e; cases e
        · omega
    have e1 : ∀ b, heapD (DL (listed.setIfInBounds i true)) b rs 0 (h0.get b) = heapD (DL listed) b rs 0 (h0.get b) := fun b => heapD_congr fun j r' hr' hm' => by
      rw [Nat.zero_add, hset]
      by_cases e : i = j
      · subst e
        rw [hr] at hr'
        cases hr'
        rw [hks b] at hm'; cases hm'
      · rw [if_neg e]
    refine ⟨hput _, (put_defers _ _ _).trans I.defers, htmp μ _ (fun _ _ e => e) (by rw [hrv]; exact .u), fun b x hx => I.obj b x (by rw [← e1]; exact hx), fun b b' x x' p p' hx hx' => I.inj b b' x x' p p' (by rw [← e1]; exact hx) (by rw [← e1]; exact hx'), I.lt, ?_⟩
    exact ⟨I.st.le, I.st.os, I.st.tape, I.st.out, I.st.size, I.st.new, I.st.frame, fun b hb => I.st.stay b fun j hj hD => hb j hj (by rw [hset]; split; rfl; exact hD)⟩
end
end
end Go.Hp
