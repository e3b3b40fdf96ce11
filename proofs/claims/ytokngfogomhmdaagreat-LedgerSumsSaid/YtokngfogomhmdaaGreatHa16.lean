/- Closed runs over a heap of numbered objects: functions, rounds, and what a closed run shows. -/
import Derived.Test.YtokngfogomhmdaaGreatHa15
namespace Go.Hp
open Go.Ai Go.RowKit
noncomputable section

/-! ### A call's temporaries -/

theorem init_get (g : Tr HV) (m t : Nat) : ∀ (l : List HV) (i : Nat) (l0 : List (Nat × HV)), (En.mk (initL l i l0) g m).get t = if i ≤ t ∧ t < i + l.length then l[t - i]? else (En.mk l0 g m).get t
  | [], i, l0 => by
    rw [if_neg (fun h => by simp at h; omega)]; rfl
  | x :: xs, i, l0 => by
    show (En.mk (initL xs (i + 1) ((i, x) :: l0)) g m).get t = _
    rw [init_get g m t xs (i + 1) ((i, x) :: l0), En.get_cons]
    by_cases h : i = t
    · subst h
      rw [if_neg (by omega), Nat.beq_refl, if_pos (by simp)]
      simp [cnd_true]
    · have hb : Nat.beq i t = false := by
        cases hb : Nat.beq i t
        · rfl
        · exact absurd (Nat.eq_of_beq_eq_true hb) h
      simp only [hb, cnd_false]
      by_cases h2 : i + 1 ≤ t ∧ t < i + 1 + xs.length
      · rw [if_pos h2, if_pos (by simp; omega)]
        have : t - i = (t - (i + 1)) + 1 := by omega
        rw [this]; rfl
      · rw [if_neg h2, if_neg (by simp; omega)]

theorem init_fr {μ : Mu} {l : List HV} {vals : Array Value} {n ms : Nat} (h : VRs μ l vals) (hn : l.length ≤ n) : FR μ n (En.flush ⟨initL l 0 [], .e, ms⟩) (vals ++ Array.replicate (n - vals.size) Go.undef) := by
  have e1 := h.1
  refine FR.flush ⟨by simp; omega, fun t x hx => ?_⟩
  rw [init_get] at hx
  split at hx
  · rename_i ht
    obtain ⟨hlt, rfl⟩ := List.getElem?_eq_some_iff.1 hx
    simp only [Nat.sub_zero] at hlt ⊢
    have h2 := h.2 t hlt (by omega)
    rw [Array.getD_eq_getD_getElem?, Array.getElem?_append_left (by omega), Array.getElem?_eq_getElem (by omega)]
    exact h2
  · rw [En.get_nil] at hx
    cases hb : bitF ms t <;> rw [hb] at hx <;> cases hx

/-! ### Results -/

section
variable {P : Program} {call : HCaller} {fuel : Nat} {mk : Nat → Nat}

theorem res_ok {n : Nat} {ρ : En} {s : HS} {μ : Mu} {tm : Array Value} {w : World} (H : HR μ s.h w) (F : FR μ n ρ tm) : ∀ {rs : List ResultVar} {vs : List HV}, resH P ρ s rs = some vs →
    ∃ us : List Value, (rs.mapM (resSem tm)).run P w = .ok us w ∧ us.length = vs.length ∧ ∀ (i : Nat) (h1 : i < vs.length) (h2 : i < us.length), VR μ vs[i] us[i]
  | [], vs, h => by
    cases h
    exact ⟨[], rfl, rfl, fun i h1 => by cases h1⟩
  | .tmp t :: l, vs, h => by
    obtain ⟨v, hv, h⟩ := bO_some (k := fun v => bO (resH P ρ s l) fun vs => some (v :: vs)) h
    obtain ⟨vs', h', h⟩ := bO_some h
    cases h
    obtain ⟨us, e1, e2, e3⟩ := res_ok H F h'
    refine ⟨tm.getD t Go.undef :: us, ?_, by simp [e2], fun i h1 h2 => ?_⟩
    · simp only [List.mapM_cons, Sem.run_bind, resSem, Sem.run_pure, Result.andThen_ok, e1]
    · cases i with
      | zero => exact F.2 t v hv
      | succ i => exact e3 i (by simpa using h1) (by simpa using h2)
  | .cell t ty :: l, vs, h => by
    obtain ⟨v, hv, h⟩ := bO_some (k := fun v => asP v fun b off => asC (s.h.get b) fun cs => bO (szP P ty) fun q => bO (takeF cs off q.1 q.2) fun v => bO (resH P ρ s l) fun vs => some (v :: vs)) h
    obtain ⟨b, off, rfl, h⟩ := asP_some h
    obtain ⟨cs, hcs, h⟩ := asC_some h
    obtain ⟨⟨k, one⟩, hq, h⟩ := bO_some h
    obtain ⟨v, ht, h⟩ := bO_some h
    obtain ⟨vs', h', h⟩ := bO_some h
    cases h
    obtain ⟨us, e1, e2, e3⟩ := res_ok H F h'
    have h0 := F.2 t _ hv
    generalize hu : tm.getD t Go.undef = u at h0
    cases h0
    rename_i r hr
    rw [takeF_eq] at ht
    obtain ⟨u, g1, g2⟩ := load_h (P := P) H (szP_ok hq) hcs hr ht
    refine ⟨u :: us, ?_, by simp [e2], fun i h1 h2 => ?_⟩
    · simp only [List.mapM_cons, Sem.run_bind, resSem, hu, asAddr, Sem.run_pure, Result.andThen_ok, g1, e1]
    · cases i with
      | zero => exact g2
      | succ i => exact e3 i (by simpa using h1) (by simpa using h2)

theorem ret_ok {n : Nat} {ρ : En} {s : HS} {μ : Mu} {tm : Array Value} {w : World} {fn : Func} (H : HR μ s.h w) (F : FR μ n ρ tm) {vs : List HV} (h : resH P ρ s fn.results.toList = some vs) : ∃ v, (results fn tm).run P w = .ok v w ∧ VR μ (retH vs) v := by
  obtain ⟨us, e1, e2, e3⟩ := res_ok H F h
  have hrun : (results fn tm).run P w = .ok (if h : us.toArray.size = 1 then us.toArray[0] else .tuple us.toArray) w := by
    rw [results_eq, Array.mapM_eq_mapM_toList]
    simp only [Sem.run_bind, Sem.run_map, e1, Result.andThen_ok, Sem.run_pure]
  refine ⟨_, hrun, ?_⟩
  have tup : vs.length ≠ 1 → VR μ (.t vs) (if h : us.toArray.size = 1 then us.toArray[0] else .tuple us.toArray) := fun hne => by
    rw [dif_neg (by simp only [List.size_toArray]; omega)]
    exact .t _ _ (by simpa using e2) fun j h1 h2 => by simpa using e3 j h1 (by simpa using h2)
  match vs, e2, e3, tup with
  | [], _, _, tup => exact tup (by simp)
  | [x], e2, e3, _ =>
    have hl : us.toArray.size = 1 := by simpa using e2
    rw [dif_pos hl]
    have := e3 0 (by simp) (by simp at e2; omega)
    simp only [List.getElem_cons_zero] at this
    show VR μ x _
    simpa only [List.getElem_toArray] using this
  | x :: y :: l, _, _, tup => exact tup (by simp)

/-! ### Functions -/

theorem HR.put_other {μ : Mu} {h : Tr HO} {w : World} (H : HR μ h w) {r : Nat} {x : Obj} (hr : ∀ b o q, h.get b = some o → μ b = some q → q.1 ≠ r) : HR μ h (w.putObj r x) :=
  ⟨fun b o hb => let ⟨q, h1, h2⟩ := H.obj b o hb; ⟨q, h1, h2.same (fun _ _ e => e) (World.putObj_heap_other (hr b o q hb h1))⟩, H.inj, fun b q hq => by rw [World.putObj_size]; exact H.lt b q hq⟩
theorem Step.put_new {μ μ' : Mu} {s s' : HS} {w w' : World} (st : Step μ s w μ' s' w') {r : Nat} {x : Obj} (hr : w.heap.size ≤ r) : Step μ s w μ' s' (w'.putObj r x) :=
  ⟨st.le, st.os, st.tape, st.out, by rw [World.putObj_size]; exact st.size, st.new, fun k hk hn => (World.putObj_heap_other (by omega)).trans (st.frame k hk hn), st.stay⟩

theorem leaves_ok {fn : Func} {tm : Array Value} {R : Ending → World → Prop} {n : Nat} {ρ : En} {μ0 μ : Mu} {s0 s : HS} {w0 : World} {vs : List HV} (F : FR μ n ρ tm) (hres : resH P ρ s fn.results.toList = some vs)
    (hR : ∀ v w, HR μ s.h w → Step μ0 s0 w0 μ s w → VR μ (retH vs) v → R (.returned v) w) :
    ∀ (rs : List Nat) (w : World), rs.Nodup → (∀ r ∈ rs, w0.heap.size ≤ r ∧ w.heap[r]? = some (.deferred (some [])) ∧ ∀ b o q, s.h.get b = some o → μ b = some q → q.1 ≠ r) → HR μ s.h w → Step μ0 s0 w0 μ s w →
      LeavesInM Fence.wide 0 P fn tm R (rs.map fun r => { target := .collected r, args := #[] }) .returning w
  | [], w, _, _, H, st => by
    obtain ⟨v, h1, h2⟩ := ret_ok (P := P) (fn := fn) H F hres
    exact ⟨v, h1, hR v w H st h2⟩
  | r :: rs, w, hnd, hall, H, st => by
    obtain ⟨h1, h2, h3⟩ := hall r (List.mem_cons_self ..)
    rw [List.nodup_cons] at hnd
    refine ⟨nofun, .inl ⟨r, _, rfl, run_takeDeferred h2, ?_⟩⟩
    refine leaves_ok F hres hR rs _ hnd.2 (fun r' hr' => ?_) (H.put_other h3) (st.put_new h1)
    obtain ⟨g1, g2, g3⟩ := hall r' (List.mem_cons_of_mem _ hr')
    exact ⟨g1, (World.putObj_heap_other fun e => hnd.1 (by rw [← e]; exact hr')).trans g2, g3⟩

theorem evFn_some {fn : Nat} {l : List HV} {s s' : HS} {x : HV} (h : (evFn P call fuel mk fn).run l s = some (x, s')) : ∃ F c, P.funcs[fn]? = some F ∧ notNG F = true ∧ F.body = some c ∧ l.length ≤ F.ntmps ∧
    ∃ ex ρ vs, (evC P call F.ntmps false fuel c).run (En.flush ⟨initL l 0 [], .e, mk fn⟩) s = some (ex, ρ, s') ∧ isNorm ex = true ∧ resH P ρ s' F.results.toList = some vs ∧ x = retH vs := by
  unfold evFn at h
  split at h
  · rename_i F hF
    split at h
    · rename_i c hc
      cases hn : notNG F
      · rw [hn] at h; cases h
      · rw [hn] at h
        have h : fRun P F.ntmps (mk fn) F.results.toList (evC P call F.ntmps false fuel c) l s = some (x, s') := h
        obtain ⟨h1, h⟩ := whenH_some h
        obtain ⟨⟨ex, ρ, s1⟩, h2, h⟩ := bO_some h
        obtain ⟨h3, h⟩ := whenH_some h
        obtain ⟨vs, h4, h⟩ := bO_some h
        cases h
        rw [lenF_eq] at h1
        exact ⟨F, c, hF, hn, hc, Nat.le_of_ble_eq_true h1, ex, ρ, vs, h2, h3, h4, rfl⟩
    · cases h
  · cases h

theorem fn_ok (hm : P.follows .mixedOrders = true) (hc : HOk P call) {fn : Nat} {l : List HV} {s s' : HS} {x : HV} (h : (evFn P call fuel mk fn).run l s = some (x, s')) {μ : Mu} {w : World} {vals : Array Value} (H : HR μ s.h w) (hf : Free μ s.nx s'.nx) (hv : VRs μ l vals) :
    CallsIn Fence.wide 0 P fn vals w (Posted μ s w s' x) := by
  obtain ⟨F, c, hF, hn, hb, hl, ex, ρ, vs, h1, h2, h3, rfl⟩ := evFn_some h
  refine callsIn_of_wp_marks hF hb trivial ?_
  refine code_in (rd := none) hm hc (B := w.heap.size) c h1 H (init_fr hv hl) MK.nil (Nat.le_refl _) hf fun μ' a' w' g1 g2 g3 g4 => ?_
  obtain ⟨rs, e1, e2, e3⟩ := g3
  have key : LeavesInM Fence.wide 0 P F a'.tmps (Posted μ s w s' (retH vs)) a'.defers .returning w' := by
    rw [e1]
    exact leaves_ok g2 h3 (fun v w2 k1 k2 k3 => ⟨μ', k1, k2, k3⟩) rs w' e2 e3 g1 g4
  cases ex with
  | norm => exact key
  | ret => exact key
  | exit i => cases h2

/-! ### Rounds -/

theorem setsE_ok {μ : Mu} {n : Nat} : ∀ {ps : List Nat} {xs : List HV} {ρ ρ' : En} {us : List Value} {tm : Array Value}, setsE ps xs n ρ = some ρ' → us.length = xs.length → (∀ (j : Nat) (h1 : j < xs.length) (h2 : j < us.length), VR μ xs[j] us[j]) → FR μ n ρ tm →
    ps.length = xs.length ∧ FR μ n ρ' ((ps.zip us).foldl (fun t p => t.setIfInBounds p.1 p.2) tm)
  | [], [], ρ, ρ', us, tm, h, hl, hv, F => by
    cases h
    exact ⟨rfl, F⟩
  | p :: ps, x :: xs, ρ, ρ', [], tm, h, hl, hv, F => by cases hl
  | p :: ps, x :: xs, ρ, ρ', u :: us, tm, h, hl, hv, F => by
    obtain ⟨hp, h⟩ := whenH_some (k := setsE ps xs n (ρ.set p x)) h
    have F' : FR μ n (putE ρ (some p) x) (({ tmps := tm, defers := [] } : Act).put (some p) u).tmps := FR.put (a := { tmps := tm, defers := [] }) F (fun _ _ e => e) (d := some p) hp (hv 0 (by simp) (by simp))
    obtain ⟨g1, g2⟩ := setsE_ok (us := us) h (by simpa using hl) (fun j h1 h2 => hv (j + 1) (by simp; omega) (by simp; omega)) F'
    exact ⟨by simp [g1], g2⟩
  | [], _ :: _, _, _, _, _, h, _, _, _ => by cases h
  | _ :: _, [], _, _, _, _, h, _, _, _ => by cases h

theorem isReady_some {st : LoopState} {j : Option Code} (h : isReady st j = true) : st = .ready ∧ j = none := by
  unfold isReady at h
  split at h
  · exact ⟨rfl, rfl⟩
  · cases h

def endSt : Ex → LoopState
  | .norm => .ready
  | _ => .done

theorem round_some {b : Nat} {args : List HV} {s s' : HS} {x : HV} (h : roundH P call fuel b args s = some (x, s')) : ∃ ρ n ps as bd ρ' ρ1 s1 ρ2 n2 ps2 as2 bd2 ex ρ3 s3 ρ4 n4 ps4 as4 bd4 st4 j4,
    s.h.get b = some (.l ρ n ps as bd .ready none) ∧ setsE ps args n ρ = some ρ' ∧ (evC P call n true fuel as).run ρ' s = some (.norm, ρ1, s1) ∧ s1.h.get b = some (.l ρ2 n2 ps2 as2 bd2 .ready none) ∧
    (evC P call n true fuel bd).run ρ1 (setS s1 b (.l ρ2 n2 ps2 as2 bd2 .busy none)) = some (ex, ρ3, s3) ∧ s3.h.get b = some (.l ρ4 n4 ps4 as4 bd4 st4 j4) ∧
    x = .b (jumpTo ex).isNone ∧ s' = setS s3 b (.l ρ4 n4 ps4 as4 bd4 (endSt ex) (jumpTo ex)) := by
  obtain ⟨ρ, n, ps, as, bd, st, j, h1, h⟩ := asL_some h
  obtain ⟨hr, h⟩ := whenH_some h
  obtain ⟨rfl, rfl⟩ := isReady_some hr
  obtain ⟨ρ', h2, h⟩ := bO_some h
  obtain ⟨⟨ex1, ρ1, s1⟩, h3, h⟩ := bO_some h
  obtain ⟨he, h⟩ := whenH_some h
  obtain ⟨ρ2, n2, ps2, as2, bd2, st2, j2, h4, h⟩ := asL_some h
  obtain ⟨hr2, h⟩ := whenH_some h
  obtain ⟨rfl, rfl⟩ := isReady_some hr2
  obtain ⟨⟨ex, ρ3, s3⟩, h5, h⟩ := bO_some h
  obtain ⟨ρ4, n4, ps4, as4, bd4, st4, j4, h6, h⟩ := asL_some h
  cases h
  cases ex1 with
  | norm => exact ⟨ρ, n, ps, as, bd, ρ', ρ1, s1, ρ2, n2, ps2, as2, bd2, ex, ρ3, s3, ρ4, n4, ps4, as4, bd4, st4, j4, h1, h2, h3, h4, h5, h6, rfl, by cases ex <;> rfl⟩
  | exit i => cases he
  | ret => cases he

theorem round_qt (hc : QC call) {b : Nat} {args : List HV} {s s' : HS} {x : HV} (h : roundH P call fuel b args s = some (x, s')) : Qt s s' := by
  obtain ⟨ρ, n, ps, as, bd, ρ', ρ1, s1, ρ2, n2, ps2, as2, bd2, ex, ρ3, s3, ρ4, n4, ps4, as4, bd4, st4, j4, h1, h2, h3, h4, h5, h6, rfl, rfl⟩ := round_some h
  exact (((evC_qt hc as h3).trans (Qt.turn h4)).trans (evC_qt hc bd h5)).trans (Qt.turn h6)

theorem round_ok (hm : P.follows .mixedOrders = true) (hc : HOk P call) {b : Nat} {args : List HV} {s s' : HS} {x : HV} (h : roundH P call fuel b args s = some (x, s')) {μ : Mu} {w : World} {vals : Array Value} {q : Nat × Nat} (H : HR μ s.h w) (hf : Free μ s.nx s'.nx) (hq : μ b = some q) (hv : VRs μ args vals) :
    ∃ fn tmps as bd, (Instr.yield q.1 vals).run P w = .ok (.round q.1 fn tmps as bd) w ∧ RoundIn Fence.wide 0 P q.1 fn tmps as bd w (Posted μ s w s' x) := by
  obtain ⟨ρ, n, ps, as, bd, ρ', ρ1, s1, ρ2, n2, ps2, as2, bd2, ex, ρ3, s3, ρ4, n4, ps4, as4, bd4, st4, j4, h1, h2, h3, h4, h5, h6, rfl, rfl⟩ := round_some h
  obtain ⟨L, e1, e2, e3, e4, e5, e6, e7⟩ := H.at h1 hq
  have hv' : ∀ (j : Nat) (h1 : j < args.length) (h2 : j < vals.toList.length), VR μ args[j] vals.toList[j] := fun j g1 g2 => by simpa using hv.2 j g1 (by simpa using g2)
  obtain ⟨g1, g2⟩ := setsE_ok (us := vals.toList) h2 (by simpa using hv.1) hv' e7
  have hzip : (L.params.zip vals).foldl (fun tmps (t, a) => tmps.setIfInBounds t a) L.tmps = (ps.zip vals.toList).foldl (fun t p => t.setIfInBounds p.1 p.2) L.tmps := by
    rw [e2, ← Array.foldl_toList]
    simp [Array.toList_zip]
  have q1 := evC_qt hc.qt as h3
  have q2 : Qt s1 (setS s1 b (.l ρ2 n2 ps2 as2 bd2 .busy none)) := Qt.turn h4
  have q3 := evC_qt hc.qt bd h5
  have q4 : Qt s3 (setS s3 b (.l ρ4 n4 ps4 as4 bd4 (endSt ex) (jumpTo ex))) := Qt.turn h6
  refine ⟨_, _, _, _, run_yield e1 (by rw [e2, hv.1]; simpa using g1.symm), ?_⟩
  rw [hzip, e3, e4]
  refine roundIn_of_wpIn trivial ?_
  refine code_in (rd := some q.1) hm hc (B := w.heap.size) as h3 H g2 MK.nil (Nat.le_refl _) (hf.left (Nat.le_trans q2.nx (Nat.le_trans q3.nx q4.nx))) fun μ1 a1 w1 k1 k2 k3 k4 => ?_
  have hq1 := k4.le _ _ hq
  obtain ⟨L1, l1, l2, l3, _, _, _, _, l4, l5⟩ := loop_turn k1 h4 hq1 .busy none
  have hbeg := run_beginRound (P := P) l1 l2
  have hL1 : ({ L1 with state := .busy } : Loop) = { L1 with state := .busy, pending := none } := by rw [← l3]
  rw [hL1] at hbeg
  have hf1 := hf.right q1.nx k4
  have st1 := k4.trans l5 q1 q2 (hf.left (Nat.le_trans q2.nx (Nat.le_trans q3.nx q4.nx)))
  refine ⟨_, hbeg, ?_⟩
  refine code_in (rd := some q.1) hm hc (B := w.heap.size) bd h5 l4 k2 (k3.step l5 q2 fun c c1 c2 => absurd c2 (Nat.not_lt.2 c1)) (by rw [World.putObj_size]; exact k4.size) (hf1.left q4.nx) fun μ2 a2 w2 m1 m2 m3 m4 => ?_
  have hq2 := m4.le _ _ hq1
  obtain ⟨L2, u1, u2, u3, _, _, _, _, u4, u5⟩ := loop_turn m1 h6 hq2 (endSt ex) (jumpTo ex)
  have st2 := (st1.trans m4 (q1.trans q2) q3 (hf.left (Nat.le_trans q3.nx q4.nx))).trans u5 ((q1.trans q2).trans q3) q4 (hf.left q4.nx)
  have post : Posted μ s w (setS s3 b (.l ρ4 n4 ps4 as4 bd4 (endSt ex) (jumpTo ex))) (.b (jumpTo ex).isNone) (.returned (.bool (jumpTo ex).isNone)) (w2.putObj q.1 (.loop { L2 with state := (endSt ex), pending := jumpTo ex })) := ⟨μ2, u4, st2, .b _⟩
  cases ex with
  | norm => exact ⟨_, _, run_endRound none u1, post⟩
  | ret => exact ⟨_, _, run_endRound (some .ret) u1, post⟩
  | exit i => exact ⟨_, _, run_endRound (some (.exit i)) u1, post⟩

/-! ### The machine -/

theorem evFn_qt (hc : QC call) {fn : Nat} {l : List HV} {s s' : HS} {x : HV} (h : (evFn P call fuel mk fn).run l s = some (x, s')) : Qt s s' := by
  obtain ⟨F, c, _, _, _, _, ex, ρ, vs, h1, _⟩ := evFn_some h
  exact evC_qt hc c h1

theorem evF_ok (hm : P.follows .mixedOrders = true) : ∀ d, HOk P (evF P fuel mk d)
  | 0 => ⟨fun _ _ _ _ _ h => (by cases h), fun h => (by cases h), fun h => (by cases h), fun h => (by cases h)⟩
  | d + 1 => by
    have ih := evF_ok hm d
    refine ⟨fun f l s x s' h => ?_, fun {fv args s r} h => ?_, fun {fn fs cs args s x s'} h => ?_, fun {b args s x s'} h μ w vals q H hf hq hv => ?_⟩
    · have h : callStep P (evF P fuel mk d) fuel mk f l s = some (x, s') := h
      cases f <;> try (cases h; done)
      · exact evFn_qt ih.qt h
      · exact round_qt ih.qt h
    · have h : callStep P (evF P fuel mk d) fuel mk fv args s = some r := h
      cases fv <;> try (cases h; done)
      · exact .inl ⟨_, _, _, rfl⟩
      · exact .inr ⟨_, rfl⟩
    · have h : (evFn P (evF P fuel mk d) fuel mk fn).run (fs ++ args ++ cs) s = some (x, s') := h
      obtain ⟨F, c, h1, h2, h3, _⟩ := evFn_some h
      exact ⟨⟨F, c, h1, h2, h3⟩, fun {μ w vals} H hf hv => fn_ok hm ih h H hf hv⟩
    · have h : roundH P (evF P fuel mk d) fuel b args s = some (x, s') := h
      exact round_ok hm ih h H hf hq hv

/-- **A closed run of the machine is what the model's call does.** -/
theorem closed (hm : P.follows .mixedOrders = true) {d fn : Nat} {x : HV} {s' : HS} (h : evF P fuel mk d (.f fn [] []) [] ⟨.e, 0, []⟩ = some (x, s')) (w : World) :
    Calls P fn #[] w fun e w' => ∃ v μ, e = .returned v ∧ VR μ x v ∧ Below w.heap.size w w' := by
  have H : HR (fun _ => none) (Tr.e : Tr HO) w := ⟨fun a o h => (by cases h), fun a a' o o' r r' h => (by cases h), fun a r h => (by cases h)⟩
  have := ((evF_ok hm d).fn h).2 (μ := fun _ => none) (w := w) (vals := #[]) H (fun _ _ _ => rfl) ⟨rfl, fun j h1 => by cases h1⟩
  refine callsIn_wide.1 (CallsIn.mono this fun e w' hp => ?_)
  cases e with
  | returned v =>
    obtain ⟨μ, _, st, hv⟩ := hp
    exact ⟨v, μ, rfl, hv, st.os, st.tape, st.out, st.size, fun k hk => st.frame k hk fun a o q ha => (by cases ha)⟩
  | panicked _ => exact hp.elim
  | outgrown => exact hp.elim

/-- A closed question, answered yes. -/
def okB (o : Option (HV × HS)) : Bool := match o with | some (.b true, _) => true | _ => false
theorem closed_true (hm : P.follows .mixedOrders = true) {d fn : Nat} (h : okB (evF P fuel mk d (.f fn [] []) [] ⟨.e, 0, []⟩) = true) (w : World) :
    Calls P fn #[] w fun e w' => e = .returned (.bool true) ∧ Below w.heap.size w w' := by
  unfold okB at h
  split at h
  · rename_i s' hs
    refine Calls.mono (closed hm hs w) fun e w' hp => ?_
    obtain ⟨v, μ, rfl, hv, hb⟩ := hp
    cases hv
    exact ⟨rfl, hb⟩
  · cases h
end
end
end Go.Hp
