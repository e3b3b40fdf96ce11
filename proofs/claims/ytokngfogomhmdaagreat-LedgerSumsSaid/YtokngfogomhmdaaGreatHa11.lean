/- Closed runs over a heap of numbered objects: operations and regions in a frame. -/
import Derived.Test.YtokngfogomhmdaaGreatHa10
import Derived.Test.YtokngfogomhmdaaGreatAbs11
import Derived.OrdersIn
import Derived.RangeFuncRecord
namespace Go.Hp
open Go.Ai Go.RowKit

/-- No fence, but perhaps in a round. -/
def W0 (rd : Option Nat) : Fence := { fn := fun _ => True, depth := none, alive := false, round := rd }

def VRs (μ : Mu) (l : List HV) (vs : Array Value) : Prop := vs.size = l.length ∧ ∀ (j : Nat) (h1 : j < l.length) (h2 : j < vs.size), VR μ l[j] vs[j]
theorem VRs.append {μ : Mu} {l m : List HV} {us vs : Array Value} (h : VRs μ l us) (g : VRs μ m vs) : VRs μ (l ++ m) (us ++ vs) := by
  have e1 := h.1
  have e2 := g.1
  refine ⟨by simp [e1, e2], fun j h1 h2 => ?_⟩
  by_cases hj : j < l.length
  · rw [List.getElem_append_left hj, Array.getElem_append_left (by omega)]
    exact h.2 j hj _
  · rw [List.getElem_append_right (by omega), Array.getElem_append_right (by omega)]
    have := g.2 (j - l.length) (by simp at h1; omega) (by simp at h2; omega)
    simpa [e1] using this

def Posted (μ : Mu) (s : HS) (w : World) (s' : HS) (x : HV) : Ending → World → Prop
  | .returned v, w' => ∃ μ', HR μ' s'.h w' ∧ Step μ s w μ' s' w' ∧ VR μ' x v
  | _, _ => False

/-- Calls do what they say. -/
structure HOk (P : Program) (call : HCaller) : Prop where
  qt : QC call
  only : ∀ {fv args s r}, call fv args s = some r → (∃ fn fs cs, fv = .f fn fs cs) ∨ ∃ b, fv = .y b
  fn : ∀ {fn fs cs args s x s'}, call (.f fn fs cs) args s = some (x, s') → (∃ F c, P.funcs[fn]? = some F ∧ notNG F = true ∧ F.body = some c) ∧ ∀ {μ : Mu} {w : World} {vals : Array Value}, HR μ s.h w → Free μ s.nx s'.nx → VRs μ (fs ++ args ++ cs) vals → CallsIn Fence.wide 0 P fn vals w (Posted μ s w s' x)
  yd : ∀ {b args s x s'}, call (.y b) args s = some (x, s') → ∀ {μ : Mu} {w : World} {vals : Array Value} {q : Nat × Nat}, HR μ s.h w → Free μ s.nx s'.nx → μ b = some q → VRs μ args vals →
    ∃ fn tmps as bd, (Instr.yield q.1 vals).run P w = .ok (.round q.1 fn tmps as bd) w ∧ RoundIn Fence.wide 0 P q.1 fn tmps as bd w (Posted μ s w s' x)

section
variable {P : Program} {call : HCaller} {n : Nat} {rd : Option Nat} {ρ : En} {s s' : HS} {μ : Mu} {a : Act} {w : World} {o : Oper} {ops : Array Oper} {Q : Exit → Act → World → Prop}

theorem isCall_some {op : Op} (h : isCall op = true) : ∃ c f, op = .call c ∧ c.callee = .value f := by
  cases op <;> try (cases h; done)
  rename_i c
  simp only [isCall] at h
  split at h
  · rename_i f hf; exact ⟨c, f, rfl, hf⟩
  · cases h

theorem calls_run {c : Call} {f : Operand} {fn : Nat} {F : Func} {cd : Code} {us cvs : Array Value} (hop : o.op = .call c) (hcal : c.callee = .value f) (hfv : a.eval f = .func (.func fn) us cvs) (hF : P.funcs[fn]? = some F) (hng : notNG F = true) (hb : F.body = some cd) :
    (execOp a.eval o).run P w = .ok (.enter fn (us ++ c.args.map a.eval ++ cvs)) w := by
  have hn : ¬ F.name = "runtime.NumGoroutine" := by
    unfold notNG at hng
    intro e
    rw [e] at hng
    cases hng
  simp [execOp, hop, resolve, hcal, hfv, Deferred.ofValue, invoke, callFunc, program, Sem.run, hF, hn, hb]

theorem op_in (hc : HOk P call) (H : HR μ s.h w) (F : FR μ n ρ a.tmps) {x : HV} (hf : Free μ s.nx s'.nx) (h : (evK P o.op).run call ρ s = some (x, s')) {K : Act → World → Prop}
    (hK : ∀ v μ' w', HR μ' s'.h w' → Step μ s w μ' s' w' → VR μ' x v → K (a.put o.dst v) w') : o.wpIn (W0 rd) 0 P a w K Q := by
  have hsem : o.semAt (W0 rd).round a.eval = execOp a.eval o := Oper.semAt_eq _ _ _ fun c e => by rw [e] at h; cases h
  refine ⟨fun _ _ => trivial, ?_⟩
  rw [hsem]
  cases hcall : isCall o.op
  · obtain ⟨v, μ', w', hrun, h1, h2, h3⟩ := evK_ok (P := P) H F hf hcall h
    rcases hrun with hrun | ⟨hrun, rfl⟩
    · rw [hrun]; exact hK v μ' w' h1 h2 h3
    · rw [hrun]; exact hK _ μ' w' h1 h2 h3
  · obtain ⟨c, f, hop, hcal⟩ := isCall_some hcall
    have h' := h
    rw [hop] at h'
    simp only [evK, hcal] at h'
    obtain ⟨fv, hfv, h'⟩ := bO_some h'
    obtain ⟨vs, hvs, h'⟩ := bO_some h'
    obtain ⟨e1, e2⟩ := opsH_arr F hvs
    have hfe := opH_ok F hfv
    rcases hc.only h' with ⟨fn, fs, cs, rfl⟩ | ⟨b, rfl⟩
    · obtain ⟨⟨Fn, cd, g1, g2, g3⟩, g4⟩ := hc.fn h'
      generalize hu : a.eval f = u at hfe
      cases hfe with
      | f _ _ _ us cvs hus hcs hfr hcr =>
        rw [calls_run (P := P) (w := w) hop hcal hu g1 g2 g3]
        refine ⟨fun e => (by cases e), ?_⟩
        have hv : VRs μ (fs ++ vs ++ cs) (us ++ c.args.map a.eval ++ cvs) := VRs.append (VRs.append ⟨hus, hfr⟩ ⟨e1, e2⟩) ⟨hcs, hcr⟩
        have hcal2 := g4 H hf hv
        exact CallsIn.mono (F := W0 rd) hcal2 fun e w' hp => by
          cases e with
          | returned v => obtain ⟨μ', p1, p2, p3⟩ := hp; exact hK v μ' w' p1 p2 p3
          | panicked _ => exact hp.elim
          | outgrown => exact hp.elim
    · generalize hu : a.eval f = u at hfe
      cases hfe with
      | y hq =>
        rename_i q
        obtain ⟨fn, tmps, as, bd, g1, g2⟩ := hc.yd h' H hf hq (vals := c.args.map a.eval) ⟨e1, e2⟩
        have hrun : (execOp a.eval o).run P w = .ok (.round q.1 fn tmps as bd) w := by
          simp only [execOp, hop, resolve, hcal, hu, Deferred.ofValue, Sem.run_bind, Sem.run_pure, Result.andThen_ok, invoke]
          have : (#[] : Array Value) ++ c.args.map a.eval = c.args.map a.eval := by simp
          rw [this]
          exact g1
        rw [hrun]
        refine ⟨fun e => (by cases e), ?_⟩
        exact RoundIn.mono (F := W0 rd) g2 fun e w' hp => by
          cases e with
          | returned v => obtain ⟨μ', p1, p2, p3⟩ := hp; exact hK v μ' w' p1 p2 p3
          | panicked _ => exact hp.elim
          | outgrown => exact hp.elim

/-- Whether an operation is wanted. -/
theorem guardT_spec {j t : Nat} {b b' : Bool} (h : guardT ops (some (j, b)) = some (t, b')) : (ops[j]?).bind (·.dst) = some t ∧ b' = b := by
  simp only [guardT] at h
  split at h
  · rename_i o ho
    split at h
    · rename_i t' ht
      cases h
      exact ⟨by simp [ho, ht], rfl⟩
    · cases h
  · cases h
theorem wantH_ok {tm : Array Value} (hT : ∀ q x, guardT ops o.guard = some q → ρ.get q.1 = some x → VR μ x (tm.getD q.1 Go.undef)) {b : Bool} (hw : wantH ρ ops o.guard = some b) : Region.wanted o (yielded ops tm) = b := by
  cases hg : o.guard with
  | none =>
    rw [hg] at hw
    simp only [wantH, Option.some.injEq] at hw
    subst hw
    simp [Region.wanted, hg]
  | some p =>
    obtain ⟨j, b1⟩ := p
    rw [hg] at hw hT
    simp only [wantH] at hw
    obtain ⟨⟨t, b2⟩, hq, hw2⟩ := bO_some hw
    clear hw
    obtain ⟨h2, rfl⟩ := guardT_spec hq
    have hlt : ∀ v, tm.getD t Go.undef = v → v ≠ Go.undef → tm[t]? = some v := by
      intro v hv hne
      rw [Array.getD_eq_getD_getElem?] at hv
      cases hh : tm[t]? with
      | none => rw [hh] at hv; exact absurd hv.symm hne
      | some u => rw [hh] at hv; simp at hv; rw [hv]
    simp only [Region.wanted, hg, yielded, h2, Option.bind_some]
    cases hr : ρ.get t with
    | none => rw [hr] at hw2; cases hw2
    | some x =>
      have h0 := hT (t, b2) x hq hr
      simp only at h0
      rw [hr] at hw2
      generalize hv : tm.getD t Go.undef = v at h0
      cases x <;> try (cases hw2; done)
      · cases h0
        simp only [Option.some.injEq] at hw2
        rw [hlt _ hv (by intro e; cases e), ← hw2]
        rename_i c
        cases c <;> cases b2 <;> rfl
      · cases h0
        simp only [Option.some.injEq] at hw2
        rw [← hw2]
        rw [Array.getD_eq_getD_getElem?] at hv
        cases hh : tm[t]? with
        | none => simp
        | some u => rw [hh] at hv; simp at hv; rw [hv]; simp [Go.undef]

/-- The temporaries after a result is laid. -/
theorem FR.put (F : FR μ n ρ a.tmps) {μ' : Mu} (hle : ∀ a r, μ a = some r → μ' a = some r) {d : Option Nat} (hd : dstOk n d = true) {x : HV} {v : Value} (hv : VR μ' x v) : FR μ' n (putE ρ d x) (a.put d v).tmps := by
  cases d with
  | none => exact F.mono hle
  | some d =>
    have hd : Nat.blt d n = true := hd
    rw [Nat.blt_eq] at hd
    have hs := F.1
    refine ⟨by simpa [Act.put] using hs, fun t y hy => ?_⟩
    rw [putE_get] at hy
    have e : (a.put (some d) v).tmps = a.tmps.setIfInBounds d v := rfl
    rw [e]
    by_cases ht : t = d
    · subst ht
      rw [if_pos rfl] at hy
      cases hy
      rw [Array.getD_eq_getD_getElem?, Array.getElem?_setIfInBounds_self_of_lt (by omega)]
      exact hv
    · rw [if_neg fun e => ht (Option.some.inj e).symm] at hy
      rw [Array.getD_eq_getD_getElem?, Array.getElem?_setIfInBounds_ne (Ne.symm ht), ← Array.getD_eq_getD_getElem?]
      exact (F.2 t y hy).mono hle
theorem put_defers (a : Act) (d : Option Nat) (v : Value) : (a.put d v).defers = a.defers := by cases d <;> rfl

theorem Free.left {μ : Mu} {a b c : Nat} (h : Free μ a c) (hbc : b ≤ c) : Free μ a b := fun d h1 h2 => h d h1 (by omega)
theorem Free.right {μ μ' : Mu} {s s1 : HS} {w w' : World} {c : Nat} (h : Free μ s.nx c) (q : s.nx ≤ s1.nx) (st : Step μ s w μ' s1 w') : Free μ' s1.nx c := fun d h1 h2 => by rw [st.stay d (by omega)]; exact h d (by omega) h2

theorem opIn_step (hc : HOk P call) (H : HR μ s.h w) (F : FR μ n ρ a.tmps) {i : Nat} {ρ' : En} (hi : ops[i]? = some o) (hf : Free μ s.nx s'.nx) (h : (evOp P call n ops o).run ρ s = some (ρ', s')) {K : Act → World → Prop}
    (hK : ∀ a' μ' w', HR μ' s'.h w' → FR μ' n ρ' a'.tmps → a'.defers = a.defers → Step μ s w μ' s' w' → K a' w') : wpOpIn (W0 rd) 0 P ops Q i K a w := by
  obtain ⟨hd, b, hb, hcase⟩ := evOp_some h
  have hw := wantH_ok (tm := a.tmps) (fun q x _ hx => F.2 _ _ hx) hb
  unfold wpOpIn
  simp only [hi, hw]
  rcases hcase with ⟨rfl, x, hx, rfl⟩ | ⟨rfl, rfl, rfl⟩
  · simp only [if_true]
    exact op_in hc H F hf hx fun v μ' w' h1 h2 h3 => hK _ μ' w' h1 (F.put h2.le hd h3) (put_defers _ _ _) h2
  · simp only [Bool.false_eq_true, if_false]
    exact ⟨fun _ _ => trivial, hK _ μ w H (F.put (fun _ _ e => e) hd .u) (put_defers _ _ _) (Step.refl _ _ _)⟩

/-- A region in the order of the text. -/
theorem ops_in (hc : HOk P call) {a0 : Act} {μ0 : Mu} {s0 : HS} {w0 : World} {ρ' : En} : ∀ {l : List Oper} {k : Nat} {ρ : En} {s : HS} {μ : Mu} {a : Act} {w : World}, (∀ j, l[j]? = ops[k + j]?) → HR μ s.h w → FR μ n ρ a.tmps → a.defers = a0.defers → Step μ0 s0 w0 μ s w → Qt s0 s → Free μ0 s0.nx s'.nx →
    (evOps P call n ops l).run ρ s = some (ρ', s') → (∀ a' μ' w', HR μ' s'.h w' → FR μ' n ρ' a'.tmps → a'.defers = a0.defers → Step μ0 s0 w0 μ' s' w' → Q .normal a' w') → wpOpsIn (W0 rd) 0 P ops Q (List.range' k l.length) a w
  | [], k, ρ, s, μ, a, w, _, H, F, hd, st, _, _, h, hQ => by
    cases h
    exact hQ _ _ _ H F hd st
  | o :: l, k, ρ, s, μ, a, w, hl, H, F, hd, st, q, hf, h, hQ => by
    obtain ⟨ρ1, s1, h1, h2⟩ := evOps_cons h
    have q1 := evOp_qt hc.qt h1
    have q2 := evOps_qt hc.qt h2
    have hf1 := hf.right q.nx st
    have hi : ops[k]? = some o := by simpa using (hl 0).symm
    rw [List.length_cons, List.range'_succ, wpOpsIn_cons]
    refine opIn_step hc H F hi (hf1.left q2.nx) h1 fun a' μ' w' g1 g2 g3 g4 => ?_
    exact ops_in hc (fun j => by have := hl (j + 1); simpa [Nat.add_assoc, Nat.add_comm 1 j] using this) g1 g2 (g3.trans hd) (st.trans g4 q q1 (hf.left (Nat.le_trans q1.nx q2.nx))) (q.trans q1) hf h2 hQ
end
end Go.Hp
