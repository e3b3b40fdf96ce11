/- Closed runs over a heap of numbered objects: code. -/
import Derived.Test.YtokngfogomhmdaaGreatHa14
import Derived.Test.YtokngfogomhmdaaGreatAbs12
namespace Go.Hp
open Go.Ai Go.RowKit
noncomputable section

section
variable {P : Program} {call : HCaller} {n : Nat} {fuel : Nat}

/-! ### What code can touch -/

theorem thenH_some {r : RC} {k : En → HS → RC} {q : Ex × En × HS} (h : thenH r k = some q) : (∃ ρ s, r = some (.norm, ρ, s) ∧ k ρ s = some q) ∨ (r = some q ∧ q.1 ≠ .norm) := by
  obtain ⟨⟨ex, ρ, s⟩, h1, h⟩ := bO_some h
  cases ex with
  | norm => exact .inl ⟨ρ, s, h1, h⟩
  | exit i => cases h; exact .inr ⟨h1, nofun⟩
  | ret => cases h; exact .inr ⟨h1, nofun⟩
theorem inBlockH_some {id : Nat} {r : RC} {q : Ex × En × HS} (h : inBlockH id r = some q) : ∃ ex, r = some (ex, q.2) ∧ ((ex = .exit id ∧ q.1 = .norm) ∨ (ex = q.1 ∧ ex ≠ .exit id)) := by
  obtain ⟨⟨ex, ρ, s⟩, h1, h⟩ := bO_some h
  cases ex with
  | norm => cases h; exact ⟨_, h1, .inr ⟨rfl, nofun⟩⟩
  | ret => cases h; exact ⟨_, h1, .inr ⟨rfl, nofun⟩⟩
  | exit i =>
    cases hb : Nat.beq i id
    · have h : cnd (Nat.beq i id) (some (Ex.norm, ρ, s)) (some (Ex.exit i, ρ, s)) = some q := h
      rw [hb] at h
      cases h
      exact ⟨_, h1, .inr ⟨rfl, fun e => by cases e; rw [Nat.beq_refl] at hb; cases hb⟩⟩
    · have h : cnd (Nat.beq i id) (some (Ex.norm, ρ, s)) (some (Ex.exit i, ρ, s)) = some q := h
      rw [hb] at h
      cases h
      have := Nat.eq_of_beq_eq_true hb
      subst this
      exact ⟨_, h1, .inl ⟨rfl, rfl⟩⟩
theorem asL_some {α : Type} {o : Option HO} {k : En → Nat → List Nat → Code → Code → LoopState → Option Code → Option α} {x : α} (h : asL o k = some x) : ∃ ρ n ps as bd st j, o = some (.l ρ n ps as bd st j) ∧ k ρ n ps as bd st j = some x := by
  unfold asL at h
  split at h
  · exact ⟨_, _, _, _, _, _, _, rfl, h⟩
  · cases h

theorem loop_qt {a : MC} (ha : ∀ ρ s ex ρ' s', a.run ρ s = some (ex, ρ', s') → Qt s s') : ∀ (f : Nat) {ρ s ex ρ' s'}, cLoop f a ρ s = some (ex, ρ', s') → Qt s s' := by
  intro f
  induction f with
  | zero => intro ρ s ex ρ' s' h; cases h
  | succ f ih =>
    intro ρ s ex ρ' s' h
    have h : thenH (a.run ρ s) (cLoop f a) = some (ex, ρ', s') := h
    rcases thenH_some h with ⟨ρ1, s1, h1, h2⟩ | ⟨h1, _⟩
    · exact (ha _ _ _ _ _ h1).trans (ih h2)
    · exact ha _ _ _ _ _ h1

theorem evC_qt (hc : QC call) {rd : Bool} : ∀ (c : Code) {ρ : En} {s : HS} {ex : Ex} {ρ' : En} {s' : HS}, (evC P call n rd fuel c).run ρ s = some (ex, ρ', s') → Qt s s' := by
  intro c
  induction c with
  | skip => intro ρ s ex ρ' s' h; cases h; exact Qt.refl _
  | label l => intro ρ s ex ρ' s' h; cases h; exact Qt.refl _
  | exit id => intro ρ s ex ρ' s' h; cases h; exact Qt.refl _
  | ret => intro ρ s ex ρ' s' h; cases h; exact Qt.refl _
  | goto l => intro ρ s ex ρ' s' h; cases h
  | refuse w => intro ρ s ex ρ' s' h; cases h
  | region id ops draw =>
    intro ρ s ex ρ' s' h
    have h : cReg (evR P call n ops draw) ρ s = some (ex, ρ', s') := h
    obtain ⟨⟨ρ1, s1⟩, h1, h⟩ := bO_some h
    cases h
    exact region_qt hc h1
  | seq a b iha ihb =>
    intro ρ s ex ρ' s' h
    have h : thenH ((evC P call n rd fuel a).run ρ s) (evC P call n rd fuel b).run = some (ex, ρ', s') := h
    rcases thenH_some h with ⟨ρ1, s1, h1, h2⟩ | ⟨h1, _⟩
    · exact (iha h1).trans (ihb h2)
    · exact iha h1
  | cond x a b iha ihb =>
    intro ρ s ex ρ' s' h
    have h : cCond x (evC P call n rd fuel a) (evC P call n rd fuel b) ρ s = some (ex, ρ', s') := h
    obtain ⟨v, _, h⟩ := bO_some h
    obtain ⟨t, _, h⟩ := asB_some h
    cases t
    · exact ihb h
    · exact iha h
  | block id a ih =>
    intro ρ s ex ρ' s' h
    have h : inBlockH id ((evC P call n rd fuel a).run ρ s) = some (ex, ρ', s') := h
    obtain ⟨ex1, h1, _⟩ := inBlockH_some h
    exact ih h1
  | loop a ih =>
    intro ρ s ex ρ' s' h
    exact loop_qt (a := evC P call n rd fuel a) (fun _ _ _ _ _ h => ih h) fuel h
  | scope a ih => intro ρ s ex ρ' s' h; exact ih h
  | rangeFunc f ps as bd _ _ =>
    intro ρ s ex ρ' s' h
    cases rd
    · have h : cRange call n f ps.toList as bd ρ s = some (ex, ρ', s') := h
      obtain ⟨fv, _, h⟩ := bO_some h
      obtain ⟨_, h⟩ := whenH_some h
      obtain ⟨⟨x, s2⟩, h1, h⟩ := bO_some h
      obtain ⟨ρ1, n1, ps1, as1, bd1, st, j, h2, h⟩ := asL_some h
      obtain ⟨_, h⟩ := whenH_some h
      obtain ⟨ex1, _, h⟩ := bO_some h
      cases h
      exact ((Qt.new _ _).trans (hc _ _ _ _ _ h1)).trans (Qt.turn h2)
    · cases h

/-! ### Code in a frame -/

/-- The marks that ranges over functions have left: blocks that nobody else knows. -/
def MK (B : Nat) (μ : Mu) (h : Tr HO) (ds : List Deferred) (w : World) : Prop :=
  ∃ rs : List Nat, ds = rs.map (fun r => { target := .collected r, args := #[] }) ∧ rs.Nodup ∧ ∀ r ∈ rs, B ≤ r ∧ w.heap[r]? = some (.deferred (some [])) ∧ ∀ b o q, h.get b = some o → μ b = some q → q.1 ≠ r

theorem MK.nil {B : Nat} {μ : Mu} {h : Tr HO} {w : World} : MK B μ h [] w := ⟨[], rfl, List.nodup_nil, fun r hr => by cases hr⟩
theorem MK.step {B : Nat} {μ μ' : Mu} {s s' : HS} {ds : List Deferred} {w w' : World} (h : MK B μ s.h ds w) (st : Step μ s w μ' s' w') (q : Qt s s') (hf : Free μ s.nx s'.nx) : MK B μ' s'.h ds w' := by
  obtain ⟨rs, h1, h2, h3⟩ := h
  refine ⟨rs, h1, h2, fun r hr => ?_⟩
  obtain ⟨g1, g2, g3⟩ := h3 r hr
  have hlt := (Array.getElem?_eq_some_iff.1 g2).1
  refine ⟨g1, (st.frame r hlt fun b o p hb hp => g3 b o p hb hp).trans g2, fun b o p hb hp e => ?_⟩
  rcases st.new b p hp with e1 | ⟨c, o', e1, e2⟩ | e1
  · rcases q.dom b o hb with ⟨o', e2⟩ | e2
    · exact g3 b o' p e2 e1 e
    · rw [hf b e2.1 e2.2] at e1; cases e1
  · exact g3 c o' p e1 e2 e
  · omega

theorem HR.alloc {μ : Mu} {h : Tr HO} {w : World} (H : HR μ h w) (x : Obj) : HR μ h (w.alloc x) :=
  ⟨fun b o hb => let ⟨q, h1, h2⟩ := H.obj b o hb; ⟨q, h1, h2.same (fun _ _ e => e) (Below.heap_alloc _ _ _ h2.lt)⟩, H.inj, fun b q hb => by have := H.lt b q hb; show q.1 < (w.heap.push _).size; simp; omega⟩
theorem Step.before {μ μ' : Mu} {s s' : HS} {w w1 w' : World} (st : Step μ s w1 μ' s' w') (hos : w1.os = w.os) (ht : w1.tape = w.tape) (ho : w1.output = w.output) (hs : w.heap.size ≤ w1.heap.size) (hh : ∀ r, r < w.heap.size → w1.heap[r]? = w.heap[r]?) : Step μ s w μ' s' w' :=
  ⟨st.le, st.os.trans hos, st.tape.trans ht, st.out.trans ho, Nat.le_trans hs st.size, fun b q e => (st.new b q e).imp id (fun e => e.imp id fun e => Nat.le_trans hs e), fun r hr hn => (st.frame r (Nat.lt_of_lt_of_le hr hs) hn).trans (hh r hr), st.stay⟩

/-- A loop's record, turned. -/
theorem loop_turn {μ : Mu} {s : HS} {w : World} (H : HR μ s.h w) {b : Nat} {q : Nat × Nat} {ρ : En} {m : Nat} {ps : List Nat} {as bd : Code} {st : LoopState} {j : Option Code} (hb : s.h.get b = some (.l ρ m ps as bd st j)) (hq : μ b = some q) (st' : LoopState) (j' : Option Code) :
    ∃ L : Loop, w.heap[q.1]? = some (.loop L) ∧ L.state = st ∧ L.pending = j ∧ L.params = ps.toArray ∧ L.assign = as ∧ L.body = bd ∧ FR μ m ρ L.tmps ∧
      HR μ (setS s b (.l ρ m ps as bd st' j')).h (w.putObj q.1 (.loop { L with state := st', pending := j' })) ∧ Step μ s w μ (setS s b (.l ρ m ps as bd st' j')) (w.putObj q.1 (.loop { L with state := st', pending := j' })) := by
  obtain ⟨L, h1, h2, h3, h4, h5, h6, h7⟩ := H.at hb hq
  have hlt := (Array.getElem?_eq_some_iff.1 h1).1
  refine ⟨L, h1, h5, h6, h2, h3, h4, h7, H.turn hb hq (by simp) (fun b hb => World.putObj_heap_other hb) ⟨_, World.putObj_heap_same hlt, h2, h3, h4, rfl, rfl, h7⟩, Step.turn hb hq rfl rfl rfl (by simp) fun b hb => World.putObj_heap_other hb⟩

theorem FR.flush {μ : Mu} {ρ : En} {tm : Array Value} (F : FR μ n ρ tm) : FR μ n ρ.flush tm := ⟨F.1, fun t x hx => F.2 t x (En.get_flush hx)⟩

theorem loop_fuel {a : MC} {f : Nat} {ρ : En} {s : HS} {q : Ex × En × HS} (h : cLoop (f + 1) a ρ s = some q) : (∃ ρ1 s1, a.run ρ s = some (.norm, ρ1, s1) ∧ cLoop f a ρ1 s1 = some q) ∨ (a.run ρ s = some q ∧ q.1 ≠ .norm) := thenH_some h

theorem stepR_scope {b : Frame} {a : Act} {c : Code} {k : List Item} {cs : List Frame} {w : World} : step P (lone (b.atR a (.code (.scope c) :: k)) cs w) = .next (lone (b.atR a (.code c :: .inScope c :: k)) cs w) :=
  step_lone_go (by simp [stepG, stepG.exec, Frame.atR])
theorem stepR_inScope {b : Frame} {a : Act} {c : Code} {k : List Item} {cs : List Frame} {w : World} : step P (lone (b.atR a (.inScope c :: k)) cs w) = .next (lone (b.atR a k) cs w) :=
  step_lone_go (by simp [stepG, stepG.exec, Frame.atR])
theorem wpIn_scope {F : Fence} {m : Nat} {Q : Exit → Act → World → Prop} {a : Act} {w : World} {c : Code} (h : c.wpIn F m P (Exit.noGoto Q) a w) : (Code.scope c).wpIn F m P Q a w := by
  intro b k cs hro hb hr
  have h0 : (lone (b.atR a (.code (.scope c) :: k)) cs w).fenced P F := fenced_calm hb hr rfl
  obtain ⟨e, a₁, w₁, hq, harr⟩ := h b (.inScope c :: k) cs hro hb hr
  cases e with
  | normal => exact ⟨.normal, a₁, w₁, hq, .head h0 stepR_scope (StepsIn.trans harr (.one (fenced_calm (fr := b.atR a₁ (.inScope c :: k)) hb hr rfl) stepR_inScope))⟩
  | exit id =>
    have hx : exitTo id (.inScope c :: k) = exitTo id k := by simp [exitTo]
    exact ⟨.exit id, a₁, w₁, hq, fun k' hk => .head h0 stepR_scope (harr.1 k' (by rw [hx]; exact hk)), fun hr' hk => let ⟨k₁, h1, h2⟩ := harr.2 hr' (by rw [hx]; exact hk); ⟨k₁, h1, .head h0 stepR_scope h2⟩⟩
  | goto l => exact hq.elim
  | ret => exact ⟨_, a₁, w₁, hq, .of_steps (.one h0 stepR_scope) harr⟩
  | panic ch => exact ⟨_, a₁, w₁, hq, .of_steps (.one h0 stepR_scope) harr⟩
  | outgrown => exact ⟨_, a₁, w₁, hq, .of_steps (.one h0 stepR_scope) harr⟩

theorem code_in (hm : P.follows .mixedOrders = true) (hc : HOk P call) {B : Nat} {rd : Option Nat} : ∀ (c : Code) {ρ : En} {s : HS} {ex : Ex} {ρ' : En} {s' : HS} {μ : Mu} {a : Act} {w : World} {Q : Exit → Act → World → Prop}, (evC P call n rd.isSome fuel c).run ρ s = some (ex, ρ', s') →
    HR μ s.h w → FR μ n ρ a.tmps → MK B μ s.h a.defers w → B ≤ w.heap.size → Free μ s.nx s'.nx → (∀ μ' a' w', HR μ' s'.h w' → FR μ' n ρ' a'.tmps → MK B μ' s'.h a'.defers w' → Step μ s w μ' s' w' → Q (exitOf ex) a' w') → c.wpIn (W0 rd) 0 P Q a w := by
  intro c
  induction c with
  | skip => intro ρ s ex ρ' s' μ a w Q h H F M hB hf hQ; cases h; exact wpIn_skip (hQ _ _ _ H F M (Step.refl _ _ _))
  | label l => intro ρ s ex ρ' s' μ a w Q h H F M hB hf hQ; cases h; exact wpIn_label (hQ _ _ _ H F M (Step.refl _ _ _))
  | exit id => intro ρ s ex ρ' s' μ a w Q h H F M hB hf hQ; cases h; exact wpIn_exit (hQ _ _ _ H F M (Step.refl _ _ _))
  | ret => intro ρ s ex ρ' s' μ a w Q h H F M hB hf hQ; cases h; exact wpIn_ret (hQ _ _ _ H F M (Step.refl _ _ _))
  | goto l => intro ρ s ex ρ' s' μ a w Q h; cases h
  | refuse y => intro ρ s ex ρ' s' μ a w Q h; cases h
  | region id ops draw =>
    intro ρ s ex ρ' s' μ a w Q h H F M hB hf hQ
    have h : cReg (evR P call n ops draw) ρ s = some (ex, ρ', s') := h
    obtain ⟨⟨ρ1, s1⟩, h1, h⟩ := bO_some h
    cases h
    exact region_in hm hc H F hf h1 fun a' μ' w' g1 g2 g3 g4 => hQ _ _ _ g1 g2.flush (by rw [g3]; exact M.step g4 (region_qt hc.qt h1) hf) g4
  | seq x y ihx ihy =>
    intro ρ s ex ρ' s' μ a w Q h H F M hB hf hQ
    have h : thenH ((evC P call n rd.isSome fuel x).run ρ s) (evC P call n rd.isSome fuel y).run = some (ex, ρ', s') := h
    refine wpIn_seq ?_
    rcases thenH_some h with ⟨ρ1, s1, h1, h2⟩ | ⟨h1, hne⟩
    · have q1 := evC_qt hc.qt x h1
      have q2 := evC_qt hc.qt y h2
      refine ihx h1 H F M hB (hf.left q2.nx) fun μ1 a1 w1 g1 g2 g3 g4 => ?_
      refine ihy h2 g1 g2 g3 (Nat.le_trans hB g4.size) (hf.right q1.nx g4) fun μ2 a2 w2 k1 k2 k3 k4 => ?_
      exact hQ _ _ _ k1 k2 k3 (g4.trans k4 q1 q2 (hf.left q2.nx))
    · refine ihx h1 H F M hB hf fun μ1 a1 w1 g1 g2 g3 g4 => ?_
      have := hQ _ _ _ g1 g2 g3 g4
      cases ex with
      | norm => exact absurd rfl hne
      | exit i => exact this
      | ret => exact this
  | cond x y z ihy ihz =>
    intro ρ s ex ρ' s' μ a w Q h H F M hB hf hQ
    have h : cCond x (evC P call n rd.isSome fuel y) (evC P call n rd.isSome fuel z) ρ s = some (ex, ρ', s') := h
    obtain ⟨v, hv, h⟩ := bO_some h
    obtain ⟨t, rfl, h⟩ := asB_some h
    have h1 := opH_ok F hv
    generalize hu : a.eval x = u at h1
    cases h1
    cases t
    · exact wpIn_cond_false hu (ihz h H F M hB hf hQ)
    · exact wpIn_cond_true hu (ihy h H F M hB hf hQ)
  | block id x ih =>
    intro ρ s ex ρ' s' μ a w Q h H F M hB hf hQ
    have h : inBlockH id ((evC P call n rd.isSome fuel x).run ρ s) = some (ex, ρ', s') := h
    obtain ⟨ex1, h1, hx⟩ := inBlockH_some h
    refine wpIn_block (ih h1 H F M hB hf fun μ1 a1 w1 g1 g2 g3 g4 => ?_)
    have := hQ _ _ _ g1 g2 g3 g4
    rcases hx with ⟨rfl, rfl⟩ | ⟨rfl, hne⟩
    · simp only [exitOf, Exit.inBlock, if_true]; exact this
    · cases ex1 with
      | norm => exact this
      | ret => exact this
      | exit i =>
        simp only [exitOf, Exit.inBlock]
        rw [if_neg (fun e : i = id => hne (by rw [e]))]
        exact this
  | scope x ih =>
    intro ρ s ex ρ' s' μ a w Q h H F M hB hf hQ
    refine wpIn_scope (ih h H F M hB hf fun μ1 a1 w1 g1 g2 g3 g4 => ?_)
    have := hQ _ _ _ g1 g2 g3 g4
    cases ex with
    | norm => exact this
    | exit i => exact this
    | ret => exact this
  | loop x ih =>
    intro ρ s ex ρ' s' μ a w Q h H F M hB hf hQ
    have h : cLoop fuel (evC P call n rd.isSome fuel x) ρ s = some (ex, ρ', s') := h
    have hx : ∀ ρ s ex ρ' s', (evC P call n rd.isSome fuel x).run ρ s = some (ex, ρ', s') → Qt s s' := fun _ _ _ _ _ h => evC_qt hc.qt x h
    let p : Act → World → Nat → Prop := fun a1 w1 m => ∃ ρ1 s1 μ1, HR μ1 s1.h w1 ∧ FR μ1 n ρ1 a1.tmps ∧ MK B μ1 s1.h a1.defers w1 ∧ Step μ s w μ1 s1 w1 ∧ Qt s s1 ∧ cLoop m (evC P call n rd.isSome fuel x) ρ1 s1 = some (ex, ρ', s')
    let ν : Act → World → Nat := fun a w => @Classical.epsilon Nat ⟨0⟩ fun m => p a w m ∧ ∀ k, p a w k → m ≤ k
    have hν : ∀ a w, (∃ m, p a w m) → p a w (ν a w) ∧ ∀ k, p a w k → ν a w ≤ k := fun a w he => @Classical.epsilon_spec_aux Nat ⟨0⟩ _ (exists_least he)
    refine wpIn_loop (fun a w => ∃ m, p a w m) ν ⟨fuel, ρ, s, μ, H, F, M, Step.refl _ _ _, Qt.refl _, h⟩ ?_
    intro a1 w1 hI
    obtain ⟨⟨ρ1, s1, μ1, H1, F1, M1, st1, q1, hev1⟩, hmin⟩ := hν a1 w1 hI
    generalize hmm : ν a1 w1 = m at *
    cases m with
    | zero => cases hev1
    | succ m =>
      have hB1 : B ≤ w1.heap.size := Nat.le_trans hB st1.size
      rcases loop_fuel hev1 with ⟨ρ2, s2, h1, h2⟩ | ⟨h1, hne⟩
      · have q2 := hx _ _ _ _ _ h1
        have q3 := loop_qt hx m h2
        have hf1 := hf.right q1.nx st1
        refine ih h1 H1 F1 M1 hB1 (hf1.left q3.nx) fun μ2 a2 w2 g1 g2 g3 g4 => ?_
        have hp : p a2 w2 m := ⟨ρ2, s2, μ2, g1, g2, g3, st1.trans g4 q1 q2 (hf.left (Nat.le_trans q2.nx q3.nx)), q1.trans q2, h2⟩
        refine ⟨⟨m, hp⟩, ?_⟩
        have := (hν a2 w2 ⟨m, hp⟩).2 m hp
        omega
      · have q2 := hx _ _ _ _ _ h1
        have hf1 := hf.right q1.nx st1
        refine ih h1 H1 F1 M1 hB1 hf1 fun μ2 a2 w2 g1 g2 g3 g4 => ?_
        have := hQ _ _ _ g1 g2 g3 (st1.trans g4 q1 q2 (hf.left q2.nx))
        cases ex with
        | norm => exact absurd rfl hne
        | exit i => exact this
        | ret => exact this
  | rangeFunc f ps as bd _ _ =>
    intro ρ s ex ρ' s' μ a w Q h H F M hB hf hQ
    cases rd with
    | some l => cases h
    | none =>
      have h : cRange call n f ps.toList as bd ρ s = some (ex, ρ', s') := h
      obtain ⟨fv, hfv, h⟩ := bO_some h
      obtain ⟨hfn, h⟩ := whenH_some h
      obtain ⟨⟨x, s2⟩, h1, h⟩ := bO_some h
      obtain ⟨ρ1, n1, ps1, as1, bd1, st, j, h2, h⟩ := asL_some h
      obtain ⟨hst, h⟩ := whenH_some h
      obtain ⟨ex1, hj, h⟩ := bO_some h
      cases h
      have q1 : Qt s (newS s (.l ρ n ps.toList as bd .ready none)) := Qt.new _ _
      have q2 := hc.qt _ _ _ _ _ h1
      have q3 : Qt s2 (setS s2 s.nx (.l ρ1 n1 ps1 as1 bd1 .exhausted j)) := Qt.turn h2
      have hfe := opH_ok F hfv
      rcases hc.only h1 with ⟨fn, fs, cs, rfl⟩ | ⟨b, rfl⟩
      rotate_left
      · cases hfn
      generalize hu : a.eval f = u at hfe
      cases hfe with
      | f _ _ _ us cvs hus hcs hfr hcr =>
        obtain ⟨⟨Fn, cd, k1, k2, k3⟩, k4⟩ := hc.fn h1
        have hμ : μ s.nx = none := hf s.nx (Nat.le_refl _) (Nat.lt_of_lt_of_le (Nat.lt_succ_self _) q2.nx)
        refine wpIn_rangeFunc fun fn0 _ => ?_
        -- the record is laid
        have hD := H.alloc (.deferred (some []))
        obtain ⟨H1, st1⟩ := new_h hD hμ (x := .loop { state := .ready, pending := none, fn := fn0, tmps := a.tmps, params := ps, assign := as, body := bd, defers := w.heap.size }) 0 (o := .l ρ n ps.toList as bd .ready none)
          fun μ' w' hle hw => ⟨_, hw, by simp, rfl, rfl, rfl, rfl, F.mono hle⟩
        have hsz : (w.alloc (.deferred (some []))).heap.size = w.heap.size + 1 := by show (w.heap.push _).size = _; simp
        have st1' := st1.before (w := w) rfl rfl rfl (by omega) (fun r hr => Below.heap_alloc _ _ _ hr)
        have M0 : MK B μ s.h ([{ target := .collected w.heap.size, args := #[] }] ++ a.defers) (w.alloc (.deferred (some []))) := by
          obtain ⟨rs, e1, e2, e3⟩ := M
          refine ⟨w.heap.size :: rs, by rw [e1]; rfl, List.nodup_cons.2 ⟨fun hm => ?_, e2⟩, fun r hr => ?_⟩
          · have := (Array.getElem?_eq_some_iff.1 (e3 _ hm).2.1).1
            omega
          · rcases List.mem_cons.1 hr with rfl | hr
            · exact ⟨hB, by show (w.heap.push _)[w.heap.size]? = _; simp, fun b o q _ hq => by have := H.lt b q hq; omega⟩
            · obtain ⟨g1, g2, g3⟩ := e3 r hr
              exact ⟨g1, (Below.heap_alloc _ _ _ (Array.getElem?_eq_some_iff.1 g2).1).trans g2, g3⟩
        have M1 := M0.step st1 q1 (hf.left q2.nx)
        have hq1 : addMu μ s.nx ((w.alloc (.deferred (some []))).heap.size, 0) s.nx = some ((w.alloc (.deferred (some []))).heap.size, 0) := by simp [addMu]
        have hvals : VRs (addMu μ s.nx ((w.alloc (.deferred (some []))).heap.size, 0)) (fs ++ [.y s.nx] ++ cs) (us ++ #[.func (.yield (w.heap.size + 1)) #[] #[]] ++ cvs) := by
          refine VRs.append (VRs.append ⟨hus, fun i g1 g2 => (hfr i g1 g2).mono st1.le⟩ ⟨rfl, fun i g1 g2 => ?_⟩) ⟨hcs, fun i g1 g2 => (hcr i g1 g2).mono st1.le⟩
          have : i = 0 := by simpa using g1
          subst this
          show VR _ (.y s.nx) (.func (.yield (w.heap.size + 1)) #[] #[])
          rw [← hsz]
          exact VR.y hq1
        have hcall := k4 H1 (hf.right q1.nx st1') hvals
        obtain ⟨w1, hw1⟩ : ∃ w1 : World, (w.alloc (.deferred (some []))).alloc (.loop { state := .ready, pending := none, fn := fn0, tmps := a.tmps, params := ps, assign := as, body := bd, defers := w.heap.size }) = w1 := ⟨_, rfl⟩
        have hrun0 : (Instr.enterLoop fn0 a.tmps ps as bd none).run P w = .ok (w.heap.size + 1, [{ target := .collected w.heap.size, args := #[] }]) w1 := by rw [← hw1]; exact run_enterLoop_outer fn0 a.tmps ps as bd
        have hcall' : CallsIn Fence.wide 0 P fn (us ++ #[.func (.yield (w.heap.size + 1)) #[] #[]] ++ cvs) w1 (Posted (addMu μ s.nx ((w.alloc (.deferred (some []))).heap.size, 0)) (newS s (.l ρ n ps.toList as bd .ready none)) w1 s2 x) := by rw [← hw1]; exact hcall
        rw [hw1] at st1' M1
        clear hcall hw1
        refine ⟨w.heap.size + 1, _, _, { target := .fn (.func fn) cvs, args := us ++ #[.func (.yield (w.heap.size + 1)) #[] #[]] }, w1, fn, us ++ #[.func (.yield (w.heap.size + 1)) #[] #[]] ++ cvs, w1, hrun0, ?_, fun _ _ => trivial, ?_, nofun, ?_⟩
        · have hy : Array.map a.eval #[Operand.const (Value.func (Go.Fn.yield (w.heap.size + 1)) #[] #[])] = #[Value.func (Go.Fn.yield (w.heap.size + 1)) #[] #[]] := by simp [Act.eval]
          simp only [resolve, hu, Deferred.ofValue, Sem.run_pure, hy]
        · have hn : ¬ Fn.name = "runtime.NumGoroutine" := by
            unfold notNG at k2
            intro e
            rw [e] at k2
            cases k2
          simp [invoke, callFunc, program, Sem.run, k1, hn, k3]
        · refine CallsIn.mono (F := W0 none) hcall' ?_
          intro e w3 hp
          cases e with
          | panicked _ => exact hp.elim
          | outgrown => exact hp.elim
          | returned v =>
            obtain ⟨μ3, g1, g2, _⟩ := hp
            have hq3 := g2.le _ _ hq1
            obtain ⟨L, e1, e2, e3, _, _, _, _, e4, e5⟩ := loop_turn g1 h2 hq3 .exhausted j
            have hb : L.state ≠ .busy := by rw [e2]; intro e; rw [e] at hst; cases hst
            have hend := run_endLoop (P := P) e1 hb
            rw [e3] at hend
            rw [hsz] at hend
            have stall : Step μ s w μ3 (setS s2 s.nx (.l ρ1 n1 ps1 as1 bd1 .exhausted j)) (w3.putObj ((w.alloc (.deferred (some []))).heap.size) (.loop { L with state := .exhausted, pending := j })) :=
              (st1'.trans g2 q1 q2 (hf.left q2.nx)).trans e5 (q1.trans q2) q3 (hf.left (Nat.le_refl _))
            have M3 := (M1.step g2 q2 (hf.right q1.nx st1')).step e5 q3 (fun c hc1 hc2 => by
              have : c < s2.nx := hc2
              omega)
            refine ⟨j, _, hend, ?_⟩
            have hF3 : FR μ3 n ρ a.tmps := F.mono stall.le
            rw [hsz] at e4 stall M3
            have hfin := hQ μ3 { a with defers := [{ target := .collected w.heap.size, args := #[] }] ++ a.defers } _ e4 hF3 M3 stall
            cases j with
            | none => cases hj; exact hfin
            | some c =>
              cases c <;> try (cases hj; done)
              · cases hj; exact wpIn_exit hfin
              · cases hj; exact wpIn_ret hfin
end
end
end Go.Hp
