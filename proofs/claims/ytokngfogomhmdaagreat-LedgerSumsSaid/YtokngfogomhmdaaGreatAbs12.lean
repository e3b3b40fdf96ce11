/- Code and functions: the abstract machine's runs are the model's. -/
import Derived.Test.YtokngfogomhmdaaGreatAbs11
import Derived.Scope
namespace Go.Ai
open Go.RowKit

def codeOk (P : Program) (roots : List (Nat × Nat)) : Code → ICode → Bool
  | .skip, .skip => true
  | .label _, .skip => true
  | .region _ ops draw, .region d io => draw == d && opsOk P roots ops ops.toList io && (!draw || drawOk ops io)
  | .seq a b, .seq a' b' => codeOk P roots a a' && codeOk P roots b b'
  | .cond c a b, .cond c' a' b' => opdOk c c' && codeOk P roots a a' && codeOk P roots b b'
  | .block id c, .block id' c' => id == id' && codeOk P roots c c'
  | .loop c, .loop c' => codeOk P roots c c'
  | .scope c, .scope c' => codeOk P roots c c'
  | .exit id, .exit id' => id == id'
  | .ret, .ret => true
  | _, _ => false

def exitOf : Ex → Exit
  | .norm => .normal
  | .exit id => .exit id
  | .ret => .ret

theorem exists_least {p : Nat → Prop} (h : ∃ n, p n) : ∃ n, p n ∧ ∀ m, p m → n ≤ m := by
  obtain ⟨n, hn⟩ := h
  induction n using Nat.strongRecOn with
  | _ n ih =>
    by_cases hh : ∃ m, m < n ∧ p m
    · obtain ⟨m, hm, hp⟩ := hh
      exact ih m hm hp
    · exact ⟨n, hn, fun m hp => Nat.le_of_not_lt fun hlt => hh ⟨m, hlt, hp⟩⟩

section
variable {P : Program} {Y X0 : Nat → Prop} {roots : List (Nat × Nat)} {w0 : Base}

theorem simC (hm : P.follows .mixedOrders = true) {F : Caller} (hF : CallOk P F) : ∀ (n : Nat) (c : Code) (ic : ICode) (s s' : State) (ex : Ex) (a : Act) (w : World) (Q : Exit → Act → World → Prop), codeOk P roots c ic = true →
    Rel Y X0 roots w0 s a w → evC F n ic s = some (ex, s') → (∀ a' w', Rel Y X0 roots w0 s' a' w' → Q (exitOf ex) a' w') → c.wp P Q a w := by
  intro n
  induction n using Nat.strongRecOn with
  | _ n ih =>
    intro c ic s s' ex a w Q hok h hev hQ
    cases n with
    | zero => simp [evC] at hev
    | succ n =>
      cases ic with
      | skip =>
        cases c <;> simp only [codeOk] at hok <;> try cases hok
        all_goals
          simp only [evC, Option.some.injEq, Prod.mk.injEq] at hev
          obtain ⟨rfl, rfl⟩ := hev
          first | exact wp_skip (hQ _ _ h) | exact wp_label (hQ _ _ h)
      | region d io =>
        cases c <;> simp only [codeOk] at hok <;> try cases hok
        rename_i id ops draw
        simp only [Bool.and_eq_true, beq_iff_eq] at hok
        obtain ⟨⟨rfl, h1⟩, h2⟩ := hok
        simp only [evC, Option.map_eq_some_iff] at hev
        obtain ⟨s1, hs1, he⟩ := hev
        cases he
        cases draw with
        | false => exact simPlain hF h1 h hs1 hQ
        | true => exact simDrawn hm hF h1 (by simpa using h2) h hs1 hQ
      | seq x y =>
        cases c <;> simp only [codeOk] at hok <;> try cases hok
        rename_i c1 c2
        simp only [Bool.and_eq_true] at hok
        simp only [evC] at hev
        refine wp_seq ?_
        split at hev
        · rename_i s1 h1
          refine ih n (by omega) c1 x s s1 .norm a w _ hok.1 h h1 fun a' w' h' => ?_
          exact ih n (by omega) c2 y s1 s' ex a' w' Q hok.2 h' hev hQ
        · rename_i h1
          refine ih n (by omega) c1 x s s' ex a w _ hok.1 h hev fun a' w' h' => ?_
          cases ex with
          | norm => exact absurd hev (h1 s')
          | exit id => exact hQ _ _ h'
          | ret => exact hQ _ _ h'
      | cond o x y =>
        cases c <;> simp only [codeOk] at hok <;> try cases hok
        rename_i o' c1 c2
        simp only [Bool.and_eq_true] at hok
        obtain ⟨⟨h1, h2⟩, h3⟩ := hok
        simp only [evC] at hev
        have key : ∀ b, condA s o = some b → a.eval o' = .bool b := by
          intro b hb
          unfold condA at hb
          split at hb
          · rename_i b' hav
            cases hb
            have := opd_rd h h1 hav
            generalize a.eval o' = v at this
            cases this
            rfl
          · cases hb
        split at hev
        · rename_i hc
          exact wp_cond_true (key true hc) (ih n (by omega) c1 x s s' ex a w Q h2 h hev hQ)
        · rename_i hc
          exact wp_cond_false (key false hc) (ih n (by omega) c2 y s s' ex a w Q h3 h hev hQ)
        · cases hev
      | block id x =>
        cases c <;> simp only [codeOk] at hok <;> try cases hok
        rename_i id' c1
        simp only [Bool.and_eq_true, beq_iff_eq] at hok
        obtain ⟨rfl, hok⟩ := hok
        simp only [evC] at hev
        refine wp_block ?_
        split at hev
        · rename_i i s1 h1
          refine ih n (by omega) c1 x s s1 (.exit i) a w _ hok h h1 fun a' w' h' => ?_
          simp only [exitOf, Exit.inBlock]
          split at hev
          · rename_i hi
            cases hev
            rw [if_pos hi]
            exact hQ _ _ h'
          · rename_i hi
            cases hev
            rw [if_neg hi]
            exact hQ _ _ h'
        · rename_i h1
          refine ih n (by omega) c1 x s s' ex a w _ hok h hev fun a' w' h' => ?_
          cases ex with
          | norm => exact hQ _ _ h'
          | exit i => exact absurd hev (h1 i s')
          | ret => exact hQ _ _ h'
      | scope x =>
        cases c <;> simp only [codeOk] at hok <;> try cases hok
        simp only [evC] at hev
        refine wp_scope_straight ?_
        refine ih n (by omega) _ x s s' ex a w _ hok h hev fun a' w' h' => ?_
        cases ex with
        | norm => exact hQ _ _ h'
        | exit i => exact hQ _ _ h'
        | ret => exact hQ _ _ h'
      | loop x =>
        cases c <;> simp only [codeOk] at hok <;> try cases hok
        rename_i c1
        let p : Act → World → Nat → Prop := fun a w m => m ≤ n + 1 ∧ ∃ s1, Rel Y X0 roots w0 s1 a w ∧ evC F m (.loop x) s1 = some (ex, s')
        let μ : Act → World → Nat := fun a w => @Classical.epsilon Nat ⟨0⟩ fun m => p a w m ∧ ∀ k, p a w k → m ≤ k
        have hμ : ∀ a w, (∃ m, p a w m) → p a w (μ a w) ∧ ∀ k, p a w k → μ a w ≤ k := fun a w he => @Classical.epsilon_spec_aux Nat ⟨0⟩ _ (exists_least he)
        refine wp_loop (fun a w => ∃ m, p a w m) μ ⟨n + 1, Nat.le_refl _, s, h, hev⟩ ?_
        intro a1 w1 hI
        obtain ⟨⟨hle, s1, hr1, hev1⟩, hmin⟩ := hμ a1 w1 hI
        generalize hmm : μ a1 w1 = m at *
        cases m with
        | zero => simp [evC] at hev1
        | succ m =>
          simp only [evC] at hev1
          split at hev1
          · rename_i s2 h2
            refine ih m (by omega) c1 x s1 s2 .norm a1 w1 _ hok hr1 h2 fun a' w' h' => ?_
            have hp : p a' w' m := ⟨by omega, s2, h', hev1⟩
            refine ⟨⟨m, hp⟩, ?_⟩
            have := (hμ a' w' ⟨m, hp⟩).2 m hp
            omega
          · rename_i h2
            refine ih m (by omega) c1 x s1 s' ex a1 w1 _ hok hr1 hev1 fun a' w' h' => ?_
            cases ex with
            | norm => exact absurd hev1 (h2 s')
            | exit i => exact hQ _ _ h'
            | ret => exact hQ _ _ h'
      | exit id =>
        cases c <;> simp only [codeOk] at hok <;> try cases hok
        simp only [beq_iff_eq] at hok
        subst hok
        simp only [evC, Option.some.injEq, Prod.mk.injEq] at hev
        obtain ⟨rfl, rfl⟩ := hev
        exact wp_exit (hQ _ _ h)
      | ret =>
        cases c <;> simp only [codeOk] at hok <;> try cases hok
        simp only [evC, Option.some.injEq, Prod.mk.injEq] at hev
        obtain ⟨rfl, rfl⟩ := hev
        exact wp_ret (hQ _ _ h)

end

def resOk (P : Program) : ResultVar → IRes → Bool
  | .tmp t, .tmp t' => t == t'
  | .cell t ty, .cell t' n one => t == t' && oneOk P ty n one
  | _, _ => false

def ressOk (P : Program) : List ResultVar → List IRes → Bool
  | [], [] => true
  | r :: l, r' :: l' => resOk P r r' && ressOk P l l'
  | _, _ => false

/-- The function of the intermediate language is the program's. -/
def fnOk (P : Program) (roots : List (Nat × Nat)) (fn : Func) (ifn : IFunc) : Bool :=
  (match fn.body with | some c => codeOk P roots c ifn.body | none => false) && fn.ntmps == ifn.slots && ressOk P fn.results.toList ifn.res && decide (ifn.params ≤ ifn.slots)

section
variable {P : Program} {Y X0 : Nat → Prop} {roots : List (Nat × Nat)} {w0 : Base}

/-- One result, read at the call's end. -/
def resSem (tm : Array Value) : ResultVar → Sem Value
  | .tmp t => pure (tm.getD t Go.undef)
  | .cell a t => do loadVar t (← asAddr (tm.getD a Go.undef))

theorem results_eq (fn : Func) (tm : Array Value) : results fn tm = (fn.results.mapM (resSem tm)) >>= fun vs => pure (if h : vs.size = 1 then vs[0] else .tuple vs) := by
  unfold results
  congr 1

theorem results_ok {s : State} {a : Act} {w : World} (h : Rel Y X0 roots w0 s a w) : ∀ {l : List ResultVar} {m : List IRes} {xs : List AV}, ressOk P l m = true → ressA s m = some xs →
    ∃ vs : List Value, (l.mapM (resSem a.tmps)).run P w = .ok vs w ∧ vs.length = xs.length ∧
      ∀ (i : Nat) (h1 : i < vs.length) (h2 : i < xs.length), Rd Y X0 w vs[i] xs[i]
  | [], [], xs, _, hx => by
    simp only [ressA, Option.some.injEq] at hx
    subst hx
    exact ⟨[], rfl, rfl, fun i h1 _ => (by simp at h1)⟩
  | r :: l, r' :: m, xs, hok, hx => by
    simp only [ressOk, Bool.and_eq_true] at hok
    simp only [ressA] at hx
    cases h1 : resA s r' with
    | none => rw [h1] at hx; cases hx
    | some x =>
      rw [h1] at hx
      cases h2 : ressA s m with
      | none => rw [h2] at hx; cases hx
      | some xs' =>
        rw [h2] at hx
        cases hx
        obtain ⟨vs, e1, e2, e3⟩ := results_ok h hok.2 h2
        have one : ∃ v, (resSem a.tmps r).run P w = .ok v w ∧ Rd Y X0 w v x := by
          have hr := hok.1
          cases r with
          | tmp t =>
            cases r' with
            | cell _ _ _ => cases hr
            | tmp t' =>
              simp only [resOk, beq_iff_eq] at hr
              subst hr
              have h0 := h.reg t
              simp only [resA] at h1
              cases hrg : rget s t with
              | val y => rw [hrg] at h1 h0; cases h1; exact ⟨_, rfl, Rd.mono h0 fun b hb => .inl (.inl hb)⟩
              | box _ => rw [hrg] at h1; cases h1
              | ptr _ _ => rw [hrg] at h1; cases h1
              | mem _ => rw [hrg] at h1; cases h1
              | own k n cs =>
                rw [hrg] at h1 h0
                cases h1
                exact ⟨_, rfl, OwnRd.frozen h0 (fun b hb => .inl (.inl hb)) (fun c hc hX => h.low c hX (OwnRd.block h0 hc).1) h.lowY⟩
              | agn _ _ _ _ => rw [hrg] at h1; cases h1
              | bxl _ => rw [hrg] at h1; cases h1
              | dup _ => rw [hrg] at h1; cases h1
              | sub _ _ _ _ => rw [hrg] at h1; cases h1
              | dead => rw [hrg] at h1; cases h1
          | cell t ty =>
            cases r' with
            | tmp _ => cases hr
            | cell t' n one =>
              simp only [resOk, Bool.and_eq_true, beq_iff_eq] at hr
              obtain ⟨rfl, hr⟩ := hr
              have h0 := h.reg t
              simp only [resA] at h1
              cases hrg : rget s t with
              | box cs =>
                rw [hrg] at h1 h0
                obtain ⟨b, g1, _, g3⟩ := h0
                obtain ⟨v, g4, g5⟩ := load_ok (P := P) hr g3.mem h1
                refine ⟨v, ?_, g5.mono fun b hb => .inl (.inl hb)⟩
                simp only [Nat.add_zero] at g4
                simp only [resSem, Sem.run_bind, g1, asAddr, Sem.run_pure, Result.andThen_ok, g4]
              | val _ => rw [hrg] at h1; cases h1
              | ptr _ _ => rw [hrg] at h1; cases h1
              | mem _ => rw [hrg] at h1; cases h1
              | own _ _ _ => rw [hrg] at h1; cases h1
              | agn _ _ _ _ => rw [hrg] at h1; cases h1
              | bxl _ => rw [hrg] at h1; cases h1
              | dup _ => rw [hrg] at h1; cases h1
              | sub _ _ _ _ => rw [hrg] at h1; cases h1
              | dead => rw [hrg] at h1; cases h1
        obtain ⟨v, e4, e5⟩ := one
        refine ⟨v :: vs, ?_, by simp [e2], fun i g1 g2 => ?_⟩
        · simp only [List.mapM_cons, Sem.run_bind, e4, e1, Result.andThen_ok, Sem.run_pure]
        · cases i with
          | zero => exact e5
          | succ i => exact e3 i (by simpa using g1) (by simpa using g2)
  | [], _ :: _, _, hok, _ => by cases hok
  | _ :: _, [], _, hok, _ => by cases hok

theorem RegOk.arg {Y X O : Nat → Prop} {B : Nat → Prop} {tm : Array Value} {w : World} {t : Nat} {v : Value} {x : AV} (hO : ∀ b, O b → B b) (h : ArgRd Y X O w v x) : RegOk Y (fun c => X c ∨ O c) B roots tm w t v (argReg x) := by
  cases x
  case pt cs => exact Rd.ofPt h
  case fresh k n cs => exact OwnRd.lower h hO
  all_goals exact h
theorem excl_arg (x : AV) : excl (argReg x) = isFresh x := by cases x <;> rfl

theorem init_rel {ifn : IFunc} {Y X : Nat → Prop} {w : World} {vs : Array Value} {args : List AV} (hlow : ∀ b, X b → b < w.heap.size ∧ ¬ Given args vs b) (hlowY : ∀ b, Y b → b < w.heap.size ∧ ¬ Given args vs b) (hs : vs.size = args.length) (hpar : args.length ≤ ifn.slots)
    (hr : ∀ (i : Nat) (h1 : i < vs.size) (h2 : i < args.length), ArgRd Y X (Given args vs) w vs[i] args[i]) (hfr : ∀ (i : Nat) (h : i < args.length), isFresh args[i] = true → i = 0) :
    Rel Y X roots ⟨w, Given args vs⟩ (initA ifn args) { tmps := vs ++ Array.replicate (ifn.slots - vs.size) Go.undef, defers := [] } w := by
  have key : ∀ t, (∃ x, rget (initA ifn args) t = argReg x ∧ args[t]? = some x) ∨ rget (initA ifn args) t = .dead := by
    intro t
    simp only [rget, initA, List.getD_eq_getElem?_getD]
    rcases Nat.lt_or_ge t args.length with h1 | h1
    · refine .inl ⟨args[t], ?_, by simp [h1]⟩
      rw [List.getElem?_append_left (by simpa using h1)]
      simp [h1]
    · refine .inr ?_
      rw [List.getElem?_append_right (by simpa using h1)]
      rcases Nat.lt_or_ge (t - (args.map argReg).length) (ifn.slots - args.length) with h2 | h2
      · rw [List.getElem?_replicate_of_lt h2]; rfl
      · rw [List.getElem?_eq_none (by simpa using h2)]; rfl
  have hval : ∀ t, (h : t < args.length) → (vs ++ Array.replicate (ifn.slots - vs.size) Go.undef).getD t Go.undef = vs[t]'(by omega) := by
    intro t h
    rw [Array.getD_eq_getD_getElem?, Array.getElem?_append_left (by omega), Array.getElem?_eq_getElem (by omega)]; rfl
  have hne : ∀ t, excl (rget (initA ifn args) t) = true → t = 0 ∧ ∃ (h : 0 < args.length), isFresh args[0] = true := by
    intro t h0
    rcases key t with ⟨x, h1, h2⟩ | h1 <;> rw [h1] at h0
    · rw [excl_arg] at h0
      obtain ⟨hlt, hx⟩ := List.getElem?_eq_some_iff.1 h2
      subst hx
      have := hfr t hlt h0
      subst this
      exact ⟨rfl, hlt, h0⟩
    · cases h0
  have hXS : ∀ b, XS (initA ifn args) (vs ++ Array.replicate (ifn.slots - vs.size) Go.undef) b → Given args vs b := by
    rintro b ⟨t, h1, h2⟩
    obtain ⟨rfl, hlt, h3⟩ := hne t h1
    rw [hval 0 hlt] at h2
    refine ⟨?_, by rw [Array.getD_eq_getD_getElem?, Array.getElem?_eq_getElem (by omega)]; exact h2⟩
    cases args with
    | nil => cases hlt
    | cons x l => cases x <;> first | exact ⟨_, _, _, l, rfl⟩ | cases h3
  refine ⟨rfl, by simp [initA]; omega, ⟨rfl, rfl, rfl, Nat.le_refl _, fun _ _ => rfl⟩, fun b hb e => e.elim (Nat.not_le_of_lt (hlow b hb).1) (hlow b hb).2, fun b hb e => e.elim (Nat.not_le_of_lt (hlowY b hb).1) (hlowY b hb).2, fun t => ?_, fun t t' b h1 h2 _ _ => (hne t h1).1.trans (hne t' h2).1.symm⟩
  rcases key t with ⟨x, h1, h2⟩ | h1
  · rw [h1]
    obtain ⟨hlt, hx⟩ := List.getElem?_eq_some_iff.1 h2
    have h3 := hr t (by omega) hlt
    rw [hval t hlt, ← hx]
    have h5 := RegOk.arg (roots := roots) (tm := vs ++ Array.replicate (ifn.slots - vs.size) Go.undef) (t := t) (B := Base.mine ⟨w, Given args vs⟩) (fun b hb => .inr hb) h3
    exact h5.monoX fun b hb => hb.imp id (hXS b)
  · rw [h1]; trivial

/-- What one function, standing in for the program's, answers is what the program's call does. -/
def StandsIn (P : Program) (f : Nat) (fn : IFunc) : Prop :=
  ∀ (F : Caller) (n : Nat) (args : List AV) (x : AV), (if args.length = fn.params then (match evC F n fn.body (initA fn args) with
      | some (.exit _, _) => none
      | some (_, s) => resultA s fn.res
      | none => none) else none) = some x → ∀ (Y X : Nat → Prop) (w : World) (vs : Array Value), vs.size = args.length →
    Calls P f vs w fun e w' => ∃ v, e = .returned v ∧ Grown ⟨w, Given args vs⟩ w' ∧ ResOk Y X (Base.mine ⟨w, Given args vs⟩) w' v x

/-- **A function's run on the abstract machine is what the model's call does.** -/
theorem simT (hm : P.follows .mixedOrders = true) {prog : Nat → Option IFunc} (hp : ∀ f ifn, prog f = some ifn → (∃ fn roots, P.funcs[f]? = some fn ∧ fnOk P roots fn ifn = true) ∨ StandsIn P f ifn) : ∀ n, CallOk P (evF prog n) := by
  intro n
  induction n with
  | zero => intro f args x h; simp [evF] at h
  | succ n ih =>
    intro f args x h Y X w vs hlow hlowY hs hr hfr
    simp only [evF] at h
    split at h
    · cases h
    · rename_i ifn hifn
      rcases hp f ifn hifn with ⟨fn, roots, hfn, hok⟩ | ht
      rotate_left
      · exact ht _ _ _ _ h Y X w vs hs
      split at h
      · rename_i hpar
        simp only [fnOk, Bool.and_eq_true, beq_iff_eq, decide_eq_true_eq] at hok
        obtain ⟨⟨⟨h1, h2⟩, h3⟩, h4⟩ := hok
        split at h1
        · rename_i c hc
          have hrel : Rel Y X roots ⟨w, Given args vs⟩ (initA ifn args) { tmps := vs ++ Array.replicate (fn.ntmps - vs.size) Go.undef, defers := [] } w := by
            rw [h2]
            exact init_rel hlow hlowY hs (by omega) hr hfr
          refine calls_of_wp hfn hc ?_
          -- the end of the body
          have fin : ∀ (s : State) (a' : Act) (w' : World), Rel Y X roots ⟨w, Given args vs⟩ s a' w' → resultA s ifn.res = some x →
              a'.defers = [] ∧ ∃ v, (results fn a'.tmps).run P w' = .ok v w' ∧ ∃ v', Ending.returned v = .returned v' ∧ Grown ⟨w, Given args vs⟩ w' ∧ ResOk Y X (Base.mine ⟨w, Given args vs⟩) w' v' x := by
            intro s a' w' hrel' hres
            refine ⟨hrel'.dfr, ?_⟩
            unfold resultA at hres
            have hrun : ∀ (us : List Value), (fn.results.toList.mapM (resSem a'.tmps)).run P w' = .ok us w' →
                (results fn a'.tmps).run P w' = .ok (if h : us.toArray.size = 1 then us.toArray[0] else .tuple us.toArray) w' := by
              intro us hus
              rw [results_eq, Array.mapM_eq_mapM_toList]
              simp only [Sem.run_bind, Sem.run_map, hus, Result.andThen_ok, Sem.run_pure]
            split at hres
            · rename_i y hy
              cases hres
              generalize hl : ifn.res = lres at hy h3
              unfold freshA at hy
              split at hy
              · rename_i t
                split at hy
                · rename_i k n cs hr
                  cases hy
                  cases hfr : fn.results.toList with
                  | nil => rw [hfr] at h3; cases h3
                  | cons r rest =>
                    rw [hfr] at h3
                    cases rest with
                    | cons _ _ => simp only [ressOk, Bool.and_false] at h3; cases h3
                    | nil =>
                      simp only [ressOk, Bool.and_true] at h3
                      cases r with
                      | cell _ _ => cases h3
                      | tmp t' =>
                        simp only [resOk, beq_iff_eq] at h3
                        subst h3
                        refine ⟨_, hrun [a'.tmps.getD t' Go.undef] (by rw [hfr]; rfl), _, rfl, hrel'.below, ?_⟩
                        simp only [List.size_toArray, List.length_cons, List.length_nil, Nat.zero_add, dite_true]
                        rcases hrel'.ownLow hr with hnil | ⟨b, cap, e1, e2, e3, e4, e5, e6, hXb⟩
                        · exact .inl hnil
                        refine .inr ⟨b, cap, e1, e2, e3, e4, e5.mono fun c hc => .inl ?_, e6⟩
                        rcases hc with hc | hc
                        · exact .inl hc
                        · simp only [e1, blockOf, rootOf, List.getElem_toArray, List.getElem_cons_zero, Option.map_some, Option.some.injEq] at hc
                          exact .inr (hc ▸ hXb)
                · rename_i bb k n cs hr
                  cases hy
                  cases hfr : fn.results.toList with
                  | nil => rw [hfr] at h3; cases h3
                  | cons r rest =>
                    rw [hfr] at h3
                    cases rest with
                    | cons _ _ => simp only [ressOk, Bool.and_false] at h3; cases h3
                    | nil =>
                      simp only [ressOk, Bool.and_true] at h3
                      cases r with
                      | cell _ _ => cases h3
                      | tmp t' =>
                        simp only [resOk, beq_iff_eq] at h3
                        subst h3
                        refine ⟨_, hrun [a'.tmps.getD t' Go.undef] (by rw [hfr]; rfl), _, rfl, hrel'.below, ?_⟩
                        simp only [List.size_toArray, List.length_cons, List.length_nil, Nat.zero_add, dite_true]
                        have h0 := hrel'.reg t'
                        rw [hr] at h0
                        have hXS : ∀ c, blockOf (a'.tmps.getD t' Go.undef) = some c → XS s a'.tmps c := fun c hc => ⟨t', by rw [hr]; rfl, hc⟩
                        exact AgnRd.own h0 hXS
                · cases hy
              · rename_i t u
                split at hy
                · rename_i k n cs hr
                  split at hy
                  · rename_i bb hru
                    cases hy
                    cases hfr : fn.results.toList with
                    | nil => rw [hfr] at h3; cases h3
                    | cons r rest =>
                      rw [hfr] at h3
                      cases rest with
                      | nil => simp only [ressOk, Bool.and_false] at h3; cases h3
                      | cons r2 rest =>
                        cases rest with
                        | cons _ _ => simp only [ressOk, Bool.and_false] at h3; cases h3
                        | nil =>
                          simp only [ressOk, Bool.and_true, Bool.and_eq_true] at h3
                          obtain ⟨h3, h3'⟩ := h3
                          cases r with
                          | cell _ _ => cases h3
                          | tmp t' =>
                            cases r2 with
                            | cell _ _ => cases h3'
                            | tmp u' =>
                              simp only [resOk, beq_iff_eq] at h3 h3'
                              subst h3 h3'
                              have hu0 := hrel'.reg u'
                              rw [hru] at hu0
                              have hub : a'.tmps.getD u' Go.undef = .bool bb := by
                                generalize a'.tmps.getD u' Go.undef = q at hu0
                                cases hu0
                                rfl
                              refine ⟨_, hrun [a'.tmps.getD t' Go.undef, .bool bb] (by rw [hfr, ← hub]; rfl), _, rfl, hrel'.below, ?_⟩
                              have h0 := hrel'.reg t'
                              rw [hr] at h0
                              have hXS : ∀ c, blockOf (a'.tmps.getD t' Go.undef) = some c → XS s a'.tmps c := fun c hc => ⟨t', by rw [hr]; rfl, hc⟩
                              have hag : AgnRd Y (fun c => X c ∨ XS s a'.tmps c) (Base.mine ⟨w, Given args vs⟩) w' (.tuple #[a'.tmps.getD t' Go.undef, .bool bb]) (.tp bb) k n cs := ⟨_, rfl, h0⟩
                              exact AgnRd.own hag (fun c hc => hXS c (by rw [← hc]; exact (agn_block (.tp bb) h0).symm))
                  · cases hy
                · cases hy
              · rename_i t n one
                split at hy
                · rename_i d hr
                  split at hy
                  · rename_i bb k m cs hrd
                    split at hy
                    · rename_i hn
                      obtain ⟨rfl, rfl⟩ := hn
                      cases hy
                      cases hfr : fn.results.toList with
                      | nil => rw [hfr] at h3; cases h3
                      | cons r rest =>
                        rw [hfr] at h3
                        cases rest with
                        | cons _ _ => simp only [ressOk, Bool.and_false] at h3; cases h3
                        | nil =>
                          simp only [ressOk, Bool.and_true] at h3
                          cases r with
                          | tmp _ => cases h3
                          | cell t' ty =>
                            simp only [resOk, Bool.and_eq_true, beq_iff_eq] at h3
                            obtain ⟨rfl, h3⟩ := h3
                            have h0 := hrel'.reg t'
                            rw [hr] at h0
                            obtain ⟨_, b, g1, _, _, g4⟩ := h0
                            have h5 := hrel'.reg d
                            rw [hrd] at h5
                            obtain ⟨u, hu, h5'⟩ := id h5
                            obtain ⟨q1, q2⟩ := oneOk_spec h3
                            rw [hu] at g4
                            have hl := run_loadCells (P := P) w' ⟨b, 0, none⟩ 2 (fun i => #[Value.bool bb, u].getD i Go.undef) (fun j hj => by
                              rw [addr_add, Nat.zero_add, g4 j hj]
                              match j, hj with
                              | 0, _ => rfl
                              | 1, _ => rfl)
                            have hload : (resSem a'.tmps (.cell t' ty)).run P w' = .ok (.agg #[.bool bb, u]) w' := by
                              simp only [resSem, Sem.run_bind, g1, asAddr, Sem.run_pure, Result.andThen_ok, loadVar, q1, q2, hl, Bool.not_false, if_true]
                              rfl
                            refine ⟨_, hrun [.agg #[.bool bb, u]] (by rw [hfr]; simp only [List.mapM_cons, List.mapM_nil, Sem.run_bind, hload, Result.andThen_ok, Sem.run_pure]), _, rfl, hrel'.below, ?_⟩
                            have hXS : ∀ c, blockOf (a'.tmps.getD d Go.undef) = some c → XS s a'.tmps c := fun c hc => ⟨d, by rw [hrd]; rfl, hc⟩
                            have := AgnRd.own h5 hXS
                            rw [hu] at this
                            exact this
                    · cases hy
                  · cases hy
                · cases hy
              · cases hy
            split at hres
            · rename_i y hy
              cases hres
              obtain ⟨us, g1, g2, g3⟩ := results_ok hrel' h3 hy
              refine ⟨_, hrun us g1, _, rfl, hrel'.below, ?_⟩
              have hl : us.toArray.size = 1 := by simpa using g2
              rw [dif_pos hl]
              have := g3 0 (by simp at g2; omega) (by simp)
              exact .of_rd (by simpa using this)
            · rename_i ys hne hy
              cases hres
              obtain ⟨us, g1, g2, g3⟩ := results_ok hrel' h3 hy
              refine ⟨_, hrun us g1, _, rfl, hrel'.below, ?_⟩
              have hl : ¬ us.toArray.size = 1 := by
                intro hh
                have : ys.length = 1 := by rw [← g2]; simpa using hh
                match ys, this with
                | [y], _ => exact hne y rfl
              rw [dif_neg hl]
              exact .of_rd (.tup _ _ (by simpa using g2) (fun i h1 h2 => by simpa using g3 i (by simpa using h1) h2))
            · cases hres
          split at h
          · cases h
          · rename_i ex s hnot hev
            refine simC hm ih n c ifn.body _ s ex _ w _ h1 hrel hev fun a' w' hrel' => ?_
            have := fin s a' w' hrel' h
            cases ex with
            | norm => exact this
            | ret => exact this
            | exit i => exact (hnot i rfl).elim
          · cases h
        · cases h1
      · cases h

theorem simF (hm : P.follows .mixedOrders = true) {prog : Nat → Option IFunc} (hp : ∀ f ifn, prog f = some ifn → ∃ fn roots, P.funcs[f]? = some fn ∧ fnOk P roots fn ifn = true) : ∀ n, CallOk P (evF prog n) := simT hm fun f ifn h => .inl (hp f ifn h)

end
end Go.Ai
