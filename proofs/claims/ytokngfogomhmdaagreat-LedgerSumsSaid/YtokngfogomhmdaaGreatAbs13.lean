/- Runs without fuel; contracts as a table; runs along a script (one way through the code), whose conditions are collected. -/
import Derived.Test.YtokngfogomhmdaaGreatAbs12
namespace Go.Ai
open Go.RowKit

/-! ### More fuel, more callees -/

def Le (F G : Caller) : Prop := ∀ f args r, F f args = some r → G f args = some r

theorem evK_le {F G : Caller} (h : Le F G) {s : State} {k : K} {p : Reg × List (Nat × Reg)} (hk : evK F s k = some p) : evK G s k = some p := by
  cases k
  case call f xs =>
    simp only [evK] at hk ⊢
    split at hk
    · rename_i vs hvs
      simp only [Option.map_eq_some_iff] at hk ⊢
      obtain ⟨v, hv, he⟩ := hk
      exact ⟨v, h f vs v hv, he⟩
    · cases hk
  case clo f xs =>
    simp only [evK] at hk ⊢
    split at hk
    · rename_i vs hvs
      simp only [Option.map_eq_some_iff] at hk ⊢
      obtain ⟨v, hv, he⟩ := hk
      exact ⟨v, h f vs v hv, he⟩
    · cases hk
  case cln f xs ls =>
    simp only [evK] at hk ⊢
    split at hk
    · rename_i vs hvs
      split at hk
      · rename_i hl
        rw [if_pos hl]
        simp only [Option.map_eq_some_iff] at hk ⊢
        obtain ⟨v, hv, he⟩ := hk
        exact ⟨v, h f vs v hv, he⟩
      · cases hk
    · cases hk
  case cal f x xs =>
    simp only [evK] at hk ⊢
    split at hk
    · rename_i f' cs vs hx hvs
      split at hk
      · rename_i hf
        rw [if_pos hf]
        simp only [Option.map_eq_some_iff] at hk ⊢
        obtain ⟨v, hv, he⟩ := hk
        exact ⟨v, h f _ v hv, he⟩
      · cases hk
    · cases hk
  case brw f x d =>
    simp only [evK] at hk ⊢
    split at hk
    · split at hk
      · rename_i hd
        rw [if_pos hd]
        split at hk
        · split at hk
          · rename_i hc
            rw [if_pos hc]
            split at hk
            · rename_i y hy
              rw [h _ _ _ hy]
              exact hk
            · cases hk
          · cases hk
        · cases hk
      · cases hk
    · cases hk
  case cao f k x xs =>
    simp only [evK] at hk ⊢
    repeat' split at hk
    all_goals first
      | (simp only [Option.map_eq_some_iff] at hk ⊢; obtain ⟨v, hv, he⟩ := hk; exact ⟨v, h f _ v hv, he⟩)
      | cases hk
  all_goals exact hk

theorem evOp_le {F G : Caller} (h : Le F G) {o : IOp} {s s' : State} (he : evOp F o s = some s') : evOp G o s = some s' := by
  simp only [evOp, evOp0] at he ⊢
  split at he
  · cases he
  · exact he
  · split at he
    · cases he
    · rename_i r l hk
      rw [evK_le h hk]
      exact he

theorem evOps_le {F G : Caller} (h : Le F G) : ∀ {l : List IOp} {s s' : State}, evOps F l s = some s' → evOps G l s = some s'
  | [], _, _, he => he
  | o :: l, s, s', he => by
    simp only [evOps] at he ⊢
    cases h1 : evOp F o s with
    | none => rw [h1] at he; cases he
    | some s1 =>
      rw [h1] at he
      rw [evOp_le h h1]
      exact evOps_le h he

theorem evC_le {F G : Caller} (h : Le F G) : ∀ {n m : Nat}, n ≤ m → ∀ {c : ICode} {s : State} {r : Ex × State}, evC F n c s = some r → evC G m c s = some r := by
  intro n
  induction n with
  | zero => intro m _ c s r he; simp [evC] at he
  | succ n ih =>
    intro m hm c s r he
    obtain ⟨m, rfl⟩ : ∃ m', m = m' + 1 := ⟨m - 1, by omega⟩
    have hm' : n ≤ m := by omega
    cases c with
    | skip => exact he
    | region d ops =>
      simp only [evC, Option.map_eq_some_iff] at he ⊢
      obtain ⟨s', h1, h2⟩ := he
      exact ⟨s', evOps_le h h1, h2⟩
    | seq a b =>
      simp only [evC] at he ⊢
      cases h1 : evC F n a s with
      | none => rw [h1] at he; cases he
      | some p =>
        rw [h1] at he
        rw [ih hm' h1]
        obtain ⟨ex, s1⟩ := p
        cases ex with
        | norm => exact ih hm' he
        | exit i => exact he
        | ret => exact he
    | cond c a b =>
      simp only [evC] at he ⊢
      split at he
      · exact ih hm' he
      · exact ih hm' he
      · cases he
    | block id c =>
      simp only [evC] at he ⊢
      cases h1 : evC F n c s with
      | none => rw [h1] at he; cases he
      | some p =>
        rw [h1] at he
        rw [ih hm' h1]
        exact he
    | scope c => exact ih hm' he
    | loop c =>
      simp only [evC] at he ⊢
      cases h1 : evC F n c s with
      | none => rw [h1] at he; cases he
      | some p =>
        rw [h1] at he
        rw [ih hm' h1]
        obtain ⟨ex, s1⟩ := p
        cases ex with
        | norm => exact ih hm' he
        | exit i => exact he
        | ret => exact he
    | exit id => exact he
    | ret => exact he

theorem evF_le (prog : Nat → Option IFunc) : ∀ {n m : Nat}, n ≤ m → Le (evF prog n) (evF prog m) := by
  intro n
  induction n with
  | zero => intro m _ f args r h; simp [evF] at h
  | succ n ih =>
    intro m hm f args r h
    obtain ⟨m, rfl⟩ : ∃ m', m = m' + 1 := ⟨m - 1, by omega⟩
    have hm' : n ≤ m := by omega
    simp only [evF] at h ⊢
    split at h
    · cases h
    · rename_i fn hfn
      split at h
      · rename_i hl
        rw [if_pos hl]
        cases h1 : evC (evF prog n) n fn.body (initA fn args) with
        | none => rw [h1] at h; cases h
        | some p =>
          rw [h1] at h
          rw [evC_le (ih hm') hm' h1]
          exact h
      · cases h

/-- The function returns r, with some fuel. -/
def Runs (prog : Nat → Option IFunc) (f : Nat) (args : List AV) (r : AV) : Prop := ∃ n, evF prog n f args = some r

/-- The code runs, with some fuel. -/
def RunsC (prog : Nat → Option IFunc) (c : ICode) (s : State) (ex : Ex) (s' : State) : Prop := ∃ n, evC (evF prog n) n c s = some (ex, s')

theorem Runs.of_body {prog : Nat → Option IFunc} {f : Nat} {fn : IFunc} {args : List AV} {s : State} {ex : Ex} {r : AV} (hf : prog f = some fn) (hl : args.length = fn.params) (h : RunsC prog fn.body (initA fn args) ex s)
    (hex : ∀ i, ex ≠ .exit i) (hr : resultA s fn.res = some r) : Runs prog f args r := by
  obtain ⟨n, h⟩ := h
  refine ⟨n + 1, ?_⟩
  simp only [evF, hf, if_pos hl, h]
  cases ex with
  | norm => exact hr
  | ret => exact hr
  | exit i => exact absurd rfl (hex i)

theorem RunsC.seq {prog : Nat → Option IFunc} {a b : ICode} {s s1 s' : State} {ex : Ex} (h1 : RunsC prog a s .norm s1) (h2 : RunsC prog b s1 ex s') : RunsC prog (.seq a b) s ex s' := by
  obtain ⟨n, h1⟩ := h1
  obtain ⟨m, h2⟩ := h2
  refine ⟨max n m + 1, ?_⟩
  have e1 := evC_le (evF_le prog (show n ≤ max n m + 1 by omega)) (show n ≤ max n m by omega) h1
  have e2 := evC_le (evF_le prog (show m ≤ max n m + 1 by omega)) (show m ≤ max n m by omega) h2
  simp only [evC, e1, e2]

theorem RunsC.seq_out {prog : Nat → Option IFunc} {a b : ICode} {s s' : State} {ex : Ex} (h1 : RunsC prog a s ex s') (hex : ex ≠ .norm) : RunsC prog (.seq a b) s ex s' := by
  obtain ⟨n, h1⟩ := h1
  refine ⟨n + 1, ?_⟩
  have e1 := evC_le (evF_le prog (show n ≤ n + 1 by omega)) (show n ≤ n by omega) h1
  simp only [evC, e1]
  cases ex with
  | norm => exact absurd rfl hex
  | exit i => rfl
  | ret => rfl

theorem RunsC.scope {prog : Nat → Option IFunc} {c : ICode} {s s' : State} {ex : Ex} (h : RunsC prog c s ex s') : RunsC prog (.scope c) s ex s' := by
  obtain ⟨n, h⟩ := h
  exact ⟨n + 1, by simp only [evC]; exact evC_le (evF_le prog (by omega)) (Nat.le_refl _) h⟩
theorem RunsC.block {prog : Nat → Option IFunc} {id : Nat} {c : ICode} {s s' : State} (h : RunsC prog c s (.exit id) s') : RunsC prog (.block id c) s .norm s' := by
  obtain ⟨n, h⟩ := h
  refine ⟨n + 1, ?_⟩
  have e1 := evC_le (evF_le prog (show n ≤ n + 1 by omega)) (show n ≤ n by omega) h
  simp only [evC, e1, if_true]

theorem RunsC.block_norm {prog : Nat → Option IFunc} {id : Nat} {c : ICode} {s s' : State} (h : RunsC prog c s .norm s') : RunsC prog (.block id c) s .norm s' := by
  obtain ⟨n, h⟩ := h
  refine ⟨n + 1, ?_⟩
  have e1 := evC_le (evF_le prog (show n ≤ n + 1 by omega)) (show n ≤ n by omega) h
  simp only [evC, e1]

theorem RunsC.block_out {prog : Nat → Option IFunc} {id i : Nat} {c : ICode} {s s' : State} (h : RunsC prog c s (.exit i) s') (hi : i ≠ id) : RunsC prog (.block id c) s (.exit i) s' := by
  obtain ⟨n, h⟩ := h
  refine ⟨n + 1, ?_⟩
  have e1 := evC_le (evF_le prog (show n ≤ n + 1 by omega)) (show n ≤ n by omega) h
  simp only [evC, e1, if_neg hi]

theorem RunsC.block_ret {prog : Nat → Option IFunc} {id : Nat} {c : ICode} {s s' : State} (h : RunsC prog c s .ret s') : RunsC prog (.block id c) s .ret s' := by
  obtain ⟨n, h⟩ := h
  refine ⟨n + 1, ?_⟩
  have e1 := evC_le (evF_le prog (show n ≤ n + 1 by omega)) (show n ≤ n by omega) h
  simp only [evC, e1]

theorem RunsC.loop {prog : Nat → Option IFunc} {c : ICode} {s s1 s' : State} {ex : Ex} (h1 : RunsC prog c s .norm s1) (h2 : RunsC prog (.loop c) s1 ex s') : RunsC prog (.loop c) s ex s' := by
  obtain ⟨n, h1⟩ := h1
  obtain ⟨m, h2⟩ := h2
  refine ⟨max n m + 1, ?_⟩
  have e1 := evC_le (evF_le prog (show n ≤ max n m + 1 by omega)) (show n ≤ max n m by omega) h1
  have e2 := evC_le (evF_le prog (show m ≤ max n m + 1 by omega)) (show m ≤ max n m by omega) h2
  simp only [evC, e1, e2]

theorem RunsC.loop_out {prog : Nat → Option IFunc} {c : ICode} {s s' : State} {ex : Ex} (h1 : RunsC prog c s ex s') (hex : ex ≠ .norm) : RunsC prog (.loop c) s ex s' := by
  obtain ⟨n, h1⟩ := h1
  refine ⟨n + 1, ?_⟩
  have e1 := evC_le (evF_le prog (show n ≤ n + 1 by omega)) (show n ≤ n by omega) h1
  simp only [evC, e1]
  cases ex with
  | norm => exact absurd rfl hex
  | exit i => rfl
  | ret => rfl

/-! ### Contracts as a table -/

def Holds (prog : Nat → Option IFunc) (F : Caller) : Prop := ∀ f args r, F f args = some r → Runs prog f args r

theorem evOps_holds {prog : Nat → Option IFunc} {F : Caller} (h : Holds prog F) : ∀ {l : List IOp} {s s' : State}, evOps F l s = some s' → ∃ n, evOps (evF prog n) l s = some s'
  | [], s, s', he => ⟨0, he⟩
  | o :: l, s, s', he => by
    simp only [evOps] at he
    cases h1 : evOp F o s with
    | none => rw [h1] at he; cases he
    | some s1 =>
      rw [h1] at he
      obtain ⟨n, hn⟩ := evOps_holds h he
      have key : ∃ m, evOp (evF prog m) o s = some s1 := by
        simp only [evOp, evOp0] at h1 ⊢
        generalize kill s o.ks = s at *
        split at h1
        · cases h1
        · exact ⟨0, h1⟩
        · split at h1
          · cases h1
          · rename_i r l' hk
            have : ∃ m, evK (evF prog m) s o.k = some (r, l') := by
              cases hkk : o.k
              case call f xs =>
                rw [hkk] at hk
                simp only [evK] at hk ⊢
                split at hk
                · rename_i vs hvs
                  simp only [Option.map_eq_some_iff] at hk
                  obtain ⟨v, hv, e⟩ := hk
                  obtain ⟨m, hm⟩ := h f vs v hv
                  exact ⟨m, by simp only [hm, Option.map_some, e]⟩
                · cases hk
              case clo f xs =>
                rw [hkk] at hk
                simp only [evK] at hk ⊢
                split at hk
                · rename_i vs hvs
                  simp only [Option.map_eq_some_iff] at hk
                  obtain ⟨v, hv, e⟩ := hk
                  obtain ⟨m, hm⟩ := h f vs v hv
                  exact ⟨m, by simp only [hm, Option.map_some, e]⟩
                · cases hk
              case cln f xs ls =>
                rw [hkk] at hk
                simp only [evK] at hk ⊢
                split at hk
                · rename_i vs hvs
                  split at hk
                  · rename_i hl
                    simp only [Option.map_eq_some_iff] at hk
                    obtain ⟨v, hv, e⟩ := hk
                    obtain ⟨m, hm⟩ := h f vs v hv
                    exact ⟨m, by rw [if_pos hl, hm]; simp only [Option.map_some, e]⟩
                  · cases hk
                · cases hk
              case cal f x xs =>
                rw [hkk] at hk
                simp only [evK] at hk ⊢
                split at hk
                · rename_i f' cs vs hx hvs
                  split at hk
                  · rename_i hf
                    simp only [Option.map_eq_some_iff] at hk
                    obtain ⟨v, hv, e⟩ := hk
                    obtain ⟨m, hm⟩ := h f _ v hv
                    exact ⟨m, by rw [if_pos hf, hm]; simp only [Option.map_some, e]⟩
                  · cases hk
                · cases hk
              case brw f x d =>
                rw [hkk] at hk
                simp only [evK] at hk ⊢
                split at hk
                · split at hk
                  · rename_i hd
                    split at hk
                    · split at hk
                      · rename_i hc
                        split at hk
                        · rename_i y hy
                          obtain ⟨m, hm⟩ := h _ _ _ hy
                          exact ⟨m, by rw [if_pos hd, if_pos hc, hm]; exact hk⟩
                        · cases hk
                      · cases hk
                    · cases hk
                  · cases hk
                · cases hk
              case cao f k x xs =>
                rw [hkk] at hk
                simp only [evK] at hk ⊢
                repeat' split at hk
                all_goals first
                  | (simp only [Option.map_eq_some_iff] at hk; obtain ⟨v, hv, e⟩ := hk; obtain ⟨m, hm⟩ := h f _ v hv; exact ⟨m, by simp only [hm, Option.map_some, e]⟩)
                  | cases hk
              all_goals (rw [hkk] at hk; exact ⟨0, hk⟩)
            obtain ⟨m, hm⟩ := this
            exact ⟨m, by rw [hm]; exact h1⟩
      obtain ⟨m, hm⟩ := key
      refine ⟨max n m, ?_⟩
      simp only [evOps, evOp_le (evF_le prog (show m ≤ max n m by omega)) hm]
      exact evOps_le (evF_le prog (show n ≤ max n m by omega)) hn

theorem evC_holds {prog : Nat → Option IFunc} {F : Caller} (h : Holds prog F) : ∀ (n : Nat) {c : ICode} {s : State} {ex : Ex} {s' : State}, evC F n c s = some (ex, s') → RunsC prog c s ex s' := by
  intro n
  induction n with
  | zero => intro c s ex s' he; simp [evC] at he
  | succ n ih =>
    intro c s ex s' he
    cases c with
    | skip => exact ⟨1, he⟩
    | region d ops =>
      simp only [evC, Option.map_eq_some_iff] at he
      obtain ⟨s1, h1, h2⟩ := he
      obtain ⟨m, hm⟩ := evOps_holds h h1
      refine ⟨m + 1, ?_⟩
      simp only [evC, evOps_le (evF_le prog (show m ≤ m + 1 by omega)) hm, Option.map_some, h2]
    | seq a b =>
      simp only [evC] at he
      split at he
      · rename_i s1 h1
        exact RunsC.seq (ih h1) (ih he)
      · rename_i h1
        exact RunsC.seq_out (ih he) (by rintro rfl; exact h1 s' he)
    | cond c a b =>
      simp only [evC] at he
      split at he
      · rename_i hc
        obtain ⟨m, hm⟩ := ih he
        exact ⟨m + 1, by simp only [evC, hc]; exact evC_le (evF_le prog (by omega)) (Nat.le_refl _) hm⟩
      · rename_i hc
        obtain ⟨m, hm⟩ := ih he
        exact ⟨m + 1, by simp only [evC, hc]; exact evC_le (evF_le prog (by omega)) (Nat.le_refl _) hm⟩
      · cases he
    | block id c =>
      simp only [evC] at he
      split at he
      · rename_i i s1 h1
        split at he
        · rename_i hi
          cases he
          subst hi
          exact RunsC.block (ih h1)
        · rename_i hi
          cases he
          exact RunsC.block_out (ih h1) hi
      · rename_i h1
        cases ex with
        | norm => exact RunsC.block_norm (ih he)
        | exit i => exact absurd he (h1 i s')
        | ret => exact RunsC.block_ret (ih he)
    | scope c =>
      simp only [evC] at he
      exact RunsC.scope (ih he)
    | loop c =>
      simp only [evC] at he
      split at he
      · rename_i s1 h1
        exact RunsC.loop (ih h1) (ih he)
      · rename_i h1
        exact RunsC.loop_out (ih he) (by rintro rfl; exact h1 s' he)
    | exit id => exact ⟨1, he⟩
    | ret => exact ⟨1, he⟩

theorem Runs.unique {prog : Nat → Option IFunc} {f : Nat} {args : List AV} {r r' : AV} (h : Runs prog f args r) (h' : Runs prog f args r') : r = r' := by
  obtain ⟨n, h⟩ := h
  obtain ⟨m, h'⟩ := h'
  have e1 := evF_le prog (show n ≤ max n m by omega) f args r h
  have e2 := evF_le prog (show m ≤ max n m by omega) f args r' h'
  rw [e1] at e2
  exact Option.some.inj e2

open Classical in
/-- What the functions return, fuel aside. -/
noncomputable def lim (prog : Nat → Option IFunc) : Caller := fun f args => if h : ∃ r, Runs prog f args r then some h.choose else none

theorem lim_eq {prog : Nat → Option IFunc} {f : Nat} {args : List AV} {r : AV} (h : Runs prog f args r) : lim prog f args = some r := by
  have h' : ∃ r, Runs prog f args r := ⟨r, h⟩
  simp only [lim, dif_pos h']
  exact congrArg some (h'.choose_spec.unique h)

theorem lim_holds (prog : Nat → Option IFunc) : Holds prog (lim prog) := by
  intro f args r h
  unfold lim at h
  split at h
  · rename_i h'
    cases h
    exact h'.choose_spec
  · cases h

/-! ### A table of contracts: what a function returns, under conditions -/

abbrev Table := List (Nat × (List AV → Option (AV × List Prop)))

def AllP : List Prop → Prop
  | [] => True
  | p :: l => p ∧ AllP l

def tab (T : Table) (f : Nat) (args : List AV) : Option (AV × List Prop) :=
  match T.lookup f with
  | some g => g args
  | none => none

def THolds (prog : Nat → Option IFunc) (T : Table) : Prop := ∀ f args r ps, tab T f args = some (r, ps) → AllP ps → Runs prog f args r

theorem THolds.nil (prog : Nat → Option IFunc) : THolds prog [] := fun f args r ps h => by simp [tab] at h

theorem THolds.cons {prog : Nat → Option IFunc} {T : Table} {f : Nat} {g : List AV → Option (AV × List Prop)} (h : THolds prog T) (hg : ∀ args r ps, g args = some (r, ps) → AllP ps → Runs prog f args r) : THolds prog ((f, g) :: T) := by
  intro f' args r ps hr
  simp only [tab, List.lookup] at hr
  by_cases hf : f' = f
  · subst hf
    simp at hr
    exact hg args r ps hr
  · have : (f' == f) = false := by simpa using hf
    simp only [this] at hr
    exact h f' args r ps hr

/-- **From a run on the abstract machine to the model's call.** -/
theorem Runs.callsT {P : Program} {prog : Nat → Option IFunc} {f : Nat} {args : List AV} {r : AV} (hm : P.follows .mixedOrders = true)
    (hp : ∀ f ifn, prog f = some ifn → (∃ fn roots, P.funcs[f]? = some fn ∧ fnOk P roots fn ifn = true) ∨ StandsIn P f ifn) (h : Runs prog f args r) (X : Nat → Prop) (w : World) (vs : Array Value)
    (hX : ∀ b, X b → b < w.heap.size) (hs : vs.size = args.length) (hr : ∀ (i : Nat) (h1 : i < vs.size) (h2 : i < args.length), Rd (fun _ => False) X w vs[i] args[i]) :
    Calls P f vs w fun e w' => ∃ v, e = .returned v ∧ Below w.heap.size w w' ∧ Rd (fun _ => False) X w' v (thaw r) := by
  obtain ⟨n, h⟩ := h
  exact ((simT hm hp n).plain f args r h _ X w vs hX (fun _ h => h.elim) hs hr).mono fun e w' ⟨v, h1, h2, h3⟩ => ⟨v, h1, h2, h3.thawed (fun b hb => Nat.not_le_of_lt (hX b hb)) (fun _ h => h.elim)⟩
theorem Runs.calls {P : Program} {prog : Nat → Option IFunc} {f : Nat} {args : List AV} {r : AV} (hm : P.follows .mixedOrders = true)
    (hp : ∀ f ifn, prog f = some ifn → ∃ fn roots, P.funcs[f]? = some fn ∧ fnOk P roots fn ifn = true) (h : Runs prog f args r) (X : Nat → Prop) (w : World) (vs : Array Value)
    (hX : ∀ b, X b → b < w.heap.size) (hs : vs.size = args.length) (hr : ∀ (i : Nat) (h1 : i < vs.size) (h2 : i < args.length), Rd (fun _ => False) X w vs[i] args[i]) :
    Calls P f vs w fun e w' => ∃ v, e = .returned v ∧ Below w.heap.size w w' ∧ Rd (fun _ => False) X w' v (thaw r) := Runs.callsT hm (fun f ifn h => .inl (hp f ifn h)) h X w vs hX hs hr

end Go.Ai
