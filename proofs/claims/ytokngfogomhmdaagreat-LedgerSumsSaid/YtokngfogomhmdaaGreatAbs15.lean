/- States of which less is known: what runs from the lesser one runs from the greater one. Loops. -/
import Derived.Test.YtokngfogomhmdaaGreatAbs14
namespace Go.Ai
open Go.RowKit

/-- s says no more than s'. -/
def SLe (s s' : State) : Prop := s.length = s'.length ∧ ∀ t, rget s t = .dead ∨ rget s t = rget s' t

theorem SLe.refl (s : State) : SLe s s := ⟨rfl, fun _ => .inr rfl⟩
theorem SLe.trans {a b c : State} (h : SLe a b) (k : SLe b c) : SLe a c := by
  refine ⟨h.1.trans k.1, fun t => ?_⟩
  rcases h.2 t with h1 | h1
  · exact .inl h1
  · rcases k.2 t with k1 | k1
    · exact .inl (h1.trans k1)
    · exact .inr (h1.trans k1)

theorem SLe.get {s s' : State} (h : SLe s s') {t : Nat} {r : Reg} (hr : rget s t = r) (hd : r ≠ .dead) : rget s' t = r := by
  rcases h.2 t with h1 | h1
  · exact absurd (hr.symm.trans h1) hd
  · rw [← h1, hr]

theorem SLe.av {s s' : State} (h : SLe s s') {o : Opd} {x : AV} (hx : o.av s = some x) : o.av s' = some x := by
  cases o with
  | c y => exact hx
  | t n =>
    simp only [Opd.av, Opd.reg] at hx ⊢
    split at hx
    · rename_i y hy
      cases hx
      rw [h.get hy (by intro e; cases e)]
    · cases hx

theorem SLe.avs {s s' : State} (h : SLe s s') : ∀ {l : List Opd} {xs : List AV}, avs s l = some xs → avs s' l = some xs
  | [], xs, hx => hx
  | o :: l, xs, hx => by
    simp only [Go.Ai.avs] at hx ⊢
    cases h1 : o.av s with
    | none => rw [h1] at hx; cases hx
    | some x =>
      rw [h1] at hx
      rw [h.av h1]
      cases h2 : Go.Ai.avs s l with
      | none => rw [h2] at hx; cases hx
      | some ys =>
        rw [h2] at hx
        rw [h.avs h2]
        exact hx

theorem SLe.fill {s s' : State} (h : SLe s s') : ∀ {ps : List (Nat × Nat × Opd)} {cs cs' : List AV}, fillA s cs ps = some cs' → fillA s' cs ps = some cs'
  | [], _, _, hx => hx
  | (off, n, o) :: ps, cs, cs', hx => by
    simp only [fillA] at hx ⊢
    cases h1 : o.av s with
    | none => rw [h1] at hx; cases hx
    | some x =>
      rw [h1] at hx
      rw [h.av h1]
      dsimp only at hx ⊢
      cases h2 : cellsA x n with
      | none => rw [h2] at hx; cases hx
      | some ys =>
        rw [h2] at hx
        dsimp only at hx ⊢
        cases h3 : layA cs off ys with
        | none => rw [h3] at hx; cases hx
        | some cs1 =>
          rw [h3] at hx
          dsimp only at hx ⊢
          exact h.fill hx

theorem SLe.reg {s s' : State} (h : SLe s s') {o : Opd} {r : Reg} (hx : o.reg s = r) (hd : r ≠ .dead) : o.reg s' = r := by
  cases o with
  | c y => exact hx
  | t n => exact h.get hx hd
theorem SLe.bnd {s s' : State} (h : SLe s s') {o : Option Opd} {d n : Nat} (hx : bndA s d o = some n) : bndA s' d o = some n := by
  cases o with
  | none => exact hx
  | some o =>
    simp only [bndA] at hx ⊢
    split at hx
    · rename_i k i hi
      rw [h.av hi]
      exact hx
    · cases hx

theorem SLe.firm {s s' : State} (h : SLe s s') {l : List Nat} (hl : (l.all fun t => isFirm (rget s t)) = true) : (l.all fun t => isFirm (rget s' t)) = true := by
  rw [List.all_eq_true] at hl ⊢
  intro t ht
  have h1 := hl t ht
  rw [h.get (r := rget s t) rfl (by intro e; rw [e] at h1; cases h1)]
  exact h1

theorem evK_mono {F : Caller} {s s' : State} (h : SLe s s') {k : K} {p : Reg × List (Nat × Reg)} (hk : evK F s k = some p) : evK F s' k = some p := by
  cases k <;> simp only [evK] at hk ⊢
  case mov x =>
    simp only [Option.map_eq_some_iff] at hk ⊢
    obtain ⟨v, hv, e⟩ := hk
    exact ⟨v, h.av hv, e⟩
  case pick c a b =>
    split at hk
    · rename_i hc
      rw [h.av hc]
      simp only [Option.map_eq_some_iff] at hk ⊢
      obtain ⟨v, hv, e⟩ := hk
      exact ⟨v, h.av hv, e⟩
    · rename_i hc
      rw [h.av hc]
      simp only [Option.map_eq_some_iff] at hk ⊢
      obtain ⟨v, hv, e⟩ := hk
      exact ⟨v, h.av hv, e⟩
    · cases hk
  case bin op x y =>
    split at hk
    · rename_i hx hy; rw [h.av hx, h.av hy]; exact hk
    · cases hk
  case eqb neg x y =>
    split at hk
    · rename_i hx hy; rw [h.av hx, h.av hy]; exact hk
    · cases hk
  case eqv neg n x y =>
    split at hk
    · rename_i hx hy; rw [h.av hx, h.av hy]; exact hk
    · cases hk
  case un op x =>
    split at hk
    · rename_i hx; rw [h.av hx]; exact hk
    · cases hk
  case cv k x =>
    split at hk
    · rename_i hx; rw [h.av hx]; exact hk
    · cases hk
  case new z ks => exact hk
  case box x ks =>
    split at hk
    · rename_i hx; rw [h.av hx]; exact hk
    · rename_i y hne hx
      rw [h.av hx]
      split at hk
      · rename_i hd
        cases hk
        cases y <;> first | (cases hd; done) | simp only [isData, if_true]
      · cases hk
    · cases hk
  case bld z ps =>
    simp only [Option.map_eq_some_iff] at hk ⊢
    obtain ⟨v, hv, e⟩ := hk
    exact ⟨v, h.fill hv, e⟩
  case bls n z ps =>
    simp only [Option.map_eq_some_iff] at hk ⊢
    obtain ⟨v, hv, e⟩ := hk
    exact ⟨v, h.fill hv, e⟩
  case adr x d off =>
    cases hr : rget s x <;> rw [hr] at hk <;> first | (cases hk; done) | (rw [h.get hr (by intro e; cases e)]; exact hk)
  case ld x d n one =>
    cases hr : rget s x with
    | box cs => rw [hr] at hk; rw [h.get hr (by intro e; cases e)]; exact hk
    | mem cs => rw [hr] at hk; rw [h.get hr (by intro e; cases e)]; exact hk
    | ptr d' off =>
      rw [hr] at hk
      rw [h.get hr (by intro e; cases e)]
      dsimp only at hk ⊢
      split at hk
      · rename_i hd
        rw [if_pos hd]
        cases hr2 : rget s d <;> rw [hr2] at hk <;> first | (cases hk; done) | (rw [h.get hr2 (by intro e; cases e)]; exact hk)
      · cases hk
    | val x => rw [hr] at hk; cases hk
    | own _ _ _ => rw [hr] at hk; cases hk
    | agn _ _ _ _ => rw [hr] at hk; cases hk
    | bxl _ => rw [hr] at hk; cases hk
    | dup d => rw [hr] at hk; cases hk
    | sub _ _ _ _ => rw [hr] at hk; cases hk
    | dead => rw [hr] at hk; cases hk
  case st x d n v =>
    split at hk
    · cases hk
    · rename_i a ha
      rw [h.av ha]
      dsimp only at hk ⊢
      split at hk
      · cases hk
      · rename_i ys hys
        cases hr : rget s x with
        | box cs => rw [hr] at hk; rw [h.get hr (by intro e; cases e)]; exact hk
        | ptr d' off =>
          rw [hr] at hk
          rw [h.get hr (by intro e; cases e)]
          dsimp only at hk ⊢
          split at hk
          · rename_i hd
            rw [if_pos hd]
            cases hr2 : rget s d <;> rw [hr2] at hk <;> first | (cases hk; done) | (rw [h.get hr2 (by intro e; cases e)]; exact hk)
          · cases hk
        | mem cs => rw [hr] at hk; cases hk
        | val x => rw [hr] at hk; cases hk
        | own _ _ _ => rw [hr] at hk; cases hk
        | agn _ _ _ _ => rw [hr] at hk; cases hk
        | bxl _ => rw [hr] at hk; cases hk
        | dup d => rw [hr] at hk; cases hk
        | sub _ _ _ _ => rw [hr] at hk; cases hk
        | dead => rw [hr] at hk; cases hk
  case fld x off n one =>
    split at hk
    · rename_i hx; rw [h.av hx]; exact hk
    · cases hk
  case ixa x i k =>
    split at hk
    · rename_i k1 iv hi
      rw [h.av hi]
      dsimp only at hk ⊢
      split at hk
      · rename_i n cs hr; rw [h.get hr (by intro e; cases e)]; exact hk
      · cases hk
    · cases hk
  case ixb x i len k =>
    split at hk
    · rename_i k1 iv hi
      rw [h.av hi]
      dsimp only at hk ⊢
      split at hk
      · rename_i cs hr; rw [h.get hr (by intro e; cases e)]; exact hk
      · cases hk
    · cases hk
  case idx x i len n one =>
    split at hk
    · rename_i hx hi; rw [h.av hx, h.av hi]; exact hk
    · cases hk
  case six x i =>
    split at hk
    · rename_i hx hi; rw [h.av hx, h.av hi]; exact hk
    · cases hk
  case ext x i =>
    split at hk
    · rename_i hx; rw [h.av hx]; exact hk
    · cases hk
  case len x =>
    split at hk
    · rename_i hx; rw [h.av hx]; exact hk
    · rename_i hx; rw [h.av hx]; exact hk
    · cases hk
  case mx xs =>
    split at hk
    · rename_i hx; rw [h.avs hx]; exact hk
    · cases hk
  case mn xs =>
    split at hk
    · rename_i hx; rw [h.avs hx]; exact hk
    · cases hk
  case call f xs =>
    split at hk
    · rename_i hx; rw [h.avs hx]; exact hk
    · cases hk
  case clo f xs =>
    split at hk
    · rename_i hx; rw [h.avs hx]; exact hk
    · cases hk
  case brw f x d =>
    cases hr : rget s x <;> rw [hr] at hk <;> first | (cases hk; done) | skip
    rename_i d'
    rw [h.get hr (by intro e; cases e)]
    simp only at hk ⊢
    by_cases hd : d' = d
    · rw [if_pos hd] at hk ⊢
      cases hr2 : rget s d <;> rw [hr2] at hk <;> first | (cases hk; done) | skip
      rw [h.get hr2 (by intro e; cases e)]
      exact hk
    · rw [if_neg hd] at hk; cases hk
  case cpy x =>
    cases hr : rget s x <;> rw [hr] at hk <;> first | (cases hk; done) | (rw [h.get hr (by intro e; cases e)]; exact hk)
  case tra x =>
    cases hr : rget s x <;> rw [hr] at hk <;> first | (cases hk; done) | (rw [h.get hr (by intro e; cases e)]; exact hk)
  case frz x =>
    cases hr : rget s x <;> rw [hr] at hk <;> first | (cases hk; done) | (rw [h.get hr (by intro e; cases e)]; exact hk)
  case mks z n =>
    split at hk
    · rename_i hx; rw [h.av hx]; exact hk
    · cases hk
  case blo k n z ps =>
    simp only [Option.map_eq_some_iff] at hk ⊢
    obtain ⟨v, hv, e⟩ := hk
    exact ⟨v, h.fill hv, e⟩
  case apd ow x y k B =>
    split at hk
    · rename_i hy
      rw [h.av hy]
      dsimp only
      cases hr : x.reg s <;> rw [hr] at hk <;> first | (cases hk; done) | (rw [h.reg hr (by intro e; cases e)]; exact hk)
    · rename_i m ys hy
      rw [h.av hy]
      dsimp only
      split at hk
      · rename_i hl
        rw [if_pos hl]
        cases hr : x.reg s <;> rw [hr] at hk <;> first | (cases hk; done) | (rw [h.reg hr (by intro e; cases e)]; exact hk)
      · cases hk
    · cases hk
  case sli x lo hi mx k =>
    split at hk
    · rename_i hx
      rw [h.av hx]
      dsimp only
      split at hk
      · rename_i b1 b2 b3
        rw [h.bnd b1, h.bnd b2, h.bnd b3]
        exact hk
      · cases hk
    · rename_i n cs hx
      rw [h.av hx]
      dsimp only
      split at hk
      · rename_i m hh l b1 b2 b3
        rw [h.bnd b1, h.bnd b2, h.bnd b3]
        exact hk
      · cases hk
    · cases hk
  case ixo x d i k =>
    split at hk
    · rename_i k1 iv hi
      rw [h.av hi]
      dsimp only at hk ⊢
      split at hk
      · rename_i n cs hr; rw [h.get hr (by intro e; cases e)]; exact hk
      · rename_i d' hr
        rw [h.get hr (by intro e; cases e)]
        dsimp only
        split at hk
        · rename_i hd
          rw [if_pos hd]
          split at hk
          · rename_i k' n cs hr2
            rw [h.get hr2 (by intro e; cases e)]
            exact hk
          · cases hk
        · cases hk
      · cases hk
    · cases hk
  case lno x d =>
    split at hk
    · rename_i hr; rw [h.get hr (by intro e; cases e)]; exact hk
    · rename_i n cs hr; rw [h.get hr (by intro e; cases e)]; exact hk
    · rename_i d' hr
      rw [h.get hr (by intro e; cases e)]
      dsimp only
      split at hk
      · rename_i hd
        rw [if_pos hd]
        split at hk
        · rename_i k' n cs hr2
          rw [h.get hr2 (by intro e; cases e)]
          exact hk
        · cases hk
      · cases hk
    · cases hk
  case isn neg x d =>
    split at hk
    · rename_i hr; rw [h.get hr (by intro e; cases e)]; exact hk
    · rename_i n cs hr; rw [h.get hr (by intro e; cases e)]; exact hk
    · rename_i d' hr
      rw [h.get hr (by intro e; cases e)]
      dsimp only
      split at hk
      · rename_i hd
        rw [if_pos hd]
        split at hk
        · rename_i k' n cs hr2
          rw [h.get hr2 (by intro e; cases e)]
          exact hk
        · cases hk
      · cases hk
    · cases hk
  case nlo k => exact hk
  case bdo y x ls =>
    split at hk
    · rename_i b hb
      rw [h.av hb]
      dsimp only at hk ⊢
      split at hk
      · rename_i k n cs hr
        rw [h.get hr (by intro e; cases e)]
        dsimp only
        split at hk
        · rename_i hl
          rw [if_pos (h.firm hl)]
          exact hk
        · cases hk
      · cases hk
    · cases hk
  case cln f xs ls =>
    split at hk
    · rename_i vs hvs
      rw [h.avs hvs]
      dsimp only
      split at hk
      · rename_i hl
        rw [if_pos (h.firm hl)]
        exact hk
      · cases hk
    · cases hk
  case stl x v =>
    split at hk
    · rename_i cs hr
      rw [h.get hr (by intro e; cases e)]
      dsimp only
      split at hk
      · rename_i b k n ds hr2
        rw [h.get hr2 (by intro e; cases e)]
        exact hk
      · cases hk
    · cases hk
  case fdo x =>
    split at hk
    · rename_i b k n cs hr
      rw [h.get hr (by intro e; cases e)]
      exact hk
    · cases hk
  case cpo x => exact hk
  case exo x =>
    split at hk
    · rename_i b k n cs hr
      rw [h.get hr (by intro e; cases e)]
      exact hk
    · cases hk
  case sub x d lo hi k =>
    split at hk
    · rename_i d' hr
      rw [h.get hr (by intro e; cases e)]
      dsimp only
      split at hk
      · rename_i hd
        rw [if_pos hd]
        split at hk
        · rename_i k' n cs hr2
          rw [h.get hr2 (by intro e; cases e)]
          dsimp only
          split at hk
          · rename_i hh l b1 b2
            rw [h.bnd b1, h.bnd b2]
            exact hk
          · cases hk
        · cases hk
      · cases hk
    · cases hk
  case app ow x d y k =>
    split at hk
    · rename_i d' k' l hh hr
      rw [h.get hr (by intro e; cases e)]
      dsimp only
      split at hk
      · rename_i hd
        rw [if_pos hd]
        split at hk
        · rename_i k'' n cs hr2
          rw [h.get hr2 (by intro e; cases e)]
          dsimp only
          split at hk
          · rename_i hd2
            rw [if_pos hd2]
            split at hk
            · rename_i m ys hy
              rw [h.av hy]
              exact hk
            · cases hk
          · cases hk
        · cases hk
      · cases hk
    · cases hk
  case apb ow x y d k =>
    split at hk
    · rename_i k0 n cs hr
      rw [h.get hr (by intro e; cases e)]
      dsimp only
      split at hk
      · rename_i d' k' l hh hr1
        rw [h.get hr1 (by intro e; cases e)]
        dsimp only
        split at hk
        · rename_i hd
          rw [if_pos hd]
          split at hk
          · rename_i k'' n' cs' hr2
            rw [h.get hr2 (by intro e; cases e)]
            exact hk
          · cases hk
        · cases hk
      · cases hk
    · cases hk
  case slo x hi k =>
    split at hk
    · rename_i k1 iv hiv
      rw [h.av hiv]
      dsimp only at hk ⊢
      split at hk
      · rename_i k' n cs hr
        rw [h.get hr (by intro e; cases e)]
        exact hk
      · cases hk
    · cases hk
  case mkf f x =>
    split at hk
    · rename_i cs hr
      rw [h.get hr (by intro e; cases e)]
      exact hk
    · cases hk
  case cal f x xs =>
    split at hk
    · rename_i f' cs vs hx hvs
      rw [h.av hx, h.avs hvs]
      exact hk
    · cases hk
  case cao f k x xs =>
    split at hk
    · rename_i vs hvs
      rw [h.avs hvs]
      dsimp only
      cases x with
      | c y => cases y <;> first | exact hk | (rename_i n cs; cases n <;> cases cs <;> exact hk)
      | t m =>
        dsimp only at hk ⊢
        cases hr : rget s m <;> rw [hr] at hk <;> first | (cases hk; done) | (rw [h.get hr (by intro e; cases e)]; exact hk)
    · cases hk
  case bad => cases hk

theorem SLe.set {s s' : State} (h : SLe s s') (d : Nat) (r : Reg) : SLe (s.set d r) (s'.set d r) := by
  refine ⟨by simp [h.1], fun t => ?_⟩
  rw [rget_set, rget_set, h.1]
  split
  · exact .inr rfl
  · exact h.2 t

theorem SLe.puts {s s' : State} (h : SLe s s') : ∀ (l : List (Nat × Reg)), SLe (rputs s l) (rputs s' l) := by
  intro l
  induction l generalizing s s' with
  | nil => exact h
  | cons p l ih => obtain ⟨t, r⟩ := p; exact ih (h.set t r)

theorem SLe.put {s s' : State} (h : SLe s s') (d : Option Nat) (r : Reg) : SLe (rput s d r) (rput s' d r) := by
  cases d with
  | none => exact h
  | some d => exact h.set d r

theorem wantA_mono {s s' : State} (h : SLe s s') {g : Option (Nat × Bool)} {b : Bool} (hw : wantA s g = some b) : wantA s' g = some b := by
  cases g with
  | none => exact hw
  | some p =>
    obtain ⟨t, x⟩ := p
    simp only [wantA] at hw ⊢
    split at hw
    · rename_i hr; rw [h.get hr (by intro e; cases e)]; exact hw
    · rename_i hr; rw [h.get hr (by intro e; cases e)]; exact hw
    · cases hw

theorem evOp_mono {F : Caller} {o : IOp} {s s' t : State} (h : SLe s s') (he : evOp F o s = some t) : ∃ t', evOp F o s' = some t' ∧ SLe t t' := by
  have h : SLe (kill s o.ks) (kill s' o.ks) := h.puts _
  simp only [evOp, evOp0] at he ⊢
  generalize kill s o.ks = s at *
  generalize kill s' o.ks = s' at *
  split at he
  · cases he
  · rename_i hw
    cases he
    rw [wantA_mono h hw]
    exact ⟨_, rfl, h.put _ _⟩
  · rename_i hw
    rw [wantA_mono h hw]
    split at he
    · cases he
    · rename_i r l hk
      cases he
      rw [evK_mono h hk]
      exact ⟨_, rfl, (h.puts l).put _ _⟩

theorem evOps_mono {F : Caller} : ∀ {l : List IOp} {s s' t : State}, SLe s s' → evOps F l s = some t → ∃ t', evOps F l s' = some t' ∧ SLe t t'
  | [], s, s', t, h, he => by
    simp only [evOps, Option.some.injEq] at he
    subst he
    exact ⟨s', rfl, h⟩
  | o :: l, s, s', t, h, he => by
    simp only [evOps] at he ⊢
    cases h1 : evOp F o s with
    | none => rw [h1] at he; cases he
    | some s1 =>
      rw [h1] at he
      obtain ⟨s2, h2, h3⟩ := evOp_mono h h1
      rw [h2]
      exact evOps_mono h3 he

theorem evC_mono {F : Caller} : ∀ (n : Nat) {c : ICode} {s s' t : State} {ex : Ex}, SLe s s' → evC F n c s = some (ex, t) → ∃ t', evC F n c s' = some (ex, t') ∧ SLe t t' := by
  intro n
  induction n with
  | zero => intro c s s' t ex _ he; simp [evC] at he
  | succ n ih =>
    intro c s s' t ex h he
    cases c with
    | skip => simp only [evC, Option.some.injEq, Prod.mk.injEq] at he ⊢; obtain ⟨rfl, rfl⟩ := he; exact ⟨s', ⟨rfl, rfl⟩, h⟩
    | exit id => simp only [evC, Option.some.injEq, Prod.mk.injEq] at he ⊢; obtain ⟨rfl, rfl⟩ := he; exact ⟨s', ⟨rfl, rfl⟩, h⟩
    | ret => simp only [evC, Option.some.injEq, Prod.mk.injEq] at he ⊢; obtain ⟨rfl, rfl⟩ := he; exact ⟨s', ⟨rfl, rfl⟩, h⟩
    | region d ops =>
      simp only [evC, Option.map_eq_some_iff] at he ⊢
      obtain ⟨s1, h1, e⟩ := he
      cases e
      obtain ⟨t', h2, h3⟩ := evOps_mono h h1
      exact ⟨t', ⟨t', h2, rfl⟩, h3⟩
    | seq a b =>
      simp only [evC] at he ⊢
      cases h1 : evC F n a s with
      | none => rw [h1] at he; cases he
      | some p =>
        obtain ⟨e1, s1⟩ := p
        rw [h1] at he
        obtain ⟨s2, h2, h3⟩ := ih h h1
        rw [h2]
        cases e1 with
        | norm => exact ih h3 he
        | exit i => cases he; exact ⟨s2, rfl, h3⟩
        | ret => cases he; exact ⟨s2, rfl, h3⟩
    | cond c a b =>
      simp only [evC] at he ⊢
      have key : ∀ v, condA s c = some v → condA s' c = some v := by
        intro v hv
        unfold condA at hv ⊢
        split at hv
        · rename_i b' hb; rw [h.av hb]; exact hv
        · cases hv
      split at he
      · rename_i hc; rw [key _ hc]; exact ih h he
      · rename_i hc; rw [key _ hc]; exact ih h he
      · cases he
    | block id c =>
      simp only [evC] at he ⊢
      cases h1 : evC F n c s with
      | none => rw [h1] at he; cases he
      | some p =>
        obtain ⟨e1, s1⟩ := p
        rw [h1] at he
        obtain ⟨s2, h2, h3⟩ := ih h h1
        rw [h2]
        cases e1 with
        | norm => cases he; exact ⟨s2, rfl, h3⟩
        | ret => cases he; exact ⟨s2, rfl, h3⟩
        | exit i =>
          dsimp only at he ⊢
          split at he
          · rename_i hi; cases he; exact ⟨s2, by rw [if_pos hi], h3⟩
          · rename_i hi; cases he; exact ⟨s2, by rw [if_neg hi], h3⟩
    | scope c => simp only [evC] at he ⊢; exact ih h he
    | loop c =>
      simp only [evC] at he ⊢
      cases h1 : evC F n c s with
      | none => rw [h1] at he; cases he
      | some p =>
        obtain ⟨e1, s1⟩ := p
        rw [h1] at he
        obtain ⟨s2, h2, h3⟩ := ih h h1
        rw [h2]
        cases e1 with
        | norm => exact ih h3 he
        | exit i => cases he; exact ⟨s2, rfl, h3⟩
        | ret => cases he; exact ⟨s2, rfl, h3⟩

/-- The code runs to a state of which t is known. -/
def RunsW (prog : Nat → Option IFunc) (c : ICode) (s : State) (ex : Ex) (t : State) : Prop := ∃ t', RunsC prog c s ex t' ∧ SLe t t'

section
variable {prog : Nat → Option IFunc}

theorem RunsC.w {c : ICode} {s t : State} {ex : Ex} (h : RunsC prog c s ex t) : RunsW prog c s ex t := ⟨t, h, SLe.refl t⟩

theorem RunsC.mono {c : ICode} {s s' t : State} {ex : Ex} (h : RunsC prog c s ex t) (hs : SLe s s') : RunsW prog c s' ex t := by
  obtain ⟨n, h⟩ := h
  obtain ⟨t', h1, h2⟩ := evC_mono n hs h
  exact ⟨t', ⟨n, h1⟩, h2⟩

theorem RunsW.weak {c : ICode} {s s' t t' : State} {ex : Ex} (h : RunsW prog c s ex t) (hs : SLe s s') (ht : SLe t' t) : RunsW prog c s' ex t' := by
  obtain ⟨t1, h1, h2⟩ := h
  obtain ⟨t2, h3, h4⟩ := h1.mono hs
  exact ⟨t2, h3, (ht.trans h2).trans h4⟩

theorem RunsW.seq {a b : ICode} {s s1 t : State} {ex : Ex} (h1 : RunsW prog a s .norm s1) (h2 : RunsW prog b s1 ex t) : RunsW prog (.seq a b) s ex t := by
  obtain ⟨u, k1, k2⟩ := h1
  obtain ⟨v, k3, k4⟩ := h2.weak k2 (SLe.refl t)
  exact ⟨v, RunsC.seq k1 k3, k4⟩

theorem RunsW.seq_out {a b : ICode} {s t : State} {ex : Ex} (h1 : RunsW prog a s ex t) (hex : ex ≠ .norm) : RunsW prog (.seq a b) s ex t := by
  obtain ⟨u, k1, k2⟩ := h1
  exact ⟨u, RunsC.seq_out k1 hex, k2⟩

theorem RunsC.inv {prog : Nat → Option IFunc} {a b : ICode} {s t : State} {ex : Ex} (h : RunsC prog (.seq a b) s ex t) : (RunsC prog a s ex t ∧ ex ≠ .norm) ∨ ∃ v, RunsC prog a s .norm v ∧ RunsC prog b v ex t := by
  obtain ⟨n, h⟩ := h
  cases n with
  | zero => simp [evC] at h
  | succ n =>
    simp only [evC] at h
    have up : ∀ {c : ICode} {s : State} {q : Ex × State}, evC (evF prog (n + 1)) n c s = some q → evC (evF prog (n + 1)) (n + 1) c s = some q := fun hh => evC_le (evF_le prog (Nat.le_refl _)) (Nat.le_succ n) hh
    split at h
    · rename_i v hv
      exact .inr ⟨v, ⟨n + 1, up hv⟩, ⟨n + 1, up h⟩⟩
    · rename_i hne
      refine .inl ⟨⟨n + 1, up h⟩, ?_⟩
      intro e
      subst e
      exact hne _ h
/-- Pieces one after the other, taken together. -/
theorem RunsW.asc {a b r : ICode} {s t : State} {ex : Ex} (h : RunsW prog (.seq (.seq a b) r) s ex t) : RunsW prog (.seq a (.seq b r)) s ex t := by
  obtain ⟨u, k1, k2⟩ := h
  refine ⟨u, ?_, k2⟩
  rcases k1.inv with ⟨h1, hne⟩ | ⟨v, h1, h2⟩
  · rcases h1.inv with ⟨h3, _⟩ | ⟨x, h3, h4⟩
    · exact RunsC.seq_out h3 hne
    · exact RunsC.seq h3 (RunsC.seq_out h4 hne)
  · rcases h1.inv with ⟨_, hne⟩ | ⟨x, h3, h4⟩
    · exact absurd rfl hne
    · exact RunsC.seq h3 (RunsC.seq h4 h2)
theorem RunsW.csi {p i l r : ICode} {s t : State} {ex : Ex} (h : RunsW prog (.seq (.seq p i) (.seq l r)) s ex t) : RunsW prog (.seq p (.seq (.seq i l) r)) s ex t := by
  obtain ⟨u, k1, k2⟩ := h
  refine ⟨u, ?_, k2⟩
  rcases k1.inv with ⟨h1, hne⟩ | ⟨v, h1, h2⟩
  · rcases h1.inv with ⟨h3, _⟩ | ⟨x, h3, h4⟩
    · exact RunsC.seq_out h3 hne
    · exact RunsC.seq h3 (RunsC.seq_out (RunsC.seq_out h4 hne) hne)
  · rcases h1.inv with ⟨_, hne⟩ | ⟨x, h3, h4⟩
    · exact absurd rfl hne
    · rcases h2.inv with ⟨h5, hne⟩ | ⟨y, h5, h6⟩
      · exact RunsC.seq h3 (RunsC.seq_out (RunsC.seq h4 h5) hne)
      · exact RunsC.seq h3 (RunsC.seq (RunsC.seq h4 h5) h6)

theorem RunsW.scope {c : ICode} {s t : State} {ex : Ex} (h : RunsW prog c s ex t) : RunsW prog (.scope c) s ex t := by
  obtain ⟨u, k1, k2⟩ := h
  exact ⟨u, RunsC.scope k1, k2⟩
theorem RunsW.block {id : Nat} {c : ICode} {s t : State} (h : RunsW prog c s (.exit id) t) : RunsW prog (.block id c) s .norm t := by
  obtain ⟨u, k1, k2⟩ := h
  exact ⟨u, RunsC.block k1, k2⟩
theorem RunsW.block_ret {id : Nat} {c : ICode} {s t : State} (h : RunsW prog c s .ret t) : RunsW prog (.block id c) s .ret t := by
  obtain ⟨u, k1, k2⟩ := h
  exact ⟨u, RunsC.block_ret k1, k2⟩
theorem RunsW.block_norm {id : Nat} {c : ICode} {s t : State} (h : RunsW prog c s .norm t) : RunsW prog (.block id c) s .norm t := by
  obtain ⟨u, k1, k2⟩ := h
  exact ⟨u, RunsC.block_norm k1, k2⟩

theorem RunsW.loop {c : ICode} {s s1 t : State} {ex : Ex} (h1 : RunsW prog c s .norm s1) (h2 : RunsW prog (.loop c) s1 ex t) : RunsW prog (.loop c) s ex t := by
  obtain ⟨u, k1, k2⟩ := h1
  obtain ⟨v, k3, k4⟩ := h2.weak k2 (SLe.refl t)
  exact ⟨v, RunsC.loop k1 k3, k4⟩

theorem RunsW.loop_out {c : ICode} {s t : State} {ex : Ex} (h1 : RunsW prog c s ex t) (hex : ex ≠ .norm) : RunsW prog (.loop c) s ex t := by
  obtain ⟨u, k1, k2⟩ := h1
  exact ⟨u, RunsC.loop_out k1 hex, k2⟩

theorem resA_mono {s s' : State} (h : SLe s s') {r : IRes} {x : AV} (hr : resA s r = some x) : resA s' r = some x := by
  cases r with
  | tmp t =>
    simp only [resA] at hr ⊢
    split at hr
    · rename_i y hy; rw [h.get hy (by intro e; cases e)]; exact hr
    · rename_i k n cs hy; rw [h.get hy (by intro e; cases e)]; exact hr
    · cases hr
  | cell t n one =>
    simp only [resA] at hr ⊢
    split at hr
    · rename_i y hy; rw [h.get hy (by intro e; cases e)]; exact hr
    · cases hr

theorem ressA_mono {s s' : State} (h : SLe s s') : ∀ {l : List IRes} {xs : List AV}, ressA s l = some xs → ressA s' l = some xs
  | [], xs, hx => hx
  | r :: l, xs, hx => by
    simp only [ressA] at hx ⊢
    cases h1 : resA s r with
    | none => rw [h1] at hx; cases hx
    | some x =>
      rw [h1] at hx
      rw [resA_mono h h1]
      cases h2 : ressA s l with
      | none => rw [h2] at hx; cases hx
      | some ys =>
        rw [h2] at hx
        rw [ressA_mono h h2]
        exact hx

theorem freshA_mono {s s' : State} (h : SLe s s') {l : List IRes} {x : AV} (hx : freshA s l = some x) : freshA s' l = some x := by
  unfold freshA at hx ⊢
  split at hx
  · rename_i t
    split at hx
    · rename_i k n cs hr
      rw [h.get hr (by intro e; cases e)]
      exact hx
    · rename_i b k n cs hr
      rw [h.get hr (by intro e; cases e)]
      exact hx
    · cases hx
  · rename_i t u
    split at hx
    · rename_i k n cs hr
      rw [h.get hr (by intro e; cases e)]
      dsimp only
      split at hx
      · rename_i b hru
        rw [h.get hru (by intro e; cases e)]
        exact hx
      · cases hx
    · cases hx
  · rename_i t n one
    split at hx
    · rename_i d hr
      rw [h.get hr (by intro e; cases e)]
      dsimp only
      split at hx
      · rename_i b k m cs hr2
        rw [h.get hr2 (by intro e; cases e)]
        exact hx
      · cases hx
    · cases hx
  · cases hx

theorem freshA_none {s s' : State} (h : SLe s s') {l : List IRes} {xs : List AV} (hf : freshA s l = none) (hx : ressA s l = some xs) : freshA s' l = none := by
  cases l with
  | nil => rfl
  | cons r l =>
    cases r with
    | cell t n one =>
      cases l with
      | cons _ _ => rfl
      | nil =>
        simp only [freshA] at hf ⊢
        cases hr : rget s t with
        | box cs => rw [h.get hr (by intro e; cases e)]
        | val x => simp only [ressA, resA, hr] at hx; cases hx
        | own k n cs => simp only [ressA, resA, hr] at hx; cases hx
        | agn b k n cs => simp only [ressA, resA, hr] at hx; cases hx
        | bxl _ => simp only [ressA, resA, hr] at hx; cases hx
        | ptr _ _ => simp only [ressA, resA, hr] at hx; cases hx
        | mem _ => simp only [ressA, resA, hr] at hx; cases hx
        | dup _ => simp only [ressA, resA, hr] at hx; cases hx
        | sub _ _ _ _ => simp only [ressA, resA, hr] at hx; cases hx
        | dead => simp only [ressA, resA, hr] at hx; cases hx
    | tmp t =>
      cases l with
      | cons r2 l2 =>
        cases r2 with
        | cell _ _ _ => rfl
        | tmp u =>
          cases l2 with
          | cons _ _ => rfl
          | nil =>
            have hru : ∃ r, resA s (.tmp u) = some r := by
              cases h1 : resA s (.tmp t) with
              | none => simp only [ressA, h1] at hx; cases hx
              | some x1 =>
                cases h2 : resA s (.tmp u) with
                | none => simp only [ressA, h1, h2] at hx; cases hx
                | some x2 => exact ⟨x2, rfl⟩
            have hrt : ∃ r, resA s (.tmp t) = some r := by
              cases h1 : resA s (.tmp t) with
              | none => simp only [ressA, h1] at hx; cases hx
              | some x1 => exact ⟨x1, rfl⟩
            obtain ⟨_, hru⟩ := hru
            obtain ⟨_, hrt⟩ := hrt
            simp only [freshA] at hf ⊢
            have gt : rget s' t = rget s t := by
              have hne : rget s t ≠ .dead := by
                intro e
                simp only [resA, e] at hrt
                cases hrt
              exact h.get rfl hne
            have gu : rget s' u = rget s u := by
              have hne : rget s u ≠ .dead := by
                intro e
                simp only [resA, e] at hru
                cases hru
              exact h.get rfl hne
            rw [gt, gu]
            exact hf
      | nil =>
        simp only [freshA] at hf ⊢
        cases hr : rget s t with
        | val x => rw [h.get hr (by intro e; cases e)]
        | own k n cs => rw [hr] at hf; cases hf
        | agn b k n cs => rw [hr] at hf; cases hf
        | bxl _ => simp only [ressA, resA, hr] at hx; cases hx
        | box _ => simp only [ressA, resA, hr] at hx; cases hx
        | ptr _ _ => simp only [ressA, resA, hr] at hx; cases hx
        | mem _ => simp only [ressA, resA, hr] at hx; cases hx
        | dup _ => simp only [ressA, resA, hr] at hx; cases hx
        | sub _ _ _ _ => simp only [ressA, resA, hr] at hx; cases hx
        | dead => simp only [ressA, resA, hr] at hx; cases hx

theorem Runs.of_bodyW {f : Nat} {fn : IFunc} {args : List AV} {s : State} {ex : Ex} {r : AV} (hf : prog f = some fn) (hl : args.length = fn.params) (h : RunsW prog fn.body (initA fn args) ex s)
    (hex : ∀ i, ex ≠ .exit i) (hr : resultA s fn.res = some r) : Runs prog f args r := by
  obtain ⟨u, k1, k2⟩ := h
  refine Runs.of_body hf hl k1 hex ?_
  unfold resultA at hr ⊢
  cases hfr : freshA s fn.res with
  | some y => rw [hfr] at hr; rw [freshA_mono k2 hfr]; exact hr
  | none =>
    rw [hfr] at hr
    dsimp only at hr
    split at hr
    · rename_i y hy; cases hr; rw [freshA_none k2 hfr hy, ressA_mono k2 hy]
    · rename_i ys hne hy
      cases hr
      rw [freshA_none k2 hfr hy, ressA_mono k2 hy]
      cases ys with
      | nil => rfl
      | cons y l =>
        cases l with
        | nil => exact (hne y rfl).elim
        | cons _ _ => rfl
    · cases hr

/-- These slots alone are kept. -/
def keepS (ks : List Nat) (s : State) : State := s.zipIdx.map fun p => if ks.contains p.2 then p.1 else .dead

theorem keepS_le (ks : List Nat) (s : State) : SLe (keepS ks s) s := by
  refine ⟨by simp [keepS], fun t => ?_⟩
  simp only [rget, keepS, List.getD_eq_getElem?_getD, List.getElem?_map, List.getElem?_zipIdx]
  cases h : s[t]? with
  | none => simp
  | some r =>
    simp only [Option.map_some, Nat.zero_add, Option.getD_some]
    split
    · exact .inr rfl
    · exact .inl rfl

/-- A piece of code, one way through it, what is kept of its end. -/
def evPS (prog : Nat → Option IFunc) (T : Table) (n : Nat) (c : ICode) (s : State) (sc : List Sc) (ks : List Nat) : Option (Ex × State × List Prop) :=
  match evCS prog T n c s sc [] with
  | some ((ex, t), [], ps) => some (ex, keepS ks t, ps)
  | _ => none

theorem RunsW.script {T : Table} (hT : THolds prog T) (n : Nat) {c : ICode} {s t : State} {ex : Ex} (sc : List Sc) (ks : List Nat) {ps : List Prop}
    (h : evPS prog T n c s sc ks = some (ex, t, ps)) (hp : AllP ps) : RunsW prog c s ex t := by
  unfold evPS at h
  split at h
  · rename_i ex' t' ps' h1
    cases h
    exact ⟨_, RunsC.script hT n sc h1 hp, keepS_le ks _⟩
  · cases h
/-- The same, the conditions read off their proofs. -/
theorem RunsW.go {T : Table} (hT : THolds prog T) (n : Nat) {c : ICode} {s t : State} {ex : Ex} (sc : List Sc) (ks : List Nat) {ps : List Prop}
    (hp : AllP ps) (h : evPS prog T n c s sc ks = some (ex, t, ps)) : RunsW prog c s ex t := RunsW.script hT n sc ks h hp
end
theorem ac {p : Prop} {ps : List Prop} (h : p) (hs : AllP ps) : AllP (p :: ps) := ⟨h, hs⟩
theorem a0 : AllP [] := trivial
theorem Runs.go {prog : Nat → Option IFunc} {T : Table} (hT : THolds prog T) {f : Nat} {fn : IFunc} (hf : prog f = some fn) (n : Nat) {args : List AV} (hl : args.length = fn.params) (sc : List Sc) {r : AV} {ps : List Prop}
    (hp : AllP ps) (h : evFS prog T n fn args sc = some (r, ps)) : Runs prog f args r := Runs.script hT hf n hl sc h hp
end Go.Ai
