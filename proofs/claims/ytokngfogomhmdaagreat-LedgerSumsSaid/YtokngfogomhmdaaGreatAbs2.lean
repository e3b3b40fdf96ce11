/- Operations that touch different slots may change places. -/
import Derived.Test.YtokngfogomhmdaaGreatAbs1
namespace Go.Ai

def rdOps (l : List Opd) : List Nat := l.flatMap Opd.rd
def rdO : Option Opd → List Nat
  | none => []
  | some o => o.rd
def rdPs (l : List (Nat × Nat × Opd)) : List Nat := l.flatMap fun p => p.2.2.rd

def rdK : K → List Nat
  | .mov x => x.rd
  | .pick c a b => c.rd ++ (a.rd ++ b.rd)
  | .bin _ x y => x.rd ++ y.rd
  | .eqb _ x y => x.rd ++ y.rd
  | .eqv _ _ x y => x.rd ++ y.rd
  | .un _ x => x.rd
  | .cv _ x => x.rd
  | .new _ _ => []
  | .box x _ => x.rd
  | .bld _ ps => rdPs ps
  | .bls _ _ ps => rdPs ps
  | .adr x _ _ => [x]
  | .ld x d _ _ => [x, d]
  | .st x d _ v => x :: d :: v.rd
  | .fld x _ _ _ => x.rd
  | .ixa x i _ => x :: i.rd
  | .ixb x i _ _ => x :: i.rd
  | .idx x i _ _ _ => x.rd ++ i.rd
  | .six x i => x.rd ++ i.rd
  | .ext x _ => x.rd
  | .len x => x.rd
  | .mx xs => rdOps xs
  | .mn xs => rdOps xs
  | .call _ xs => rdOps xs
  | .clo _ xs => rdOps xs
  | .cpy x => [x]
  | .tra x => [x]
  | .frz x => [x]
  | .mks _ n => n.rd
  | .blo _ _ _ ps => rdPs ps
  | .apd _ x y _ _ => x.rd ++ y.rd
  | .sli x lo hi mx _ => x.rd ++ (rdO lo ++ (rdO hi ++ rdO mx))
  | .ixo x d i _ => x :: d :: i.rd
  | .lno x d => [x, d]
  | .isn _ x d => [x, d]
  | .nlo _ => []
  | .brw _ x d => [x, d]
  | .bdo a x l => x :: (a.rd ++ l)
  | .cln _ xs l => rdOps xs ++ l
  | .stl x v => [x, v]
  | .fdo x => [x]
  | .cpo _ => []
  | .exo x => [x]
  | .sub x d lo hi _ => x :: d :: (rdO lo ++ rdO hi)
  | .app _ x d y _ => x :: d :: y.rd
  | .apb _ x y d _ => [x, y, d]
  | .slo x hi _ => x :: hi.rd
  | .mkf _ x => [x]
  | .cal _ x xs => x.rd ++ rdOps xs
  | .cao _ _ x xs => x.rd ++ rdOps xs
  | .bad => []

/-- Slots besides its own that an operation writes. -/
def wrK : K → List Nat
  | .new _ kills => kills
  | .box _ kills => kills
  | .st _ d _ _ => [d]
  | .tra x => [x]
  | .frz x => [x]
  | .apd _ x _ _ _ => x.rd
  | .bdo _ x _ => [x]
  | .stl x _ => [x]
  | .fdo x => [x]
  | .exo x => [x]
  | .app _ x d _ _ => [d, x]
  | .apb _ x _ _ _ => [x]
  | .slo x _ _ => [x]
  | .mkf _ x => [x]
  | .cao _ _ x _ => x.rd
  | _ => []

def IOp.rd (o : IOp) : List Nat := rdK o.k ++ (o.g.toList.map (·.1))
def IOp.wr (o : IOp) : List Nat := wrK o.k ++ (o.dst.toList ++ o.ks)

def Agree (l : List Nat) (s s' : State) : Prop := ∀ t ∈ l, rget s t = rget s' t

theorem Agree.left {l m : List Nat} {s s' : State} (h : Agree (l ++ m) s s') : Agree l s s' := fun t ht => h t (List.mem_append_left _ ht)
theorem Agree.right {l m : List Nat} {s s' : State} (h : Agree (l ++ m) s s') : Agree m s s' := fun t ht => h t (List.mem_append_right _ ht)
theorem Agree.head {t : Nat} {m : List Nat} {s s' : State} (h : Agree (t :: m) s s') : rget s t = rget s' t := h t (List.mem_cons_self ..)
theorem Agree.tail {t : Nat} {m : List Nat} {s s' : State} (h : Agree (t :: m) s s') : Agree m s s' := fun u hu => h u (List.mem_cons_of_mem _ hu)

theorem Opd.av_agree {o : Opd} {s s' : State} (h : Agree o.rd s s') : o.av s = o.av s' := by
  cases o with
  | t n => simp only [Opd.av, Opd.reg, h n (by simp [Opd.rd])]
  | c x => rfl

theorem Opd.reg_agree {o : Opd} {s s' : State} (h : Agree o.rd s s') : o.reg s = o.reg s' := by
  cases o with
  | t n => simp only [Opd.reg, h n (by simp [Opd.rd])]
  | c x => rfl
theorem bndA_agree {o : Option Opd} {d : Nat} {s s' : State} (h : Agree (rdO o) s s') : bndA s d o = bndA s' d o := by
  cases o with
  | none => rfl
  | some o => simp only [bndA, Opd.av_agree (o := o) h]

theorem avs_agree {s s' : State} : ∀ {l : List Opd}, Agree (rdOps l) s s' → avs s l = avs s' l
  | [], _ => rfl
  | o :: l, h => by
    have h1 : Agree o.rd s s' := fun t ht => h t (by simp [rdOps, ht])
    have h2 : Agree (rdOps l) s s' := fun t ht => h t (by simp only [rdOps, List.flatMap_cons, List.mem_append]; exact .inr ht)
    simp only [avs, Opd.av_agree h1, avs_agree h2]

theorem fillA_agree {s s' : State} : ∀ {ps : List (Nat × Nat × Opd)} {cs : List AV}, Agree (rdPs ps) s s' → fillA s cs ps = fillA s' cs ps
  | [], _, _ => rfl
  | (off, n, o) :: ps, cs, h => by
    have h1 : Agree o.rd s s' := fun t ht => h t (by simp [rdPs, ht])
    have h2 : Agree (rdPs ps) s s' := fun t ht => h t (by simp only [rdPs, List.flatMap_cons, List.mem_append]; exact .inr ht)
    have ih : ∀ cs' : List AV, fillA s cs' ps = fillA s' cs' ps := fun cs' => fillA_agree h2
    simp only [fillA, Opd.av_agree h1, ih]

theorem all_agree {l : List Nat} {s s' : State} {p : Reg → Bool} (h : Agree l s s') : (l.all fun t => p (rget s t)) = (l.all fun t => p (rget s' t)) := by
  induction l with
  | nil => rfl
  | cons t l ih => simp only [List.all_cons, h.head, ih h.tail]

theorem evK_agree {F : Caller} {k : K} {s s' : State} (h : Agree (rdK k) s s') : evK F s k = evK F s' k := by
  cases k <;> simp only [rdK] at h
  case mov x => simp only [evK, Opd.av_agree h]
  case pick c a b => simp only [evK, Opd.av_agree h.left, Opd.av_agree h.right.left, Opd.av_agree h.right.right]
  case bin op x y => simp only [evK, Opd.av_agree h.left, Opd.av_agree h.right]
  case eqb neg x y => simp only [evK, Opd.av_agree h.left, Opd.av_agree h.right]
  case eqv neg n x y => simp only [evK, Opd.av_agree h.left, Opd.av_agree h.right]
  case un op x => simp only [evK, Opd.av_agree h]
  case cv k x => simp only [evK, Opd.av_agree h]
  case new z kills => rfl
  case box x kills => simp only [evK, Opd.av_agree h]
  case bld z ps => simp only [evK, fillA_agree h]
  case bls n z ps => simp only [evK, fillA_agree h]
  case adr x d off => simp only [evK, h.head]
  case ld x d n one => simp only [evK, h.head, h.tail.head]
  case st x d n v => simp only [evK, h.head, h.tail.head, Opd.av_agree h.tail.tail]
  case fld x off n one => simp only [evK, Opd.av_agree h]
  case ixa x i k => simp only [evK, h.head, Opd.av_agree h.tail]
  case ixb x i len k => simp only [evK, h.head, Opd.av_agree h.tail]
  case idx x i len n one => simp only [evK, Opd.av_agree h.left, Opd.av_agree h.right]
  case six x i => simp only [evK, Opd.av_agree h.left, Opd.av_agree h.right]
  case ext x i => simp only [evK, Opd.av_agree h]
  case len x => simp only [evK, Opd.av_agree h]
  case mx xs => simp only [evK, avs_agree h]
  case mn xs => simp only [evK, avs_agree h]
  case call f xs => simp only [evK, avs_agree h]
  case clo f xs => simp only [evK, avs_agree h]
  case cpy x => simp only [evK, h.head]
  case tra x => simp only [evK, h.head]
  case frz x => simp only [evK, h.head]
  case mks z n => simp only [evK, Opd.av_agree h]
  case blo k n z ps => simp only [evK, fillA_agree h]
  case apd ow x y k B => simp only [evK, Opd.reg_agree h.left, Opd.av_agree h.right]
  case sli x lo hi mx k => simp only [evK, Opd.av_agree h.left, bndA_agree h.right.left, bndA_agree h.right.right.left, bndA_agree h.right.right.right]
  case ixo x d i k => simp only [evK, h.head, h.tail.head, Opd.av_agree h.tail.tail]
  case lno x d => simp only [evK, h.head, h.tail.head]
  case isn neg x d => simp only [evK, h.head, h.tail.head]
  case nlo k => rfl
  case bdo a x l =>
    have hl : (l.all fun t => isFirm (rget s t)) = (l.all fun t => isFirm (rget s' t)) := all_agree (p := isFirm) h.tail.right
    simp only [evK, h.head, Opd.av_agree h.tail.left, hl]
  case cln f xs l =>
    have hl : (l.all fun t => isFirm (rget s t)) = (l.all fun t => isFirm (rget s' t)) := all_agree (p := isFirm) h.right
    simp only [evK, avs_agree h.left, hl]
  case stl x v => simp only [evK, h.head, h.tail.head]
  case fdo x => simp only [evK, h.head]
  case exo x => simp only [evK, h.head]
  case cpo x => rfl
  case sub x d lo hi k => simp only [evK, h.head, h.tail.head, bndA_agree h.tail.tail.left, bndA_agree h.tail.tail.right]
  case app ow x d y k => simp only [evK, h.head, h.tail.head, Opd.av_agree h.tail.tail]
  case apb ow x y d k => simp only [evK, h.head, h.tail.head, h.tail.tail.head]
  case slo x hi k => simp only [evK, h.head, Opd.av_agree h.tail]
  case mkf f x => simp only [evK, h.head]
  case cal f x xs => simp only [evK, Opd.av_agree h.left, avs_agree h.right]
  case cao f k x xs =>
    cases x with
    | t m => simp only [evK, h.left m (by simp [Opd.rd]), avs_agree h.right]
    | c y =>
      simp only [evK, avs_agree h.right]
      cases avs s' xs with
      | none => rfl
      | some vs => cases y <;> first | rfl | (rename_i n cs; cases n <;> cases cs <;> rfl)
  case brw f x d => simp only [evK, h.head, h.tail.head]
  case bad => rfl

/-- The slots that evK lays something into are those of wrK. -/
theorem evK_keys {F : Caller} {k : K} {s : State} {r : Reg} {l : List (Nat × Reg)} (h : evK F s k = some (r, l)) : ∀ p ∈ l, p.1 ∈ wrK k := by
  cases k
  case new z kills => simp only [evK, Option.some.injEq, Prod.mk.injEq] at h; obtain ⟨_, rfl⟩ := h; simp [wrK]
  case box x kills =>
    simp only [evK] at h
    split at h
    · simp only [Option.some.injEq, Prod.mk.injEq] at h; obtain ⟨_, rfl⟩ := h; simp [wrK]
    · split at h
      · simp only [Option.some.injEq, Prod.mk.injEq] at h; obtain ⟨_, rfl⟩ := h; simp [wrK]
      · cases h
    · cases h
  case st x d n v =>
    simp only [evK] at h
    split at h
    · cases h
    · split at h
      · cases h
      · split at h
        · split at h
          · simp only [Option.map_eq_some_iff] at h
            obtain ⟨a, _, h⟩ := h
            cases h; simp [wrK]
          · cases h
        · split at h
          · split at h
            · simp only [Option.map_eq_some_iff] at h
              obtain ⟨a, _, h⟩ := h
              cases h; simp [wrK]
            · simp only [Option.map_eq_some_iff] at h
              obtain ⟨a, _, h⟩ := h
              cases h; simp [wrK]
            · cases h
          · cases h
        · cases h
  case tra x =>
    simp only [evK] at h
    split at h <;> cases h <;> simp [wrK]
  case frz x =>
    simp only [evK] at h
    split at h <;> cases h <;> simp [wrK]
  case bdo a x ls =>
    simp only [evK] at h
    repeat' split at h
    all_goals cases h
    simp [wrK]
  case stl x v =>
    simp only [evK] at h
    repeat' split at h
    all_goals cases h
    simp [wrK]
  case fdo x =>
    simp only [evK] at h
    split at h <;> cases h
    simp [wrK]
  case cpo x =>
    simp only [evK] at h
    cases h
    simp [wrK]
  case exo x =>
    simp only [evK] at h
    split at h <;> cases h
    simp [wrK]
  case sub x d lo hi k =>
    simp only [evK] at h
    repeat' split at h
    all_goals cases h
    simp [wrK]
  case app ow x d y k =>
    simp only [evK] at h
    repeat' split at h
    all_goals cases h
    all_goals simp [wrK]
  case apb ow x y d k =>
    simp only [evK] at h
    repeat' split at h
    all_goals cases h
    all_goals simp [wrK]
  case slo x hi k =>
    simp only [evK] at h
    repeat' split at h
    all_goals cases h
    simp [wrK]
  case mkf f x =>
    simp only [evK] at h
    split at h <;> cases h
    simp [wrK]
  case apd ow x y k B =>
    have hk : ∀ p ∈ killO x, p.1 ∈ x.rd := by cases x <;> simp [killO, Opd.rd]
    simp only [evK] at h
    intro p hp
    repeat' split at h
    all_goals first
      | (cases h; exact hk p hp)
      | (cases h; cases hp)
      | cases h
  case cao f k x xs =>
    simp only [evK] at h
    intro p hp
    repeat' split at h
    all_goals first
      | (simp only [Option.map_eq_some_iff] at h; obtain ⟨_, _, h⟩ := h; cases h; first | exact hk p hp | (simp at hp; subst hp; simp [wrK, Opd.rd]) | cases hp)
      | cases h
  all_goals
    have : l = [] := by
      revert h
      simp only [evK]
      repeat' split
      all_goals
        intro h
        first
          | cases h; rfl
          | (simp only [Option.map_eq_some_iff] at h; obtain ⟨_, _, h⟩ := h; cases h; rfl)
          | cases h
    subst this
    intro p hp
    cases hp

/-- What an operation writes, all of it. -/
def evW0 (F : Caller) (o : IOp) (s : State) : Option (List (Nat × Reg)) :=
  match wantA s o.g with
  | none => none
  | some false => some (o.dst.toList.map fun d => (d, .val .undef))
  | some true => (evK F s o.k).map fun p => p.2 ++ o.dst.toList.map fun d => (d, p.1)

def evW (F : Caller) (o : IOp) (s : State) : Option (List (Nat × Reg)) := (evW0 F o (kill s o.ks)).map fun l => (o.ks.map fun t => (t, Reg.dead)) ++ l

theorem rputs_append (s : State) (l m : List (Nat × Reg)) : rputs s (l ++ m) = rputs (rputs s l) m := by
  induction l generalizing s with
  | nil => rfl
  | cons p l ih => obtain ⟨t, r⟩ := p; simp only [List.cons_append, rputs, ih]

theorem rput_eq (s : State) (d : Option Nat) (r : Reg) : rput s d r = rputs s (d.toList.map fun d => (d, r)) := by
  cases d <;> rfl

theorem evOp0_eq (F : Caller) (o : IOp) (s : State) : evOp0 F o s = (evW0 F o s).map (rputs s) := by
  simp only [evOp0, evW0]
  cases wantA s o.g with
  | none => rfl
  | some b =>
    cases b with
    | false => simp only [Option.map_some, rput_eq]
    | true =>
      cases evK F s o.k with
      | none => rfl
      | some p => obtain ⟨r, l⟩ := p; simp only [Option.map_some, rputs_append, rput_eq]

theorem evOp_eq (F : Caller) (o : IOp) (s : State) : evOp F o s = (evW F o s).map (rputs s) := by
  simp only [evOp, evW, evOp0_eq, Option.map_map]
  congr 1
  funext l
  simp only [Function.comp, rputs_append, kill]

theorem rget_set_ne {s : State} {t u : Nat} {r : Reg} (h : t ≠ u) : rget (s.set t r) u = rget s u := by
  simp only [rget, List.getD_eq_getElem?_getD, List.getElem?_set_ne h]

theorem rget_set (s : State) (d : Nat) (r : Reg) (t : Nat) : rget (s.set d r) t = if d = t ∧ d < s.length then r else rget s t := by
  simp only [rget, List.getD_eq_getElem?_getD, List.getElem?_set]
  by_cases h : d = t
  · subst h
    by_cases h2 : d < s.length
    · simp [h2]
    · simp [h2]
  · simp [h]

theorem rget_kill1 (k : Nat) (s : State) (t : Nat) : rget (s.set k .dead) t = if k = t then .dead else rget s t := by
  rw [rget_set]
  by_cases h : k = t
  · subst h
    rw [if_pos rfl]
    split
    · rfl
    · rename_i hn
      have : s.length ≤ k := by simpa using hn
      simp only [rget, List.getD_eq_getElem?_getD, List.getElem?_eq_none this]; rfl
  · rw [if_neg h, if_neg (fun e => h e.1)]

theorem rget_killAll (ks : List Nat) : ∀ (s : State) (t : Nat), rget (kill s ks) t = if t ∈ ks then .dead else rget s t := by
  unfold kill
  induction ks with
  | nil => intro s t; simp [rputs]
  | cons k ks ih =>
    intro s t
    simp only [List.map_cons, rputs]
    rw [ih, rget_kill1]
    by_cases h1 : t ∈ ks
    · simp [h1]
    · by_cases h2 : k = t
      · subst h2; simp
      · have h2' : ¬ t = k := fun e => h2 e.symm
        simp [h1, h2, h2']

theorem kill_agree {l ks : List Nat} {s s' : State} (h : Agree l s s') : Agree l (kill s ks) (kill s' ks) := by
  intro t ht
  rw [rget_killAll, rget_killAll, h t ht]

theorem wantA_agree {g : Option (Nat × Bool)} {s s' : State} (h : Agree (g.toList.map (·.1)) s s') : wantA s g = wantA s' g := by
  cases g with
  | none => rfl
  | some p => obtain ⟨t, b⟩ := p; simp only [wantA, h t (by simp)]

theorem evW_agree {F : Caller} {o : IOp} {s s' : State} (h : Agree o.rd s s') : evW F o s = evW F o s' := by
  have h' : Agree o.rd (kill s o.ks) (kill s' o.ks) := kill_agree h
  simp only [evW, evW0, wantA_agree h'.right, evK_agree h'.left]

theorem evW0_keys {F : Caller} {o : IOp} {s : State} {l : List (Nat × Reg)} (h : evW0 F o s = some l) : ∀ p ∈ l, p.1 ∈ o.wr := by
  simp only [evW0] at h
  intro p hp
  split at h
  · cases h
  · cases h
    simp only [List.mem_map] at hp
    obtain ⟨d, hd, rfl⟩ := hp
    exact List.mem_append_right _ (List.mem_append_left _ hd)
  · simp only [Option.map_eq_some_iff] at h
    obtain ⟨⟨r, l'⟩, hk, rfl⟩ := h
    rcases List.mem_append.1 hp with hp | hp
    · exact List.mem_append_left _ (evK_keys hk p hp)
    · simp only [List.mem_map] at hp
      obtain ⟨d, hd, rfl⟩ := hp
      exact List.mem_append_right _ (List.mem_append_left _ hd)

theorem evW_keys {F : Caller} {o : IOp} {s : State} {l : List (Nat × Reg)} (h : evW F o s = some l) : ∀ p ∈ l, p.1 ∈ o.wr := by
  simp only [evW, Option.map_eq_some_iff] at h
  obtain ⟨l, h, rfl⟩ := h
  intro p hp
  rcases List.mem_append.1 hp with hp | hp
  · simp only [List.mem_map] at hp
    obtain ⟨t, ht, rfl⟩ := hp
    simp [IOp.wr, ht]
  · exact evW0_keys h p hp

theorem rget_rputs {l : List (Nat × Reg)} {u : Nat} : ∀ {s : State}, (∀ p ∈ l, p.1 ≠ u) → rget (rputs s l) u = rget s u := by
  induction l with
  | nil => intro s _; rfl
  | cons p l ih =>
    intro s h
    obtain ⟨t, r⟩ := p
    simp only [rputs]
    rw [ih (fun q hq => h q (List.mem_cons_of_mem _ hq)), rget_set_ne (h (t, r) (List.mem_cons_self ..))]

theorem rputs_set {l : List (Nat × Reg)} {t : Nat} {r : Reg} : ∀ {s : State}, (∀ p ∈ l, p.1 ≠ t) → rputs (s.set t r) l = (rputs s l).set t r := by
  induction l with
  | nil => intro s _; rfl
  | cons p l ih =>
    intro s h
    obtain ⟨u, q⟩ := p
    simp only [rputs]
    rw [List.set_comm _ _ (Ne.symm (h (u, q) (List.mem_cons_self ..))), ih (fun p hp => h p (List.mem_cons_of_mem _ hp))]

theorem rputs_comm {l m : List (Nat × Reg)} : ∀ {s : State}, (∀ p ∈ l, ∀ q ∈ m, p.1 ≠ q.1) → rputs (rputs s l) m = rputs (rputs s m) l := by
  induction l with
  | nil => intro s _; rfl
  | cons p l ih =>
    intro s h
    obtain ⟨t, r⟩ := p
    simp only [rputs]
    rw [ih (fun p hp q hq => h p (List.mem_cons_of_mem _ hp) q hq), rputs_set (fun q hq => Ne.symm (h (t, r) (List.mem_cons_self ..) q hq))]

/-- Neither writes what the other one reads or writes. -/
def indep (a b : IOp) : Bool := a.wr.all (fun t => !(b.rd.contains t) && !(b.wr.contains t)) && b.wr.all (fun t => !(a.rd.contains t))

theorem indep_spec {a b : IOp} (h : indep a b = true) : (∀ t ∈ a.wr, t ∉ b.rd ∧ t ∉ b.wr) ∧ ∀ t ∈ b.wr, t ∉ a.rd := by
  simp only [indep, Bool.and_eq_true, List.all_eq_true, Bool.not_eq_true', List.contains_eq_mem, decide_eq_false_iff_not] at h
  exact h

theorem evOp_swap {F : Caller} {a b : IOp} {s s1 s2 : State} (hi : indep a b = true) (h1 : evOp F a s = some s1) (h2 : evOp F b s1 = some s2) :
    ∃ s', evOp F b s = some s' ∧ evOp F a s' = some s2 := by
  obtain ⟨hab, hba⟩ := indep_spec hi
  rw [evOp_eq] at h1 h2
  simp only [Option.map_eq_some_iff] at h1 h2
  obtain ⟨la, ha, rfl⟩ := h1
  obtain ⟨lb, hb, rfl⟩ := h2
  have ka := evW_keys ha
  have kb := evW_keys hb
  have e1 : evW F b (rputs s la) = evW F b s := evW_agree fun t ht => rget_rputs fun p hp e => (hab p.1 (ka p hp)).1 (e ▸ ht)
  rw [e1] at hb
  have e2 : evW F a (rputs s lb) = evW F a s := evW_agree fun t ht => rget_rputs fun p hp e => hba p.1 (kb p hp) (e ▸ ht)
  refine ⟨rputs s lb, by rw [evOp_eq, hb]; rfl, ?_⟩
  rw [evOp_eq, e2, ha]
  simp only [Option.map_some, Option.some.injEq]
  exact (rputs_comm fun p hp q hq e => (hab p.1 (ka p hp)).2 (e ▸ kb q hq)).symm

/-- An operation that is independent of all ahead of it may be taken first. -/
theorem evOps_first {F : Caller} {o : IOp} {l : List IOp} : ∀ {s s2 : State} {m : List IOp}, (∀ p ∈ m, indep p o = true) → evOps F (m ++ o :: l) s = some s2 →
    ∃ s1, evOp F o s = some s1 ∧ evOps F (m ++ l) s1 = some s2 := by
  intro s s2 m
  induction m generalizing s with
  | nil =>
    intro _ h
    simp only [List.nil_append, evOps] at h ⊢
    cases h1 : evOp F o s with
    | none => rw [h1] at h; cases h
    | some s1 => rw [h1] at h; exact ⟨s1, rfl, h⟩
  | cons p m ih =>
    intro hp h
    simp only [List.cons_append, evOps] at h ⊢
    cases h1 : evOp F p s with
    | none => rw [h1] at h; cases h
    | some s1 =>
      rw [h1] at h
      obtain ⟨s3, h3, h4⟩ := ih (fun q hq => hp q (List.mem_cons_of_mem _ hq)) h
      obtain ⟨s', h5, h6⟩ := evOp_swap (hp p (List.mem_cons_self ..)) h1 h3
      exact ⟨s', h5, by rw [h6]; exact h4⟩

end Go.Ai
