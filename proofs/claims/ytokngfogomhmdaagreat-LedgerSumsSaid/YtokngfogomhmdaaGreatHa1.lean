/- Closed runs over a heap of numbered objects: values, how they lie in memory; the heap as a tree. -/
import Derived.Test.YtokngfogomhmdaaGreatAbsS
namespace Go.Hp
open Go.Ai Go.RowKit

/-! ### Trees with numbered places -/

inductive Tr (α : Type) where
  | e
  | n (l : Tr α) (v : Option α) (r : Tr α)

/-- A choice that the kernel takes in one step. -/
noncomputable def cnd {α : Type} (b : Bool) (x y : α) : α := Bool.rec (motive := fun _ => α) y x b
@[simp] theorem cnd_true {α : Type} (x y : α) : cnd true x y = x := rfl
@[simp] theorem cnd_false {α : Type} (x y : α) : cnd false x y = y := rfl
/-- An answer handed on. -/
noncomputable def bO {α β : Type} (o : Option α) (k : α → Option β) : Option β := Option.rec (motive := fun _ => Option β) none (fun x => k x) o
theorem bO_some {α β : Type} {o : Option α} {k : α → Option β} {x : β} (h : bO o k = some x) : ∃ v, o = some v ∧ k v = some x := by
  cases o with
  | none => cases h
  | some v => exact ⟨v, rfl, h⟩

noncomputable def Tr.get {α : Type} (t : Tr α) : Nat → Option α :=
  Tr.rec (motive := fun _ => Nat → Option α) (fun _ => none)
    (fun _ v _ gl gr k => Bool.rec (motive := fun _ => Option α) (Bool.rec (motive := fun _ => Option α) (gr (Nat.pred (Nat.div k 2))) (gl (Nat.div k 2)) (Nat.beq (Nat.mod k 2) 1)) v (Nat.beq k 0)) t

theorem Tr.get_e {α : Type} (k : Nat) : (Tr.e : Tr α).get k = none := rfl
theorem Tr.get_n {α : Type} (l : Tr α) (v : Option α) (r : Tr α) (k : Nat) : (Tr.n l v r).get k = if k = 0 then v else if k % 2 = 1 then l.get (k / 2) else r.get (k / 2 - 1) := by
  show cnd (Nat.beq k 0) v (cnd (Nat.beq (k % 2) 1) (l.get (k / 2)) (r.get (Nat.pred (k / 2)))) = _
  cases h : Nat.beq k 0
  · have h0 : ¬ k = 0 := fun e => by rw [e] at h; cases h
    rw [if_neg h0]
    cases h1 : Nat.beq (k % 2) 1
    · have : ¬ k % 2 = 1 := fun e => by rw [e] at h1; cases h1
      rw [if_neg this]; rfl
    · rw [if_pos (Nat.eq_of_beq_eq_true h1)]; rfl
  · rw [if_pos (Nat.eq_of_beq_eq_true h)]; rfl

noncomputable def Tr.setN {α : Type} (x : Option α) (ih : Nat → Tr α → Tr α) (k : Nat) (l : Tr α) (v : Option α) (r : Tr α) : Tr α :=
  Bool.rec (motive := fun _ => Tr α) (Bool.rec (motive := fun _ => Tr α) (.n l v (ih (Nat.pred (Nat.div k 2)) r)) (.n (ih (Nat.div k 2) l) v r) (Nat.beq (Nat.mod k 2) 1)) (.n l x r) (Nat.beq k 0)
noncomputable def Tr.setF {α : Type} (x : Option α) (n : Nat) : Nat → Tr α → Tr α :=
  Nat.rec (motive := fun _ => Nat → Tr α → Tr α) (fun _ t => t)
    (fun _ ih k t => Tr.rec (motive := fun _ => Tr α) (Tr.setN x ih k .e none .e) (fun l v r _ _ => Tr.setN x ih k l v r) t) n
noncomputable def Tr.set {α : Type} (t : Tr α) (k : Nat) (x : Option α) : Tr α := Tr.setF x (Nat.succ k) k t

theorem Tr.get_setN {α : Type} (x : Option α) (ih : Nat → Tr α → Tr α) (k : Nat) (hih : ∀ k' t j, k' < k → (ih k' t).get j = if j = k' then x else t.get j) (l : Tr α) (v : Option α) (r : Tr α) (j : Nat) :
    (Tr.setN x ih k l v r).get j = if j = k then x else if j = 0 then v else if j % 2 = 1 then l.get (j / 2) else r.get (j / 2 - 1) := by
  show Tr.get (cnd (Nat.beq k 0) (Tr.n l x r) (cnd (Nat.beq (k % 2) 1) (.n (ih (k / 2) l) v r) (.n l v (ih (Nat.pred (k / 2)) r)))) j = _
  cases h0 : Nat.beq k 0
  · have hk : ¬ k = 0 := fun e => by rw [e] at h0; cases h0
    cases h1 : Nat.beq (k % 2) 1
    · have hk1 : ¬ k % 2 = 1 := fun e => by rw [e] at h1; cases h1
      simp only [cnd_false]
      rw [Tr.get_n]
      by_cases hj : j = 0
      · subst hj; rw [if_pos rfl, if_neg (by omega), if_pos rfl]
      · rw [if_neg hj]
        by_cases hj1 : j % 2 = 1
        · rw [if_pos hj1, if_neg (by omega), if_neg hj, if_pos hj1]
        · rw [if_neg hj1, if_neg hj, if_neg hj1]
          have := hih (k / 2 - 1) r (j / 2 - 1) (by omega)
          rw [Nat.pred_eq_sub_one, this]
          by_cases hjk : j = k
          · subst hjk; rw [if_pos rfl, if_pos rfl]
          · rw [if_neg (by omega), if_neg hjk]
    · have hk1 : k % 2 = 1 := Nat.eq_of_beq_eq_true h1
      simp only [cnd_false, cnd_true]
      rw [Tr.get_n]
      by_cases hj : j = 0
      · subst hj; rw [if_pos rfl, if_neg (by omega), if_pos rfl]
      · rw [if_neg hj]
        by_cases hj1 : j % 2 = 1
        · rw [if_pos hj1, hih (k / 2) l (j / 2) (by omega), if_neg hj, if_pos hj1]
          by_cases hjk : j = k
          · subst hjk; rw [if_pos rfl, if_pos rfl]
          · rw [if_neg (by omega), if_neg hjk]
        · rw [if_neg hj1, if_neg (by omega), if_neg hj, if_neg hj1]
  · have hk : k = 0 := Nat.eq_of_beq_eq_true h0
    subst hk
    simp only [cnd_true]
    rw [Tr.get_n]
    by_cases hj : j = 0
    · rw [if_pos hj, if_pos hj]
    · rw [if_neg hj, if_neg hj, if_neg hj]

theorem Tr.get_setF {α : Type} (x : Option α) : ∀ (n k : Nat) (t : Tr α) (j : Nat), k < n → (Tr.setF x n k t).get j = if j = k then x else t.get j := by
  intro n
  induction n with
  | zero => intro k t j h; omega
  | succ n ih =>
    intro k t j h
    cases t with
    | e =>
      show (Tr.setN x (Tr.setF x n) k .e none .e).get j = _
      rw [Tr.get_setN x _ k (fun k' t j hk => ih k' t j (by omega))]
      simp only [Tr.get_e]
      split <;> (try split) <;> (try split) <;> rfl
    | n l v r =>
      show (Tr.setN x (Tr.setF x n) k l v r).get j = _
      rw [Tr.get_setN x _ k (fun k' t j hk => ih k' t j (by omega)), Tr.get_n]
theorem Tr.get_set {α : Type} (t : Tr α) (k : Nat) (x : Option α) (j : Nat) : (t.set k x).get j = if j = k then x else t.get j := Tr.get_setF x (k + 1) k t j (Nat.lt_succ_self k)

/-! ### Values -/

/-- A slice's capacity: a number, or one that the tape has drawn (elements of so many cells). -/
inductive Cap where
  | k (c : Nat)
  | d (sz : Nat)
def CapOk : Cap → Nat → Nat → Nat → Prop
  | .k c', _, c, _ => c' = c
  | .d sz, off, c, N => off + c * sz ≤ N

/-- A value; objects of the heap have numbers of their own. -/
inductive HV where
  | b (x : Bool)
  | i (k : IntKind) (n : Int)
  | u
  | pn
  | p (a off : Nat)
  | sn
  | s (a off len : Nat) (cap : Cap)
  | mn
  | m (a : Nat)
  | f (fn : Nat) (fs cs : List HV)
  | y (l : Nat)
  | c (v : Value)
  | g (cs : List HV)
  | t (cs : List HV)

/-- One cell holds it. -/
def HV.one : HV → Bool
  | .u | .g _ | .t _ => false
  | _ => true

/-- Temporaries: those of the region at work, the others, and which of them are kept at a region's end. -/
structure En where
  l : List (Nat × HV)
  g : Tr HV
  ms : Nat
def bitF (m n : Nat) : Bool := Nat.beq (Nat.land (Nat.shiftRight m n) 1) 1
noncomputable def En.get (e : En) (t : Nat) : Option HV :=
  List.rec (motive := fun _ => Option HV) (Bool.rec (motive := fun _ => Option HV) none (e.g.get t) (bitF e.ms t)) (fun p _ ih => Bool.rec (motive := fun _ => Option HV) ih (some p.2) (Nat.beq p.1 t)) e.l
def En.set (e : En) (t : Nat) (x : HV) : En := ⟨(t, x) :: e.l, e.g, e.ms⟩
noncomputable def En.flush (e : En) : En := ⟨[], List.rec (motive := fun _ => Tr HV) e.g (fun p _ ih => Bool.rec (motive := fun _ => Tr HV) ih (ih.set p.1 (some p.2)) (bitF e.ms p.1)) e.l, e.ms⟩
theorem En.get_cons (p : Nat × HV) (l : List (Nat × HV)) (g : Tr HV) (m t : Nat) : (En.mk (p :: l) g m).get t = cnd (Nat.beq p.1 t) (some p.2) ((En.mk l g m).get t) := rfl
theorem En.get_nil (g : Tr HV) (m t : Nat) : (En.mk [] g m).get t = cnd (bitF m t) (g.get t) none := rfl
theorem En.get_set (e : En) (t : Nat) (x : HV) (u : Nat) : (e.set t x).get u = if u = t then some x else e.get u := by
  show cnd (Nat.beq t u) (some x) (e.get u) = _
  cases h : Nat.beq t u
  · rw [if_neg fun e => by rw [e, Nat.beq_refl] at h; cases h]; rfl
  · rw [if_pos (Nat.eq_of_beq_eq_true h).symm]; rfl
theorem En.get_flush {t : Nat} {x : HV} : ∀ {l : List (Nat × HV)} {g : Tr HV} {m : Nat}, (En.mk l g m).flush.get t = some x → (En.mk l g m).get t = some x
  | [], g, m, h => h
  | p :: l, g, m, h => by
    have ih := @En.get_flush t x l g m
    rw [En.get_cons]
    have e : (En.mk (p :: l) g m).flush = ⟨[], cnd (bitF m p.1) ((En.mk l g m).flush.g.set p.1 (some p.2)) (En.mk l g m).flush.g, m⟩ := rfl
    rw [e, En.get_nil] at h
    cases hb : bitF m t
    · rw [hb] at h; cases h
    · rw [hb] at h
      simp only [cnd_true] at h
      cases hp : Nat.beq p.1 t
      · simp only [cnd_false]
        refine ih ?_
        have e2 : (En.mk l g m).flush = ⟨[], (En.mk l g m).flush.g, m⟩ := rfl
        rw [e2, En.get_nil, hb]
        simp only [cnd_true]
        cases hq : bitF m p.1
        · rw [hq] at h; exact h
        · rw [hq] at h
          simp only [cnd_true, Tr.get_set] at h
          rwa [if_neg fun e => by rw [e, Nat.beq_refl] at hp; cases hp] at h
      · have hpt := Nat.eq_of_beq_eq_true hp
        rw [hpt, hb] at h
        simp only [cnd_true, Tr.get_set, if_true] at h ⊢
        exact h

/-- Where an object lies, and how many cells it has. -/
abbrev Mu := Nat → Option (Nat × Nat)

inductive VR (μ : Mu) : HV → Value → Prop where
  | b (x : Bool) : VR μ (.b x) (.bool x)
  | i (k : IntKind) (n : Int) : VR μ (.i k n) (.int k n)
  | u : VR μ .u Go.undef
  | pn : VR μ .pn (.pointer none)
  | p {a off : Nat} {r : Nat × Nat} (h : μ a = some r) : VR μ (.p a off) (.pointer (some ⟨r.1, off, none⟩))
  | sn : VR μ .sn (.slice none 0 0)
  | s {a off len c : Nat} {r : Nat × Nat} {cap : Cap} (h : μ a = some r) (hl : len ≤ c) (hc : CapOk cap off c r.2) : VR μ (.s a off len cap) (.slice (some ⟨r.1, off, none⟩) len c)
  | mn : VR μ .mn (.map none)
  | m {a : Nat} {r : Nat × Nat} (h : μ a = some r) : VR μ (.m a) (.map (some r.1))
  | f (fn : Nat) (fs cs : List HV) (us vs : Array Value) (hu : us.size = fs.length) (hs : vs.size = cs.length) (hf : ∀ (j : Nat) (h1 : j < fs.length) (h2 : j < us.size), VR μ fs[j] us[j])
    (h : ∀ (j : Nat) (h1 : j < cs.length) (h2 : j < vs.size), VR μ cs[j] vs[j]) : VR μ (.f fn fs cs) (.func (.func fn) us vs)
  | y {l : Nat} {r : Nat × Nat} (h : μ l = some r) : VR μ (.y l) (.func (.yield r.1) #[] #[])
  | c (v : Value) (h : v.oneCell' = true ∧ v.cells = #[v]) : VR μ (.c v) v
  | g (cs : List HV) (vs : Array Value) (ho : ∀ x ∈ cs, HV.one x = true) (hs : vs.size = cs.length) (h : ∀ (j : Nat) (h1 : j < cs.length) (h2 : j < vs.size), VR μ cs[j] vs[j]) : VR μ (.g cs) (.agg vs)
  | t (cs : List HV) (vs : Array Value) (hs : vs.size = cs.length) (h : ∀ (j : Nat) (h1 : j < cs.length) (h2 : j < vs.size), VR μ cs[j] vs[j]) : VR μ (.t cs) (.tuple vs)

theorem VR.mono {μ μ' : Mu} (hle : ∀ a r, μ a = some r → μ' a = some r) {x : HV} {v : Value} (h : VR μ x v) : VR μ' x v := by
  induction h with
  | b x => exact .b x
  | i k n => exact .i k n
  | u => exact .u
  | pn => exact .pn
  | p h => exact .p (hle _ _ h)
  | sn => exact .sn
  | s h hl hc => exact .s (hle _ _ h) hl hc
  | mn => exact .mn
  | m h => exact .m (hle _ _ h)
  | f fn fs cs us vs hu hs _ _ ih1 ih2 => exact .f fn fs cs us vs hu hs ih1 ih2
  | y h => exact .y (hle _ _ h)
  | c v h => exact .c v h
  | g cs vs ho hs _ ih => exact .g cs vs ho hs ih
  | t cs vs hs _ ih => exact .t cs vs hs ih

theorem VR.oneCell {μ : Mu} {x : HV} {v : Value} (h : VR μ x v) (ho : x.one = true) : v.oneCell' = true ∧ v.cells = #[v] := by
  cases h <;> first | assumption | exact ⟨rfl, rfl⟩ | cases ho

/-- Cells, the first ones of a row. -/
def CR (μ : Mu) (cs : List HV) (vs : Array Value) : Prop := (∀ x ∈ cs, HV.one x = true) ∧ ∀ (j : Nat) (h : j < cs.length), ∃ v, vs[j]? = some v ∧ VR μ cs[j] v

theorem CR.mono {μ μ' : Mu} (hle : ∀ a r, μ a = some r → μ' a = some r) {cs : List HV} {vs : Array Value} (h : CR μ cs vs) : CR μ' cs vs :=
  ⟨h.1, fun j hj => let ⟨v, h1, h2⟩ := h.2 j hj; ⟨v, h1, h2.mono hle⟩⟩

/-- Temporaries. -/
def FR (μ : Mu) (n : Nat) (ρ : En) (tm : Array Value) : Prop := tm.size = n ∧ ∀ t x, ρ.get t = some x → VR μ x (tm.getD t Go.undef)

theorem FR.mono {μ μ' : Mu} (hle : ∀ a r, μ a = some r → μ' a = some r) {n : Nat} {ρ : En} {tm : Array Value} (h : FR μ n ρ tm) : FR μ' n ρ tm := ⟨h.1, fun t x hx => (h.2 t x hx).mono hle⟩

inductive HO where
  | c (cs : List HV)
  | m (es : List (HV × HV))
  | l (ρ : En) (n : Nat) (ps : List Nat) (as bd : Code) (st : LoopState) (jump : Option Code)

def OR (μ : Mu) (w : World) (r : Nat × Nat) : HO → Prop
  | .c cs => ∃ vs T, w.heap[r.1]? = some (.cells vs T (0, 0)) ∧ vs.size = r.2 ∧ CR μ cs vs
  | .m es => ∃ ms k, w.heap[r.1]? = some (.map ms k) ∧ ms.size = es.length ∧ ∀ (j : Nat) (h1 : j < es.length) (h2 : j < ms.size), VR μ es[j].1 ms[j].key ∧ VR μ es[j].2 ms[j].val
  | .l ρ n ps as bd st jump => ∃ L : Loop, w.heap[r.1]? = some (.loop L) ∧ L.params = ps.toArray ∧ L.assign = as ∧ L.body = bd ∧ L.state = st ∧ L.pending = jump ∧ FR μ n ρ L.tmps

theorem OR.lt {μ : Mu} {w : World} {r : Nat × Nat} {o : HO} (h : OR μ w r o) : r.1 < w.heap.size := by
  have key : ∀ x, w.heap[r.1]? = some x → r.1 < w.heap.size := fun x hx => (Array.getElem?_eq_some_iff.1 hx).1
  cases o with
  | c cs => obtain ⟨vs, T, h1, _⟩ := h; exact key _ h1
  | m es => obtain ⟨ms, k, h1, _⟩ := h; exact key _ h1
  | l ρ n ps as bd st jump => obtain ⟨L, h1, _⟩ := h; exact key _ h1

theorem OR.same {μ μ' : Mu} (hle : ∀ a r, μ a = some r → μ' a = some r) {w w' : World} {r : Nat × Nat} {o : HO} (h : OR μ w r o) (hw : w'.heap[r.1]? = w.heap[r.1]?) : OR μ' w' r o := by
  cases o with
  | c cs => obtain ⟨vs, T, h1, h2, h3⟩ := h; exact ⟨vs, T, by rw [hw]; exact h1, h2, h3.mono hle⟩
  | m es => obtain ⟨ms, k, h1, h2, h3⟩ := h; exact ⟨ms, k, by rw [hw]; exact h1, h2, fun j g1 g2 => ⟨(h3 j g1 g2).1.mono hle, (h3 j g1 g2).2.mono hle⟩⟩
  | l ρ n ps as bd st jump => obtain ⟨L, h1, h2, h3, h4, h5, h6, h7⟩ := h; exact ⟨L, by rw [hw]; exact h1, h2, h3, h4, h5, h6, h7.mono hle⟩

/-- The heap, the next object's number, and which objects have been touched. -/
structure HS where
  h : Tr HO
  nx : Nat
  lg : List Nat

/-- The heap lies in memory. -/
structure HR (μ : Mu) (h : Tr HO) (w : World) : Prop where
  obj : ∀ a o, h.get a = some o → ∃ r, μ a = some r ∧ OR μ w r o
  inj : ∀ a a' o o' r r', h.get a = some o → h.get a' = some o' → μ a = some r → μ a' = some r' → r.1 = r'.1 → a = a'
  lt : ∀ a r, μ a = some r → r.1 < w.heap.size

def Free (μ : Mu) (a b : Nat) : Prop := ∀ c, a ≤ c → c < b → μ c = none

/-- What has turned, in the tree alone. -/
structure Qt (s s' : HS) : Prop where
  nx : s.nx ≤ s'.nx
  lg : ∀ a, a ∈ s.lg → a ∈ s'.lg
  dom : ∀ a o, s'.h.get a = some o → (∃ o', s.h.get a = some o') ∨ (s.nx ≤ a ∧ a < s'.nx)
  keep : ∀ a, ¬ a ∈ s'.lg → ¬ (s.nx ≤ a ∧ a < s'.nx) → s'.h.get a = s.h.get a
  lgd : ∀ a, a ∈ s'.lg → a ∈ s.lg ∨ (∃ o, s.h.get a = some o) ∨ (s.nx ≤ a ∧ a < s'.nx)

theorem Qt.refl (s : HS) : Qt s s := ⟨Nat.le_refl _, fun _ h => h, fun _ o h => .inl ⟨o, h⟩, fun _ _ _ => rfl, fun _ h => .inl h⟩
theorem Qt.trans {s t u : HS} (h : Qt s t) (g : Qt t u) : Qt s u where
  nx := Nat.le_trans h.nx g.nx
  lg a ha := g.lg a (h.lg a ha)
  dom a o e := by
    rcases g.dom a o e with ⟨o', e⟩ | e
    · rcases h.dom a o' e with e | e
      · exact .inl e
      · exact .inr ⟨e.1, Nat.lt_of_lt_of_le e.2 g.nx⟩
    · exact .inr ⟨Nat.le_trans h.nx e.1, e.2⟩
  keep a h1 h2 := by
    rw [g.keep a h1 fun e => h2 ⟨Nat.le_trans h.nx e.1, e.2⟩]
    exact h.keep a (fun e => h1 (g.lg a e)) fun e => h2 ⟨e.1, Nat.lt_of_lt_of_le e.2 g.nx⟩
  lgd a ha := by
    rcases g.lgd a ha with e | ⟨o, e⟩ | e
    · rcases h.lgd a e with e | e | e
      · exact .inl e
      · exact .inr (.inl e)
      · exact .inr (.inr ⟨e.1, Nat.lt_of_lt_of_le e.2 g.nx⟩)
    · rcases h.dom a o e with e | e
      · exact .inr (.inl e)
      · exact .inr (.inr ⟨e.1, Nat.lt_of_lt_of_le e.2 g.nx⟩)
    · exact .inr (.inr ⟨Nat.le_trans h.nx e.1, e.2⟩)

/-- What has turned, in memory: nothing but the objects, and what is new. -/
structure Step (μ : Mu) (s : HS) (w : World) (μ' : Mu) (s' : HS) (w' : World) : Prop where
  le : ∀ a r, μ a = some r → μ' a = some r
  os : w'.os = w.os
  tape : w'.tape = w.tape
  out : w'.output = w.output
  size : w.heap.size ≤ w'.heap.size
  new : ∀ b r, μ' b = some r → μ b = some r ∨ (∃ a o, s.h.get a = some o ∧ μ a = some r) ∨ w.heap.size ≤ r.1
  frame : ∀ r, r < w.heap.size → (∀ a o q, s.h.get a = some o → μ a = some q → q.1 ≠ r) → w'.heap[r]? = w.heap[r]?
  stay : ∀ b, ¬ (s.nx ≤ b ∧ b < s'.nx) → μ' b = μ b

theorem Step.refl (μ : Mu) (s : HS) (w : World) : Step μ s w μ s w := ⟨fun _ _ h => h, rfl, rfl, rfl, Nat.le_refl _, fun _ _ h => .inl h, fun _ _ _ => rfl, fun _ _ => rfl⟩

theorem Step.trans {μ μ1 μ2 : Mu} {s s1 s2 : HS} {w w1 w2 : World} (h : Step μ s w μ1 s1 w1) (g : Step μ1 s1 w1 μ2 s2 w2) (q1 : Qt s s1) (q2 : Qt s1 s2) (hf : Free μ s.nx s1.nx) : Step μ s w μ2 s2 w2 := by
  have dom : ∀ a o r, s1.h.get a = some o → μ a = some r → ∃ o', s.h.get a = some o' := by
    intro a o r e1 e2
    rcases q1.dom a o e1 with e | e
    · exact e
    · rw [hf a e.1 e.2] at e2; cases e2
  refine ⟨fun a r e => g.le a r (h.le a r e), g.os.trans h.os, g.tape.trans h.tape, g.out.trans h.out, Nat.le_trans h.size g.size, fun b r e => ?_, fun r hr hn => ?_, fun b hb => ?_⟩
  · rcases g.new b r e with e | ⟨a, o, e1, e2⟩ | e
    · exact h.new b r e
    · rcases h.new a r e2 with e | e | e
      · obtain ⟨o', ho⟩ := dom a o r e1 e
        exact .inr (.inl ⟨a, o', ho, e⟩)
      · exact .inr (.inl e)
      · exact .inr (.inr e)
    · exact .inr (.inr (Nat.le_trans h.size e))
  · rw [g.frame r (Nat.lt_of_lt_of_le hr h.size) fun a o q e1 e2 e3 => ?_]
    · exact h.frame r hr hn
    · rcases h.new a q e2 with e | ⟨a', o', e, e'⟩ | e
      · obtain ⟨o', ho⟩ := dom a o q e1 e
        exact hn a o' q ho e e3
      · exact hn a' o' q e e' e3
      · omega
  · rw [g.stay b fun e => hb ⟨Nat.le_trans q1.nx e.1, e.2⟩]
    exact h.stay b fun e => hb ⟨e.1, Nat.lt_of_lt_of_le e.2 q2.nx⟩

/-! ### Loads, stores, new objects -/

def takeH (cs : List HV) (off n : Nat) (one : Bool) : Option HV :=
  if one then cs[off]? else if off + n ≤ cs.length then some (.g ((cs.drop off).take n)) else none
def layH (cs : List HV) (off : Nat) (ys : List HV) : Option (List HV) :=
  if off + ys.length ≤ cs.length then some (cs.take off ++ ys ++ cs.drop (off + ys.length)) else none
def cellsH : HV → Nat → Option (List HV)
  | .g cs, n => if cs.length = n then some cs else none
  | x, n => if x.one && n == 1 then some [x] else none

/-- Cells one by one: the row's are these and no more. -/
def CRs (μ : Mu) (cs : List HV) (vs : Array Value) : Prop := (∀ x ∈ cs, HV.one x = true) ∧ vs.size = cs.length ∧ ∀ (j : Nat) (h1 : j < cs.length) (h2 : j < vs.size), VR μ cs[j] vs[j]

theorem CRs.oneCell {μ : Mu} {cs : List HV} {vs : Array Value} (h : CRs μ cs vs) : ∀ v ∈ vs.toList, v.oneCell' = true := by
  obtain ⟨ho, hs, hr⟩ := h
  intro v hv
  obtain ⟨j, hj, rfl⟩ := List.getElem_of_mem hv
  have hj' : j < vs.size := by simpa using hj
  have := hr j (by omega) hj'
  exact (this.oneCell (ho _ (List.getElem_mem _))).1
theorem CRs.cr {μ : Mu} {cs : List HV} {vs : Array Value} (h : CRs μ cs vs) : CR μ cs vs :=
  ⟨h.1, fun j hj => ⟨vs[j]'(by rw [h.2.1]; exact hj), by rw [Array.getElem?_eq_getElem], h.2.2 j hj _⟩⟩
theorem CRs.mono {μ μ' : Mu} (hle : ∀ a r, μ a = some r → μ' a = some r) {cs : List HV} {vs : Array Value} (h : CRs μ cs vs) : CRs μ' cs vs :=
  ⟨h.1, h.2.1, fun j h1 h2 => (h.2.2 j h1 h2).mono hle⟩

theorem cellsH_ok {μ : Mu} {x : HV} {v : Value} {n : Nat} {ys : List HV} (h : VR μ x v) (hc : cellsH x n = some ys) : ys.length = n ∧ CRs μ ys v.cells := by
  have one : x.one = true → n = 1 → ys = [x] → ys.length = n ∧ CRs μ ys v.cells := by
    intro hd hn hy
    subst hy hn
    refine ⟨rfl, ?_⟩
    rw [(h.oneCell hd).2]
    refine ⟨fun y hy => ?_, rfl, fun j h1 h2 => ?_⟩
    · simp only [List.mem_singleton] at hy; subst hy; exact hd
    · have : j = 0 := by simp at h2; exact h2
      subst this
      exact h
  cases x with
  | g cs =>
    simp only [cellsH] at hc
    split at hc
    · cases hc
      cases h with
      | g _ vs ho hs hr => exact ⟨by assumption, ho, hs, hr⟩
    · cases hc
  | u => cases hc
  | t _ => cases hc
  | _ =>
    simp only [cellsH, HV.one, Bool.true_and, beq_iff_eq] at hc
    split at hc <;> cases hc
    exact one rfl (by assumption) rfl

theorem getElem?_layH (cs new : List HV) (off i : Nat) (h : off + new.length ≤ cs.length) :
    (cs.take off ++ new ++ cs.drop (off + new.length))[i]? = if i < off then cs[i]? else if i < off + new.length then new[i - off]? else cs[i]? := by
  have ht : (cs.take off).length = off := by simp; omega
  by_cases h1 : i < off
  · rw [if_pos h1, List.append_assoc, List.getElem?_append_left (by omega), List.getElem?_take_of_lt h1]
  · rw [if_neg h1]
    by_cases h2 : i < off + new.length
    · rw [if_pos h2, List.getElem?_append_left (by simp; omega), List.getElem?_append_right (by omega), ht]
    · rw [if_neg h2, List.getElem?_append_right (by simp; omega), List.getElem?_drop]
      congr 1
      simp
      omega

section
variable {P : Program} {μ : Mu} {h : Tr HO} {w : World}

theorem HR.at (H : HR μ h w) {a : Nat} {r : Nat × Nat} {o : HO} (ha : h.get a = some o) (hr : μ a = some r) : OR μ w r o := by
  obtain ⟨r', h1, h2⟩ := H.obj a _ ha
  rw [hr] at h1
  cases h1
  exact h2

theorem HR.cell (H : HR μ h w) {a : Nat} {r : Nat × Nat} {cs : List HV} (ha : h.get a = some (.c cs)) (hr : μ a = some r) : ∀ (j : Nat) (hj : j < cs.length), ∃ v, w.cell? ⟨r.1, j, none⟩ = some v ∧ VR μ cs[j] v := by
  obtain ⟨vs, T, h2, _, h3⟩ := H.at ha hr
  intro j hj
  obtain ⟨v, g1, g2⟩ := h3.2 j hj
  exact ⟨v, by simp [World.cell?, h2, g1], g2⟩
theorem HR.ones (H : HR μ h w) {a : Nat} {cs : List HV} (ha : h.get a = some (.c cs)) : ∀ x ∈ cs, HV.one x = true := by
  obtain ⟨r', h1, vs, T, h2, _, h3⟩ := H.obj a _ ha
  exact h3.1

theorem load_h (H : HR μ h w) {t : TypeId} {n a off : Nat} {r : Nat × Nat} {one : Bool} {cs : List HV} {x : HV} (ho : oneOk P t n one = true) (ha : h.get a = some (.c cs)) (hr : μ a = some r)
    (ht : takeH cs off n one = some x) : ∃ v, (loadVar t ⟨r.1, off, none⟩).run P w = .ok v w ∧ VR μ x v := by
  obtain ⟨h1, h2⟩ := oneOk_spec ho
  have hm := H.cell ha hr
  have hd := H.ones ha
  unfold takeH at ht
  cases one with
  | true =>
    simp only [if_true] at ht
    obtain ⟨hlt, hx⟩ := List.getElem?_eq_some_iff.1 ht
    obtain ⟨v, hc, hv⟩ := hm off hlt
    refine ⟨v, ?_, hx ▸ hv⟩
    simp [loadVar, h1, hc]
  | false =>
    simp only [Bool.false_eq_true, if_false] at ht
    split at ht
    · rename_i hle
      cases ht
      let f : Nat → Value := fun j => (w.cell? ⟨r.1, off + j, none⟩).getD Go.undef
      have hf : ∀ j, j < n → w.cell? ⟨r.1, off + j, none⟩ = some (f j) ∧ ∀ h : off + j < cs.length, VR μ cs[off + j] (f j) := by
        intro j hj
        obtain ⟨v, hc, hv⟩ := hm (off + j) (by omega)
        refine ⟨by simp [f, hc], fun _ => ?_⟩
        have : f j = v := by simp [f, hc]
        rw [this]; exact hv
      refine ⟨.agg ((List.range n).map f).toArray, ?_, ?_⟩
      · have hl := run_loadCells (P := P) w ⟨r.1, off, none⟩ n f (fun j hj => by rw [addr_add]; exact (hf j hj).1)
        simp [loadVar, h1, h2, hl]
      · refine .g _ _ ?_ (by simp; omega) (fun i h1 h2 => ?_)
        · intro y hy
          exact hd y (List.mem_of_mem_drop (List.mem_of_mem_take hy))
        · have hi : i < n := by simpa using h2
          simpa using (hf i hi).2 (by omega)
    · cases ht

/-- One object in the place of what was there. -/
theorem HR.turn (H : HR μ h w) {a : Nat} {r : Nat × Nat} {o o' : HO} {w' : World} (ha : h.get a = some o') (hr : μ a = some r) (hs : w.heap.size ≤ w'.heap.size) (hw : ∀ b, b ≠ r.1 → w'.heap[b]? = w.heap[b]?) (ho : OR μ w' r o) : HR μ (h.set a (some o)) w' where
  obj b x hb := by
    rw [Tr.get_set] at hb
    split at hb
    · rename_i e
      subst e
      cases hb
      exact ⟨r, hr, ho⟩
    · rename_i e
      obtain ⟨r', h1, h2⟩ := H.obj b x hb
      exact ⟨r', h1, h2.same (fun _ _ h => h) (hw r'.1 fun e' => e (H.inj _ _ _ _ _ _ hb ha h1 hr e'))⟩
  inj b b' x x' q q' hb hb' h1 h2 h3 := by
    rw [Tr.get_set] at hb hb'
    split at hb <;> split at hb'
    · rename_i e e'; rw [e, e']
    · rename_i e e'; subst e; exact H.inj _ _ _ _ _ _ ha hb' h1 h2 h3
    · rename_i e e'; subst e'; exact H.inj _ _ _ _ _ _ hb ha h1 h2 h3
    · exact H.inj _ _ _ _ _ _ hb hb' h1 h2 h3
  lt b q hb := Nat.lt_of_lt_of_le (H.lt b q hb) hs

/-- The step that turns one object. -/
theorem Step.turn {s : HS} {a : Nat} {r : Nat × Nat} {o o' : HO} {w' : World} (ha : s.h.get a = some o') (hr : μ a = some r) (hos : w'.os = w.os) (ht : w'.tape = w.tape) (hout : w'.output = w.output) (hs : w'.heap.size = w.heap.size)
    (hw : ∀ b, b ≠ r.1 → w'.heap[b]? = w.heap[b]?) : Step μ s w μ ⟨s.h.set a (some o), s.nx, a :: s.lg⟩ w' :=
  ⟨fun _ _ e => e, hos, ht, hout, by omega, fun _ _ e => .inl e, fun b _ hn => hw b fun e => hn a _ _ ha hr e.symm, fun _ _ => rfl⟩
theorem Qt.turn {s : HS} {a : Nat} {o o' : HO} (ha : s.h.get a = some o') : Qt s ⟨s.h.set a (some o), s.nx, a :: s.lg⟩ where
  nx := Nat.le_refl _
  lg b hb := List.mem_cons_of_mem _ hb
  dom b x hb := by
    rw [Tr.get_set] at hb
    split at hb
    · rename_i e; subst e; exact .inl ⟨_, ha⟩
    · exact .inl ⟨_, hb⟩
  keep b hb _ := by
    rw [Tr.get_set, if_neg (fun e => hb (by rw [e]; exact List.mem_cons_self))]
  lgd b hb := by
    rcases List.mem_cons.1 hb with rfl | hb
    · exact .inr (.inl ⟨_, ha⟩)
    · exact .inl hb

/-- Cells laid into a row. -/
theorem lay_h {s : HS} (H : HR μ s.h w) {a off : Nat} {r : Nat × Nat} {cs ys cs' : List HV} {news : List Value} (ha : s.h.get a = some (.c cs)) (hr : μ a = some r) (hv : CRs μ ys news.toArray) (hl : layH cs off ys = some cs') :
    ∃ w', (storeCells ⟨r.1, off, none⟩ news 0).run P w = .ok () w' ∧ HR μ (s.h.set a (some (.c cs'))) w' ∧ Step μ s w μ ⟨s.h.set a (some (.c cs')), s.nx, a :: s.lg⟩ w' := by
  obtain ⟨vs, T, hblk, hsz2, hc⟩ := H.at ha hr
  unfold layH at hl
  split at hl
  · rename_i hle
    cases hl
    have hvl : news.length = ys.length := by simpa using hv.2.1
    have hcl : cs.length ≤ vs.size := by
      apply Classical.byContradiction
      intro hlt
      obtain ⟨u, g1, _⟩ := hc.2 (cs.length - 1) (by omega)
      have := (Array.getElem?_eq_some_iff.1 g1).1
      by_cases h0 : vs.size < cs.length
      · obtain ⟨u, g1, _⟩ := hc.2 vs.size h0
        have := (Array.getElem?_eq_some_iff.1 g1).1
        omega
      · omega
    have hrun := run_storeCells_at (P := P) r.1 off T news 0 vs w hblk (by omega) (fun v hv' => hv.oneCell v (by simpa using hv'))
    simp only [Nat.add_zero] at hrun
    have hoth : ∀ b, b ≠ r.1 → (w.setRow r.1 (List.take off vs.toList ++ news ++ List.drop (off + news.length) vs.toList).toArray).heap[b]? = w.heap[b]? := fun b hb => setRow_other _ _ _ _ hb
    refine ⟨_, hrun, ?_, Step.turn ha hr rfl rfl rfl (by rw [setRow_size]) hoth⟩
    refine H.turn ha hr (by rw [setRow_size]; exact Nat.le_refl _) hoth ⟨_, T, setRow_heap w r.1 vs _ T (0, 0) hblk, ?_, ?_, ?_⟩
    · simp only [List.size_toArray, List.length_append, List.length_take, List.length_drop, Array.length_toList]
      omega
    · intro x hx
      simp only [List.mem_append] at hx
      rcases hx with (hx | hx) | hx
      · exact hc.1 x (List.mem_of_mem_take hx)
      · exact hv.1 x hx
      · exact hc.1 x (List.mem_of_mem_drop hx)
    · intro j hj
      have e1 := getElem?_layH cs ys off j hle
      rw [List.getElem?_eq_getElem hj] at e1
      have ht : (vs.toList.take off).length = off := by simp; omega
      have hjl : j < cs.length := by simp at hj; omega
      simp only [List.getElem?_toArray]
      by_cases h1 : j < off
      · rw [if_pos h1] at e1
        obtain ⟨u, hu, hv'⟩ := hc.2 j hjl
        refine ⟨u, ?_, ?_⟩
        · rw [List.append_assoc, List.getElem?_append_left (by omega), List.getElem?_take_of_lt h1]
          simpa using hu
        · rw [List.getElem?_eq_getElem hjl] at e1
          rw [Option.some.inj e1]; exact hv'
      · rw [if_neg h1] at e1
        by_cases h2 : j < off + ys.length
        · rw [if_pos h2] at e1
          have hq : j - off < ys.length := by omega
          rw [List.getElem?_eq_getElem hq] at e1
          obtain ⟨u, hu, hv'⟩ := hv.cr.2 (j - off) hq
          refine ⟨u, ?_, by rw [Option.some.inj e1]; exact hv'⟩
          rw [List.getElem?_append_left (by simp only [List.length_append]; omega), List.getElem?_append_right (by omega), ht]
          simpa using hu
        · rw [if_neg h2] at e1
          obtain ⟨u, hu, hv'⟩ := hc.2 j hjl
          refine ⟨u, ?_, ?_⟩
          · rw [List.getElem?_append_right (by simp only [List.length_append]; omega), List.getElem?_drop]
            have e2 : off + news.length + (j - (vs.toList.take off ++ news).length) = j := by simp only [List.length_append, ht, hvl]; omega
            rw [e2]
            simpa using hu
          · rw [List.getElem?_eq_getElem hjl] at e1
            rw [Option.some.inj e1]; exact hv'
  · cases hl

theorem store_h {s : HS} (H : HR μ s.h w) {t : TypeId} {n a off : Nat} {r : Nat × Nat} {cs ys cs' : List HV} {v : Value} (hsz : ∀ w, (sizeOf t).run P w = .ok n w) (ha : s.h.get a = some (.c cs)) (hr : μ a = some r)
    (hv : CRs μ ys v.cells) (hn : ys.length = n) (hl : layH cs off ys = some cs') :
    ∃ w', (storeVar t ⟨r.1, off, none⟩ v).run P w = .ok () w' ∧ HR μ (s.h.set a (some (.c cs'))) w' ∧ Step μ s w μ ⟨s.h.set a (some (.c cs')), s.nx, a :: s.lg⟩ w' := by
  obtain ⟨w', h1, h2, h3⟩ := lay_h (P := P) H ha hr (news := v.cells.toList) hv hl
  have hvs : v.cells.size = n := by rw [hv.2.1, hn]
  exact ⟨w', by simp only [storeVar, Sem.run_bind, hsz, Result.andThen_ok, hvs, ne_eq, not_true_eq_false, if_false]; exact h1, h2, h3⟩

/-- A new object. -/
def addMu (μ : Mu) (a : Nat) (r : Nat × Nat) : Mu := fun b => if b = a then some r else μ b
theorem addMu_le {a : Nat} {r : Nat × Nat} (hμ : μ a = none) : ∀ b q, μ b = some q → addMu μ a r b = some q := by
  intro b q hb
  unfold addMu
  split
  · rename_i e; subst e; rw [hμ] at hb; cases hb
  · exact hb
noncomputable def newS (s : HS) (o : HO) : HS := ⟨s.h.set s.nx (some o), Nat.succ s.nx, s.lg⟩
theorem Qt.new (s : HS) (o : HO) : Qt s (newS s o) where
  nx := Nat.le_succ _
  lg _ hb := hb
  dom b x hb := by
    simp only [newS, Tr.get_set] at hb ⊢
    split at hb
    · rename_i e; subst e; exact .inr ⟨Nat.le_refl _, Nat.lt_succ_self _⟩
    · exact .inl ⟨_, hb⟩
  keep b _ hn := by
    simp only [newS, Tr.get_set] at hn ⊢
    rw [if_neg fun e => hn ⟨Nat.le_of_eq e.symm, by omega⟩]
  lgd _ hb := .inl hb

theorem new_h {s : HS} (H : HR μ s.h w) (hμ : μ s.nx = none) {x : Obj} (N : Nat) {o : HO} (ho : ∀ μ' w', (∀ b r, μ b = some r → μ' b = some r) → w'.heap[w.heap.size]? = some x → OR μ' w' (w.heap.size, N) o) :
    HR (addMu μ s.nx (w.heap.size, N)) (newS s o).h (w.alloc x) ∧ Step μ s w (addMu μ s.nx (w.heap.size, N)) (newS s o) (w.alloc x) := by
  have hle := addMu_le (μ := μ) (r := (w.heap.size, N)) hμ
  have hnew : (w.alloc x).heap[w.heap.size]? = some x := by show (w.heap.push _)[w.heap.size]? = _; simp
  have hold : ∀ r, r < w.heap.size → (w.alloc x).heap[r]? = w.heap[r]? := fun r hr => Below.heap_alloc _ _ _ hr
  have hsz : (w.alloc x).heap.size = w.heap.size + 1 := by show (w.heap.push _).size = _; simp
  refine ⟨⟨?_, ?_, ?_⟩, ⟨hle, rfl, rfl, rfl, by omega, ?_, fun r hr _ => hold r hr, ?_⟩⟩
  · intro b y hb
    simp only [newS, Tr.get_set] at hb
    split at hb
    · rename_i e
      subst e
      cases hb
      exact ⟨(w.heap.size, N), by simp [addMu], ho _ _ hle hnew⟩
    · rename_i e
      obtain ⟨r, h1, h2⟩ := H.obj b y hb
      exact ⟨r, hle _ _ h1, h2.same hle (hold r.1 h2.lt)⟩
  · intro b b' y y' r r' hb hb' h1 h2 h3
    simp only [newS, Tr.get_set] at hb hb'
    unfold addMu at h1 h2
    split at h1
    · rename_i e1
      split at h2
      · rename_i e2; rw [e1, e2]
      · cases h1
        have := H.lt _ _ h2
        simp only at h3
        omega
    · rename_i e1
      split at h2
      · cases h2
        have := H.lt _ _ h1
        simp only at h3
        omega
      · rename_i e2
        rw [if_neg e1] at hb
        rw [if_neg e2] at hb'
        exact H.inj _ _ _ _ _ _ hb hb' h1 h2 h3
  · intro b r hb
    unfold addMu at hb
    split at hb
    · cases hb; simp only; omega
    · have := H.lt _ _ hb; omega
  · intro b r hb
    unfold addMu at hb
    split at hb
    · cases hb; exact .inr (.inr (Nat.le_refl _))
    · exact .inl hb
  · intro b hb
    unfold addMu
    rw [if_neg fun e => hb ⟨Nat.le_of_eq e.symm, by simp [newS]; omega⟩]
end

/-! ### Lists, in few steps of the kernel -/

noncomputable def nthF {α : Type} (l : List α) (n : Nat) : Option α :=
  List.rec (motive := fun _ => Nat → Option α) (fun _ => none) (fun a _ ih n => Bool.rec (motive := fun _ => Option α) (ih (Nat.pred n)) (some a) (Nat.beq n 0)) l n
theorem nthF_eq {α : Type} : ∀ (l : List α) (n : Nat), nthF l n = l[n]?
  | [], _ => rfl
  | _ :: _, 0 => rfl
  | _ :: l, n + 1 => nthF_eq l n
noncomputable def lenF {α : Type} (l : List α) : Nat := List.rec (motive := fun _ => Nat) 0 (fun _ _ ih => Nat.succ ih) l
theorem lenF_eq {α : Type} : ∀ (l : List α), lenF l = l.length
  | [] => rfl
  | _ :: l => congrArg Nat.succ (lenF_eq l)
noncomputable def grabF {α : Type} (n : Nat) : List α → Option (List α) :=
  Nat.rec (motive := fun _ => List α → Option (List α)) (fun _ => some []) (fun _ ih l => List.rec (motive := fun _ => Option (List α)) none (fun a t _ => bO (ih t) fun r => some (a :: r)) l) n
theorem grabF_eq {α : Type} : ∀ (n : Nat) (l : List α), grabF n l = if n ≤ l.length then some (l.take n) else none
  | 0, _ => rfl
  | _ + 1, [] => rfl
  | n + 1, a :: l => by
    show bO (grabF n l) (fun r => some (a :: r)) = _
    rw [grabF_eq n l]
    by_cases h : n ≤ l.length
    · rw [if_pos h, if_pos (by simpa using h)]; rfl
    · rw [if_neg h, if_neg (by simpa using h)]; rfl
noncomputable def segF {α : Type} (n off : Nat) : List α → Option (List α) :=
  Nat.rec (motive := fun _ => List α → Option (List α)) (fun l => grabF n l) (fun _ ih l => List.rec (motive := fun _ => Option (List α)) none (fun _ t _ => ih t) l) off
theorem segF_eq {α : Type} (n : Nat) : ∀ (off : Nat) (l : List α), segF n off l = if off + n ≤ l.length then some ((l.drop off).take n) else none
  | 0, l => by
    show grabF n l = _
    rw [grabF_eq]
    simp
  | off + 1, [] => by
    rw [if_neg (by simp)]; rfl
  | off + 1, _ :: l => by
    show segF n off l = _
    rw [segF_eq n off l]
    by_cases h : off + n ≤ l.length
    · rw [if_pos h, if_pos (by simp; omega)]; rfl
    · rw [if_neg h, if_neg (by simp; omega)]
noncomputable def ovF {α : Type} (ys : List α) : List α → Option (List α) :=
  List.rec (motive := fun _ => List α → Option (List α)) (fun cs => some cs) (fun y _ ih cs => List.rec (motive := fun _ => Option (List α)) none (fun _ t _ => bO (ih t) fun r => some (y :: r)) cs) ys
theorem ovF_eq {α : Type} : ∀ (ys cs : List α), ovF ys cs = if ys.length ≤ cs.length then some (ys ++ cs.drop ys.length) else none
  | [], cs => by simp [ovF]
  | _ :: _, [] => rfl
  | y :: ys, c :: cs => by
    show bO (ovF ys cs) (fun r => some (y :: r)) = _
    rw [ovF_eq ys cs]
    by_cases h : ys.length ≤ cs.length
    · rw [if_pos h, if_pos (by simpa using h)]; rfl
    · rw [if_neg h, if_neg (by simpa using h)]; rfl
noncomputable def layF {α : Type} (ys : List α) (off : Nat) : List α → Option (List α) :=
  Nat.rec (motive := fun _ => List α → Option (List α)) (fun cs => ovF ys cs) (fun _ ih cs => List.rec (motive := fun _ => Option (List α)) none (fun c t _ => bO (ih t) fun r => some (c :: r)) cs) off
theorem layF_eq : ∀ (ys : List HV) (off : Nat) (cs : List HV), layF ys off cs = layH cs off ys
  | ys, 0, cs => by
    show ovF ys cs = _
    rw [ovF_eq, layH]
    simp
  | ys, off + 1, [] => by
    rw [layH, if_neg (by simp)]; rfl
  | ys, off + 1, c :: cs => by
    show bO (layF ys off cs) (fun r => some (c :: r)) = _
    rw [layF_eq ys off cs, layH, layH]
    by_cases h : off + ys.length ≤ cs.length
    · rw [if_pos h, if_pos (by simp; omega)]
      have : off + 1 + ys.length = (off + ys.length) + 1 := by omega
      rw [this]
      rfl
    · rw [if_neg h, if_neg (by simp; omega)]; rfl
noncomputable def takeF (cs : List HV) (off n : Nat) (one : Bool) : Option HV := Bool.rec (motive := fun _ => Option HV) (bO (segF n off cs) fun ys => some (.g ys)) (nthF cs off) one
theorem takeF_eq (cs : List HV) (off n : Nat) (one : Bool) : takeF cs off n one = takeH cs off n one := by
  cases one
  · show bO (segF n off cs) (fun ys => some (HV.g ys)) = _
    rw [segF_eq n]
    simp only [takeH, Bool.false_eq_true, if_false]
    split <;> rfl
  · show nthF cs off = _
    rw [nthF_eq]; rfl
end Go.Hp
