/- Closed runs over a heap of numbered objects: what one operation does. -/
import Derived.Test.YtokngfogomhmdaaGreatHa1
namespace Go.Hp
open Go.Ai Go.RowKit
noncomputable section

/-! ### Values taken apart -/

abbrev RH := Option (HV × HS)
abbrev HCaller := HV → List HV → HS → RH

def asP {α : Type} (v : HV) (k : Nat → Nat → Option α) : Option α := HV.rec (motive_1 := fun _ => Option α) (motive_2 := fun _ => Unit) (fun _ => none) (fun _ _ => none) none none (fun a off => k a off) none (fun _ _ _ _ => none) none (fun _ => none) (fun _ _ _ _ _ => none) (fun _ => none) (fun _ => none) (fun _ _ => none) (fun _ _ => none) () (fun _ _ _ _ => ()) v
def asB {α : Type} (v : HV) (k : Bool → Option α) : Option α := HV.rec (motive_1 := fun _ => Option α) (motive_2 := fun _ => Unit) (fun x => k x) (fun _ _ => none) none none (fun _ _ => none) none (fun _ _ _ _ => none) none (fun _ => none) (fun _ _ _ _ _ => none) (fun _ => none) (fun _ => none) (fun _ _ => none) (fun _ _ => none) () (fun _ _ _ _ => ()) v
def asI {α : Type} (v : HV) (k : IntKind → Int → Option α) (d : Option α) : Option α := HV.rec (motive_1 := fun _ => Option α) (motive_2 := fun _ => Unit) (fun _ => d) (fun q n => k q n) d d (fun _ _ => d) d (fun _ _ _ _ => d) d (fun _ => d) (fun _ _ _ _ _ => d) (fun _ => d) (fun _ => d) (fun _ _ => d) (fun _ _ => d) () (fun _ _ _ _ => ()) v
def asN {α : Type} (v : HV) (k : Nat → Option α) : Option α := asI v (fun _ n => Int.rec (motive := fun _ => Option α) (fun m => k m) (fun _ => none) n) none
def asT {α : Type} (v : HV) (k : List HV → Option α) : Option α := HV.rec (motive_1 := fun _ => Option α) (motive_2 := fun _ => Unit) (fun _ => none) (fun _ _ => none) none none (fun _ _ => none) none (fun _ _ _ _ => none) none (fun _ => none) (fun _ _ _ _ _ => none) (fun _ => none) (fun _ => none) (fun _ _ => none) (fun cs _ => k cs) () (fun _ _ _ _ => ()) v
def asG {α : Type} (v : HV) (k : List HV → Option α) (d : Option α) : Option α := HV.rec (motive_1 := fun _ => Option α) (motive_2 := fun _ => Unit) (fun _ => d) (fun _ _ => d) d d (fun _ _ => d) d (fun _ _ _ _ => d) d (fun _ => d) (fun _ _ _ _ _ => d) (fun _ => d) (fun _ => d) (fun cs _ => k cs) (fun _ _ => d) () (fun _ _ _ _ => ()) v
def asS {α : Type} (v : HV) (k : Nat → Nat → Nat → Cap → Option α) : Option α := HV.rec (motive_1 := fun _ => Option α) (motive_2 := fun _ => Unit) (fun _ => none) (fun _ _ => none) none none (fun _ _ => none) none (fun a off len cap => k a off len cap) none (fun _ => none) (fun _ _ _ _ _ => none) (fun _ => none) (fun _ => none) (fun _ _ => none) (fun _ _ => none) () (fun _ _ _ _ => ()) v
def asC {α : Type} (o : Option HO) (k : List HV → Option α) : Option α := bO o fun o => HO.rec (motive := fun _ => Option α) (fun cs => k cs) (fun _ => none) (fun _ _ _ _ _ _ _ => none) o
def asM {α : Type} (o : Option HO) (k : List (HV × HV) → Option α) : Option α := match o with | some (.m es) => k es | _ => none
def whenH {α : Type} (b : Bool) (k : Option α) : Option α := Bool.rec (motive := fun _ => Option α) none k b

theorem asP_some {α : Type} {v : HV} {k : Nat → Nat → Option α} {x : α} (h : asP v k = some x) : ∃ a off, v = .p a off ∧ k a off = some x := by
  cases v <;> first | exact ⟨_, _, rfl, h⟩ | cases h
theorem asB_some {α : Type} {v : HV} {k : Bool → Option α} {x : α} (h : asB v k = some x) : ∃ b, v = .b b ∧ k b = some x := by
  cases v <;> first | exact ⟨_, rfl, h⟩ | cases h
theorem asN_some {α : Type} {v : HV} {k : Nat → Option α} {x : α} (h : asN v k = some x) : ∃ (q : IntKind) (m : Nat), v = .i q (m : Int) ∧ k m = some x := by
  cases v <;> try (cases h; done)
  rename_i q n
  cases n with
  | ofNat m => exact ⟨q, m, rfl, h⟩
  | negSucc m => cases h
theorem asT_some {α : Type} {v : HV} {k : List HV → Option α} {x : α} (h : asT v k = some x) : ∃ cs, v = .t cs ∧ k cs = some x := by
  cases v <;> first | exact ⟨_, rfl, h⟩ | cases h
theorem asG_some {α : Type} {v : HV} {k : List HV → Option α} {x : α} (h : asG v k none = some x) : ∃ cs, v = .g cs ∧ k cs = some x := by
  cases v <;> first | exact ⟨_, rfl, h⟩ | cases h
theorem asS_some {α : Type} {v : HV} {k : Nat → Nat → Nat → Cap → Option α} {x : α} (h : asS v k = some x) : ∃ a off len cap, v = .s a off len cap ∧ k a off len cap = some x := by
  cases v <;> first | exact ⟨_, _, _, _, rfl, h⟩ | cases h
theorem asC_some {α : Type} {o : Option HO} {k : List HV → Option α} {x : α} (h : asC o k = some x) : ∃ cs, o = some (.c cs) ∧ k cs = some x := by
  obtain ⟨o', rfl, h⟩ := bO_some h
  cases o' <;> first | exact ⟨_, rfl, h⟩ | cases h
theorem asM_some {α : Type} {o : Option HO} {k : List (HV × HV) → Option α} {x : α} (h : asM o k = some x) : ∃ es, o = some (.m es) ∧ k es = some x := by
  unfold asM at h; split at h
  · exact ⟨_, rfl, h⟩
  · cases h
theorem whenH_some {α : Type} {b : Bool} {k : Option α} {x : α} (h : whenH b k = some x) : b = true ∧ k = some x := by
  cases b
  · cases h
  · exact ⟨rfl, h⟩
theorem bind_some {α β : Type} {o : Option α} {k : α → Option β} {x : β} (h : bO o k = some x) : ∃ v, o = some v ∧ k v = some x := bO_some h

/-- The cells of a value of n cells. -/
def cellsF (v : HV) (n : Nat) : Option (List HV) := asG v (fun cs => whenH (Nat.beq (lenF cs) n) (some cs)) (whenH (Nat.beq n 1) (whenH v.one (some [v])))
theorem cellsF_eq {v : HV} {n : Nat} {ys : List HV} (h : cellsF v n = some ys) : cellsH v n = some ys := by
  by_cases hg : ∃ cs, v = .g cs
  · obtain ⟨cs, rfl⟩ := hg
    have h : whenH (Nat.beq (lenF cs) n) (some cs) = some ys := h
    obtain ⟨h1, h2⟩ := whenH_some h
    have h1 := Nat.eq_of_beq_eq_true h1
    rw [lenF_eq] at h1
    simp only [cellsH, if_pos h1]
    exact h2
  · have e : cellsF v n = whenH (Nat.beq n 1) (whenH v.one (some [v])) := by
      cases v <;> first | rfl | exact absurd ⟨_, rfl⟩ hg
    rw [e] at h
    obtain ⟨h1, h⟩ := whenH_some h
    obtain ⟨h2, h⟩ := whenH_some h
    have h1 := Nat.eq_of_beq_eq_true h1
    subst h1
    cases v <;> first | exact absurd ⟨_, rfl⟩ hg | (cases h2; done) | exact h

/-! ### Operands, types -/

def const1 : Value → Option HV
  | .bool b => some (.b b)
  | .int k n => some (.i k n)
  | .pointer none => some .pn
  | .slice none 0 0 => some .sn
  | .map none => some .mn
  | .nilFunc => some (.c .nilFunc)
  | .string s => some (.c (.string s))
  | _ => none
def consts1 : List Value → Option (List HV)
  | [] => some []
  | v :: l => bO (const1 v) fun x => bO (consts1 l) fun xs => some (x :: xs)
def constH : Value → Option HV
  | .tuple vs => if vs.size = 0 then some .u else none
  | .agg vs => (consts1 vs.toList).map .g
  | v => const1 v

theorem const1_ok {μ : Mu} {v : Value} {x : HV} (h : const1 v = some x) : VR μ x v ∧ x.one = true := by
  unfold const1 at h
  split at h <;> cases h
  · exact ⟨.b _, rfl⟩
  · exact ⟨.i _ _, rfl⟩
  · exact ⟨.pn, rfl⟩
  · exact ⟨.sn, rfl⟩
  · exact ⟨.mn, rfl⟩
  · exact ⟨.c _ ⟨rfl, rfl⟩, rfl⟩
  · exact ⟨.c _ ⟨rfl, rfl⟩, rfl⟩

theorem consts1_ok {μ : Mu} : ∀ {l : List Value} {xs : List HV}, consts1 l = some xs → l.length = xs.length ∧ (∀ x ∈ xs, HV.one x = true) ∧ ∀ (j : Nat) (h1 : j < xs.length) (h2 : j < l.length), VR μ xs[j] l[j]
  | [], xs, h => by
    simp only [consts1, Option.some.injEq] at h
    subst h
    exact ⟨rfl, fun x hx => (by cases hx), fun j h1 => (by simp at h1)⟩
  | v :: l, xs, h => by
    simp only [consts1] at h
    obtain ⟨x, h1, h⟩ := bind_some h
    obtain ⟨ys, h2, h⟩ := bind_some h
    cases h
    obtain ⟨a1, a2⟩ := const1_ok (μ := μ) h1
    obtain ⟨b1, b2, b3⟩ := consts1_ok (μ := μ) h2
    refine ⟨by simp [b1], fun y hy => ?_, fun j g1 g2 => ?_⟩
    · rcases List.mem_cons.1 hy with rfl | hy
      · exact a2
      · exact b2 y hy
    · cases j with
      | zero => exact a1
      | succ j => exact b3 j (by simpa using g1) (by simpa using g2)

theorem consts1_crs {μ : Mu} {vs : Array Value} {xs : List HV} (h : consts1 vs.toList = some xs) : CRs μ xs vs := by
  obtain ⟨a, b, c⟩ := consts1_ok (μ := μ) h
  exact ⟨b, by simpa using a, fun j h1 h2 => by
    have := c j h1 (by simpa using h2)
    rwa [Array.getElem_toList] at this⟩

theorem constH_ok {μ : Mu} {v : Value} {x : HV} (h : constH v = some x) : VR μ x v := by
  unfold constH at h
  split at h
  · rename_i vs
    split at h
    · rename_i hs
      cases h
      have : vs = #[] := Array.eq_empty_of_size_eq_zero hs
      subst this
      exact .u
    · cases h
  · rename_i vs
    simp only [Option.map_eq_some_iff] at h
    obtain ⟨xs, h, rfl⟩ := h
    obtain ⟨a, b, c⟩ := consts1_crs (μ := μ) h
    exact .g xs vs a b c
  · exact (const1_ok h).1

def opH (ρ : En) (x : Operand) : Option HV := Operand.rec (motive := fun _ => Option HV) (fun t => ρ.get t) (fun v => constH v) (fun _ => none) (fun f => some (.f f [] [])) x
def opsH (ρ : En) (l : List Operand) : Option (List HV) := List.rec (motive := fun _ => Option (List HV)) (some []) (fun x _ ih => bO (opH ρ x) fun y => bO ih fun ys => some (y :: ys)) l
theorem opsH_cons (ρ : En) (x : Operand) (l : List Operand) : opsH ρ (x :: l) = bO (opH ρ x) fun y => bO (opsH ρ l) fun ys => some (y :: ys) := rfl

section
variable {μ : Mu} {n : Nat} {ρ : En} {a : Act}

theorem opH_ok (F : FR μ n ρ a.tmps) {x : Operand} {y : HV} (h : opH ρ x = some y) : VR μ y (a.eval x) := by
  cases x with
  | tmp t => exact F.2 t y h
  | const v => exact constH_ok h
  | func f =>
    cases h
    exact .f f [] [] #[] #[] rfl rfl (fun j h1 => (by simp at h1)) (fun j h1 => (by simp at h1))
  | global g => cases h

theorem opsH_ok (F : FR μ n ρ a.tmps) : ∀ {l : List Operand} {ys : List HV}, opsH ρ l = some ys → l.length = ys.length ∧ ∀ (j : Nat) (h1 : j < ys.length) (h2 : j < l.length), VR μ ys[j] (a.eval l[j])
  | [], ys, h => by
    cases h
    exact ⟨rfl, fun j h1 => (by simp at h1)⟩
  | x :: l, ys, h => by
    rw [opsH_cons] at h
    obtain ⟨y, h1, h⟩ := bind_some h
    obtain ⟨zs, h2, h⟩ := bind_some h
    cases h
    obtain ⟨b1, b2⟩ := opsH_ok F h2
    refine ⟨by simp [b1], fun j g1 g2 => ?_⟩
    cases j with
    | zero => exact opH_ok F h1
    | succ j => exact b2 j (by simpa using g1) (by simpa using g2)
theorem opsH_arr (F : FR μ n ρ a.tmps) {xs : Array Operand} {ys : List HV} (hy : opsH ρ xs.toList = some ys) : (xs.map a.eval).size = ys.length ∧ ∀ (j : Nat) (h1 : j < ys.length) (h2 : j < (xs.map a.eval).size), VR μ ys[j] (xs.map a.eval)[j] := by
  obtain ⟨b1, b2⟩ := opsH_ok F hy
  refine ⟨by simpa using b1, fun j h1 h2 => ?_⟩
  have := b2 j h1 (by simpa using h2)
  rw [Array.getElem_map]
  rwa [Array.getElem_toList] at this
end

def szP (P : Program) (t : TypeId) : Option (Nat × Bool) :=
  match P.underlying t, P.info? t with
  | some d, some i => some (i.size, !(isAggD d))
  | _, _ => none
theorem szP_ok {P : Program} {t : TypeId} {n : Nat} {one : Bool} (h : szP P t = some (n, one)) : oneOk P t n one = true := by
  unfold szP at h
  unfold oneOk
  split at h
  · rename_i d i h1 h2
    cases h
    simp [h1, h2]
  · cases h
/-- The cells of a type's zero value. -/
def zrP (P : Program) (t : TypeId) : Option (List HV) :=
  match P.info? t with
  | some i => match i.zero with
    | some v => consts1 v.cells.toList
    | none => none
  | none => none
theorem zrP_ok {P : Program} {t : TypeId} {z : List HV} (h : zrP P t = some z) : ∃ i v, P.info? t = some i ∧ i.zero = some v ∧ (∀ w, (zeroValue t).run P w = .ok v w) ∧ ∀ μ, CRs μ z v.cells := by
  unfold zrP at h
  split at h
  · rename_i i hi
    split at h
    · rename_i v hv
      exact ⟨i, v, hi, hv, fun w => by simp [zeroValue, typeInfo, program, Sem.run, hi, hv], fun μ => consts1_crs h⟩
    · cases h
  · cases h
/-- Place and size of a struct's field, and whether it is one cell. -/
def foP (P : Program) (s : TypeId) (i : Nat) : Option (Nat × TypeId) :=
  match P.underlying s with
  | some (.struct fs) => match fs[i]? with
    | some f => some (f.offset, f.type)
    | none => none
  | _ => none
theorem foP_ok {P : Program} {s : TypeId} {i o : Nat} {t : TypeId} (h : foP P s i = some (o, t)) : ∃ fs f, P.underlying s = some (.struct fs) ∧ fs[i]? = some f ∧ f.offset = o ∧ f.type = t := by
  unfold foP at h
  split at h
  · rename_i fs hfs
    split at h
    · rename_i f hf
      cases h
      exact ⟨fs, f, hfs, hf, rfl, rfl⟩
    · cases h
  · cases h
/-- The element of a slice type, and its size. -/
def elP (P : Program) (t : TypeId) : Option (TypeId × Nat × Nat) :=
  match P.underlying t with
  | some (.slice e) => match P.info? e with
    | some i => some (e, i.size, i.bytes)
    | none => none
  | _ => none
theorem elP_ok {P : Program} {t : TypeId} {e : TypeId} {k b : Nat} (h : elP P t = some (e, k, b)) : ∃ i, P.underlying t = some (.slice e) ∧ P.info? e = some i ∧ i.size = k ∧ i.bytes = b := by
  unfold elP at h
  split at h
  · rename_i e' he
    split at h
    · rename_i i hi
      cases h
      exact ⟨i, he, hi, rfl, rfl⟩
    · cases h
  · cases h
theorem sizeOf_run {P : Program} {e : TypeId} {i : TypeInfo} (hi : P.info? e = some i) (w : World) : (sizeOf e).run P w = .ok i.size w := by simp [sizeOf, typeInfo, program, Sem.run, hi]

/-! ### What an operation gives -/

/-- The operation yields x and leaves the heap as s' says. -/
def Gives (P : Program) (o : Oper) (a : Act) (μ : Mu) (w : World) (s s' : HS) (x : HV) : Prop :=
  ∃ v μ' w', ((execOp a.eval o).run P w = .ok (.value v) w' ∨ ((execOp a.eval o).run P w = .ok .skip w' ∧ v = Go.undef)) ∧ HR μ' s'.h w' ∧ Step μ s w μ' s' w' ∧ VR μ' x v

section
variable {P : Program} {o : Oper} {a : Act} {μ : Mu} {w : World} {s : HS} {n : Nat} {ρ : En}

theorem gives_value (H : HR μ s.h w) {v : Value} {x : HV} (hrun : (execOp a.eval o).run P w = .ok (.value v) w) (hv : VR μ x v) : Gives P o a μ w s s x := ⟨v, μ, w, .inl hrun, H, Step.refl _ _ _, hv⟩

theorem gives_move (H : HR μ s.h w) (F : FR μ n ρ a.tmps) {x : Operand} {y : HV} (hop : o.op = .move x ∨ o.op = .assign x) (hx : opH ρ x = some y) : Gives P o a μ w s s y := by
  rcases hop with e | e <;> exact gives_value H (v := a.eval x) (by simp [execOp, e]) (opH_ok F hx)

theorem gives_pick (H : HR μ s.h w) (F : FR μ n ρ a.tmps) {c x y : Operand} {b : Bool} {z : HV} (hop : o.op = .pick c x y) (hc : opH ρ c = some (.b b)) (hz : opH ρ (cnd b x y) = some z) : Gives P o a μ w s s z := by
  have h1 := opH_ok F hc
  generalize hcv : a.eval c = cv at h1
  cases h1
  have h2 := opH_ok F hz
  refine gives_value H (v := a.eval (cnd b x y)) ?_ h2
  cases b <;> simp [execOp, hop, hcv, asBool]

theorem gives_alloc (H : HR μ s.h w) {t : TypeId} {z : List HV} (hop : o.op = .alloc t) (hz : zrP P t = some z) (hμ : μ s.nx = none) : Gives P o a μ w s (newS s (.c z)) (.p s.nx 0) := by
  obtain ⟨i, v, _, _, hv, hc⟩ := zrP_ok hz
  obtain ⟨h1, h2⟩ := new_h H hμ (x := .cells v.cells t) v.cells.size (o := .c z) fun μ' w' _ hw => ⟨v.cells, t, hw, rfl, (hc μ').cr⟩
  exact ⟨_, _, _, .inl (by simp [execOp, hop, Instr.alloc, hv, newVar, newRow]), h1, h2, .p (r := (w.heap.size, v.cells.size)) (by simp [addMu])⟩

def allCells : HV → Option (List HV)
  | .g cs => some cs
  | x => whenH x.one (some [x])
theorem allCells_ok {x : HV} {v : Value} {ys : List HV} (hx : VR μ x v) (hc : allCells x = some ys) : CRs μ ys v.cells := by
  cases x with
  | g cs =>
    simp only [allCells, Option.some.injEq] at hc
    subst hc
    exact (cellsH_ok (n := cs.length) hx (by simp [cellsH])).2
  | u => cases hc
  | t _ => cases hc
  | _ =>
    simp only [allCells, HV.one, whenH, Option.some.injEq] at hc
    subst hc
    exact (cellsH_ok (n := 1) hx (by simp [cellsH, HV.one])).2

theorem gives_box (H : HR μ s.h w) (F : FR μ n ρ a.tmps) {t : TypeId} {x : Operand} {y : HV} {z : List HV} (hop : o.op = .box t x) (hx : opH ρ x = some y) (hz : allCells y = some z) (hμ : μ s.nx = none) :
    Gives P o a μ w s (newS s (.c z)) (.p s.nx 0) := by
  have hc := allCells_ok (opH_ok F hx) hz
  obtain ⟨h1, h2⟩ := new_h H hμ (x := .cells (a.eval x).cells t) (a.eval x).cells.size (o := .c z) fun μ' w' hle hw => ⟨_, t, hw, rfl, (hc.mono hle).cr⟩
  exact ⟨_, _, _, .inl (by simp [execOp, hop, Instr.box, newVar, newRow]), h1, h2, .p (r := (w.heap.size, (a.eval x).cells.size)) (by simp [addMu])⟩

/-! Built structs and slices -/

theorem lay_crs {cs ys cs' : List HV} {cells ys' : Array Value} {off : Nat} (hc : CRs μ cs cells) (hy : CRs μ ys ys') (hl : layH cs off ys = some cs') :
    CRs μ cs' (ys'.zipIdx.foldl (fun (cs : Array Value) (p : Value × Nat) => cs.setIfInBounds (off + p.2) p.1) cells) := by
  unfold layH at hl
  split at hl
  · rename_i hle
    cases hl
    have he : ys'.zipIdx.foldl (fun (cs : Array Value) (p : Value × Nat) => cs.setIfInBounds (off + p.2) p.1) cells = (ys'.toList.zipIdx 0).foldl (fun (cs : Array Value) (p : Value × Nat) => cs.setIfInBounds (off + p.2) p.1) cells := by
      rw [← Array.foldl_toList, Array.toList_zipIdx]
    rw [he]
    have hsz := fold_size off (ys'.toList.zipIdx 0) cells
    have hcs := hc.2.1
    have hys := hy.2.1
    refine ⟨fun x hx => ?_, by rw [hsz, hcs]; simp; omega, fun i h1 h2 => ?_⟩
    · simp only [List.mem_append] at hx
      rcases hx with (hx | hx) | hx
      · exact hc.1 x (List.mem_of_mem_take hx)
      · exact hy.1 x hx
      · exact hc.1 x (List.mem_of_mem_drop hx)
    · have hg := foldl_lay off ys'.toList 0 cells i
      have e1 := getElem?_layH cs ys off i hle
      rw [List.getElem?_eq_getElem h1] at e1
      rw [Array.getElem?_eq_getElem h2] at hg
      have hin : i < cells.size := by omega
      simp only [Nat.add_zero, Array.length_toList] at hg
      by_cases h3 : off ≤ i ∧ i < off + ys'.size
      · rw [if_pos ⟨h3.1, h3.2, hin⟩] at hg
        rw [if_neg (by omega), if_pos (by omega)] at e1
        have hq : i - off < ys.length := by omega
        rw [List.getElem?_eq_getElem hq] at e1
        have hu : ys'.toList[i - off]? = some (ys'[i - off]'(by omega)) := by simp
        rw [hu] at hg
        rw [Option.some.inj hg, Option.some.inj e1]
        exact hy.2.2 _ hq _
      · rw [if_neg (by omega)] at hg
        have hq : i < cs.length := by omega
        have e2 : cs[i]? = some ((cs.take off ++ ys ++ cs.drop (off + ys.length))[i]) := by
          by_cases h4 : i < off
          · rw [if_pos h4] at e1; exact e1.symm
          · rw [if_neg h4, if_neg (by omega)] at e1; exact e1.symm
        rw [List.getElem?_eq_getElem hq] at e2
        rw [Array.getElem?_eq_getElem hin] at hg
        rw [← Option.some.inj e2, Option.some.inj hg]
        exact hc.2.2 _ hq _
  · cases hl

def fillH (ρ : En) (place : Nat → Option (Nat × Nat)) (cs : List HV) (ps : List (Nat × Operand)) : Option (List HV) :=
  List.rec (motive := fun _ => List HV → Option (List HV)) (fun cs => some cs) (fun p _ ih cs => bO (place p.1) fun q => bO (opH ρ p.2) fun y => bO (cellsF y q.2) fun ys => bO (layF ys q.1 cs) fun cs1 => ih cs1) ps cs
theorem fillH_cons (ρ : En) (place : Nat → Option (Nat × Nat)) (cs : List HV) (p : Nat × Operand) (ps : List (Nat × Operand)) :
    fillH ρ place cs (p :: ps) = bO (place p.1) fun q => bO (opH ρ p.2) fun y => bO (cellsF y q.2) fun ys => bO (layF ys q.1 cs) fun cs1 => fillH ρ place cs1 ps := rfl

theorem fillH_ok (F : FR μ n ρ a.tmps) {place : Nat → Option (Nat × Nat)} : ∀ {ps : List (Nat × Operand)} {cells : Array Value} {cs cs' : List HV}, CRs μ cs cells → fillH ρ place cs ps = some cs' →
      ∃ cells', Instr.fill place cells (ps.map fun p => (p.1, a.eval p.2)) = some cells' ∧ CRs μ cs' cells'
  | [], cells, cs, cs', hc, hf => by
    cases hf
    exact ⟨cells, rfl, hc⟩
  | (i, x) :: ps, cells, cs, cs', hc, hf => by
    rw [fillH_cons] at hf
    obtain ⟨⟨off, k⟩, hpl, hf⟩ := bind_some hf
    obtain ⟨y, ho, hf⟩ := bind_some hf
    obtain ⟨ys, hy, hf⟩ := bind_some hf
    obtain ⟨cs1, hl, hf⟩ := bind_some hf
    have hy := cellsF_eq hy
    rw [layF_eq] at hl
    obtain ⟨hn, hyr⟩ := cellsH_ok (opH_ok F ho) hy
    obtain ⟨cells', e1, e2⟩ := fillH_ok F (lay_crs hc hyr hl) hf
    refine ⟨cells', ?_, e2⟩
    simp only [List.map_cons, Instr.fill, hpl]
    have hle : off + ys.length ≤ cs.length := by
      unfold layH at hl
      split at hl
      · assumption
      · cases hl
    have hs1 := hc.2.1
    have hs2 : (a.eval x).cells.size = ys.length := hyr.2.1
    simp only at hn
    have hcond : ((a.eval x).cells.size ≠ k || off + (a.eval x).cells.size > cells.size) = false := by
      simp only [ne_eq, Bool.or_eq_false_iff, decide_eq_false_iff_not, Decidable.not_not, gt_iff_lt, Nat.not_lt]
      omega
    rw [if_neg (by rw [hcond]; simp)]
    exact e1

def allInfo (P : Program) (fs : Array Field) : Bool := fs.all fun f => (P.info? f.type).isSome
def fldPl (P : Program) (fs : Array Field) (i : Nat) : Option (Nat × Nat) := match fs[i]? with | some f => some (f.offset, P.cellsOf f.type) | none => none
def buildH (P : Program) (ρ : En) (t : TypeId) (ps : List (Nat × Operand)) : Option HV :=
  match P.underlying t with
  | some (.struct fs) => whenH (allInfo P fs) (bO (zrP P t) fun z => (fillH ρ (fldPl P fs) z ps).map .g)
  | some (.array _ e) => whenH (P.info? e).isSome (bO (zrP P t) fun z => (fillH ρ (fun i => some (i * P.cellsOf e, P.cellsOf e)) z ps).map .g)
  | _ => none

theorem gives_build (H : HR μ s.h w) (F : FR μ n ρ a.tmps) {t : TypeId} {ps : Array (Nat × Operand)} {y : HV} (hop : o.op = .build t ps) (hy : buildH P ρ t ps.toList = some y) : Gives P o a μ w s s y := by
  unfold buildH at hy
  split at hy
  · rename_i fs hfs
    obtain ⟨hall, hy⟩ := whenH_some hy
    obtain ⟨z, hz, hy⟩ := bind_some hy
    simp only [Option.map_eq_some_iff] at hy
    obtain ⟨cs, hf, rfl⟩ := hy
    obtain ⟨_, v, _, _, hzv, hc⟩ := zrP_ok hz
    obtain ⟨cells', e1, e2⟩ := fillH_ok F (hc μ) hf
    have hpl : (fun i => (fs.map fun f => (f.offset, P.cellsOf f.type))[i]?) = fldPl P fs := by
      funext i
      simp only [fldPl, Array.getElem?_map]
      cases fs[i]? <;> rfl
    have e1' : Instr.fill (fun i => (fs.map fun f => (f.offset, P.cellsOf f.type))[i]?) v.cells (ps.map fun p => (p.1, a.eval p.2)).toList = some cells' := by rw [Array.toList_map, hpl]; exact e1
    refine gives_value H (v := .agg cells') ?_ (.g cs cells' e2.1 e2.2.1 e2.2.2)
    simp only [execOp, hop, Instr.build, Sem.run_bind, hzv, Result.andThen_ok, run_underlying hfs, places_ok hall, e1', Sem.run_pure]
  · rename_i m e hfs
    obtain ⟨hall, hy⟩ := whenH_some hy
    obtain ⟨z, hz, hy⟩ := bind_some hy
    simp only [Option.map_eq_some_iff] at hy
    obtain ⟨cs, hf, rfl⟩ := hy
    obtain ⟨ii, hii⟩ := Option.isSome_iff_exists.1 hall
    have hsz : (sizeOf e).run P w = .ok (P.cellsOf e) w := by simp [sizeOf, typeInfo, program, Sem.run, hii, Program.cellsOf]
    obtain ⟨_, v, _, _, hzv, hc⟩ := zrP_ok hz
    obtain ⟨cells', e1, e2⟩ := fillH_ok F (hc μ) hf
    have e1' : Instr.fill (fun i => some (i * P.cellsOf e, P.cellsOf e)) v.cells (ps.map fun p => (p.1, a.eval p.2)).toList = some cells' := by rw [Array.toList_map]; exact e1
    refine gives_value H (v := .agg cells') ?_ (.g cs cells' e2.1 e2.2.1 e2.2.2)
    simp only [execOp, hop, Instr.build, Sem.run_bind, hzv, Result.andThen_ok, run_underlying hfs, hsz, e1', Sem.run_pure]
  · cases hy

def repH (z : List HV) : Nat → List HV
  | 0 => []
  | m + 1 => z ++ repH z m
theorem repH_length (z : List HV) (m : Nat) : (repH z m).length = m * z.length := by
  induction m with
  | zero => simp [repH]
  | succ m ih => simp only [repH, List.length_append, ih, Nat.succ_mul]; omega
theorem repH_get (z : List HV) (m : Nat) : ∀ i, i < m * z.length → (repH z m)[i]? = z[i % z.length]? := by
  induction m with
  | zero => intro i h; omega
  | succ m ih =>
    intro i h
    rw [Nat.succ_mul] at h
    simp only [repH]
    by_cases hi : i < z.length
    · rw [List.getElem?_append_left hi, Nat.mod_eq_of_lt hi]
    · rw [List.getElem?_append_right (by omega), ih _ (by omega)]
      congr 1
      exact (Nat.mod_eq_sub_mod (by omega)).symm
theorem repH_mem (z : List HV) (m : Nat) : ∀ x ∈ repH z m, x ∈ z := by
  induction m with
  | zero => intro x h; cases h
  | succ m ih =>
    intro x h
    simp only [repH, List.mem_append] at h
    exact h.elim id (ih x)
theorem repH_crs {z : List HV} {zv : Array Value} {m k : Nat} (h : CRs μ z zv) (hk : zv.size = k) : CRs μ (repH z m) ((Array.range (m * k)).map (zv[· % zv.size]!)) := by
  have hl : z.length = k := by rw [← hk]; exact h.2.1.symm
  refine ⟨fun x hx => h.1 x (repH_mem z m x hx), by rw [repH_length, hl]; simp, fun j h1 h2 => ?_⟩
  rw [repH_length] at h1
  have e1 := repH_get z m j h1
  have hlt : j % z.length < z.length := Nat.mod_lt _ (by
    rcases Nat.eq_zero_or_pos z.length with e | e
    · rw [e] at h1; omega
    · exact e)
  rw [List.getElem?_eq_getElem (by rw [repH_length]; exact h1), List.getElem?_eq_getElem hlt] at e1
  rw [Option.some.inj e1]
  have := h.2.2 (j % z.length) hlt (by rw [h.2.1]; exact hlt)
  have e2 : ((Array.range (m * k)).map (zv[· % zv.size]!))[j] = zv[j % z.length]'(by rw [h.2.1]; exact hlt) := by
    simp only [Array.getElem_map, Array.getElem_range, h.2.1]
    exact getElem!_pos zv _ _
  rw [e2]; exact this

def buildSliceH (P : Program) (ρ : En) (t : TypeId) (m : Nat) (ps : List (Nat × Operand)) : Option (List HV) :=
  bO (elP P t) fun q => cnd (Nat.beq m 0) (match ps with | [] => some [] | _ => none) <| whenH (Nat.ble 1 q.2.1 && Nat.ble 1 m && Nat.ble (m * q.2.1) 16777216) <| bO (zrP P q.1) fun z => whenH (Nat.beq z.length q.2.1) <| fillH ρ (fun i => some (i * q.2.1, q.2.1)) (repH z m) ps

theorem gives_buildSlice (H : HR μ s.h w) (F : FR μ n ρ a.tmps) {t : TypeId} {m : Nat} {ps : Array (Nat × Operand)} {cs : List HV} (hop : o.op = .buildSlice t m ps) (hy : buildSliceH P ρ t m ps.toList = some cs) (hμ : μ s.nx = none) :
    Gives P o a μ w s (newS s (.c cs)) (.s s.nx 0 m (.k m)) := by
  unfold buildSliceH at hy
  obtain ⟨⟨e, k, b⟩, he, hy⟩ := bind_some hy
  cases hm0 : Nat.beq m 0
  rotate_left
  · rw [hm0] at hy
    have hm0 := Nat.eq_of_beq_eq_true hm0
    subst hm0
    simp only [cnd_true] at hy
    split at hy
    · rename_i hps
      cases hy
      obtain ⟨i, hu, hi, hk, hb⟩ := elP_ok he
      have hps : ps = #[] := by cases ps; simp at hps; rw [hps]
      subst hps
      obtain ⟨h1, h2⟩ := new_h H hμ (x := .cells #[] e) 0 (o := .c []) fun μ' w' hle hw => ⟨#[], e, hw, rfl, fun x hx => (by cases hx), fun j hj => (by simp at hj)⟩
      refine ⟨.slice (some ⟨w.heap.size, 0, none⟩) 0 0, _, _, .inl ?_, h1, h2, .s (r := (w.heap.size, 0)) (by simp [addMu]) (Nat.le_refl _) rfl⟩
      simp [execOp, hop, Instr.buildSlice, run_underlying hu, sizeOf_run hi, Instr.fill, newRow, Array.range_zero']
    · cases hy
  rw [hm0] at hy
  obtain ⟨hm, hy⟩ := whenH_some hy
  obtain ⟨z, hz, hy⟩ := bind_some hy
  obtain ⟨hl, hy⟩ := whenH_some hy
  simp only [Bool.and_eq_true, Nat.ble_eq] at hm
  have hl := Nat.eq_of_beq_eq_true hl
  simp only at hl hy hm hz
  obtain ⟨i, hu, hi, hk, hb⟩ := elP_ok he
  obtain ⟨_, v, _, _, hzv, hc⟩ := zrP_ok hz
  have hzs : v.cells.size = k := by rw [(hc μ).2.1, hl]
  obtain ⟨cells', e1, e2⟩ := fillH_ok F (repH_crs (m := m) (hc μ) hzs) hy
  have e1' : Instr.fill (fun i => some (i * k, k)) ((Array.range (m * k)).map (v.cells[· % v.cells.size]!)) (ps.map fun p => (p.1, a.eval p.2)).toList = some cells' := by rw [Array.toList_map]; exact e1
  obtain ⟨h1, h2⟩ := new_h H hμ (x := .cells cells' e) cells'.size (o := .c cs) fun μ' w' hle hw => ⟨cells', e, hw, rfl, (e2.mono hle).cr⟩
  refine ⟨.slice (some ⟨w.heap.size, 0, none⟩) m m, _, _, .inl ?_, h1, h2, .s (r := (w.heap.size, cells'.size)) (by simp [addMu]) (Nat.le_refl _) rfl⟩
  have n1 : ¬ (m * k > 2 ^ 24) := by have := hm.2; omega
  have n2 : ¬ (m * k = 0) := by
    have := Nat.mul_le_mul hm.1.2 hm.1.1
    omega
  simp only [execOp, hop, Instr.buildSlice, Sem.run_bind, run_underlying hu, Result.andThen_ok, sizeOf_run hi, hk, if_neg n1, if_neg n2, hzv, Sem.run_pure, e1', newRow]
  rfl

/-! Loads, stores, addresses -/

theorem gives_load (H : HR μ s.h w) (F : FR μ n ρ a.tmps) {t : TypeId} {x : Operand} {id off k : Nat} {one : Bool} {cs : List HV} {y : HV} (hop : o.op = .load t x) (hx : opH ρ x = some (.p id off)) (hs : szP P t = some (k, one))
    (hid : s.h.get id = some (.c cs)) (hy : takeH cs off k one = some y) : Gives P o a μ w s s y := by
  have h1 := opH_ok F hx
  generalize hv : a.eval x = v at h1
  cases h1
  rename_i r hr
  obtain ⟨u, h2, h3⟩ := load_h H (szP_ok hs) hid hr hy
  exact gives_value H (v := u) (by simp only [execOp, hop, Instr.loadAt, hv, Instr.sureAddr, Sem.run_bind, Sem.run_pure, Result.andThen_ok, h2]) h3

def setS (s : HS) (a : Nat) (o : HO) : HS := ⟨s.h.set a (some o), s.nx, a :: s.lg⟩

theorem gives_store (H : HR μ s.h w) (F : FR μ n ρ a.tmps) {t : TypeId} {x y : Operand} {id off k : Nat} {one : Bool} {cs ys cs' : List HV} {z : HV} (hop : o.op = .store t x y) (hx : opH ρ x = some (.p id off)) (hy : opH ρ y = some z)
    (hs : szP P t = some (k, one)) (hid : s.h.get id = some (.c cs)) (hz : cellsH z k = some ys) (hl : layH cs off ys = some cs') : Gives P o a μ w s (setS s id (.c cs')) .u := by
  have h1 := opH_ok F hx
  generalize hv : a.eval x = v at h1
  cases h1
  rename_i r hr
  obtain ⟨hn, hc⟩ := cellsH_ok (opH_ok F hy) hz
  obtain ⟨w', h2, h3, h4⟩ := store_h H (oneOk_spec (szP_ok hs)).2 hid hr hc hn hl
  exact ⟨_, μ, w', .inr ⟨by simp only [execOp, hop, Instr.storeAt, hv, Instr.sureAddr, Sem.run_bind, Sem.run_pure, Result.andThen_ok, h2], rfl⟩, h3, h4, .u⟩

theorem gives_fieldAddr (H : HR μ s.h w) (F : FR μ n ρ a.tmps) {t tf : TypeId} {x : Operand} {f id off fo k : Nat} {one : Bool} (hop : o.op = .fieldAddr t x f) (hx : opH ρ x = some (.p id off)) (hf : foP P t f = some (fo, tf)) (hz : szP P tf = some (k, one)) (hn : Nat.beq k 0 = false) :
    Gives P o a μ w s s (.p id (off + fo)) := by
  have h1 := opH_ok F hx
  generalize hv : a.eval x = v at h1
  cases h1
  rename_i r hr
  obtain ⟨fs, fl, hfs, hfl, rfl, rfl⟩ := foP_ok hf
  have hsz := (oneOk_spec (szP_ok hz)).2
  have hn : ¬ k = 0 := fun e => by rw [e] at hn; cases hn
  refine gives_value H (v := .pointer (some ⟨r.1, off + fl.offset, none⟩)) ?_ (.p hr)
  simp only [execOp, hop, Instr.fieldAt, Sem.run_bind, run_underlying hfs, Result.andThen_ok, hfl, hv, Instr.sureAddr, Sem.run_pure, fieldPlace, hsz, hn, if_false, addr_add]

theorem gives_indexAddr (H : HR μ s.h w) (F : FR μ n ρ a.tmps) {t e : TypeId} {x y : Operand} {id off len k b : Nat} {cap : Cap} {q : IntKind} {j : Nat} (hop : o.op = .indexAddr t x y) (hx : opH ρ x = some (.s id off len cap)) (hy : opH ρ y = some (.i q j))
    (he : elP P t = some (e, k, b)) (hj : Nat.blt j len = true) : Gives P o a μ w s s (.p id (off + j * k)) := by
  have h1 := opH_ok F hx
  have h2 := opH_ok F hy
  generalize hv : a.eval x = v at h1
  generalize hu : a.eval y = u at h2
  cases h1
  cases h2
  rename_i c r hr hl hc
  obtain ⟨i, hfs, hi, rfl, _⟩ := elP_ok he
  have hj : (0 : Int) ≤ (j : Int) ∧ (j : Int) < (len : Int) := by rw [Nat.blt_eq] at hj; omega
  refine gives_value H (v := .pointer (some ⟨r.1, off + j * i.size, none⟩)) ?_ (.p hr)
  simp only [execOp, hop, Instr.indexAt, hv, hu, Sem.run_bind, run_underlying hfs, Result.andThen_ok, Sem.run_pure, asIntOf, if_pos hj, sizeOf_run hi, addr_add, Int.toNat_natCast]

def okNil : HV → Bool
  | .p _ _ => true
  | .f _ _ _ => true
  | .m _ => true
  | _ => false
theorem gives_nilCheck (H : HR μ s.h w) (F : FR μ n ρ a.tmps) {x : Operand} {y : HV} (hop : o.op = .nilCheck x) (hx : opH ρ x = some y) (hy : okNil y = true) : Gives P o a μ w s s y := by
  have h1 := opH_ok F hx
  generalize hv : a.eval x = v at h1
  refine gives_value H (v := v) ?_ h1
  cases h1 <;> first | (simp [execOp, hop, hv]; done) | cases hy

theorem gives_extract (H : HR μ s.h w) (F : FR μ n ρ a.tmps) {x : Operand} {i : Nat} {cs : List HV} {y : HV} (hop : o.op = .extract x i) (hx : opH ρ x = some (.t cs)) (hy : cs[i]? = some y) : Gives P o a μ w s s y := by
  have h1 := opH_ok F hx
  generalize hv : a.eval x = v at h1
  obtain ⟨hi, he⟩ := List.getElem?_eq_some_iff.1 hy
  cases h1 with
  | t _ vs hs hr =>
    refine gives_value H (v := vs[i]'(by omega)) ?_ (he ▸ hr i hi (by omega))
    have : vs[i]? = some (vs[i]'(by omega)) := Array.getElem?_eq_getElem _
    simp [execOp, hop, Instr.extract, hv, this]

/-- Part of a struct or of an array. -/
theorem part_ok {t : TypeId} {k off : Nat} {one : Bool} {cs : List HV} {vs : Array Value} {y : HV} (hc : CRs μ cs vs) (hs : szP P t = some (k, one)) (hy : takeH cs off k one = some y) : ∃ v, (part t vs off).run P w = .ok v w ∧ VR μ y v := by
  obtain ⟨h1, h2⟩ := oneOk_spec (szP_ok hs)
  unfold takeH at hy
  cases one with
  | true =>
    simp only [if_true] at hy
    obtain ⟨hlt, hx⟩ := List.getElem?_eq_some_iff.1 hy
    have hlt' : off < vs.size := by rw [hc.2.1]; exact hlt
    refine ⟨vs[off], ?_, hx ▸ hc.2.2 off hlt hlt'⟩
    simp [part, h1, Array.getElem?_eq_getElem hlt']
  | false =>
    simp only [Bool.false_eq_true, if_false] at hy
    split at hy
    · rename_i hle
      cases hy
      have hle' : off + k ≤ vs.size := by rw [hc.2.1]; exact hle
      refine ⟨.agg (vs.extract off (off + k)), ?_, .g _ _ ?_ (by simp; omega) (fun i g1 g2 => ?_)⟩
      · simp [part, h1, h2]
      · intro x hx
        exact hc.1 x (List.mem_of_mem_drop (List.mem_of_mem_take hx))
      · have hi : i < k := by simp at g1; omega
        have := hc.2.2 (off + i) (by omega) (by omega)
        simpa using this
    · cases hy
theorem vr_g {cs : List HV} {v : Value} (h : VR μ (.g cs) v) : ∃ vs, v = .agg vs ∧ CRs μ cs vs := by
  cases h with
  | g _ vs ho hs hr => exact ⟨vs, rfl, ho, hs, hr⟩

theorem gives_field (H : HR μ s.h w) (F : FR μ n ρ a.tmps) {t tf : TypeId} {x : Operand} {f fo k : Nat} {one : Bool} {cs : List HV} {y : HV} (hop : o.op = .field t x f) (hx : opH ρ x = some (.g cs)) (hf : foP P t f = some (fo, tf)) (hz : szP P tf = some (k, one))
    (hy : takeH cs fo k one = some y) : Gives P o a μ w s s y := by
  obtain ⟨vs, hv, hc⟩ := vr_g (opH_ok F hx)
  obtain ⟨fs, fl, hfs, hfl, rfl, rfl⟩ := foP_ok hf
  obtain ⟨v, h1, h2⟩ := part_ok (P := P) (w := w) hc hz hy
  refine gives_value H (v := v) ?_ h2
  simp only [execOp, hop, Instr.field, hv, Sem.run_bind, run_underlying hfs, Result.andThen_ok, hfl, asAgg, h1, Sem.run_pure]
end
end
end Go.Hp
