/- Closed runs over a heap of numbered objects: one operation, evaluated. -/
import Derived.Test.YtokngfogomhmdaaGreatHa6
namespace Go.Hp
open Go.Ai Go.RowKit
noncomputable section

/-- What one operation yields; calls of functions are handed on. The kernel keeps what it has found for an operation. -/
abbrev KH := HCaller → En → HS → RH
structure KC where
  run : KH

def kNone : KH := fun _ _ _ => none
def kMove (x : Operand) : KH := fun _ ρ s => bO (opH ρ x) fun v => some (v, s)
def kPick (c x y : Operand) : KH := fun _ ρ s => bO (opH ρ c) fun v => asB v fun t => bO (opH ρ (cnd t x y)) fun v => some (v, s)
def kNew (z : Option (List HV)) : KH := fun _ _ s => bO z fun z => some (.p s.nx 0, newS s (.c z))
def kBox (x : Operand) : KH := fun _ ρ s => bO (opH ρ x) fun y => bO (allCells y) fun z => some (.p s.nx 0, newS s (.c z))
def kBuild (P : Program) (t : TypeId) (ps : List (Nat × Operand)) : KH := fun _ ρ s => bO (buildH P ρ t ps) fun v => some (v, s)
def kSlices (P : Program) (t : TypeId) (m : Nat) (ps : List (Nat × Operand)) : KH := fun _ ρ s => bO (buildSliceH P ρ t m ps) fun cs => some (.s s.nx 0 m (.k m), newS s (.c cs))
def kLoad (z : Option (Nat × Bool)) (x : Operand) : KH := fun _ ρ s => bO (opH ρ x) fun v => asP v fun b off => asC (s.h.get b) fun cs => bO z fun q => bO (takeF cs off q.1 q.2) fun v => some (v, s)
def kStore (z : Option (Nat × Bool)) (x y : Operand) : KH := fun _ ρ s => bO (opH ρ x) fun v => asP v fun b off => asC (s.h.get b) fun cs => bO z fun q => bO (opH ρ y) fun z => bO (cellsF z q.1) fun ys => bO (layF ys off cs) fun cs' => some (.u, setS s b (.c cs'))
def kNil (x : Operand) : KH := fun _ ρ s => bO (opH ρ x) fun v => whenH (okNil v) (some (v, s))
def kBin (P : Program) (op : BinOp) (t : TypeId) (x y : Operand) : KH := fun _ ρ s => bO (opH ρ x) fun p => bO (opH ρ y) fun q => bO (binH P op t p q) fun v => some (v, s)
def kUn (op : UnOp) (x : Operand) : KH := fun _ ρ s => bO (opH ρ x) fun p => bO (unH op p) fun v => some (v, s)
def kConv (P : Program) (src dst : TypeId) (x : Operand) : KH := fun _ ρ s => bO (opH ρ x) fun p => bO (cvH P src dst p) fun v => some (v, s)
def kFunc (f : Nat) (xs ys : List Operand) : KH := fun _ ρ s => bO (opsH ρ xs) fun fs => bO (opsH ρ ys) fun cs => some (.f f fs cs, s)
def kMap : KH := fun _ _ s => some (.m s.nx, newS s (.m []))
def kMake (P : Program) (t : TypeId) (x y : Operand) : KH := fun _ ρ s => bO (opH ρ x) fun v => asN v fun l => bO (opH ρ y) fun v => asN v fun c => makeH P s t l c
def kSlice (P : Program) (t : TypeId) (x : Operand) (lo hi mx : Option Operand) : KH := fun _ ρ s => bO (opH ρ x) fun p => bO (sliceH P ρ t p lo hi mx) fun v => some (v, s)
def kFieldAddr (q : Option (Nat × Nat)) (x : Operand) : KH := fun _ ρ s => bO (opH ρ x) fun v => asP v fun b off => bO q fun q => some (.p b (off + q.1), s)
def kField (q : Option (Nat × Nat × Bool)) (x : Operand) : KH := fun _ ρ s => bO (opH ρ x) fun v => asG v (fun cs => bO q fun q => bO (takeF cs q.1 q.2.1 q.2.2) fun v => some (v, s)) none
def kIndexAddr (q : Option (TypeId × Nat × Nat)) (x y : Operand) : KH := fun _ ρ s => bO (opH ρ x) fun v => asS v fun b off len _ => bO (opH ρ y) fun i => asN i fun j => bO q fun q => whenH (Nat.blt j len) (some (.p b (off + j * q.2.1), s))
def kIndex (P : Program) (t : TypeId) (x y : Operand) : KH := fun _ ρ s => bO (opH ρ x) fun p => bO (opH ρ y) fun i => asN i fun j => bO (indexH P t p j) fun v => some (v, s)
def kLookup (P : Program) (t : TypeId) (x y : Operand) (cm : Bool) : KH := fun _ ρ s => bO (opH ρ x) fun p => bO (opH ρ y) fun k => bO (lookH P s t p k cm) fun v => some (v, s)
def kUpdate (P : Program) (t : TypeId) (x y y' : Operand) : KH := fun _ ρ s => bO (opH ρ x) fun p => bO (opH ρ y) fun k => bO (opH ρ y') fun v => updH P s t p k v
def kExtract (x : Operand) (i : Nat) : KH := fun _ ρ s => bO (opH ρ x) fun v => asT v fun cs => bO (nthF cs i) fun v => some (v, s)
def kCall (f : Operand) (xs : List Operand) : KH := fun call ρ s => bO (opH ρ f) fun fv => bO (opsH ρ xs) fun vs => call fv vs s
def kBuiltin (P : Program) (b : Builtin) (xs : List Operand) (ts : List TypeId) : KH := fun _ ρ s => bO (opsH ρ xs) fun vs => builtinH P s b ts vs

def fieldP (P : Program) (t : TypeId) (f : Nat) : Option (Nat × Nat) := bO (foP P t f) fun q => bO (szP P q.2) fun z => cnd (Nat.beq z.1 0) none (some (q.1, z.1))
def fieldQ (P : Program) (t : TypeId) (f : Nat) : Option (Nat × Nat × Bool) := bO (foP P t f) fun q => bO (szP P q.2) fun z => some (q.1, z.1, z.2)

def evK (P : Program) : Op → KC
  | .move x => ⟨kMove x⟩
  | .assign x => ⟨kMove x⟩
  | .pick c x y => ⟨kPick c x y⟩
  | .alloc t => ⟨kNew (zrP P t)⟩
  | .box _ x => ⟨kBox x⟩
  | .build t ps => ⟨kBuild P t ps.toList⟩
  | .buildSlice t m ps => ⟨kSlices P t m ps.toList⟩
  | .load t x => ⟨kLoad (szP P t) x⟩
  | .store t x y => ⟨kStore (szP P t) x y⟩
  | .nilCheck x => ⟨kNil x⟩
  | .binOp op t x y _ => ⟨kBin P op t x y⟩
  | .unOp op _ x => ⟨kUn op x⟩
  | .convert src dst x => ⟨kConv P src dst x⟩
  | .makeFunc (.func f) xs ys => ⟨kFunc f xs.toList ys.toList⟩
  | .makeMap _ none => ⟨kMap⟩
  | .makeSlice t x y => ⟨kMake P t x y⟩
  | .slice t x lo hi mx => ⟨kSlice P t x lo hi mx⟩
  | .fieldAddr t x f => ⟨kFieldAddr (fieldP P t f) x⟩
  | .field t x f => ⟨kField (fieldQ P t f) x⟩
  | .indexAddr t x y => ⟨kIndexAddr (elP P t) x y⟩
  | .index t x y => ⟨kIndex P t x y⟩
  | .lookup t x y cm => ⟨kLookup P t x y cm⟩
  | .mapUpdate t x y y' => ⟨kUpdate P t x y y'⟩
  | .extract x i => ⟨kExtract x i⟩
  | .call c => match c.callee with
    | .value f => ⟨kCall f c.args.toList⟩
    | .builtin b => ⟨kBuiltin P b c.args.toList c.argTypes.toList⟩
    | _ => ⟨kNone⟩
  | _ => ⟨kNone⟩

def isCall : Op → Bool
  | .call c => match c.callee with | .value _ => true | _ => false
  | _ => false

section
variable {P : Program} {o : Oper} {a : Act} {μ : Mu} {w : World} {s : HS} {n : Nat} {ρ : En}

theorem free_new {o : HO} (hf : Free μ s.nx (newS s o).nx) : μ s.nx = none := hf s.nx (Nat.le_refl _) (Nat.lt_succ_self _)

theorem evK_qt {call : HCaller} (hc : ∀ f l s x s', call f l s = some (x, s') → Qt s s') {op : Op} {x : HV} {s' : HS} (h : (evK P op).run call ρ s = some (x, s')) : Qt s s' := by
  cases op <;> simp only [evK] at h <;> try (cases h; done)
  case move x => obtain ⟨v, _, h⟩ := bind_some h; cases h; exact Qt.refl _
  case assign x => obtain ⟨v, _, h⟩ := bind_some h; cases h; exact Qt.refl _
  case pick c x y => obtain ⟨v, _, h⟩ := bind_some h; obtain ⟨t, _, h⟩ := asB_some h; obtain ⟨v, _, h⟩ := bind_some h; cases h; exact Qt.refl _
  case alloc t => obtain ⟨z, _, h⟩ := bind_some h; cases h; exact Qt.new _ _
  case box t x => obtain ⟨y, _, h⟩ := bind_some h; obtain ⟨z, _, h⟩ := bind_some h; cases h; exact Qt.new _ _
  case build t ps => obtain ⟨v, _, h⟩ := bind_some h; cases h; exact Qt.refl _
  case buildSlice t m ps => obtain ⟨v, _, h⟩ := bind_some h; cases h; exact Qt.new _ _
  case load t x => obtain ⟨v, _, h⟩ := bind_some h; obtain ⟨b, off, _, h⟩ := asP_some h; obtain ⟨cs, _, h⟩ := asC_some h; obtain ⟨q, _, h⟩ := bind_some h; obtain ⟨q, _, h⟩ := bind_some h; cases h; exact Qt.refl _
  case store t x y => obtain ⟨v, _, h⟩ := bind_some h; obtain ⟨b, off, _, h⟩ := asP_some h; obtain ⟨cs, hb, h⟩ := asC_some h; obtain ⟨q, _, h⟩ := bind_some h; obtain ⟨q, _, h⟩ := bind_some h; obtain ⟨q, _, h⟩ := bind_some h; obtain ⟨q, _, h⟩ := bind_some h; cases h; exact Qt.turn hb
  case nilCheck x => obtain ⟨v, _, h⟩ := bind_some h; obtain ⟨_, h⟩ := whenH_some h; cases h; exact Qt.refl _
  case binOp op t x y t' => obtain ⟨v, _, h⟩ := bind_some h; obtain ⟨v, _, h⟩ := bind_some h; obtain ⟨v, _, h⟩ := bind_some h; cases h; exact Qt.refl _
  case unOp op t x => obtain ⟨v, _, h⟩ := bind_some h; obtain ⟨v, _, h⟩ := bind_some h; cases h; exact Qt.refl _
  case convert src dst x => obtain ⟨v, _, h⟩ := bind_some h; obtain ⟨v, _, h⟩ := bind_some h; cases h; exact Qt.refl _
  case makeFunc f xs ys => cases f <;> simp only at h <;> try (cases h; done)
                           obtain ⟨v, _, h⟩ := bind_some h; obtain ⟨v, _, h⟩ := bind_some h; cases h; exact Qt.refl _
  case makeMap t r =>
    cases r with
    | none => cases h; exact Qt.new _ _
    | some r => cases h
  case makeSlice t x y =>
    obtain ⟨v, _, h⟩ := bind_some h; obtain ⟨_, l, _, h⟩ := asN_some h; obtain ⟨v, _, h⟩ := bind_some h; obtain ⟨_, c, _, h⟩ := asN_some h
    obtain ⟨q, _, h⟩ := bind_some h; obtain ⟨_, h⟩ := whenH_some h; obtain ⟨z, _, h⟩ := bind_some h; obtain ⟨_, h⟩ := whenH_some h; cases h; exact Qt.new _ _
  case slice t x lo hi mx => obtain ⟨v, _, h⟩ := bind_some h; obtain ⟨v, _, h⟩ := bind_some h; cases h; exact Qt.refl _
  case fieldAddr t x f => obtain ⟨v, _, h⟩ := bind_some h; obtain ⟨b, off, _, h⟩ := asP_some h; obtain ⟨q, _, h⟩ := bind_some h; cases h; exact Qt.refl _
  case field t x f => obtain ⟨v, _, h⟩ := bind_some h; obtain ⟨cs, _, h⟩ := asG_some h; obtain ⟨q, _, h⟩ := bind_some h; obtain ⟨q, _, h⟩ := bind_some h; cases h; exact Qt.refl _
  case indexAddr t x y => obtain ⟨v, _, h⟩ := bind_some h; obtain ⟨_, _, _, _, _, h⟩ := asS_some h; obtain ⟨q, _, h⟩ := bind_some h; obtain ⟨_, c, _, h⟩ := asN_some h; obtain ⟨q, _, h⟩ := bind_some h; obtain ⟨_, h⟩ := whenH_some h; cases h; exact Qt.refl _
  case index t x y => obtain ⟨q, _, h⟩ := bind_some h; obtain ⟨q, _, h⟩ := bind_some h; obtain ⟨_, c, _, h⟩ := asN_some h; obtain ⟨q, _, h⟩ := bind_some h; cases h; exact Qt.refl _
  case lookup t x y cm => obtain ⟨q, _, h⟩ := bind_some h; obtain ⟨q, _, h⟩ := bind_some h; obtain ⟨q, _, h⟩ := bind_some h; cases h; exact Qt.refl _
  case mapUpdate t x y y' =>
    obtain ⟨q, _, h⟩ := bind_some h; obtain ⟨q, _, h⟩ := bind_some h; obtain ⟨q, _, h⟩ := bind_some h
    obtain ⟨q, _, h⟩ := bind_some h; obtain ⟨_, h⟩ := whenH_some h
    split at h
    · obtain ⟨es, ha, h⟩ := asM_some h
      obtain ⟨r, _, h⟩ := bind_some h
      split at h <;> cases h <;> exact Qt.turn ha
    · cases h
  case extract x i => obtain ⟨v, _, h⟩ := bind_some h; obtain ⟨t, _, h⟩ := asT_some h; obtain ⟨v, _, h⟩ := bind_some h; cases h; exact Qt.refl _
  case call c =>
    split at h
    · obtain ⟨v, _, h⟩ := bind_some h; obtain ⟨v, _, h⟩ := bind_some h; exact hc _ _ _ _ _ h
    · obtain ⟨v, _, h⟩ := bind_some h; exact builtin_qt h
    · cases h

theorem evK_ok {call : HCaller} (H : HR μ s.h w) (F : FR μ n ρ a.tmps) {x : HV} {s' : HS} (hf : Free μ s.nx s'.nx) (hnc : isCall o.op = false) (h : (evK P o.op).run call ρ s = some (x, s')) : Gives P o a μ w s s' x := by
  cases hop : o.op <;> rw [hop] at h hnc <;> simp only [evK] at h <;> try (cases h; done)
  case move x => obtain ⟨v, hv, h⟩ := bind_some h; cases h; exact gives_move H F (.inl hop) hv
  case assign x => obtain ⟨v, hv, h⟩ := bind_some h; cases h; exact gives_move H F (.inr hop) hv
  case pick c x y => obtain ⟨v, hv, h⟩ := bind_some h; obtain ⟨t, rfl, h⟩ := asB_some h; obtain ⟨v, hz, h⟩ := bind_some h; cases h; exact gives_pick H F hop hv hz
  case alloc t => obtain ⟨z, hz, h⟩ := bind_some h; cases h; exact gives_alloc H hop hz (free_new hf)
  case box t x => obtain ⟨y, hy, h⟩ := bind_some h; obtain ⟨z, hz, h⟩ := bind_some h; cases h; exact gives_box H F hop hy hz (free_new hf)
  case build t ps => obtain ⟨v, hv, h⟩ := bind_some h; cases h; exact gives_build H F hop hv
  case buildSlice t m ps => obtain ⟨v, hv, h⟩ := bind_some h; cases h; exact gives_buildSlice H F hop hv (free_new hf)
  case load t x => obtain ⟨v, hv, h⟩ := bind_some h; obtain ⟨b, off, rfl, h⟩ := asP_some h; obtain ⟨cs, hb, h⟩ := asC_some h; obtain ⟨⟨k, one⟩, hq, h⟩ := bind_some h; obtain ⟨q, ht, h⟩ := bind_some h; rw [takeF_eq] at ht; cases h; exact gives_load H F hop hv hq hb ht
  case store t x y => obtain ⟨v, hv, h⟩ := bind_some h; obtain ⟨b, off, rfl, h⟩ := asP_some h; obtain ⟨cs, hb, h⟩ := asC_some h; obtain ⟨⟨k, one⟩, hq, h⟩ := bind_some h; obtain ⟨z, hz, h⟩ := bind_some h; obtain ⟨ys, hys, h⟩ := bind_some h; obtain ⟨cs', hl, h⟩ := bind_some h; rw [layF_eq] at hl; cases h; exact gives_store H F hop hv hz hq hb (cellsF_eq hys) hl
  case nilCheck x => obtain ⟨v, hv, h⟩ := bind_some h; obtain ⟨ho, h⟩ := whenH_some h; cases h; exact gives_nilCheck H F hop hv ho
  case binOp op t x y t' => obtain ⟨p, hp, h⟩ := bind_some h; obtain ⟨q, hq, h⟩ := bind_some h; obtain ⟨v, hv, h⟩ := bind_some h; cases h; exact gives_bin H F hop hp hq hv
  case unOp op t x => obtain ⟨p, hp, h⟩ := bind_some h; obtain ⟨v, hv, h⟩ := bind_some h; cases h; exact gives_un H F hop hp hv
  case convert src dst x => obtain ⟨p, hp, h⟩ := bind_some h; obtain ⟨v, hv, h⟩ := bind_some h; cases h; exact gives_convert H F hop hp hv
  case makeFunc f xs ys => cases f <;> simp only at h <;> try (cases h; done)
                           obtain ⟨fs, h1, h⟩ := bind_some h; obtain ⟨cs, h2, h⟩ := bind_some h; cases h; exact gives_makeFunc H F hop h1 h2
  case makeMap t r =>
    cases r with
    | none => cases h; exact gives_makeMap H hop (free_new hf)
    | some r => cases h
  case makeSlice t x y =>
    obtain ⟨v, hv, h⟩ := bind_some h; obtain ⟨_, l, rfl, h⟩ := asN_some h; obtain ⟨v, hv', h⟩ := bind_some h; obtain ⟨_, c, rfl, h⟩ := asN_some h
    have hμ : μ s.nx = none := by
      have h' := h
      obtain ⟨q, _, h'⟩ := bind_some h'; obtain ⟨_, h'⟩ := whenH_some h'; obtain ⟨z, _, h'⟩ := bind_some h'; obtain ⟨_, h'⟩ := whenH_some h'; cases h'
      exact free_new hf
    exact gives_make H hμ F hop hv hv' h
  case slice t x lo hi mx => obtain ⟨p, hp, h⟩ := bind_some h; obtain ⟨v, hv, h⟩ := bind_some h; cases h; exact gives_slice H F hop hp hv
  case fieldAddr t x f =>
    obtain ⟨v, hv, h⟩ := bind_some h; obtain ⟨b, off, rfl, h⟩ := asP_some h; obtain ⟨q, hq, h⟩ := bind_some h
    cases h
    obtain ⟨⟨fo, tf⟩, hf, hq⟩ := bind_some hq; obtain ⟨⟨k, one⟩, hz, hq⟩ := bind_some hq
    cases hk : Nat.beq k 0
    · rw [hk] at hq; cases hq; exact gives_fieldAddr H F hop hv hf hz hk
    · rw [hk] at hq; cases hq
  case field t x f =>
    obtain ⟨v, hv, h⟩ := bind_some h; obtain ⟨cs, rfl, h⟩ := asG_some h; obtain ⟨q, hq, h⟩ := bind_some h; obtain ⟨y, hy, h⟩ := bind_some h
    cases h
    obtain ⟨⟨fo, tf⟩, hf, hq⟩ := bind_some hq; obtain ⟨⟨k, one⟩, hz, hq⟩ := bind_some hq
    cases hq
    rw [takeF_eq] at hy
    exact gives_field H F hop hv hf hz hy
  case indexAddr t x y =>
    obtain ⟨v, hv, h⟩ := bind_some h; obtain ⟨b, off, len, cap, rfl, h⟩ := asS_some h; obtain ⟨i, hi, h⟩ := bind_some h; obtain ⟨_, j, rfl, h⟩ := asN_some h; obtain ⟨⟨e, k, b⟩, he, h⟩ := bind_some h; obtain ⟨hj, h⟩ := whenH_some h; cases h; exact gives_indexAddr H F hop hv hi he hj
  case index t x y => obtain ⟨p, hp, h⟩ := bind_some h; obtain ⟨i, hi, h⟩ := bind_some h; obtain ⟨_, j, rfl, h⟩ := asN_some h; obtain ⟨v, hv, h⟩ := bind_some h; cases h; exact gives_index H F hop hp hi hv
  case lookup t x y cm => obtain ⟨p, hp, h⟩ := bind_some h; obtain ⟨k, hk, h⟩ := bind_some h; obtain ⟨v, hv, h⟩ := bind_some h; cases h; exact gives_lookup H F hop hp hk hv
  case mapUpdate t x y y' => obtain ⟨p, hp, h⟩ := bind_some h; obtain ⟨k, hk, h⟩ := bind_some h; obtain ⟨v, hv, h⟩ := bind_some h; exact gives_update H F hop hp hk hv h
  case extract x i => obtain ⟨v, hv, h⟩ := bind_some h; obtain ⟨cs, rfl, h⟩ := asT_some h; obtain ⟨v, hi, h⟩ := bind_some h; rw [nthF_eq] at hi; cases h; exact gives_extract H F hop hv hi
  case call c =>
    split at h
    · rename_i f hcal
      simp only [isCall, hcal] at hnc
      cases hnc
    · rename_i b hcal
      obtain ⟨vs, hvs, h⟩ := bind_some h
      obtain ⟨e1, e2⟩ := opsH_arr F hvs
      obtain ⟨m, hm, v, μ', w', hrun, g1, g2, g3⟩ := builtin_ok (ty := o.type) H hf e1 e2 h
      refine ⟨v, μ', w', .inl ?_, g1, g2, g3⟩
      simp only [execOp, hop, resolve, hcal, Sem.run_bind, Sem.run_pure, Result.andThen_ok, invoke, hm, hrun]
    · cases h
end
end
end Go.Hp
