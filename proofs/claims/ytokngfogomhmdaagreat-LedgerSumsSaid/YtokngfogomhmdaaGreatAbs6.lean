/- The checker: an operation of the intermediate language is the model's operation. -/
import Derived.Test.YtokngfogomhmdaaGreatAbs5
namespace Go.Ai
open Go.RowKit

def constOk : Value → AV → Bool
  | .int k n, .int k' n' => k == k' && n == n'
  | .bool b, .bool b' => b == b'
  | .string s, .str s' => decide (s = s')
  | .slice none 0 0, .nil => true
  | .slice none 0 0, .sl 0 [] => true
  | _, _ => false

theorem constOk_rd {Y X : Nat → Prop} {w : World} {v : Value} {x : AV} (h : constOk v x = true) : Rd Y X w v x ∧ isData x = true := by
  unfold constOk at h
  split at h
  · simp only [Bool.and_eq_true, beq_iff_eq] at h
    obtain ⟨rfl, rfl⟩ := h
    exact ⟨.int _ _, rfl⟩
  · simp only [beq_iff_eq] at h
    subst h
    exact ⟨.bool _, rfl⟩
  · simp only [decide_eq_true_eq] at h
    subst h
    exact ⟨.str _, rfl⟩
  · exact ⟨.nil, rfl⟩
  · exact ⟨.nil0, rfl⟩
  · cases h

def constsOk : List Value → List AV → Bool
  | [], [] => true
  | v :: vs, x :: xs => constOk v x && constsOk vs xs
  | _, _ => false

theorem constsOk_rd {Y X : Nat → Prop} {w : World} : ∀ {vs : List Value} {cs : List AV}, constsOk vs cs = true → CellsRd Y X w vs.toArray cs
  | [], [], _ => ⟨fun x hx => (by cases hx), rfl, fun i h1 _ => (by simp at h1)⟩
  | v :: vs, x :: cs, h => by
    simp only [constsOk, Bool.and_eq_true] at h
    obtain ⟨h1, h2⟩ := h
    obtain ⟨hd, hs, hr⟩ := constsOk_rd (Y := Y) (X := X) (w := w) h2
    obtain ⟨hv, hdx⟩ := constOk_rd (Y := Y) (X := X) (w := w) h1
    refine ⟨fun y hy => ?_, by simp at hs ⊢; exact hs, fun i h3 h4 => ?_⟩
    · cases hy with
      | head => exact hdx
      | tail _ hy => exact hd y hy
    · cases i with
      | zero => simpa using hv
      | succ i =>
        have h5 := hr i (by simp at h3 ⊢; omega) (by simp at h4 ⊢; omega)
        simp only [List.getElem_toArray] at h5
        simpa using h5
  | [], _ :: _, h => by cases h
  | _ :: _, [], h => by cases h

def opdOk : Operand → Opd → Bool
  | .tmp t, .t n => t == n
  | .const v, .c x => constOk v x
  | _, _ => false

def opdsOk : List Operand → List Opd → Bool
  | [], [] => true
  | x :: xs, o :: os => opdOk x o && opdsOk xs os
  | _, _ => false

/-- The type's zero value has these cells. -/
def zeroOk (P : Program) (t : TypeId) (z : List AV) : Bool :=
  match P.info? t with
  | some i => (match i.zero with | some v => constsOk v.cells.toList z | none => false)
  | none => false

def sizeIs (P : Program) (t : TypeId) (n : Nat) : Bool :=
  match P.info? t with
  | some i => i.size == n
  | none => false

def fieldOk (P : Program) (fs : Array Field) (i off n : Nat) : Bool :=
  match fs[i]? with
  | some f => f.offset == off && sizeIs P f.type n
  | none => false

def partsOk (place : Nat → Nat → Nat → Bool) : List (Nat × Operand) → List (Nat × Nat × Opd) → Bool
  | [], [] => true
  | (i, x) :: l, (off, n, o) :: m => place i off n && opdOk x o && partsOk place l m
  | _, _ => false

def bldOk (P : Program) (t : TypeId) (parts : List (Nat × Operand)) (z : List AV) (ps : List (Nat × Nat × Opd)) : Bool :=
  zeroOk P t z &&
  match P.underlying t with
  | some (.struct fs) => fs.all (fun f => (P.info? f.type).isSome) && partsOk (fieldOk P fs) parts ps
  | some (.array _ e) => (P.info? e).isSome && partsOk (fun i off n => off == i * P.cellsOf e && n == P.cellsOf e) parts ps
  | _ => false

/-- z: the zero value's cells, n times. -/
def timesOk (z : List AV) (zero : List Value) : Nat → Bool
  | 0 => z.isEmpty
  | n + 1 => constsOk zero (z.take zero.length) && timesOk (z.drop zero.length) zero n

def blsOk (P : Program) (t : TypeId) (len : Nat) (parts : List (Nat × Operand)) (n : Nat) (z : List AV) (ps : List (Nat × Nat × Opd)) : Bool :=
  len == n &&
  match P.underlying t with
  | some (.slice e) => (match P.info? e with
    | some i => decide (0 < i.size) && decide (len * i.size ≤ 16777216) && (match i.zero with | some v => v.cells.size == i.size && decide (z.length = len * i.size) && timesOk z v.cells.toList len | none => false) &&
      partsOk (fun j off m => off == j * i.size && m == i.size) parts ps
    | none => false)
  | _ => false

def isIntT (P : Program) (t : TypeId) : Bool := match P.underlying t with | some (.int _) => true | _ => false
def isBoolT (P : Program) (t : TypeId) : Bool := match P.underlying t with | some .bool => true | _ => false

def lenOk (P : Program) (args : List Operand) (ts : List TypeId) (x : Opd) : Bool :=
  match args, ts with
  | [x'], [t] => opdOk x' x && (match P.underlying t with | some (.slice _) => true | _ => false)
  | _, _ => false

/-- Slices of this type: k cells an element, whose zero value has these cells. -/
def elemOk (P : Program) (t : TypeId) (k : Nat) : Bool :=
  match P.underlying t with
  | some (.slice e) => (match P.info? e with
    | some i => i.size == k && decide (0 < i.size) && decide (i.bytes ≤ 1048576) && (match i.zero with | some v => v.cells.size == i.size | none => false)
    | none => false)
  | _ => false
def zeroIs (P : Program) (t : TypeId) (z : List AV) : Bool :=
  match P.underlying t with
  | some (.slice e) => zeroOk P e z
  | _ => false
def isSliceT (P : Program) (t : TypeId) : Bool := match P.underlying t with | some (.slice _) => true | _ => false
/-- So many elements of this slice type fit in the memory. -/
def roomOk (P : Program) (t : TypeId) (B : Nat) : Bool :=
  match P.underlying t with
  | some (.slice e) => (match P.info? e with
    | some i => decide (B * i.bytes ≤ 140737488355328) && decide (B ≤ 140737488355328)
    | none => false)
  | _ => false
def apdOk (P : Program) (args : List Operand) (ts : List TypeId) (x y : Opd) (k B : Nat) : Bool :=
  match args, ts with
  | [x', y'], [t, t'] => opdOk x' x && opdOk y' y && elemOk P t k && isSliceT P t' && roomOk P t B
  | _, _ => false
def opdO : Option Operand → Option Opd → Bool
  | none, none => true
  | some x, some o => opdOk x o
  | _, _ => false
def bodyOk (P : Program) (f : Nat) : Bool := match P.funcs[f]? with | some fn => fn.body.isSome && !(fn.name == "runtime.NumGoroutine") | none => false
/-- A struct of a truth value and a slice. -/
def bdoOk (P : Program) (t : TypeId) (parts : List (Nat × Operand)) (a : Opd) (x : Nat) : Bool :=
  match P.underlying t, parts with
  | some (.struct fs), [(0, a'), (1, x')] => opdOk a' a && opdOk x' (.t x) && fs.size == 2 && fieldOk P fs 0 0 1 && fieldOk P fs 1 1 1 && zeroOk P t [.bool false, .sl 0 []] && fs.all (fun f => (P.info? f.type).isSome)
  | _, _ => false
def movOk (op : Op) (x : Nat) : Bool := match op with | .move y => opdOk y (.t x) | .assign y => opdOk y (.t x) | _ => false

def kOk (P : Program) (op : Op) (k : K) : Bool :=
  match k with
  | .mov y => (match op with | .move x => opdOk x y | .assign x => opdOk x y | _ => false)
  | .pick c a b => (match op with | .pick c' a' b' => opdOk c' c && opdOk a' a && opdOk b' b | _ => false)
  | .bin o x y => (match op with | .binOp o' _ x' y' _ => o' == o && opdOk x' x && opdOk y' y | _ => false)
  | .eqb neg x y => (match op with | .binOp o' t x' y' _ => o' == (if neg then BinOp.neq else BinOp.eql) && isBoolT P t && opdOk x' x && opdOk y' y | _ => false)
  | .eqv neg n x y => (match op with | .binOp o' t x' y' _ => o' == (if neg then BinOp.neq else BinOp.eql) && eqOk P t n && opdOk x' x && opdOk y' y | _ => false)
  | .un o x => (match op with | .unOp o' _ x' => o' == o && opdOk x' x | _ => false)
  | .cv k x => (match op with | .convert src dst x' => isIntT P src && (match P.underlying dst with | some (.int k') => k' == k | _ => false) && opdOk x' x | _ => false)
  | .new z _ => (match op with | .alloc t => zeroOk P t z | _ => false)
  | .box x _ => (match op with | .box _ x' => opdOk x' x | _ => false)
  | .bld z ps => (match op with | .build t parts => bldOk P t parts.toList z ps | _ => false)
  | .bls n z ps => (match op with | .buildSlice t len parts => blsOk P t len parts.toList n z ps | _ => false)
  | .adr x _ off => (match op with | .fieldAddr t x' f => opdOk x' (.t x) && (match P.underlying t with | some (.struct fs) => (match fs[f]? with | some f => f.offset == off && !(sizeIs P f.type 0) && (P.info? f.type).isSome | none => false) | _ => false) | _ => false)
  | .ld x _ n one => (match op with | .load t x' => opdOk x' (.t x) && oneOk P t n one | _ => false)
  | .st x _ n v => (match op with | .store t x' v' => opdOk x' (.t x) && sizeIs P t n && opdOk v' v | _ => false)
  | .fld x off n one => (match op with | .field t x' f => opdOk x' x && (match P.underlying t with | some (.struct fs) => (match fs[f]? with | some f => f.offset == off && oneOk P f.type n one | none => false) | _ => false) | _ => false)
  | .ixa x i k => (match op with | .indexAddr t x' i' => opdOk x' (.t x) && opdOk i' i && (match P.underlying t with | some (.slice e) => sizeIs P e k | _ => false) | _ => false)
  | .ixb x i len k => (match op with | .indexAddr t x' i' => opdOk x' (.t x) && opdOk i' i && (match P.underlying t with | some (.array l e) => l == len && sizeIs P e k | _ => false) | _ => false)
  | .six x i => (match op with | .index t x' i' => opdOk x' x && opdOk i' i && (match P.underlying t with | some .string => true | _ => false) | _ => false)
  | .idx x i len n one => (match op with | .index t x' i' => opdOk x' x && opdOk i' i && (match P.underlying t with | some (.array l e) => l == len && oneOk P e n one | _ => false) | _ => false)
  | .ext x i => (match op with | .extract x' i' => opdOk x' x && i' == i | _ => false)
  | .len x => (match op with | .call { callee := .builtin .len, args := args, argTypes := ts } => lenOk P args.toList ts.toList x | _ => false)
  | .mx xs => (match op with | .call { callee := .builtin .max, args := args, argTypes := _ } => opdsOk args.toList xs | _ => false)
  | .mn xs => (match op with | .call { callee := .builtin .min, args := args, argTypes := _ } => opdsOk args.toList xs | _ => false)
  | .call f xs => (match op with | .call { callee := .value (.func f'), args := args, argTypes := _ } => f' == f && opdsOk args.toList xs && (match P.funcs[f]? with | some fn => fn.body.isSome && !(fn.name == "runtime.NumGoroutine") | none => false) | _ => false)
  | .clo f xs => (match op with | .call { callee := .value (.func f'), args := args, argTypes := _ } => f' == f && opdsOk args.toList xs && (match P.funcs[f]? with | some fn => fn.body.isSome && !(fn.name == "runtime.NumGoroutine") | none => false) | _ => false)
  | .brw f x _ => (match op with | .call { callee := .value (.func f'), args := args, argTypes := _ } => f' == f && opdsOk args.toList [.t x] && (match P.funcs[f]? with | some fn => fn.body.isSome && !(fn.name == "runtime.NumGoroutine") | none => false) | _ => false)
  | .nlo _ => (match op with | .move (.const (.slice none 0 0)) => true | .assign (.const (.slice none 0 0)) => true | _ => false)
  | .cpy x => movOk op x
  | .cpo x => movOk op x
  | .tra x => movOk op x
  | .frz x => movOk op x
  | .mks z n => (match op with | .makeSlice t l c => opdOk l n && opdOk c n && elemOk P t z.length && zeroIs P t z | _ => false)
  | .blo k n z ps => (match op with | .buildSlice t len parts => blsOk P t len parts.toList n z ps && elemOk P t k | _ => false)
  | .apd _ x y k B => (match op with | .call { callee := .builtin .append, args := args, argTypes := ts } => apdOk P args.toList ts.toList x y k B | _ => false)
  | .sli x lo hi mx k => (match op with | .slice t x' lo' hi' mx' => opdOk x' x && opdO lo' lo && opdO hi' hi && opdO mx' mx && elemOk P t k | _ => false)
  | .ixo x _ i k => (match op with | .indexAddr t x' i' => opdOk x' (.t x) && opdOk i' i && elemOk P t k | _ => false)
  | .lno x _ => (match op with | .call { callee := .builtin .len, args := args, argTypes := ts } => lenOk P args.toList ts.toList (.t x) | _ => false)
  | .isn neg x _ => (match op with | .binOp o' t x' y' _ => o' == (if neg then BinOp.neq else BinOp.eql) && isSliceT P t && opdOk x' (.t x) && (match y' with | .const (.slice none 0 0) => true | _ => false) | _ => false)
  | .bdo a x _ => (match op with | .build t parts => bdoOk P t parts.toList a x | _ => false)
  | .cln f xs _ => (match op with | .call { callee := .value (.func f'), args := args, argTypes := _ } => f' == f && opdsOk args.toList xs && bodyOk P f | _ => false)
  | .stl x v => (match op with | .store t x' v' => opdOk x' (.t x) && sizeIs P t 2 && opdOk v' (.t v) | _ => false)
  | .fdo x => (match op with | .field t x' 1 => opdOk x' (.t x) && (match P.underlying t with | some (.struct fs) => (match fs[1]? with | some f => f.offset == 1 && oneOk P f.type 1 true | none => false) | _ => false) | _ => false)
  | .exo x => (match op with | .extract x' 0 => opdOk x' (.t x) | _ => false)
  | .sub x _ lo hi k => (match op with | .slice t x' lo' hi' none => opdOk x' (.t x) && opdO lo' lo && opdO hi' hi && elemOk P t k | _ => false)
  | .app _ x _ y k => (match op with | .call { callee := .builtin .append, args := args, argTypes := ts } => apdOk P args.toList ts.toList (.t x) y k 1048576 | _ => false)
  | .apb _ x y _ k => (match op with | .call { callee := .builtin .append, args := args, argTypes := ts } => apdOk P args.toList ts.toList (.t x) (.t y) k 1048576 | _ => false)
  | .slo x hi k => (match op with | .slice t x' none (some hi') none => opdOk x' (.t x) && opdOk hi' hi && elemOk P t k | _ => false)
  | .mkf f x => (match op with | .makeFunc (.func f') first captured => f' == f && first.isEmpty && opdsOk captured.toList [.t x] | _ => false)
  | .cal f x xs => (match op with | .call { callee := .value (.tmp t), args := args, argTypes := _ } => opdOk (.tmp t) x && opdsOk args.toList xs && bodyOk P f | _ => false)
  | .cao f _ x xs => (match op with | .call { callee := .value (.func f'), args := args, argTypes := _ } => f' == f && opdsOk args.toList (x :: xs) && bodyOk P f | _ => false)
  | .bad => true

end Go.Ai
