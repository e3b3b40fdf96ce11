/- The abstract machine: pure data, registers, a small intermediate language and its evaluator. Nothing here speaks of a program's text. -/
import Derived.Orders
import Derived.Below
namespace Go.Ai

/-- What stands beside an owned slice: the truth value ahead of it in a struct, or behind it in a tuple. -/
inductive Tag where
  | st (b : Bool)
  | tp (b : Bool)

/-- Abstract data: numbers, truth values, texts, structs and arrays as their cells, slices as the cells of their elements. -/
inductive AV where
  | int (k : IntKind) (n : Int)
  | bool (b : Bool)
  | str (s : ByteArray)
  | agg (cs : List AV)
  | nil
  | sl (n : Nat) (cs : List AV)
  | tup (vs : List AV)
  | undef
  | fresh (k n : Nat) (cs : List AV)
  | frs (b : Tag) (k n : Nat) (cs : List AV)
  | pt (cs : List AV)
  | fnc (f : Nat) (cs : List AV)

def AV.cells : AV → List AV
  | .agg cs => cs
  | x => [x]

/-- What a slot holds: a value; the address of a variable of its own; a pointer into the variable (or owned array) of slot d; a pointer to memory that nobody writes; a slice whose array belongs to this slot alone; a struct of a truth value and such a slice; a variable of its own that holds the struct of slot d; a copy of what slot d holds; a part of the slice that slot d owns; something that is not known. -/
inductive Reg where
  | val (x : AV)
  | box (cs : List AV)
  | ptr (d off : Nat)
  | mem (cs : List AV)
  | own (k n : Nat) (cs : List AV)
  | agn (b : Tag) (k n : Nat) (cs : List AV)
  | bxl (d : Nat)
  | dup (d : Nat)
  | sub (d k l h : Nat)
  | dead

/-- Does it speak of another slot? -/
def isLink : Reg → Bool
  | .ptr _ _ => true
  | .dup _ => true
  | .sub _ _ _ _ => true
  | .bxl _ => true
  | _ => false

/-- It is known, and speaks of its own slot alone. -/
def isFirm : Reg → Bool
  | .val _ => true
  | .box _ => true
  | .mem _ => true
  | .own _ _ _ => true
  | .agn _ _ _ _ => true
  | _ => false
theorem isFirm_link {r : Reg} (h : isFirm r = true) : isLink r = false := by cases r <;> first | rfl | cases h

abbrev State := List Reg

def rget (s : State) (t : Nat) : Reg := s.getD t .dead
def rput (s : State) : Option Nat → Reg → State
  | none, _ => s
  | some d, r => s.set d r
def rputs (s : State) : List (Nat × Reg) → State
  | [] => s
  | (t, r) :: l => rputs (s.set t r) l

/-- Slots of which nothing is known. -/
def dds : Nat → List Reg → List Reg
  | 0, s => s
  | n + 1, s => .dead :: dds n s

inductive Opd where
  | t (n : Nat)
  | c (x : AV)

def Opd.reg (s : State) : Opd → Reg
  | .t n => rget s n
  | .c x => .val x
/-- The operand's value. -/
def Opd.av (s : State) (o : Opd) : Option AV :=
  match o.reg s with
  | .val x => some x
  | _ => none
def Opd.rd : Opd → List Nat
  | .t n => [n]
  | .c _ => []

inductive K where
  | mov (x : Opd)
  | pick (c a b : Opd)
  | bin (op : BinOp) (x y : Opd)
  | eqb (neg : Bool) (x y : Opd)
  | eqv (neg : Bool) (n : Nat) (x y : Opd)
  | un (op : UnOp) (x : Opd)
  | cv (k : IntKind) (x : Opd)
  | new (z : List AV) (kills : List Nat)
  | box (x : Opd) (kills : List Nat)
  | bld (z : List AV) (ps : List (Nat × Nat × Opd))
  | bls (n : Nat) (z : List AV) (ps : List (Nat × Nat × Opd))
  | adr (x d off : Nat)
  | ld (x d n : Nat) (one : Bool)
  | st (x d n : Nat) (v : Opd)
  | fld (x : Opd) (off n : Nat) (one : Bool)
  | ixa (x : Nat) (i : Opd) (k : Nat)
  | ixb (x : Nat) (i : Opd) (len k : Nat)
  | idx (x i : Opd) (len n : Nat) (one : Bool)
  | six (x i : Opd)
  | ext (x : Opd) (i : Nat)
  | len (x : Opd)
  | mx (xs : List Opd)
  | mn (xs : List Opd)
  | call (f : Nat) (xs : List Opd)
  | cpy (x : Nat)
  | tra (x : Nat)
  | frz (x : Nat)
  | mks (z : List AV) (n : Opd)
  | blo (k n : Nat) (z : List AV) (ps : List (Nat × Nat × Opd))
  | apd (ow : Bool) (x y : Opd) (k B : Nat)
  | sli (x : Opd) (lo hi mx : Option Opd) (k : Nat)
  | ixo (x d : Nat) (i : Opd) (k : Nat)
  | lno (x d : Nat)
  | isn (neg : Bool) (x d : Nat)
  | clo (f : Nat) (xs : List Opd)
  | nlo (k : Nat)
  | brw (f x d : Nat)
  | bdo (a : Opd) (x : Nat) (l : List Nat)
  | cln (f : Nat) (xs : List Opd) (l : List Nat)
  | stl (x v : Nat)
  | fdo (x : Nat)
  | exo (x : Nat)
  | cpo (x : Nat)
  | sub (x d : Nat) (lo hi : Option Opd) (k : Nat)
  | app (ow : Bool) (x d : Nat) (y : Opd) (k : Nat)
  | apb (ow : Bool) (x y d k : Nat)
  | slo (x : Nat) (hi : Opd) (k : Nat)
  | mkf (f x : Nat)
  | cal (f : Nat) (x : Opd) (xs : List Opd)
  | cao (f k : Nat) (x : Opd) (xs : List Opd)
  | bad

structure IOp where
  dst : Option Nat
  k : K
  g : Option (Nat × Bool) := none
  ks : List Nat := []

def o1 (d : Nat) (k : K) : IOp := ⟨some d, k, none, []⟩
def oN (k : K) : IOp := ⟨none, k, none, []⟩
def oG (d : Nat) (k : K) (g : Nat) (b : Bool) : IOp := ⟨some d, k, some (g, b), []⟩
def oM (d s : Nat) : IOp := ⟨some d, .mov (.t s), none, []⟩
def oC (d f : Nat) (l : List Nat) : IOp := ⟨some d, .call f (l.map .t), none, []⟩
def oB (d : Nat) (b : BinOp) (x y : Nat) : IOp := ⟨some d, .bin b (.t x) (.t y), none, []⟩

inductive ICode where
  | skip
  | region (drawn : Bool) (ops : List IOp)
  | seq (a b : ICode)
  | cond (c : Opd) (a b : ICode)
  | block (id : Nat) (c : ICode)
  | loop (c : ICode)
  | scope (c : ICode)
  | exit (id : Nat)
  | ret

inductive IRes where
  | tmp (t : Nat)
  | cell (t n : Nat) (one : Bool)

structure IFunc where
  params : Nat
  slots : Nat
  res : List IRes
  body : ICode

/-! ### Numbers -/

def cmpA (op : BinOp) (x y : Int) : Option Bool :=
  match op with
  | .eql => some (x == y)
  | .neq => some (x != y)
  | .lss => some (decide (x < y))
  | .leq => some (decide (x ≤ y))
  | .gtr => some (decide (x > y))
  | .geq => some (decide (x ≥ y))
  | _ => none

def bitsA (op : BinOp) (k : IntKind) (x y : Int) : Option Int :=
  match op with
  | .and => some (k.wrap (BitVec.ofInt k.bits x &&& BitVec.ofInt k.bits y).toNat)
  | .or => some (k.wrap (BitVec.ofInt k.bits x ||| BitVec.ofInt k.bits y).toNat)
  | .xor => some (k.wrap (BitVec.ofInt k.bits x ^^^ BitVec.ofInt k.bits y).toNat)
  | _ => none

def intA (op : BinOp) (k : IntKind) (x y : Int) : Option AV :=
  match op with
  | .add => some (.int k (k.wrap (x + y)))
  | .sub => some (.int k (k.wrap (x - y)))
  | .mul => some (.int k (k.wrap (x * y)))
  | .quo => if y = 0 then none else some (.int k (k.wrap (x.tdiv y)))
  | .rem => if y = 0 then none else some (.int k (x.tmod y))
  | .and | .or | .xor => (bitsA op k x y).map (.int k)
  | _ => (cmpA op x y).map .bool

def shiftA (op : BinOp) (k : IntKind) (x y : Int) : Option AV :=
  if y < 0 then none
  else match op with
    | .shl => some (.int k (k.wrap (x * 2 ^ (min y.toNat k.bits))))
    | .shr => some (.int k (x.fdiv (2 ^ (min y.toNat k.bits))))
    | _ => none

def isShift : BinOp → Bool
  | .shl | .shr => true
  | _ => false

def binA (op : BinOp) (x y : AV) : Option AV :=
  match x, y with
  | .int k a, .int k' b => if isShift op then shiftA op k a b else if k = k' then intA op k a b else none
  | _, _ => none

def unA (op : UnOp) (x : AV) : Option AV :=
  match op, x with
  | .neg, .int k n => some (.int k (k.wrap (0 - n)))
  | .not, .bool b => some (.bool (!b))
  | _, _ => none

/-- Cells of numbers, compared. -/
def eqCells : List AV → List AV → Option Bool
  | [], [] => some true
  | .int k a :: xs, .int k' b :: ys => if k = k' then (eqCells xs ys).map (fun r => a == b && r) else none
  | _, _ => none

def maxA (k : IntKind) : Int → List AV → Option Int
  | m, [] => some m
  | m, .int k' n :: l => if k = k' then maxA k (if n > m then n else m) l else none
  | _, _ => none
def minA (k : IntKind) : Int → List AV → Option Int
  | m, [] => some m
  | m, .int k' n :: l => if k = k' then minA k (if n < m then n else m) l else none
  | _, _ => none

/-- A value of n cells out of cells, from a place on. -/
def takeA (cs : List AV) (off n : Nat) (one : Bool) : Option AV :=
  if one then cs[off]? else if off + n ≤ cs.length then some (.agg ((cs.drop off).take n)) else none

/-- New cells laid over old ones. -/
def layA (cs : List AV) (off : Nat) (new : List AV) : Option (List AV) :=
  if off + new.length ≤ cs.length then some (cs.take off ++ new ++ cs.drop (off + new.length)) else none

def isData : AV → Bool
  | .int _ _ | .bool _ | .str _ | .nil | .sl _ _ => true
  | _ => false

/-- The cells of a value that has n cells. -/
def cellsA (x : AV) (n : Nat) : Option (List AV) :=
  match x with
  | .agg cs => if cs.length = n then some cs else none
  | .tup _ => none
  | .undef => none
  | .fresh _ _ _ => none
  | .frs _ _ _ _ => none
  | .pt _ => none
  | .fnc _ _ => none
  | x => if n = 1 then some [x] else none

def fillA (s : State) : List AV → List (Nat × Nat × Opd) → Option (List AV)
  | cs, [] => some cs
  | cs, (off, n, o) :: ps =>
    match o.av s with
    | none => none
    | some x => match cellsA x n with
      | none => none
      | some ys => match layA cs off ys with
        | none => none
        | some cs' => fillA s cs' ps

def avs (s : State) : List Opd → Option (List AV)
  | [] => some []
  | o :: l => match o.av s with
    | none => none
    | some x => match avs s l with
      | none => none
      | some xs => some (x :: xs)

abbrev Caller := Nat → List AV → Option AV

/-- A number. -/
def isI : AV → Bool
  | .int _ _ => true
  | _ => false
def flatInts : AV → Bool
  | .sl _ cs => cs.all isI
  | .int _ _ => true
  | .bool _ => true
  | .str _ => true
  | .undef => true
  | _ => false
/-- All slices in it hold numbers. -/
def intsOnly : AV → Bool
  | .agg cs => cs.all flatInts
  | x => flatInts x

/-- A fresh slice that nobody will write any more. -/
def thaw : AV → AV
  | .fresh _ n cs => .sl n cs
  | .frs (.st b) _ n cs => .agg [.bool b, .sl n cs]
  | .frs (.tp b) _ n cs => .tup [.sl n cs, .bool b]
  | x => x
def ownReg : AV → Reg
  | .fresh k n cs => .own k n cs
  | .frs b k n cs => .agn b k n cs
  | x => .val x
def killO : Opd → List (Nat × Reg)
  | .t n => [(n, .dead)]
  | .c _ => []
def replA (z : List AV) : Nat → List AV
  | 0 => []
  | n + 1 => z ++ replA z n
/-- One bound of a slice expression. -/
def bndA (s : State) (d : Nat) : Option Opd → Option Nat
  | none => some d
  | some o => match o.av s with
    | some (.int _ i) => if 0 ≤ i then some i.toNat else none
    | _ => none

/-- What an operation yields for its own slot, and what it lays into other slots. -/
def evK (F : Caller) (s : State) : K → Option (Reg × List (Nat × Reg))
  | .mov x => (x.av s).map fun v => (.val v, [])
  | .pick c a b =>
    match c.av s with
    | some (.bool true) => (a.av s).map fun v => (.val v, [])
    | some (.bool false) => (b.av s).map fun v => (.val v, [])
    | _ => none
  | .bin op x y =>
    match x.av s, y.av s with
    | some a, some b => (binA op a b).map fun v => (.val v, [])
    | _, _ => none
  | .eqb neg x y =>
    match x.av s, y.av s with
    | some (.bool a), some (.bool b) => some (.val (.bool (if neg then !(a == b) else a == b)), [])
    | _, _ => none
  | .eqv neg n x y =>
    match x.av s, y.av s with
    | some (.agg a), some (.agg b) => if a.length = n then (eqCells a b).map fun v => (.val (.bool (if neg then !v else v)), []) else none
    | _, _ => none
  | .un op x => match x.av s with
    | some a => (unA op a).map fun v => (.val v, [])
    | none => none
  | .cv k x => match x.av s with
    | some (.int _ n) => some (.val (.int k (k.wrap n)), [])
    | _ => none
  | .new z kills => some (.box z, kills.map fun t => (t, .dead))
  | .box x kills => match x.av s with
    | some (.agg cs) => some (.box cs, kills.map fun t => (t, .dead))
    | some x => if isData x then some (.box [x], kills.map fun t => (t, .dead)) else none
    | none => none
  | .bld z ps => (fillA s z ps).map fun cs => (.val (.agg cs), [])
  | .bls n z ps => (fillA s z ps).map fun cs => (.val (.sl n cs), [])
  | .adr x d off => match rget s x with
    | .box _ => if x = d then some (.ptr d off, []) else none
    | .ptr d' o => if d' = d then some (.ptr d (o + off), []) else none
    | .mem cs => some (.mem (cs.drop off), [])
    | _ => none
  | .ld x d n one => match rget s x with
    | .box cs => if x = d then (takeA cs 0 n one).map fun v => (.val v, []) else none
    | .ptr d' off => if d' = d then (match rget s d with
      | .box cs => (takeA cs off n one).map fun v => (.val v, [])
      | .own _ _ cs => (takeA cs off n one).map fun v => (.val v, [])
      | _ => none) else none
    | .mem cs => (takeA cs 0 n one).map fun v => (.val v, [])
    | _ => none
  | .st x d n v => match v.av s with
    | none => none
    | some a => match cellsA a n with
      | none => none
      | some ys => match rget s x with
        | .box cs => if x = d then (layA cs 0 ys).map fun cs' => (.dead, [(d, .box cs')]) else none
        | .ptr d' off => if d' = d then (match rget s d with
          | .box cs => (layA cs off ys).map fun cs' => (.dead, [(d, .box cs')])
          | .own k m cs => (layA cs off ys).map fun cs' => (.dead, [(d, .own k m cs')])
          | _ => none) else none
        | _ => none
  | .fld x off n one => match x.av s with
    | some (.agg cs) => (takeA cs off n one).map fun v => (.val v, [])
    | _ => none
  | .ixa x i k => match i.av s with
    | some (.int _ i) => (match rget s x with
      | .val (.sl n cs) => if 0 ≤ i ∧ i < n then some (.mem (cs.drop (i.toNat * k)), []) else none
      | _ => none)
    | _ => none
  | .ixb x i len k => match i.av s with
    | some (.int _ i) => (match rget s x with
      | .box _ => if 0 ≤ i ∧ i < len then some (.ptr x (i.toNat * k), []) else none
      | _ => none)
    | _ => none
  | .idx x i len n one => match x.av s, i.av s with
    | some (.agg cs), some (.int _ i) => if 0 ≤ i ∧ i < len then (takeA cs (i.toNat * n) n one).map fun v => (.val v, []) else none
    | _, _ => none
  | .six x i => match x.av s, i.av s with
    | some (.str b), some (.int _ i) => (if 0 ≤ i then b[i.toNat]? else none).map fun c => (.val (.int .u8 c.toNat), [])
    | _, _ => none
  | .ext x i => match x.av s with
    | some (.tup vs) => (vs[i]?).map fun v => (.val v, [])
    | _ => none
  | .len x => match x.av s with
    | some .nil => some (.val (.int .i64 0), [])
    | some (.sl n _) => some (.val (.int .i64 n), [])
    | _ => none
  | .mx xs => match avs s xs with
    | some (.int k n :: l) => (maxA k n l).map fun m => (.val (.int k m), [])
    | _ => none
  | .mn xs => match avs s xs with
    | some (.int k n :: l) => (minA k n l).map fun m => (.val (.int k m), [])
    | _ => none
  | .call f xs => match avs s xs with
    | some vs => (F f vs).map fun v => (.val (thaw v), [])
    | none => none
  | .clo f xs => match avs s xs with
    | some vs => (F f vs).map fun v => (ownReg v, [])
    | none => none
  | .brw f x d => match rget s x with
    | .dup d' => if d' = d then (match rget s d with
      | .own _ n cs => if cs.all (fun c => !isI c) then (match F f [.sl n cs] with
        | some y => if intsOnly (thaw y) then some (.val (thaw y), []) else none
        | none => none) else none
      | _ => none) else none
    | _ => none
  | .cpy x => match rget s x with
    | .val v => some (.val v, [])
    | .own _ _ _ => some (.dup x, [])
    | _ => none
  | .tra x => match rget s x with
    | .val v => some (.val v, [])
    | .own k n cs => some (.own k n cs, [(x, .dead)])
    | .agn b k n cs => some (.agn b k n cs, [(x, .dead)])
    | _ => none
  | .frz x => match rget s x with
    | .val v => some (.val v, [])
    | .own _ n cs => some (.val (.sl n cs), [(x, .val (.sl n cs))])
    | _ => none
  | .mks z n => match n.av s with
    | some (.int _ m) => if 0 ≤ m ∧ m ≤ 1048576 then some (.own z.length m.toNat (replA z m.toNat), []) else none
    | _ => none
  | .blo k n z ps => (fillA s z ps).map fun cs => (.own k n cs, [])
  | .apd ow x y k B => match y.av s with
    | some .nil => (match x.reg s with
      | .val .nil => some (.val .nil, [])
      | .own k' n cs => if k' = k then some (if ow then .own k n cs else .val (.sl n cs), killO x) else none
      | _ => none)
    | some (.sl m ys) => if ys.length = m * k then (match x.reg s with
      | .val .nil => if m ≤ B then some (if ow then .own k m ys else .val (.sl m ys), []) else none
      | .own k' n cs => if k' = k ∧ n + m ≤ B then some (if ow then .own k (n + m) (cs ++ ys) else .val (.sl (n + m) (cs ++ ys)), killO x) else none
      | _ => none) else none
    | _ => none
  | .sli x lo hi mx k => match x.av s with
    | some .nil => (match bndA s 0 mx, bndA s 0 hi, bndA s 0 lo with
      | some 0, some 0, some 0 => if mx.isSome → hi.isSome then some (.val .nil, []) else none
      | _, _, _ => none)
    | some (.sl n cs) => (match bndA s n mx, bndA s n hi, bndA s 0 lo with
      | some m, some h, some l => if l ≤ h ∧ h ≤ m ∧ m ≤ n ∧ (mx.isSome → hi.isSome) then some (.val (.sl (h - l) ((cs.drop (l * k)).take ((h - l) * k))), []) else none
      | _, _, _ => none)
    | _ => none
  | .ixo x d i k => match i.av s with
    | some (.int _ i) => (match rget s x with
      | .val (.sl n cs) => if 0 ≤ i ∧ i < n then some (.mem (cs.drop (i.toNat * k)), []) else none
      | .dup d' => if d' = d then (match rget s d with
        | .own k' n _ => if k' = k ∧ 0 ≤ i ∧ i < n then some (.ptr d (i.toNat * k), []) else none
        | _ => none) else none
      | _ => none)
    | _ => none
  | .lno x d => match rget s x with
    | .val .nil => some (.val (.int .i64 0), [])
    | .val (.sl n _) => some (.val (.int .i64 n), [])
    | .dup d' => if d' = d then (match rget s d with
      | .own _ n _ => some (.val (.int .i64 n), [])
      | _ => none) else none
    | _ => none
  | .isn neg x d => match rget s x with
    | .val .nil => some (.val (.bool (!neg)), [])
    | .val (.sl n _) => if 0 < n then some (.val (.bool neg), []) else none
    | .dup d' => if d' = d then (match rget s d with
      | .own _ n _ => if 0 < n then some (.val (.bool neg), []) else none
      | _ => none) else none
    | _ => none
  | .nlo k => some (.own k 0 [], [])
  | .bdo a x l => match a.av s with
    | some (.bool b) => (match rget s x with
      | .own k n cs => if l.all (fun t => isFirm (rget s t)) then some (.agn (.st b) k n cs, [(x, .dead)]) else none
      | _ => none)
    | _ => none
  | .cln f xs l => match avs s xs with
    | some vs => if l.all (fun t => isFirm (rget s t)) then (F f vs).map fun v => (ownReg v, []) else none
    | none => none
  | .stl x v => match rget s x with
    | .box cs => (match rget s v with
      | .agn (.st _) _ _ _ => if cs.length = 2 then some (.dead, [(x, .bxl v)]) else none
      | _ => none)
    | _ => none
  | .fdo x => match rget s x with
    | .agn (.st _) k n cs => some (.own k n cs, [(x, .dead)])
    | _ => none
  | .cpo x => some (.dup x, [])
  | .exo x => match rget s x with
    | .agn (.tp b) k n cs => some (.own k n cs, [(x, .val (.tup [.sl n [], .bool b]))])
    | _ => none
  | .sub x d lo hi k => match rget s x with
    | .dup d' => if d' = d then (match rget s d with
      | .own k' n _ => (match bndA s n hi, bndA s 0 lo with
        | some h, some l => if k' = k ∧ l ≤ h ∧ h ≤ n then some (.sub d k l h, []) else none
        | _, _ => none)
      | _ => none) else none
    | _ => none
  | .app ow x d y k => match rget s x with
    | .sub d' k' l h => if d' = d ∧ k' = k ∧ l = 0 then (match rget s d with
      | .own k'' n cs => if k'' = k ∧ h ≤ n then (match y.av s with
        | some (.sl m ys) => if ys.length = m * k ∧ h + m ≤ 1048576 then some (if ow then .own k (h + m) (cs.take (h * k) ++ ys) else .val (.sl (h + m) (cs.take (h * k) ++ ys)), [(d, .dead), (x, .dead)]) else none
        | _ => none) else none
      | _ => none) else none
    | _ => none
  | .apb ow x y d k => match rget s x with
    | .own k0 n cs => (match rget s y with
      | .sub d' k' l h => if d' = d ∧ k' = k ∧ k0 = k then (match rget s d with
        | .own k'' n' cs' => if k'' = k ∧ h ≤ n' ∧ n + (h - l) ≤ 1048576 then some (if ow then .own k (n + (h - l)) (cs ++ (cs'.drop (l * k)).take ((h - l) * k)) else .val (.sl (n + (h - l)) (cs ++ (cs'.drop (l * k)).take ((h - l) * k))), [(x, .dead)]) else none
        | _ => none) else none
      | _ => none)
    | _ => none
  | .slo x hi k => match hi.av s with
    | some (.int _ h) => (match rget s x with
      | .own k' n cs => if k' = k ∧ 0 ≤ h ∧ h ≤ n then some (.own k h.toNat (cs.take (h.toNat * k)), [(x, .dead)]) else none
      | _ => none)
    | _ => none
  | .mkf f x => match rget s x with
    | .box cs => some (.val (.fnc f cs), [(x, .mem cs)])
    | _ => none
  | .cal f x xs => match x.av s, avs s xs with
    | some (.fnc f' cs), some vs => if f' = f then (F f (vs ++ [.pt cs])).map fun v => (.val (thaw v), []) else none
    | _, _ => none
  | .cao f k x xs => match avs s xs with
    | some vs => (match x with
      | .t m => (match rget s m with
        | .own k' n cs => (F f (.fresh k' n cs :: vs)).map fun v => (ownReg v, [(m, .dead)])
        | _ => none)
      | .c (.sl 0 []) => (F f (.fresh k 0 [] :: vs)).map fun v => (ownReg v, [])
      | _ => none)
    | none => none
  | .bad => none

/-- Is the operation carried out? 'none': that is not known. -/
def wantA (s : State) : Option (Nat × Bool) → Option Bool
  | none => some true
  | some (t, b) => match rget s t with
    | .val (.bool c) => some (c == b)
    | .val .undef => some false
    | _ => none

def kill (s : State) (ks : List Nat) : State := rputs s (ks.map fun t => (t, .dead))

def evOp0 (F : Caller) (o : IOp) (s : State) : Option State :=
  match wantA s o.g with
  | none => none
  | some false => some (rput s o.dst (.val .undef))
  | some true => match evK F s o.k with
    | none => none
    | some (r, l) => some (rput (rputs s l) o.dst r)
def evOp (F : Caller) (o : IOp) (s : State) : Option State := evOp0 F o (kill s o.ks)

def evOps (F : Caller) : List IOp → State → Option State
  | [], s => some s
  | o :: l, s => match evOp F o s with
    | none => none
    | some s' => evOps F l s'

inductive Ex where
  | norm
  | exit (id : Nat)
  | ret

def condA (s : State) (c : Opd) : Option Bool :=
  match c.av s with
  | some (.bool b) => some b
  | _ => none

def evC (F : Caller) : Nat → ICode → State → Option (Ex × State)
  | 0, _, _ => none
  | _ + 1, .skip, s => some (.norm, s)
  | _ + 1, .region _ ops, s => (evOps F ops s).map fun s' => (.norm, s')
  | n + 1, .seq a b, s => match evC F n a s with
    | some (.norm, s') => evC F n b s'
    | r => r
  | n + 1, .cond c a b, s => match condA s c with
    | some true => evC F n a s
    | some false => evC F n b s
    | none => none
  | n + 1, .block id c, s => match evC F n c s with
    | some (.exit i, s') => if i = id then some (.norm, s') else some (.exit i, s')
    | r => r
  | n + 1, .loop c, s => match evC F n c s with
    | some (.norm, s') => evC F n (.loop c) s'
    | r => r
  | n + 1, .scope c, s => evC F n c s
  | _ + 1, .exit id, s => some (.exit id, s)
  | _ + 1, .ret, s => some (.ret, s)

/-- The value of one result. -/
def resA (s : State) : IRes → Option AV
  | .tmp t => match rget s t with
    | .val x => some x
    | .own _ n cs => some (.sl n cs)
    | _ => none
  | .cell t n one => match rget s t with
    | .box cs => takeA cs 0 n one
    | _ => none

def ressA (s : State) : List IRes → Option (List AV)
  | [] => some []
  | r :: l => match resA s r with
    | none => none
    | some x => match ressA s l with
      | none => none
      | some xs => some (x :: xs)

/-- A single result that belongs to the call alone goes to the caller as such. -/
def freshA (s : State) : List IRes → Option AV
  | [.tmp t] => match rget s t with
    | .own k n cs => some (.fresh k n cs)
    | .agn b k n cs => some (.frs b k n cs)
    | _ => none
  | [.tmp t, .tmp u] => match rget s t with
    | .own k n cs => (match rget s u with
      | .val (.bool b) => some (.frs (.tp b) k n cs)
      | _ => none)
    | _ => none
  | [.cell t n one] => match rget s t with
    | .bxl d => (match rget s d with
      | .agn (.st b) k m cs => if n = 2 ∧ one = false then some (.frs (.st b) k m cs) else none
      | _ => none)
    | _ => none
  | _ => none

def resultA (s : State) (l : List IRes) : Option AV :=
  match freshA s l with
  | some x => some x
  | none =>
  match ressA s l with
  | some [x] => some x
  | some xs => some (.tup xs)
  | none => none

/-- How an argument lies in its slot. -/
def argReg : AV → Reg
  | .pt cs => .mem cs
  | .fresh k n cs => .own k n cs
  | x => .val x

def initA (fn : IFunc) (args : List AV) : State := args.map argReg ++ List.replicate (fn.slots - args.length) .dead

def evF (prog : Nat → Option IFunc) : Nat → Caller
  | 0, _, _ => none
  | n + 1, f, args => match prog f with
    | none => none
    | some fn => if args.length = fn.params then (match evC (evF prog n) n fn.body (initA fn args) with
      | some (.exit _, _) => none
      | some (_, s) => resultA s fn.res
      | none => none) else none

end Go.Ai
