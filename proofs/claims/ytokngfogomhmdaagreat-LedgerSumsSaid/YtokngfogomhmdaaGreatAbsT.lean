/- The program's functions in the intermediate language, read off the program's own text; what the text does not say is given by hand. -/
import Derived.Test.YtokngfogomhmdaaGreatAbs14
namespace Go.Ai

/-- A function of the program, and what its text does not say: the slots whose variables are pointed into, with the pointers (under 1000: slices that are handed on; 1001: slices that are lent for good; 1002: results that are to be owned; 1003: structs with an owned slice); operations by hand. -/
structure Fx where
  fn : Func
  params : Nat
  slots : Nat
  res : List IRes
  rs : List (Nat × List Nat)
  ex : List (Nat × K)

noncomputable def fx (fn : Func) (n m : Nat) (r : List IRes) (rs : List (Nat × List Nat)) (ex : List (Nat × K)) : Fx := ⟨fn, n, m, r, rs, ex⟩

def inL (n : Nat) : List Nat → Bool
  | [] => false
  | m :: l => cond (Nat.beq m n) true (inL n l)
def lk {α : Type} : List (Nat × α) → Nat → Option α
  | [], _ => none
  | (n, x) :: l, f => cond (Nat.beq n f) (some x) (lk l f)
def rootT (t : Nat) : List (Nat × List Nat) → Option Nat
  | [] => none
  | (r, l) :: m => cond (inL t l) (some r) (rootT t m)
def rootF (t : Nat) (m : List (Nat × List Nat)) : Option Nat := match rootT t m with
  | some r => cond (Nat.ble 1000 r) none (some r)
  | none => none
def Fx.roots (x : Fx) : List (Nat × Nat) := x.rs.flatMap fun p => cond (Nat.ble 1000 p.1) [] (p.2.map fun t => (t, p.1))
def Fx.has (x : Fx) (k d : Nat) : Bool := match lk x.rs k with | some l => inL d l | none => false

def cA : Value → AV
  | .int k n => .int k n
  | .bool b => .bool b
  | .string s => .str s
  | .slice none _ _ => .sl 0 []
  | _ => .undef
def opT : Operand → Opd
  | .tmp t => .t t
  | .const v => .c (cA v)
  | _ => .c .undef
def opN : Operand → Nat
  | .tmp t => t
  | _ => 0
def reps (z : List AV) : Nat → List AV
  | 0 => []
  | n + 1 => z ++ reps z n

section
variable (P : Program)
def zeroT (t : TypeId) : List AV := match P.info? t with | some { zero := some v, .. } => v.cells.toList.map cA | _ => []
def oneT (t : TypeId) : Bool := match P.underlying t with | some d => !(isAggD d) | none => true
def elemT (t : TypeId) : Nat := match P.underlying t with | some (.slice e) => e | some (.array _ e) => e | _ => 0
def fieldT (t : TypeId) (i : Nat) : Nat × Nat := match P.underlying t with | some (.struct fs) => (match fs[i]? with | some f => (f.offset, f.type) | none => (0, 0)) | _ => (0, 0)

def callT (x : Fx) (d : Nat) (f : Nat) (l : List Operand) : K :=
  cond (x.has 1002 d) (.clo f (l.map opT)) (.call f (l.map opT))
def rootL (x : Fx) (t : Nat) : Nat := match rootF t x.rs with | some r => cond (Nat.beq r x.slots) t r | none => t
def kT (x : Fx) (d : Nat) (ty : TypeId) (op : Op) : K :=
  match op with
  | .move y => cond (x.has 1000 d) (.tra (opN y)) (cond (x.has 1001 d) (.frz (opN y)) (match rootF d x.rs with | some _ => .cpy (opN y) | none => .mov (opT y)))
  | .assign y => cond (x.has 1000 d) (match y with | .tmp t => .tra t | _ => .nlo (P.cellsOf (elemT P ty))) (.mov (opT y))
  | .pick c a b => .pick (opT c) (opT a) (opT b)
  | .binOp o t a b _ => cond (isBoolT P t) (.eqb (o == .neq) (opT a) (opT b)) (.bin o (opT a) (opT b))
  | .unOp o _ a => .un o (opT a)
  | .convert _ t a => (match P.underlying t with | some (.int k) => .cv k (opT a) | _ => .bad)
  | .alloc t => .new (zeroT P t) ((lk x.rs d).getD [])
  | .box _ a => .box (opT a) ((lk x.rs d).getD [])
  | .build t ps => .bld (zeroT P t) (ps.toList.map fun p => ((fieldT P t p.1).1, P.cellsOf (fieldT P t p.1).2, opT p.2))
  | .buildSlice t n ps => (fun k (z : List AV) (qs : List (Nat × Nat × Opd)) => cond (x.has 1002 d) (.blo k n z qs) (.bls n z qs)) (P.cellsOf (elemT P t)) (reps (zeroT P (elemT P t)) n) (ps.toList.map fun p => (p.1 * P.cellsOf (elemT P t), P.cellsOf (elemT P t), opT p.2))
  | .fieldAddr t a i => .adr (opN a) ((rootF d x.rs).getD x.slots) (fieldT P t i).1
  | .load t a => .ld (opN a) (rootL x (opN a)) (P.cellsOf t) (oneT P t)
  | .store t a v => cond (x.has 1003 (opN v)) (.stl (opN a) (opN v)) <| .st (opN a) (rootL x (opN a)) (P.cellsOf t) (opT v)
  | .field t a i => .fld (opT a) (fieldT P t i).1 (P.cellsOf (fieldT P t i).2) (oneT P (fieldT P t i).2)
  | .indexAddr t a i => (match rootF (opN a) x.rs with | some r => .ixo (opN a) r (opT i) (P.cellsOf (elemT P t)) | none => .ixa (opN a) (opT i) (P.cellsOf (elemT P t)))
  | .index _ a i => .six (opT a) (opT i)
  | .extract a i => .ext (opT a) i
  | .makeSlice t n _ => .mks (zeroT P (elemT P t)) (opT n)
  | .slice t a lo hi m => .sli (opT a) (lo.map opT) (hi.map opT) (m.map opT) (P.cellsOf (elemT P t))
  | .call { callee := .value (.func f), args := l, argTypes := _ } => callT x d f l.toList
  | .call { callee := .builtin .len, args := l, argTypes := _ } => (match l.toList with | a :: _ => (match a with | .tmp t => (match rootF t x.rs with | some r => .lno t r | none => .len (.t t)) | _ => .len (opT a)) | [] => .bad)
  | .call { callee := .builtin .max, args := l, argTypes := _ } => .mx (l.toList.map opT)
  | .call { callee := .builtin .append, args := l, argTypes := ts } => (match l.toList, ts.toList with
    | a :: b :: _, t :: _ => .apd (x.has 1002 d) (opT a) (opT b) (P.cellsOf (elemT P t)) (cond (isIntT P (elemT P t)) 35184372088832 1048576)
    | _, _ => .bad)
  | _ => .bad
def ioT (x : Fx) (ops : Array Oper) (o : Oper) : IOp :=
  (fun (k : K) => ⟨o.dst, k, o.guard.map fun p => (((ops[p.1]?).bind (·.dst)).getD 0, p.2), match k with | .new _ _ => [] | .box _ _ => [] | .bdo _ _ _ => [] | .cln _ _ _ => [] | _ => (match o.dst with | some d => (lk x.rs d).getD [] | none => [])⟩)
    (match o.dst with | some d => (match lk x.ex d with | some k => k | none => kT P x d o.type o.op) | none => kT P x x.slots o.type o.op)
def chd (i : Nat) : Code → Code
  | .seq a b => cond (Nat.beq i 0) a b
  | .cond _ a b => cond (Nat.beq i 0) a b
  | .block _ c => c
  | .loop c => c
  | .scope c => c
  | _ => .skip
/-- The code at the place p: 1 the whole, 2p and 2p+1 what p is made of. -/
noncomputable def cAt (f : Func) (n : Nat) : Nat → Code :=
  Nat.rec (motive := fun _ => Nat → Code) (fun _ => .skip) (fun _ ih p => cond (Nat.ble p 1) (match f.body with | some c => c | none => .skip) (chd (Nat.mod p 2) (ih (Nat.div p 2)))) n
def cS (x : Fx) (ih : Nat → ICode) (p : Nat) : Code → ICode
  | .region _ ops draw => .region draw (ops.toList.map (ioT P x ops))
  | .seq _ _ => .seq (ih (Nat.mul 2 p)) (ih (Nat.add (Nat.mul 2 p) 1))
  | .cond c _ _ => .cond (opT c) (ih (Nat.mul 2 p)) (ih (Nat.add (Nat.mul 2 p) 1))
  | .block i _ => .block i (ih (Nat.mul 2 p))
  | .loop _ => .loop (ih (Nat.mul 2 p))
  | .scope _ => .scope (ih (Nat.mul 2 p))
  | .exit i => .exit i
  | .ret => .ret
  | _ => .skip
noncomputable def cP (x : Fx) (n : Nat) : Nat → ICode :=
  Nat.rec (motive := fun _ => Nat → ICode) (fun _ => .skip) (fun _ ih p => cS P x ih p (cAt x.fn 99 p)) n
noncomputable def iF (x : Fx) : IFunc := ⟨x.params, x.slots, x.res, cP P x 99 1⟩

noncomputable def tOk (p : Nat × Fx) : Bool := match P.funcs[p.1]? with | some fn => fnOk P p.2.roots fn (iF P p.2) | none => false
end
theorem lk_mem {α : Type} {f : Nat} {x : α} : ∀ {l : List (Nat × α)}, lk l f = some x → (f, x) ∈ l
  | [], h => by cases h
  | (g, y) :: l, h => by
    unfold lk at h
    cases hg : Nat.beq g f
    · rw [hg] at h; exact List.mem_cons_of_mem _ (lk_mem h)
    · rw [hg] at h; cases h; rw [Nat.eq_of_beq_eq_true hg]; exact List.mem_cons_self
theorem tOk_all {P : Program} {l : List (Nat × Fx)} (h : l.all (tOk P) = true) (f : Nat) (ifn : IFunc) (hf : (lk l f).map (iF P) = some ifn) : ∃ fn roots, P.funcs[f]? = some fn ∧ fnOk P roots fn ifn = true := by
  cases hl : lk l f with
  | none => rw [hl] at hf; cases hf
  | some p =>
    rw [hl] at hf
    cases hf
    have h1 := List.all_eq_true.1 h _ (lk_mem hl)
    unfold tOk at h1
    split at h1
    · exact ⟨_, _, by assumption, h1⟩
    · cases h1

end Go.Ai
