/- Closed runs over a heap of numbered objects: regions, code and functions, evaluated. -/
import Derived.Test.YtokngfogomhmdaaGreatHa7
import Derived.Test.YtokngfogomhmdaaGreatAbs10
namespace Go.Hp
open Go.Ai Go.RowKit
noncomputable section

/-! ### Regions -/

def memL (n : Nat) (l : List Nat) : Bool := List.rec (motive := fun _ => Bool) false (fun m _ ih => Bool.rec (motive := fun _ => Bool) ih true (Nat.beq m n)) l

def dstOk (n : Nat) (d : Option Nat) : Bool := Option.rec (motive := fun _ => Bool) true (fun d => Nat.blt d n) d
def putE (ρ : En) (d : Option Nat) (v : HV) : En := Option.rec (motive := fun _ => En) ρ (fun d => ρ.set d v) d

def guardT (ops : Array Oper) (g : Option (Nat × Bool)) : Option (Nat × Bool) :=
  match g with
  | none => none
  | some (j, b) => match ops[j]? with
    | some o => match o.dst with
      | some t => some (t, b)
      | none => none
    | none => none
/-- Whether an operation is wanted; none: it cannot be told. -/
def wantH (ρ : En) (ops : Array Oper) (g : Option (Nat × Bool)) : Option Bool :=
  match g with
  | none => some true
  | some _ => bO (guardT ops g) fun q => match ρ.get q.1 with
    | some (.b x) => some (x == q.2)
    | some .u => some false
    | _ => none

/-- What has been found for a row of operations. -/
structure MO where
  run : En → HS → Option (En × HS)
def oPlain (k : KC) (call : HCaller) (d : Option Nat) (ρ : En) (s : HS) : Option (En × HS) := bO (k.run call ρ s) fun r => some (putE ρ d r.1, r.2)
def oWant (k : KC) (call : HCaller) (d : Option Nat) (ops : Array Oper) (g : Option (Nat × Bool)) (ρ : En) (s : HS) : Option (En × HS) :=
  bO (wantH ρ ops g) fun b => cnd b (oPlain k call d ρ s) (some (putE ρ d .u, s))
def evOp (P : Program) (call : HCaller) (n : Nat) (ops : Array Oper) (o : Oper) : MO :=
  cnd (dstOk n o.dst) (match o.guard with | none => ⟨oPlain (evK P o.op) call o.dst⟩ | some q => ⟨oWant (evK P o.op) call o.dst ops (some q)⟩) ⟨fun _ _ => none⟩
def oThen (a b : MO) (ρ : En) (s : HS) : Option (En × HS) := bO (a.run ρ s) fun r => b.run r.1 r.2
def evOps (P : Program) (call : HCaller) (n : Nat) (ops : Array Oper) (l : List Oper) : MO :=
  List.rec (motive := fun _ => MO) ⟨fun ρ s => some (ρ, s)⟩ (fun o _ ih => ⟨oThen (evOp P call n ops o) ih⟩) l

/-! A region that draws its order: each operation sees what those that it waits for have done. -/

/-- What an operation of such a region has done. -/
structure Rec where
  d : Option Nat
  v : HV
  ks : List Nat
  h : Tr HO
  vis : Option (List Nat)
  tm : List Nat

def opTmps (x : List Operand) : List Nat :=
  match x with
  | [] => []
  | .tmp t :: l => t :: opTmps l
  | _ :: l => opTmps l
def tmpsOf (ops : Array Oper) (o : Oper) : List Nat :=
  match guardT ops o.guard with
  | some q => q.1 :: opTmps o.op.operands.toList
  | none => opTmps o.op.operands.toList
def idOf (v : Option HV) : List Nat :=
  match v with
  | some (.p a _) => [a]
  | some (.s a _ _ _) => [a]
  | some (.m a) => [a]
  | _ => []
def idsOf (ρ : En) (l : List Operand) : List Nat := List.rec (motive := fun _ => List Nat) [] (fun x _ ih => idOf (opH ρ x) ++ ih) l
def applyE (h : Tr HO) (r : Rec) : Tr HO := List.rec (motive := fun _ => Tr HO → Tr HO) (fun h => h) (fun a _ ih h => ih (h.set a (r.h.get a))) r.ks h
def hideE (h : Tr HO) (r : Rec) : Tr HO := List.rec (motive := fun _ => Tr HO → Tr HO) (fun h => h) (fun a _ ih h => ih (h.set a none)) r.ks h
/-- What those have done who are (or are not) in a list; the first of the records is number i. -/
def appAnc (anc : List Nat) (i : Nat) (recs : List Rec) (h : Tr HO) : Tr HO :=
  List.rec (motive := fun _ => Nat → Tr HO → Tr HO) (fun _ h => h) (fun r _ ih i h => ih (Nat.succ i) (cnd (memL i anc) (applyE h r) h)) recs i h
def hidAnc (anc : List Nat) (i : Nat) (recs : List Rec) (h : Tr HO) : Tr HO :=
  List.rec (motive := fun _ => Nat → Tr HO → Tr HO) (fun _ h => h) (fun r _ ih i h => ih (Nat.succ i) (cnd (memL i anc) h (hideE h r))) recs i h
/-- The heap as the operations that are waited for have left it, without what others have touched. -/
def viewH (anc : List Nat) (h0 : Tr HO) (recs : List Rec) : Tr HO := hidAnc anc 0 recs (appAnc anc 0 recs h0)
def onlyH (h : Tr HO) (l : List Nat) : Tr HO := List.rec (motive := fun _ => Tr HO) .e (fun a _ ih => ih.set a (h.get a)) l
def onlyL (ρ : En) (l : List Nat) : List (Nat × HV) := List.rec (motive := fun _ => List (Nat × HV)) [] (fun t _ ih => Option.rec (motive := fun _ => List (Nat × HV)) ih (fun x => (t, x) :: ih) (ρ.get t)) l
def onlyE (ρ : En) (l : List Nat) : En := ⟨onlyL ρ l, .e, 0⟩
def inOpt (d : Option Nat) (l : List Nat) : Bool := match d with | some t => memL t l | none => false
def sameOpt (d d' : Option Nat) : Bool := match d, d' with | some t, some t' => Nat.beq t t' | _, _ => false
def disj (lg l : List Nat) : Bool := List.rec (motive := fun _ => Bool) true (fun a _ ih => cnd (memL a l) false ih) lg
/-- Two operations of which neither waits for the other (the second one has touched lg). -/
def apartR (r r' : Rec) (lg : List Nat) : Bool :=
  !inOpt r.d r'.tm && !inOpt r'.d r.tm && !sameOpt r.d r'.d && (match r.vis with | none => lg.isEmpty | some l => disj lg l)
def apartAll (anc : List Nat) (i : Nat) (recs : List Rec) (r' : Rec) (lg : List Nat) : Bool :=
  List.rec (motive := fun _ => Nat → Bool) (fun _ => true) (fun r _ ih i => cnd (memL i anc || apartR r r' lg) (ih (Nat.succ i)) false) recs i
def visOf (ρ : En) (o : Oper) : Option (List Nat) := cnd (isCall o.op) none (some (idsOf ρ o.op.operands.toList))
def seen (h : Tr HO) (vis : Option (List Nat)) : Tr HO := match vis with | none => h | some l => onlyH h l
def recOf (P : Program) (call : HCaller) (ops : Array Oper) (ρ : En) (h0 : Tr HO) (nx : Nat) (recs : List Rec) (anc : List Nat) (o : Oper) : Option (Rec × Nat × List Nat) :=
  bO (wantH ρ ops o.guard) fun b => cnd b
    (bO ((evK P o.op).run call (onlyE ρ (tmpsOf ops o)) ⟨seen (viewH anc h0 recs) (visOf ρ o), nx, []⟩) fun r =>
        some (⟨o.dst, r.1, r.2.lg ++ List.range' nx (r.2.nx - nx), r.2.h, visOf ρ o, tmpsOf ops o⟩, r.2.nx, r.2.lg))
    (some (⟨o.dst, .u, [], .e, some [], tmpsOf ops o⟩, nx, []))
def appAll (recs : List Rec) (h : Tr HO) : Tr HO := List.rec (motive := fun _ => Tr HO → Tr HO) (fun h => h) (fun r _ ih h => ih (applyE h r)) recs h
def evD (P : Program) (call : HCaller) (n : Nat) (ops : Array Oper) (h0 : Tr HO) (lg0 : List Nat) : List Oper → List (List Nat) → En → Nat → List Nat → List Rec → Option (En × HS)
  | [], _, ρ, nx, lg, recs => some (ρ, ⟨appAll recs h0, nx, lg ++ lg0⟩)
  | o :: l, anc :: ancs, ρ, nx, lg, recs => bO (recOf P call ops ρ h0 nx recs anc o) fun r =>
      whenH (dstOk n o.dst && apartAll anc 0 recs r.1 r.2.2) <| evD P call n ops h0 lg0 l ancs (putE ρ o.dst r.1.v) r.2.1 (r.2.2 ++ lg) (recs ++ [r.1])
  | _ :: _, [], _, _, _, _ => none
def evDraw (P : Program) (call : HCaller) (n : Nat) (ops : Array Oper) (ρ : En) (s : HS) : Option (En × HS) :=
  whenH (backOk ops.toList) (evD P call n ops s.h s.lg ops.toList (ancGo ops.toList []) ρ s.nx [] [])
def evR (P : Program) (call : HCaller) (n : Nat) (ops : Array Oper) (draw : Bool) : MO := cnd draw ⟨evDraw P call n ops⟩ (evOps P call n ops ops.toList)

/-! ### Code and functions -/

abbrev RC := Option (Ex × En × HS)
/-- What has been found for a piece of code. -/
structure MC where
  run : En → HS → RC

def thenH (r : RC) (k : En → HS → RC) : RC := bO r fun q => Ex.rec (motive := fun _ => RC) (k q.2.1 q.2.2) (fun _ => some q) (some q) q.1
def inBlockH (id : Nat) (r : RC) : RC := bO r fun q => Ex.rec (motive := fun _ => RC) (some q) (fun i => cnd (Nat.beq i id) (some (.norm, q.2)) (some q)) (some q) q.1
def asL {α : Type} (o : Option HO) (k : En → Nat → List Nat → Code → Code → LoopState → Option Code → Option α) : Option α := match o with | some (.l ρ n ps as bd st j) => k ρ n ps as bd st j | _ => none
def jumpOf : Option Code → Option Ex
  | none => some .norm
  | some .ret => some .ret
  | some (.exit id) => some (.exit id)
  | _ => none
def jumpTo : Ex → Option Code
  | .norm => none
  | .ret => some .ret
  | .exit id => some (.exit id)

def cReg (m : MO) (ρ : En) (s : HS) : RC := bO (m.run ρ s) fun r => some (.norm, r.1.flush, r.2)
def cSeq (a b : MC) (ρ : En) (s : HS) : RC := thenH (a.run ρ s) b.run
def cCond (x : Operand) (a b : MC) (ρ : En) (s : HS) : RC := bO (opH ρ x) fun v => asB v fun t => (cnd t a b).run ρ s
def cBlock (id : Nat) (a : MC) (ρ : En) (s : HS) : RC := inBlockH id (a.run ρ s)
def cLoop (f : Nat) (a : MC) : En → HS → RC := Nat.rec (motive := fun _ => En → HS → RC) (fun _ _ => none) (fun _ ih ρ s => thenH (a.run ρ s) ih) f
def notBusy : LoopState → Bool
  | .busy => false
  | _ => true
def isFn (v : HV) : Bool := match v with | .f _ _ _ => true | _ => false
def cRange (call : HCaller) (n : Nat) (f : Operand) (ps : List Nat) (as bd : Code) (ρ : En) (s : HS) : RC :=
  bO (opH ρ f) fun fv => whenH (isFn fv) <| bO (call fv [.y s.nx] (newS s (.l ρ n ps as bd .ready none))) fun r =>
      asL (r.2.h.get s.nx) fun ρ1 n1 ps1 as1 bd1 st j => whenH (notBusy st) <| bO (jumpOf j) fun ex => some (ex, ρ, setS r.2 s.nx (.l ρ1 n1 ps1 as1 bd1 .exhausted j))
def evC (P : Program) (call : HCaller) (n : Nat) (rd : Bool) (fuel : Nat) (c : Code) : MC :=
  Code.rec (motive := fun _ => MC) ⟨fun ρ s => some (.norm, ρ, s)⟩ (fun _ ops draw => ⟨cReg (evR P call n ops draw)⟩) (fun _ _ a b => ⟨cSeq a b⟩) (fun x _ _ a b => ⟨cCond x a b⟩) (fun id _ a => ⟨cBlock id a⟩) (fun _ a => ⟨cLoop fuel a⟩)
    (fun f ps as bd _ _ => cnd rd ⟨fun _ _ => none⟩ ⟨cRange call n f ps.toList as bd⟩) (fun id => ⟨fun ρ s => some (.exit id, ρ, s)⟩) (fun _ a => a) (fun _ => ⟨fun ρ s => some (.norm, ρ, s)⟩) (fun _ => ⟨fun _ _ => none⟩) ⟨fun ρ s => some (.ret, ρ, s)⟩ (fun _ => ⟨fun _ _ => none⟩) c

def initL : List HV → Nat → List (Nat × HV) → List (Nat × HV)
  | [], _, l => l
  | x :: xs, i, l => initL xs (Nat.succ i) ((i, x) :: l)
def resH (P : Program) (ρ : En) (s : HS) : List ResultVar → Option (List HV)
  | [] => some []
  | .tmp t :: l => bO (ρ.get t) fun v => bO (resH P ρ s l) fun vs => some (v :: vs)
  | .cell t ty :: l => bO (ρ.get t) fun v => asP v fun b off => asC (s.h.get b) fun cs => bO (szP P ty) fun q => bO (takeF cs off q.1 q.2) fun v => bO (resH P ρ s l) fun vs => some (v :: vs)
def retH (l : List HV) : HV := match l with | [x] => x | l => .t l
def setsE : List Nat → List HV → Nat → En → Option En
  | [], [], _, ρ => some ρ
  | p :: ps, x :: xs, n, ρ => whenH (Nat.blt p n) (setsE ps xs n (ρ.set p x))
  | _, _, _, _ => none
def notNG (f : Func) : Bool := !(f.name == "runtime.NumGoroutine")
def isNorm (e : Ex) : Bool := Ex.rec (motive := fun _ => Bool) true (fun _ => false) true e
def isEx0 (e : Ex) : Bool := Ex.rec (motive := fun _ => Bool) true (fun _ => false) false e
def isReady : LoopState → Option Code → Bool
  | .ready, none => true
  | _, _ => false

/-- What has been found for a function. -/
structure MF where
  run : List HV → HS → RH
def fRun (P : Program) (n ms : Nat) (res : List ResultVar) (c : MC) (l : List HV) (s : HS) : RH :=
  whenH (Nat.ble (lenF l) n) <| bO (c.run (En.flush ⟨initL l 0 [], .e, ms⟩) s) fun r => whenH (isNorm r.1) <| bO (resH P r.2.1 r.2.2 res) fun vs => some (retH vs, r.2.2)
def evFn (P : Program) (call : HCaller) (fuel : Nat) (mk : Nat → Nat) (fn : Nat) : MF :=
  match P.funcs[fn]? with
  | some F => match F.body with
    | some c => cnd (notNG F) ⟨fRun P F.ntmps (mk fn) F.results.toList (evC P call F.ntmps false fuel c)⟩ ⟨fun _ _ => none⟩
    | none => ⟨fun _ _ => none⟩
  | none => ⟨fun _ _ => none⟩
/-- A round of a loop over a function. -/
def roundH (P : Program) (call : HCaller) (fuel : Nat) (b : Nat) (args : List HV) (s : HS) : RH :=
  asL (s.h.get b) fun ρ n ps as bd st j => whenH (isReady st j) <| bO (setsE ps args n ρ) fun ρ' =>
      bO ((evC P call n true fuel as).run ρ' s) fun r => whenH (isEx0 r.1) <|
        asL (r.2.2.h.get b) fun ρ1 n1 ps1 as1 bd1 st1 j1 => whenH (isReady st1 j1) <|
          bO ((evC P call n true fuel bd).run r.2.1 (setS r.2.2 b (.l ρ1 n1 ps1 as1 bd1 .busy none))) fun q =>
            asL (q.2.2.h.get b) fun ρ2 n2 ps2 as2 bd2 _ _ => some (.b (jumpTo q.1).isNone, setS q.2.2 b (.l ρ2 n2 ps2 as2 bd2 (match q.1 with | .norm => .ready | _ => .done) (jumpTo q.1)))
/-- A call: of a function, or of a loop's body. -/
def callStep (P : Program) (call : HCaller) (fuel : Nat) (mk : Nat → Nat) (fv : HV) (args : List HV) (s : HS) : RH :=
  match fv with
  | .f fn fs cs => (evFn P call fuel mk fn).run (fs ++ args ++ cs) s
  | .y b => roundH P call fuel b args s
  | _ => none
def evF (P : Program) (fuel : Nat) (mk : Nat → Nat) (d : Nat) : HCaller :=
  Nat.rec (motive := fun _ => HCaller) (fun _ _ _ => none) (fun _ ih fv args s => callStep P ih fuel mk fv args s) d
end
end Go.Hp
