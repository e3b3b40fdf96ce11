/- Texts of the proof of RootSquares, packed by pack.py: part 1 of 18. -/
import Derived.Orders
import Derived.Below
namespace Go.Ai
open Go.IntKind (i64 u64 u32)
inductive Tag where
 | st (b:Bool)
 | tp (b:Bool)
inductive AV where
 | int (k:IntKind) (n:Int)
 | bool (b:Bool)
 | str (s:ByteArray)
 | agg (cs:List AV)
 | nil
 | sl (n:Nat) (cs:List AV)
 | tup (vs:List AV)
 | undef
 | fresh (k n:Nat) (cs:List AV)
 | frs (b:Tag) (k n:Nat) (cs:List AV)
 | pt (cs:List AV)
 | fnc (f:Nat) (cs:List AV)
def AV.cells:AV->List AV
 | .agg cs=>cs
 | x=>[x]
inductive Reg where
 | val (x:AV)
 | box (cs:List AV)
 | ptr (d off:Nat)
 | mem (cs:List AV)
 | own (k n:Nat) (cs:List AV)
 | agn (b:Tag) (k n:Nat) (cs:List AV)
 | bxl (d:Nat)
 | dup (d:Nat)
 | sub (d k l h:Nat)
 | dead
def Vc:Reg->Bool
 | .ptr _ _=>true
 | .dup _=>true
 | .sub _ _ _ _=>true
 | .bxl _=>true
 | _=>false
def Vy:Reg->Bool
 | .val _=>true
 | .box _=>true
 | .mem _=>true
 | .own _ _ _=>true
 | .agn _ _ _ _=>true
 | _=>false
theorem Sh {r:Reg} (h:Vy r=true):Vc r=false:=by cases r <;> first | rfl | cases h
abbrev Zg:=List Reg
def Z7 (s:Zg) (t:Nat):Reg:=s.getD t .dead
def Wb (s:Zg):Option Nat->Reg->Zg
 | none,_=>s
 | some d,r=>s.set d r
def Qx (s:Zg):List (Nat × Reg)->Zg
 | []=>s
 | (t,r)::l=>Qx (s.set t r) l
def dds:Nat->List Reg->List Reg
 | 0,s=>s
 | n+1,s => .dead::dds n s
inductive Opd where
 | t (n:Nat)
 | c (x:AV)
def Opd.reg (s:Zg):Opd->Reg
 | .t n=>Z7 s n
 | .c x => .val x
def Opd.av (s:Zg) (o:Opd):Option AV :=
 match o.reg s with
 | .val x=>some x
 | _=>none
def Opd.rd:Opd->List Nat
 | .t n=>[n]
 | .c _=>[]
inductive K where
 | mov (x:Opd)
 | pick (c a b:Opd)
 | bin (op:BinOp) (x y:Opd)
 | eqb (neg:Bool) (x y:Opd)
 | un (op:UnOp) (x:Opd)
 | cv (k:IntKind) (x:Opd)
 | new (z:List AV) (kills:List Nat)
 | box (x:Opd) (kills:List Nat)
 | bld (z:List AV) (ps:List (Nat × Nat × Opd))
 | bls (n:Nat) (z:List AV) (ps:List (Nat × Nat × Opd))
 | adr (x d off:Nat)
 | ld (x d n:Nat) (one:Bool)
 | st (x d n:Nat) (v:Opd)
 | fld (x:Opd) (off n:Nat) (one:Bool)
 | ixa (x:Nat) (i:Opd) (k:Nat)
 | six (x i:Opd)
 | ext (x:Opd) (i:Nat)
 | len (x:Opd)
 | mx (xs:List Opd)
 | mn (xs:List Opd)
 | call (f:Nat) (xs:List Opd)
 | cpy (x:Nat)
 | tra (x:Nat)
 | frz (x:Nat)
 | mks (z:List AV) (n:Opd)
 | blo (k n:Nat) (z:List AV) (ps:List (Nat × Nat × Opd))
 | apd (ow:Bool) (x y:Opd) (k B:Nat)
 | sli (x:Opd) (lo hi mx:Option Opd) (k:Nat)
 | ixo (x d:Nat) (i:Opd) (k:Nat)
 | lno (x d:Nat)
 | clo (f:Nat) (xs:List Opd)
 | nlo (k:Nat)
 | brw (f x d:Nat)
 | bdo (a:Opd) (x:Nat) (l:List Nat)
 | cln (f:Nat) (xs:List Opd) (l:List Nat)
 | stl (x v:Nat)
 | fdo (x:Nat)
 | exo (x:Nat)
 | slo (x:Nat) (hi:Opd) (k:Nat)
 | bad
structure IOp where
 dst:Option Nat
 k:K
 g:Option (Nat × Bool):=none
 ks:List Nat:=[]
def o1 (d:Nat) (k:K):IOp:=⟨some d,k,none,[]⟩
def oN (k:K):IOp:=⟨none,k,none,[]⟩
def oG (d:Nat) (k:K) (g:Nat) (b:Bool):IOp:=⟨some d,k,some (g,b),[]⟩
def oM (d s:Nat):IOp:=⟨some d,.mov (.t s),none,[]⟩
def oC (d f:Nat) (l:List Nat):IOp:=⟨some d,.call f (l.map .t),none,[]⟩
def oB (d:Nat) (b:BinOp) (x y:Nat):IOp:=⟨some d,.bin b (.t x) (.t y),none,[]⟩
inductive ICode where
 | skip
 | region (drawn:Bool) (ops:List IOp)
 | seq (a b:ICode)
 | cond (c:Opd) (a b:ICode)
 | block (id:Nat) (c:ICode)
 | loop (c:ICode)
 | scope (c:ICode)
 | exit (id:Nat)
 | ret
inductive IRes where
 | tmp (t:Nat)
 | cell (t n:Nat) (one:Bool)
structure IFunc where
 params:Nat
 slots:Nat
 res:List IRes
 body:ICode
def cmpA (op:BinOp) (x y:Int):Option Bool :=
 match op with
 | .eql=>some (x==y)
 | .neq=>some (x != y)
 | .lss=>some (decide (x<y))
 | .leq=>some (decide (x<=y))
 | .gtr=>some (decide (x>y))
 | .geq=>some (decide (x>=y))
 | _=>none
def Ev (op:BinOp) (k:IntKind) (x y:Int):Option Int :=
 match op with
 | .and=>some (k.wrap (BitVec.ofInt k.bits x &&& BitVec.ofInt k.bits y).toNat)
 | .or=>some (k.wrap (BitVec.ofInt k.bits x ||| BitVec.ofInt k.bits y).toNat)
 | .xor=>some (k.wrap (BitVec.ofInt k.bits x ^^^ BitVec.ofInt k.bits y).toNat)
 | _=>none
def intA (op:BinOp) (k:IntKind) (x y:Int):Option AV :=
 match op with
 | .add=>some (.int k (k.wrap (x+y)))
 | .sub=>some (.int k (k.wrap (x-y)))
 | .mul=>some (.int k (k.wrap (x*y)))
 | .quo=>if y=0 then none else some (.int k (k.wrap (x.tdiv y)))
 | .rem=>if y=0 then none else some (.int k (x.tmod y))
 | .and | .or | .xor=>(Ev op k x y).map (.int k)
 | _=>(cmpA op x y).map .bool
def Ll (op:BinOp) (k:IntKind) (x y:Int):Option AV :=
 if y<0 then none
 else match op with
  | .shl=>some (.int k (k.wrap (x*2^(min y.toNat k.bits))))
  | .shr=>some (.int k (x.fdiv (2^(min y.toNat k.bits))))
  | _=>none
def K0:BinOp->Bool
 | .shl | .shr=>true
 | _=>false
def Zcb (op:BinOp) (x y:AV):Option AV :=
 match x,y with
 | .int k a,.int k' b=>if K0 op then Ll op k a b else if k=k' then intA op k a b else none
 | _,_=>none
def unA (op:UnOp) (x:AV):Option AV :=
 match op,x with
 | .neg,.int k n=>some (.int k (k.wrap (0-n)))
 | .not,.bool b=>some (.bool (!b))
 | _,_=>none
def Zv8 (k:IntKind):Int->List AV->Option Int
 | m,[]=>some m
 | m,.int k' n::l=>if k=k' then Zv8 k (if n>m then n else m) l else none
 | _,_=>none
def Zv7 (k:IntKind):Int->List AV->Option Int
 | m,[]=>some m
 | m,.int k' n::l=>if k=k' then Zv7 k (if n<m then n else m) l else none
 | _,_=>none
def Qg (cs:List AV) (off n:Nat) (one:Bool):Option AV :=
 if one then cs[off]? else if off+n<=cs.length then some (.agg ((cs.drop off).take n)) else none
def U4 (cs:List AV) (off:Nat) (new:List AV):Option (List AV) :=
 if off+new.length<=cs.length then some (cs.take off++new++cs.drop (off+new.length)) else none
def Ay:AV->Bool
 | .int _ _ | .bool _ | .str _ | .nil | .sl _ _=>true
 | _=>false
def Vz (x:AV) (n:Nat):Option (List AV) :=
 match x with
 | .agg cs=>if cs.length=n then some cs else none
 | .tup _=>none
 | .undef=>none
 | .fresh _ _ _=>none
 | .frs _ _ _ _=>none
 | .pt _=>none
 | .fnc _ _=>none
 | x=>if n=1 then some [x] else none
def Wq (s:Zg):List AV->List (Nat × Nat × Opd)->Option (List AV)
 | cs,[]=>some cs
 | cs,(off,n,o)::ps =>
  match o.av s with
  | none=>none
  | some x=>match Vz x n with
   | none=>none
   | some ys=>match U4 cs off ys with
    | none=>none
    | some cs'=>Wq s cs' ps
def avs (s:Zg):List Opd->Option (List AV)
 | []=>some []
 | o::l=>match o.av s with
  | none=>none
  | some x=>match avs s l with
   | none=>none
   | some xs=>some (x::xs)
abbrev Qd:=Nat->List AV->Option AV
def isI:AV->Bool
 | .int _ _=>true
 | _=>false
def Fb:AV->Bool
 | .sl _ cs=>cs.all isI
 | .int _ _=>true
 | .bool _=>true
 | .str _=>true
 | .undef=>true
 | _=>false
def U5:AV->Bool
 | .agg cs=>cs.all Fb
 | x=>Fb x
def Rq:AV->AV
 | .fresh _ n cs => .sl n cs
 | .frs (.st b) _ n cs => .agg [.bool b,.sl n cs]
 | .frs (.tp b) _ n cs => .tup [.sl n cs,.bool b]
 | x=>x
def Dp:AV->Reg
 | .fresh k n cs => .own k n cs
 | .frs b k n cs => .agn b k n cs
 | x => .val x
def Sg:Opd->List (Nat × Reg)
 | .t n=>[(n,.dead)]
 | .c _=>[]
def J3 (z:List AV):Nat->List AV
 | 0=>[]
 | n+1=>z++J3 z n
def Ec (s:Zg) (d:Nat):Option Opd->Option Nat
 | none=>some d
 | some o=>match o.av s with
  | some (.int _ i)=>if 0<=i then some i.toNat else none
  | _=>none
def evK (F:Qd) (s:Zg):K->Option (Reg × List (Nat × Reg))
 | .mov x=>(x.av s).map fun v=>(.val v,[])
 | .pick c a b =>
  match c.av s with
  | some (.bool true)=>(a.av s).map fun v=>(.val v,[])
  | some (.bool false)=>(b.av s).map fun v=>(.val v,[])
  | _=>none
 | .bin op x y =>
  match x.av s,y.av s with
  | some a,some b=>(Zcb op a b).map fun v=>(.val v,[])
  | _,_=>none
 | .eqb neg x y =>
  match x.av s,y.av s with
  | some (.bool a),some (.bool b)=>some (.val (.bool (if neg then !(a==b) else a==b)),[])
  | _,_=>none
 | .un op x=>match x.av s with
  | some a=>(unA op a).map fun v=>(.val v,[])
  | none=>none
 | .cv k x=>match x.av s with
  | some (.int _ n)=>some (.val (.int k (k.wrap n)),[])
  | _=>none
 | .new z kills=>some (.box z,kills.map fun t=>(t,.dead))
 | .box x kills=>match x.av s with
  | some (.agg cs)=>some (.box cs,kills.map fun t=>(t,.dead))
  | some x=>if Ay x then some (.box [x],kills.map fun t=>(t,.dead)) else none
  | none=>none
 | .bld z ps=>(Wq s z ps).map fun cs=>(.val (.agg cs),[])
 | .bls n z ps=>(Wq s z ps).map fun cs=>(.val (.sl n cs),[])
 | .adr x d off=>match Z7 s x with
  | .box _=>if x=d then some (.ptr d off,[]) else none
  | .ptr d' o=>if d'=d then some (.ptr d (o+off),[]) else none
  | .mem cs=>some (.mem (cs.drop off),[])
  | _=>none
 | .ld x d n one=>match Z7 s x with
  | .box cs=>if x=d then (Qg cs 0 n one).map fun v=>(.val v,[]) else none
  | .ptr d' off=>if d'=d then (match Z7 s d with
   | .box cs=>(Qg cs off n one).map fun v=>(.val v,[])
   | .own _ _ cs=>(Qg cs off n one).map fun v=>(.val v,[])
   | _=>none) else none
  | .mem cs=>(Qg cs 0 n one).map fun v=>(.val v,[])
  | _=>none
 | .st x d n v=>match v.av s with
  | none=>none
  | some a=>match Vz a n with
   | none=>none
   | some ys=>match Z7 s x with
    | .box cs=>if x=d then (U4 cs 0 ys).map fun cs'=>(.dead,[(d,.box cs')]) else none
    | .ptr d' off=>if d'=d then (match Z7 s d with
     | .box cs=>(U4 cs off ys).map fun cs'=>(.dead,[(d,.box cs')])
     | .own k m cs=>(U4 cs off ys).map fun cs'=>(.dead,[(d,.own k m cs')])
     | _=>none) else none
    | _=>none
 | .fld x off n one=>match x.av s with
  | some (.agg cs)=>(Qg cs off n one).map fun v=>(.val v,[])
  | _=>none
 | .ixa x i k=>match i.av s with
  | some (.int _ i)=>(match Z7 s x with
   | .val (.sl n cs)=>if 0<=i/\i<n then some (.mem (cs.drop (i.toNat*k)),[]) else none
   | _=>none)
  | _=>none
 | .six x i=>match x.av s,i.av s with
  | some (.str b),some (.int _ i)=>(if 0<=i then b[i.toNat]? else none).map fun c=>(.val (.int .u8 c.toNat),[])
  | _,_=>none
 | .ext x i=>match x.av s with
  | some (.tup vs)=>(vs[i]?).map fun v=>(.val v,[])
  | _=>none
 | .len x=>match x.av s with
  | some .nil=>some (.val (.int .i64 0),[])
  | some (.sl n _)=>some (.val (.int .i64 n),[])
  | _=>none
 | .mx xs=>match avs s xs with
  | some (.int k n::l)=>(Zv8 k n l).map fun m=>(.val (.int k m),[])
  | _=>none
 | .mn xs=>match avs s xs with
  | some (.int k n::l)=>(Zv7 k n l).map fun m=>(.val (.int k m),[])
  | _=>none
 | .call f xs=>match avs s xs with
  | some vs=>(F f vs).map fun v=>(.val (Rq v),[])
  | none=>none
 | .clo f xs=>match avs s xs with
  | some vs=>(F f vs).map fun v=>(Dp v,[])
  | none=>none
 | .brw f x d=>match Z7 s x with
  | .dup d'=>if d'=d then (match Z7 s d with
   | .own _ n cs=>if cs.all (fun c => !isI c) then (match F f [.sl n cs] with
    | some y=>if U5 (Rq y) then some (.val (Rq y),[]) else none
    | none=>none) else none
   | _=>none) else none
  | _=>none
 | .cpy x=>match Z7 s x with
  | .val v=>some (.val v,[])
  | .own _ _ _=>some (.dup x,[])
  | _=>none
 | .tra x=>match Z7 s x with
  | .val v=>some (.val v,[])
  | .own k n cs=>some (.own k n cs,[(x,.dead)])
  | .agn b k n cs=>some (.agn b k n cs,[(x,.dead)])
  | _=>none
 | .frz x=>match Z7 s x with
  | .val v=>some (.val v,[])
  | .own _ n cs=>some (.val (.sl n cs),[(x,.val (.sl n cs))])
  | _=>none
 | .mks z n=>match n.av s with
  | some (.int _ m)=>if 0<=m/\m<=1048576 then some (.own z.length m.toNat (J3 z m.toNat),[]) else none
  | _=>none
 | .blo k n z ps=>(Wq s z ps).map fun cs=>(.own k n cs,[])
 | .apd ow x y k B=>match y.av s with
  | some .nil=>(match x.reg s with
   | .val .nil=>some (.val .nil,[])
   | .own k' n cs=>if k'=k then some (if ow then .own k n cs else .val (.sl n cs),Sg x) else none
   | _=>none)
  | some (.sl m ys)=>if ys.length=m*k then (match x.reg s with
   | .val .nil=>if m<=B then some (if ow then .own k m ys else .val (.sl m ys),[]) else none
   | .own k' n cs=>if k'=k/\n+m<=B then some (if ow then .own k (n+m) (cs++ys) else .val (.sl (n+m) (cs++ys)),Sg x) else none
   | _=>none) else none
  | _=>none
 | .sli x lo hi mx k=>match x.av s with
  | some .nil=>(match Ec s 0 mx,Ec s 0 hi,Ec s 0 lo with
   | some 0,some 0,some 0=>if mx.isSome->hi.isSome then some (.val .nil,[]) else none
   | _,_,_=>none)
  | some (.sl n cs)=>(match Ec s n mx,Ec s n hi,Ec s 0 lo with
   | some m,some h,some l=>if l<=h/\h<=m/\m<=n/\(mx.isSome->hi.isSome) then some (.val (.sl (h-l) ((cs.drop (l*k)).take ((h-l)*k))),[]) else none
   | _,_,_=>none)
  | _=>none
 | .ixo x d i k=>match i.av s with
  | some (.int _ i)=>(match Z7 s x with
   | .val (.sl n cs)=>if 0<=i/\i<n then some (.mem (cs.drop (i.toNat*k)),[]) else none
   | .dup d'=>if d'=d then (match Z7 s d with
    | .own k' n _=>if k'=k/\0<=i/\i<n then some (.ptr d (i.toNat*k),[]) else none
    | _=>none) else none
   | _=>none)
  | _=>none
 | .lno x d=>match Z7 s x with
  | .val .nil=>some (.val (.int .i64 0),[])
  | .val (.sl n _)=>some (.val (.int .i64 n),[])
  | .dup d'=>if d'=d then (match Z7 s d with
   | .own _ n _=>some (.val (.int .i64 n),[])
   | _=>none) else none
  | _=>none
 | .nlo k=>some (.own k 0 [],[])
 | .bdo a x l=>match a.av s with
  | some (.bool b)=>(match Z7 s x with
   | .own k n cs=>if l.all (fun t=>Vy (Z7 s t)) then some (.agn (.st b) k n cs,[(x,.dead)]) else none
   | _=>none)
  | _=>none
 | .cln f xs l=>match avs s xs with
  | some vs=>if l.all (fun t=>Vy (Z7 s t)) then (F f vs).map fun v=>(Dp v,[]) else none
  | none=>none
 | .stl x v=>match Z7 s x with
  | .box cs=>(match Z7 s v with
   | .agn (.st _) _ _ _=>if cs.length=2 then some (.dead,[(x,.bxl v)]) else none
   | _=>none)
  | _=>none
 | .fdo x=>match Z7 s x with
  | .agn (.st _) k n cs=>some (.own k n cs,[(x,.dead)])
  | _=>none
 | .exo x=>match Z7 s x with
  | .agn (.tp b) k n cs=>some (.own k n cs,[(x,.val (.tup [.sl n [],.bool b]))])
  | _=>none
 | .slo x hi k=>match hi.av s with
  | some (.int _ h)=>(match Z7 s x with
   | .own k' n cs=>if k'=k/\0<=h/\h<=n then some (.own k h.toNat (cs.take (h.toNat*k)),[(x,.dead)]) else none
   | _=>none)
  | _=>none
 | .bad=>none
def Kn (s:Zg):Option (Nat × Bool)->Option Bool
 | none=>some true
 | some (t,b)=>match Z7 s t with
  | .val (.bool c)=>some (c==b)
  | .val .undef=>some false
  | _=>none
def kill (s:Zg) (ks:List Nat):Zg:=Qx s (ks.map fun t=>(t,.dead))
def Ff (F:Qd) (o:IOp) (s:Zg):Option Zg :=
 match Kn s o.g with
 | none=>none
 | some false=>some (Wb s o.dst (.val .undef))
 | some true=>match evK F s o.k with
  | none=>none
  | some (r,l)=>some (Wb (Qx s l) o.dst r)
def Df (F:Qd) (o:IOp) (s:Zg):Option Zg:=Ff F o (kill s o.ks)
def Up (F:Qd):List IOp->Zg->Option Zg
 | [],s=>some s
 | o::l,s=>match Df F o s with
  | none=>none
  | some s'=>Up F l s'
inductive Ex where
 | norm
 | exit (id:Nat)
 | ret
def D4 (s:Zg) (c:Opd):Option Bool :=
 match c.av s with
 | some (.bool b)=>some b
 | _=>none
def evC (F:Qd):Nat->ICode->Zg->Option (Ex × Zg)
 | 0,_,_=>none
 | _+1,.skip,s=>some (.norm,s)
 | _+1,.region _ ops,s=>(Up F ops s).map fun s'=>(.norm,s')
 | n+1,.seq a b,s=>match evC F n a s with
  | some (.norm,s')=>evC F n b s'
  | r=>r
 | n+1,.cond c a b,s=>match D4 s c with
  | some true=>evC F n a s
  | some false=>evC F n b s
  | none=>none
 | n+1,.block id c,s=>match evC F n c s with
  | some (.exit i,s')=>if i=id then some (.norm,s') else some (.exit i,s')
  | r=>r
 | n+1,.loop c,s=>match evC F n c s with
  | some (.norm,s')=>evC F n (.loop c) s'
  | r=>r
 | n+1,.scope c,s=>evC F n c s
 | _+1,.exit id,s=>some (.exit id,s)
 | _+1,.ret,s=>some (.ret,s)
def Hv (s:Zg):IRes->Option AV
 | .tmp t=>match Z7 s t with
  | .val x=>some x
  | .own _ n cs=>some (.sl n cs)
  | _=>none
 | .cell t n one=>match Z7 s t with
  | .box cs=>Qg cs 0 n one
  | _=>none
def X3 (s:Zg):List IRes->Option (List AV)
 | []=>some []
 | r::l=>match Hv s r with
  | none=>none
  | some x=>match X3 s l with
   | none=>none
   | some xs=>some (x::xs)
def Ke (s:Zg):List IRes->Option AV
 | [.tmp t]=>match Z7 s t with
  | .own k n cs=>some (.fresh k n cs)
  | .agn b k n cs=>some (.frs b k n cs)
  | _=>none
 | [.tmp t,.tmp u]=>match Z7 s t with
  | .own k n cs=>(match Z7 s u with
   | .val (.bool b)=>some (.frs (.tp b) k n cs)
   | _=>none)
  | _=>none
 | [.cell t n one]=>match Z7 s t with
  | .bxl d=>(match Z7 s d with
   | .agn (.st b) k m cs=>if n=2/\one=false then some (.frs (.st b) k m cs) else none
   | _=>none)
  | _=>none
 | _=>none
def V7 (s:Zg) (l:List IRes):Option AV :=
 match Ke s l with
 | some x=>some x
 | none =>
 match X3 s l with
 | some [x]=>some x
 | some xs=>some (.tup xs)
 | none=>none
def Du:AV->Reg
 | .pt cs => .mem cs
 | x => .val x
def Gi (fn:IFunc) (args:List AV):Zg:=args.map Du++List.replicate (fn.slots-args.length) .dead
def evF (prog:Nat->Option IFunc):Nat->Qd
 | 0,_,_=>none
 | n+1,f,args=>match prog f with
  | none=>none
  | some fn=>if args.length=fn.params then (match evC (evF prog n) n fn.body (Gi fn args) with
   | some (.exit _,_)=>none
   | some (_,s)=>V7 s fn.res
   | none=>none) else none
def rg : List IOp -> ICode := .region false
def ci (n : Int) : Opd := .c (.int .i64 n)
end Go.Ai

namespace Go.Ai
open Go.IntKind (i64 u64 u32)
def Me (l:List Opd):List Nat:=l.flatMap Opd.rd
def rdO:Option Opd->List Nat
 | none=>[]
 | some o=>o.rd
def Zqd (l:List (Nat × Nat × Opd)):List Nat:=l.flatMap fun p=>p.2.2.rd
def rdK:K->List Nat
 | .mov x=>x.rd
 | .pick c a b=>c.rd++(a.rd++b.rd)
 | .bin _ x y=>x.rd++y.rd
 | .eqb _ x y=>x.rd++y.rd
 | .un _ x=>x.rd
 | .cv _ x=>x.rd
 | .new _ _=>[]
 | .box x _=>x.rd
 | .bld _ ps=>Zqd ps
 | .bls _ _ ps=>Zqd ps
 | .adr x _ _=>[x]
 | .ld x d _ _=>[x,d]
 | .st x d _ v=>x::d::v.rd
 | .fld x _ _ _=>x.rd
 | .ixa x i _=>x::i.rd
 | .six x i=>x.rd++i.rd
 | .ext x _=>x.rd
 | .len x=>x.rd
 | .mx xs=>Me xs
 | .mn xs=>Me xs
 | .call _ xs=>Me xs
 | .clo _ xs=>Me xs
 | .cpy x=>[x]
 | .tra x=>[x]
 | .frz x=>[x]
 | .mks _ n=>n.rd
 | .blo _ _ _ ps=>Zqd ps
 | .apd _ x y _ _=>x.rd++y.rd
 | .sli x lo hi mx _=>x.rd++(rdO lo++(rdO hi++rdO mx))
 | .ixo x d i _=>x::d::i.rd
 | .lno x d=>[x,d]
 | .nlo _=>[]
 | .brw _ x d=>[x,d]
 | .bdo a x l=>x::(a.rd++l)
 | .cln _ xs l=>Me xs++l
 | .stl x v=>[x,v]
 | .fdo x=>[x]
 | .exo x=>[x]
 | .slo x hi _=>x::hi.rd
 | .bad=>[]
def wrK:K->List Nat
 | .new _ kills=>kills
 | .box _ kills=>kills
 | .st _ d _ _=>[d]
 | .tra x=>[x]
 | .frz x=>[x]
 | .apd _ x _ _ _=>x.rd
 | .bdo _ x _=>[x]
 | .stl x _=>[x]
 | .fdo x=>[x]
 | .exo x=>[x]
 | .slo x _ _=>[x]
 | _=>[]
def IOp.rd (o:IOp):List Nat:=rdK o.k++(o.g.toList.map (·.1))
def IOp.wr (o:IOp):List Nat:=wrK o.k++(o.dst.toList++o.ks)
def Uz (l:List Nat) (s s':Zg):Prop:=∀ t∈l,Z7 s t=Z7 s' t
theorem Uz.left {l m:List Nat} {s s':Zg} (h:Uz (l++m) s s'):Uz l s s':=fun t ht=>h t (List.mem_append_left _ ht)
theorem Uz.right {l m:List Nat} {s s':Zg} (h:Uz (l++m) s s'):Uz m s s':=fun t ht=>h t (List.mem_append_right _ ht)
theorem Uz.head {t:Nat} {m:List Nat} {s s':Zg} (h:Uz (t::m) s s'):Z7 s t=Z7 s' t:=h t (List.mem_cons_self ..)
theorem Uz.tail {t:Nat} {m:List Nat} {s s':Zg} (h:Uz (t::m) s s'):Uz m s s':=fun u hu=>h u (List.mem_cons_of_mem _ hu)
theorem Opd.av_agree {o:Opd} {s s':Zg} (h:Uz o.rd s s'):o.av s=o.av s':=by
 cases o with
 | t n=>simp only[Opd.av,Opd.reg,h n (by simp[Opd.rd])]
 | c x=>rfl
theorem Opd.reg_agree {o:Opd} {s s':Zg} (h:Uz o.rd s s'):o.reg s=o.reg s':=by
 cases o with
 | t n=>simp only[Opd.reg,h n (by simp[Opd.rd])]
 | c x=>rfl
theorem Di {o:Option Opd} {d:Nat} {s s':Zg} (h:Uz (rdO o) s s'):Ec s d o=Ec s' d o:=by
 cases o with
 | none=>rfl
 | some o=>simp only[Ec,Opd.av_agree (o:=o) h]
theorem Ws {s s':Zg}:∀ {l:List Opd},Uz (Me l) s s'->avs s l=avs s' l
 | [],_=>rfl
 | o::l,h=>by
  have h1:Uz o.rd s s':=fun t ht=>h t (by simp[Me,ht]);have h2:Uz (Me l) s s':=fun t ht=>h t (by simp only[Me,List.flatMap_cons,List.mem_append];exact .inr ht);simp only[avs,Opd.av_agree h1,Ws h2]
theorem W4 {s s':Zg}:∀ {ps:List (Nat × Nat × Opd)} {cs:List AV},Uz (Zqd ps) s s'->Wq s cs ps=Wq s' cs ps
 | [],_,_=>rfl
 | (off,n,o)::ps,cs,h=>by
  have h1:Uz o.rd s s':=fun t ht=>h t (by simp[Zqd,ht]);have h2:Uz (Zqd ps) s s':=fun t ht=>h t (by simp only[Zqd,List.flatMap_cons,List.mem_append];exact .inr ht);have ih:∀ cs':List AV,Wq s cs' ps=Wq s' cs' ps:=fun cs'=>W4 h2;simp only[Wq,Opd.av_agree h1,ih]
theorem Pw {l:List Nat} {s s':Zg} {p:Reg->Bool} (h:Uz l s s'):(l.all fun t=>p (Z7 s t))=(l.all fun t=>p (Z7 s' t)):=by
 induction l with
 | nil=>rfl
 | cons t l ih=>simp only[List.all_cons,h.head,ih h.tail]
theorem Zf2 {F:Qd} {k:K} {s s':Zg} (h:Uz (rdK k) s s'):evK F s k=evK F s' k:=by
 cases k <;> simp only[rdK] at h
 case mov x=>simp only[evK,Opd.av_agree h]
 case pick c a b=>simp only[evK,Opd.av_agree h.left,Opd.av_agree h.right.left,Opd.av_agree h.right.right]
 case bin op x y=>simp only[evK,Opd.av_agree h.left,Opd.av_agree h.right]
 case eqb neg x y=>simp only[evK,Opd.av_agree h.left,Opd.av_agree h.right]
 case un op x=>simp only[evK,Opd.av_agree h]
 case cv k x=>simp only[evK,Opd.av_agree h]
 case new z kills=>rfl
 case box x kills=>simp only[evK,Opd.av_agree h]
 case bld z ps=>simp only[evK,W4 h]
 case bls n z ps=>simp only[evK,W4 h]
 case adr x d off=>simp only[evK,h.head]
 case ld x d n one=>simp only[evK,h.head,h.tail.head]
 case st x d n v=>simp only[evK,h.head,h.tail.head,Opd.av_agree h.tail.tail]
 case fld x off n one=>simp only[evK,Opd.av_agree h]
 case ixa x i k=>simp only[evK,h.head,Opd.av_agree h.tail]
 case six x i=>simp only[evK,Opd.av_agree h.left,Opd.av_agree h.right]
 case ext x i=>simp only[evK,Opd.av_agree h]
 case len x=>simp only[evK,Opd.av_agree h]
 case mx xs=>simp only[evK,Ws h]
 case mn xs=>simp only[evK,Ws h]
 case call f xs=>simp only[evK,Ws h]
 case clo f xs=>simp only[evK,Ws h]
 case cpy x=>simp only[evK,h.head]
 case tra x=>simp only[evK,h.head]
 case frz x=>simp only[evK,h.head]
 case mks z n=>simp only[evK,Opd.av_agree h]
 case blo k n z ps=>simp only[evK,W4 h]
 case apd ow x y k B=>simp only[evK,Opd.reg_agree h.left,Opd.av_agree h.right]
 case sli x lo hi mx k=>simp only[evK,Opd.av_agree h.left,Di h.right.left,Di h.right.right.left,Di h.right.right.right]
 case ixo x d i k=>simp only[evK,h.head,h.tail.head,Opd.av_agree h.tail.tail]
 case lno x d=>simp only[evK,h.head,h.tail.head]
 case nlo k=>rfl
 case bdo a x l =>
  have hl:(l.all fun t=>Vy (Z7 s t))=(l.all fun t=>Vy (Z7 s' t)):=Pw (p:=Vy) h.tail.right;simp only[evK,h.head,Opd.av_agree h.tail.left,hl]
 case cln f xs l =>
  have hl:(l.all fun t=>Vy (Z7 s t))=(l.all fun t=>Vy (Z7 s' t)):=Pw (p:=Vy) h.right;simp only[evK,Ws h.left,hl]
 case stl x v=>simp only[evK,h.head,h.tail.head]
 case fdo x=>simp only[evK,h.head]
 case exo x=>simp only[evK,h.head]
 case slo x hi k=>simp only[evK,h.head,Opd.av_agree h.tail]
 case brw f x d=>simp only[evK,h.head,h.tail.head]
 case bad=>rfl
theorem Zkq {F:Qd} {k:K} {s:Zg} {r:Reg} {l:List (Nat × Reg)} (h:evK F s k=some (r,l)):∀ p∈l,p.1∈wrK k:=by
 cases k
 case new z kills=>simp only[evK,Option.some.injEq,Prod.mk.injEq] at h;obtain⟨_,rfl⟩:=h;simp[wrK]
 case box x kills =>
  simp only[evK] at h;split at h
  ·simp only[Option.some.injEq,Prod.mk.injEq] at h;obtain⟨_,rfl⟩:=h;simp[wrK]
  ·split at h
   ·simp only[Option.some.injEq,Prod.mk.injEq] at h;obtain⟨_,rfl⟩:=h;simp[wrK]
   ·cases h
  ·cases h
 case st x d n v =>
  simp only[evK] at h;split at h
  ·cases h
  ·split at h
   ·cases h
   ·split at h
    ·split at h
     ·simp only[Option.map_eq_some_iff] at h;obtain⟨a,_,h⟩:=h;cases h;simp[wrK]
     ·cases h
    ·split at h
     ·split at h
      ·simp only[Option.map_eq_some_iff] at h;obtain⟨a,_,h⟩:=h;cases h;simp[wrK]
      ·simp only[Option.map_eq_some_iff] at h;obtain⟨a,_,h⟩:=h;cases h;simp[wrK]
      ·cases h
     ·cases h
    ·cases h
 case tra x =>
  simp only[evK] at h;split at h <;> cases h <;> simp[wrK]
 case frz x =>
  simp only[evK] at h;split at h <;> cases h <;> simp[wrK]
 case bdo a x ls =>
  simp only[evK] at h;repeat' split at h
  all_goals cases h
  simp[wrK]
 case stl x v =>
  simp only[evK] at h;repeat' split at h
  all_goals cases h
  simp[wrK]
 case fdo x =>
  simp only[evK] at h;split at h <;> cases h;simp[wrK]
 case exo x =>
  simp only[evK] at h;split at h <;> cases h;simp[wrK]
 case slo x hi k =>
  simp only[evK] at h;repeat' split at h
  all_goals cases h
  simp[wrK]
 case apd ow x y k B =>
  have hk:∀ p∈Sg x,p.1∈x.rd:=by cases x <;> simp[Sg,Opd.rd]
  simp only[evK] at h;intro p hp;repeat' split at h
  all_goals first
   | (cases h;exact hk p hp)
   | (cases h;cases hp)
   | cases h
 all_goals
  have:l=[]:=by
   revert h;simp only[evK];repeat' split
   all_goals
    intro h;first
     | cases h;rfl
     | (simp only[Option.map_eq_some_iff] at h;obtain⟨_,_,h⟩:=h;cases h;rfl)
     | cases h
  subst this;intro p hp;cases hp
def Zv9 (F:Qd) (o:IOp) (s:Zg):Option (List (Nat × Reg)) :=
 match Kn s o.g with
 | none=>none
 | some false=>some (o.dst.toList.map fun d=>(d,.val .undef))
 | some true=>(evK F s o.k).map fun p=>p.2++o.dst.toList.map fun d=>(d,p.1)
def evW (F:Qd) (o:IOp) (s:Zg):Option (List (Nat × Reg)):=(Zv9 F o (kill s o.ks)).map fun l=>(o.ks.map fun t=>(t,Reg.dead))++l
theorem Do (s:Zg) (l m:List (Nat × Reg)):Qx s (l++m)=Qx (Qx s l) m:=by
 induction l generalizing s with
 | nil=>rfl
 | cons p l ih=>obtain⟨t,r⟩:=p;simp only[List.cons_append,Qx,ih]
theorem Zdz (s:Zg) (d:Option Nat) (r:Reg):Wb s d r=Qx s (d.toList.map fun d=>(d,r)):=by
 cases d <;> rfl
theorem Zat (F:Qd) (o:IOp) (s:Zg):Ff F o s=(Zv9 F o s).map (Qx s):=by
 simp only[Ff,Zv9];cases Kn s o.g with
 | none=>rfl
 | some b =>
  cases b with
  | false=>simp only[Option.map_some,Zdz]
  | true =>
   cases evK F s o.k with
   | none=>rfl
   | some p=>obtain⟨r,l⟩:=p;simp only[Option.map_some,Do,Zdz]
theorem Sp (F:Qd) (o:IOp) (s:Zg):Df F o s=(evW F o s).map (Qx s):=by
 simp only[Df,evW,Zat,Option.map_map];congr 1;funext l;simp only[Function.comp,Do,kill]
theorem Rz {s:Zg} {t u:Nat} {r:Reg} (h:t ≠ u):Z7 (s.set t r) u=Z7 s u:=by
 simp only[Z7,List.getD_eq_getElem?_getD,List.getElem?_set_ne h]
theorem Jk (s:Zg) (d:Nat) (r:Reg) (t:Nat):Z7 (s.set d r) t=if d=t/\d<s.length then r else Z7 s t:=by
 simp only[Z7,List.getD_eq_getElem?_getD,List.getElem?_set];by_cases h:d=t
 ·subst h;by_cases h2:d<s.length
  ·simp[h2]
  ·simp[h2]
 ·simp[h]
theorem E7 (k:Nat) (s:Zg) (t:Nat):Z7 (s.set k .dead) t=if k=t then .dead else Z7 s t:=by
 rw[Jk];by_cases h:k=t
 ·subst h;rw[if_pos rfl];split
  ·rfl
  ·rename_i hn;have:s.length<=k:=by simpa using hn
   simp only[Z7,List.getD_eq_getElem?_getD,List.getElem?_eq_none this];rfl
 ·rw[if_neg h,if_neg (fun e=>h e.1)]
theorem Xn (ks:List Nat):∀ (s:Zg) (t:Nat),Z7 (kill s ks) t=if t∈ks then .dead else Z7 s t:=by
 unfold kill;induction ks with
 | nil=>intro s t;simp[Qx]
 | cons k ks ih =>
  intro s t;simp only[List.map_cons,Qx];rw[ih,E7];by_cases h1:t∈ks
  ·simp[h1]
  ·by_cases h2:k=t
   ·subst h2;simp
   ·have h2':¬ t=k:=fun e=>h2 e.symm;simp[h1,h2,h2']
theorem Zb0 {l ks:List Nat} {s s':Zg} (h:Uz l s s'):Uz l (kill s ks) (kill s' ks):=by
 intro t ht;rw[Xn,Xn,h t ht]
theorem Rm {g:Option (Nat × Bool)} {s s':Zg} (h:Uz (g.toList.map (·.1)) s s'):Kn s g=Kn s' g:=by
 cases g with
 | none=>rfl
 | some p=>obtain⟨t,b⟩:=p;simp only[Kn,h t (by simp)]
theorem Pd {F:Qd} {o:IOp} {s s':Zg} (h:Uz o.rd s s'):evW F o s=evW F o s':=by
 have h':Uz o.rd (kill s o.ks) (kill s' o.ks):=Zb0 h;simp only[evW,Zv9,Rm h'.right,Zf2 h'.left]
theorem Pe {F:Qd} {o:IOp} {s:Zg} {l:List (Nat × Reg)} (h:Zv9 F o s=some l):∀ p∈l,p.1∈o.wr:=by
 simp only[Zv9] at h;intro p hp;split at h
 ·cases h
 ·cases h;simp only[List.mem_map] at hp;obtain⟨d,hd,rfl⟩:=hp;exact List.mem_append_right _ (List.mem_append_left _ hd)
 ·simp only[Option.map_eq_some_iff] at h;obtain⟨⟨r,l'⟩,hk,rfl⟩:=h;rcases List.mem_append.1 hp with hp | hp
  ·exact List.mem_append_left _ (Zkq hk p hp)
  ·simp only[List.mem_map] at hp;obtain⟨d,hd,rfl⟩:=hp;exact List.mem_append_right _ (List.mem_append_left _ hd)
theorem Zas {F:Qd} {o:IOp} {s:Zg} {l:List (Nat × Reg)} (h:evW F o s=some l):∀ p∈l,p.1∈o.wr:=by
 simp only[evW,Option.map_eq_some_iff] at h;obtain⟨l,h,rfl⟩:=h;intro p hp;rcases List.mem_append.1 hp with hp | hp
 ·simp only[List.mem_map] at hp;obtain⟨t,ht,rfl⟩:=hp;simp[IOp.wr,ht]
 ·exact Pe h p hp
theorem Fx {l:List (Nat × Reg)} {u:Nat}:∀ {s:Zg},(∀ p∈l,p.1 ≠ u)->Z7 (Qx s l) u=Z7 s u:=by
 induction l with
 | nil=>intro s _;rfl
 | cons p l ih =>
  intro s h;obtain⟨t,r⟩:=p;simp only[Qx];rw[ih (fun q hq=>h q (List.mem_cons_of_mem _ hq)),Rz (h (t,r) (List.mem_cons_self ..))]
theorem Zdy {l:List (Nat × Reg)} {t:Nat} {r:Reg}:∀ {s:Zg},(∀ p∈l,p.1 ≠ t)->Qx (s.set t r) l=(Qx s l).set t r:=by
 induction l with
 | nil=>intro s _;rfl
 | cons p l ih =>
  intro s h;obtain⟨u,q⟩:=p;simp only[Qx];rw[List.set_comm _ _ (Ne.symm (h (u,q) (List.mem_cons_self ..))),ih (fun p hp=>h p (List.mem_cons_of_mem _ hp))]
theorem Zbn {l m:List (Nat × Reg)}:∀ {s:Zg},(∀ p∈l,∀ q∈m,p.1 ≠ q.1)->Qx (Qx s l) m=Qx (Qx s m) l:=by
 induction l with
 | nil=>intro s _;rfl
 | cons p l ih =>
  intro s h;obtain⟨t,r⟩:=p;simp only[Qx];rw[ih (fun p hp q hq=>h p (List.mem_cons_of_mem _ hp) q hq),Zdy (fun q hq=>Ne.symm (h (t,r) (List.mem_cons_self ..) q hq))]
def Si (a b:IOp):Bool:=a.wr.all (fun t => !(b.rd.contains t) && !(b.wr.contains t))&&b.wr.all (fun t => !(a.rd.contains t))
theorem Zb1 {a b:IOp} (h:Si a b=true):(∀ t∈a.wr,t ∉ b.rd/\t ∉ b.wr)/\∀ t∈b.wr,t ∉ a.rd:=by
 simp only[Si,Bool.and_eq_true,List.all_eq_true,Bool.not_eq_true',List.contains_eq_mem,decide_eq_false_iff_not] at h;exact h
theorem Zfx {F:Qd} {a b:IOp} {s s1 s2:Zg} (hi:Si a b=true) (h1:Df F a s=some s1) (h2:Df F b s1=some s2) :
  ∃ s',Df F b s=some s'/\Df F a s'=some s2:=by
 obtain⟨hab,hba⟩:=Zb1 hi;rw[Sp] at h1 h2;simp only[Option.map_eq_some_iff] at h1 h2;obtain⟨la,ha,rfl⟩:=h1;obtain⟨lb,hb,rfl⟩:=h2;have ka:=Zas ha;have kb:=Zas hb;have e1:evW F b (Qx s la)=evW F b s:=Pd fun t ht=>Fx fun p hp e=>(hab p.1 (ka p hp)).1 (e ▸ ht);rw[e1] at hb;have e2:evW F a (Qx s lb)=evW F a s:=Pd fun t ht=>Fx fun p hp e=>hba p.1 (kb p hp) (e ▸ ht);refine⟨Qx s lb,by rw[Sp,hb];rfl,?_⟩;rw[Sp,e2,ha];simp only[Option.map_some,Option.some.injEq];exact (Zbn fun p hp q hq e=>(hab p.1 (ka p hp)).2 (e ▸ kb q hq)).symm
theorem So {F:Qd} {o:IOp} {l:List IOp}:∀ {s s2:Zg} {m:List IOp},(∀ p∈m,Si p o=true)->Up F (m++o::l) s=some s2 ->
  ∃ s1,Df F o s=some s1/\Up F (m++l) s1=some s2:=by
 intro s s2 m;induction m generalizing s with
 | nil =>
  intro _ h;simp only[List.nil_append,Up] at h |-;cases h1:Df F o s with
  | none=>rw[h1] at h;cases h
  | some s1=>rw[h1] at h;exact⟨s1,rfl,h⟩
 | cons p m ih =>
  intro hp h;simp only[List.cons_append,Up] at h |-;cases h1:Df F p s with
  | none=>rw[h1] at h;cases h
  | some s1 =>
   rw[h1] at h;obtain⟨s3,h3,h4⟩:=ih (fun q hq=>hp q (List.mem_cons_of_mem _ hq)) h;obtain⟨s',h5,h6⟩:=Zfx (hp p (List.mem_cons_self ..)) h1 h3;exact⟨s',h5,by rw[h6];exact h4⟩
end Go.Ai

namespace Go.Ai
open Go.IntKind (i64 u64 u32)
open Go.RowKit
def Dat (cs:List AV):Prop:=∀ x∈cs,Ay x=true
inductive Rd (Y X:Nat->Prop) (w:World):Value->AV->Prop where
 | int (k:IntKind) (n:Int):Rd Y X w (.int k n) (.int k n)
 | bool (b:Bool):Rd Y X w (.bool b) (.bool b)
 | str (s:ByteArray):Rd Y X w (.string s) (.str s)
 | undef:Rd Y X w Go.undef .undef
 | agg (vs:Array Value) (cs:List AV) (hd:Dat cs) (h:vs.size=cs.length) (hc:∀ (i:Nat) (h1:i<vs.size) (h2:i<cs.length),Rd Y X w vs[i] cs[i]):Rd Y X w (.agg vs) (.agg cs)
 | tup (vs:Array Value) (cs:List AV) (h:vs.size=cs.length) (hc:∀ (i:Nat) (h1:i<vs.size) (h2:i<cs.length),Rd Y X w vs[i] cs[i]):Rd Y X w (.tuple vs) (.tup cs)
 | nil:Rd Y X w (.slice none 0 0) .nil
 | nil0:Rd Y X w (.slice none 0 0) (.sl 0 [])
 | e0 (a:Addr) (c:Nat):Rd Y X w (.slice (some a) 0 c) (.sl 0 [])
 | sl (b off n cap:Nat) (cs:List AV) (f:Nat->Value) (hd:Dat cs) (hn:n<=cap) (hX:cs ≠ []->¬ X b) (hY:(∃ c∈cs,isI c=true)->¬ Y b) (hcell:∀ i,i<cs.length->w.cell? ⟨b,off+i,none⟩=some (f i))
   (hr:∀ (i:Nat) (h:i<cs.length),Rd Y X w (f i) cs[i]):Rd Y X w (.slice (some ⟨b,off,none⟩) n cap) (.sl n cs)
 | pt (b off:Nat) (cs:List AV) (f:Nat->Value) (hd:Dat cs) (hX:cs ≠ []->¬ X b) (hcell:∀ i,i<cs.length->w.cell? ⟨b,off+i,none⟩=some (f i))
   (hr:∀ (i:Nat) (h:i<cs.length),Rd Y X w (f i) cs[i]):Rd Y X w (.pointer (some ⟨b,off,none⟩)) (.pt cs)
 | fnc (g:Nat) (u:Value) (cs:List AV) (h:Rd Y X w u (.pt cs)):Rd Y X w (.func (.func g) #[] #[u]) (.fnc g cs)
theorem cell?_of_heap {w w':World} {p:Addr} (h:w'.heap[p.block]?=w.heap[p.block]?):w'.cell? p=w.cell? p:=by
 simp only[World.cell?,h]
theorem Ht {w:World} {p:Addr} {v:Value} (h:w.cell? p=some v):p.block<w.heap.size:=by
 rcases Nat.lt_or_ge p.block w.heap.size with h1 | h1
 ·exact h1
 ·simp[World.cell?,Array.getElem?_eq_none h1] at h
theorem Rd.world {Y X:Nat->Prop} {w w':World} {v:Value} {x:AV} (h:Rd Y X w v x) (hw:∀ b,¬ X b->b<w.heap.size->w'.heap[b]?=w.heap[b]?):Rd Y X w' v x:=by
 induction h with
 | int k n=>exact .int k n
 | bool b=>exact .bool b
 | str s=>exact .str s
 | undef=>exact .undef
 | agg vs cs hd h hc ih=>exact .agg vs cs hd h ih
 | tup vs cs h hc ih=>exact .tup vs cs h ih
 | nil=>exact .nil
 | nil0=>exact .nil0
 | e0 a c=>exact .e0 a c
 | sl b off n cap cs f hd hn hX hY hcell hr ih =>
  refine .sl b off n cap cs f hd hn hX hY (fun i hi => ?_) ih;have h1:=hcell i hi;rw[cell?_of_heap (hw b (hX (by intro e;subst e;simp at hi)) (Ht h1))];exact h1
 | pt b off cs f hd hX hcell hr ih =>
  refine .pt b off cs f hd hX (fun i hi => ?_) ih;have h1:=hcell i hi;rw[cell?_of_heap (hw b (hX (by intro e;subst e;simp at hi)) (Ht h1))];exact h1
 | fnc g u cs h ih=>exact .fnc g u cs ih
theorem Rd.mono {Y X X':Nat->Prop} {w:World} {v:Value} {x:AV} (h:Rd Y X w v x) (hX:∀ b,X' b->X b\/w.heap.size<=b):Rd Y X' w v x:=by
 induction h with
 | int k n=>exact .int k n
 | bool b=>exact .bool b
 | str s=>exact .str s
 | undef=>exact .undef
 | agg vs cs hd h hc ih=>exact .agg vs cs hd h ih
 | tup vs cs h hc ih=>exact .tup vs cs h ih
 | nil=>exact .nil
 | nil0=>exact .nil0
 | e0 a c=>exact .e0 a c
 | sl b off n cap cs f hd hn hXb hY hcell hr ih =>
  refine .sl b off n cap cs f hd hn (fun hne hb => ?_) hY hcell ih;rcases hX b hb with h1 | h1
  ·exact hXb hne h1
  ·have h0:0<cs.length:=List.length_pos_iff.2 hne;have:=Ht (hcell 0 h0);simp only at this;omega
 | pt b off cs f hd hXb hcell hr ih =>
  refine .pt b off cs f hd (fun hne hb => ?_) hcell ih;rcases hX b hb with h1 | h1
  ·exact hXb hne h1
  ·have h0:0<cs.length:=List.length_pos_iff.2 hne;have:=Ht (hcell 0 h0);simp only at this;omega
 | fnc g u cs h ih=>exact .fnc g u cs ih
theorem Rd.lend {Y X Y' X':Nat->Prop} {w:World} {v:Value} {x:AV} (h:Rd Y X w v x) (hX:∀ b,X' b->X b) (hY:∀ b,Y' b->Y b\/X b):Rd Y' X' w v x:=by
 induction h with
 | int k n=>exact .int k n
 | bool b=>exact .bool b
 | str s=>exact .str s
 | undef=>exact .undef
 | agg vs cs hd h hc ih=>exact .agg vs cs hd h ih
 | tup vs cs h hc ih=>exact .tup vs cs h ih
 | nil=>exact .nil
 | nil0=>exact .nil0
 | e0 a c=>exact .e0 a c
 | sl b off n cap cs f hd hn hXb hYb hcell hr ih =>
  refine .sl b off n cap cs f hd hn (fun hne hb=>hXb hne (hX b hb)) (fun hi hb => ?_) hcell ih;rcases hY b hb with h1 | h1
  ·exact hYb hi h1
  ·obtain⟨c,hc,_⟩:=hi;exact hXb (List.ne_nil_of_mem hc) h1
 | pt b off cs f hd hXb hcell hr ih=>exact .pt b off cs f hd (fun hne hb=>hXb hne (hX b hb)) hcell ih
 | fnc g u cs h ih=>exact .fnc g u cs ih
theorem Rd.back1 {Y X Y' X':Nat->Prop} {w:World} {v:Value} {x:AV} (h:Rd Y' X' w v x) (hx:Fb x=true) (hX:∀ b,X b->X' b\/Y' b) (hY:∀ b,Y b->Y' b):Rd Y X w v x:=by
 cases h with
 | int k n=>exact .int k n
 | bool b=>exact .bool b
 | str s=>exact .str s
 | undef=>exact .undef
 | agg vs cs hd h hc=>cases hx
 | tup vs cs h hc=>cases hx
 | nil=>cases hx
 | pt _ _ _ _ _ _ _ _=>cases hx
 | fnc _ _ _ _=>cases hx
 | nil0=>exact .nil0
 | e0 a c=>exact .e0 a c
 | sl b off n cap cs f hd hn hXb hYb hcell hr =>
  simp only[Fb,List.all_eq_true] at hx;have hall:∀ c∈cs,¬ Y' b:=fun c hc=>hYb ⟨c,hc,hx c hc⟩;refine .sl b off n cap cs f hd hn (fun hne hb => ?_) (fun ⟨c,hc,_⟩ hb=>hall c hc (hY b hb)) hcell (fun i hi => ?_)
  ·obtain⟨c,hc⟩:=List.exists_mem_of_ne_nil cs hne;rcases hX b hb with h1 | h1
   ·exact hXb hne h1
   ·exact hall c hc h1
  ·have h1:=hx _ (List.getElem_mem hi);have h2:=hr i hi;generalize cs[i]=c at h1 h2 |-;generalize f i=u at h2 |-;cases c <;> first | (cases h1;done) | (cases h2;exact .int _ _)
theorem Rd.back {Y X Y' X':Nat->Prop} {w:World} {v:Value} {x:AV} (h:Rd Y' X' w v x) (hx:U5 x=true) (hX:∀ b,X b->X' b\/Y' b) (hY:∀ b,Y b->Y' b):Rd Y X w v x:=by
 cases h with
 | agg vs cs hd h hc =>
  simp only[U5,List.all_eq_true] at hx;exact .agg vs cs hd h fun i h1 h2=>(hc i h1 h2).back1 (hx _ (List.getElem_mem h2)) hX hY
 | int k n=>exact .int k n
 | bool b=>exact .bool b
 | str s=>exact .str s
 | undef=>exact .undef
 | tup vs cs h hc=>cases hx
 | nil=>cases hx
 | pt _ _ _ _ _ _ _ _=>cases hx
 | fnc _ _ _ _=>cases hx
 | nil0=>exact .nil0
 | e0 a c=>exact .e0 a c
 | sl b off n cap cs f hd hn hXb hYb hcell hr=>exact Rd.back1 (.sl b off n cap cs f hd hn hXb hYb hcell hr) hx hX hY
theorem Rd.boolSl {Y X:Nat->Prop} {w:World} {u:Value} {b:Bool} {n:Nat} {cs:List AV} (h:Rd Y X w u (.sl n cs)):Rd Y X w (.agg #[.bool b,u]) (.agg [.bool b,.sl n cs]):=by
 refine .agg _ _ (fun x hx => ?_) rfl (fun i h1 h2 => ?_)
 ·simp only[List.mem_cons,List.not_mem_nil,or_false] at hx;rcases hx with rfl | rfl <;> rfl
 ·match i,h2 with
  | 0,_=>exact .bool b
  | 1,_=>exact h
def V0 (Y X:Nat->Prop) (w:World) (b off:Nat) (cs:List AV):Prop :=
 Dat cs/\∀ (i:Nat) (h:i<cs.length),∃ v,w.cell? ⟨b,off+i,none⟩=some v/\Rd Y X w v cs[i]
theorem V0.drop {Y X:Nat->Prop} {w:World} {b off:Nat} {cs:List AV} (h:V0 Y X w b off cs) (k:Nat):V0 Y X w b (off+k) (cs.drop k):=by
 obtain⟨hd,h⟩:=h;refine⟨fun x hx=>hd x (List.mem_of_mem_drop hx),?_⟩;intro i hi;have hi':k+i<cs.length:=by simp at hi;omega
 obtain⟨v,h1,h2⟩:=h (k+i) hi';refine⟨v,by rw[Nat.add_assoc];exact h1,?_⟩;simpa using h2
theorem V0.world {Y X:Nat->Prop} {w w':World} {b off:Nat} {cs:List AV} (h:V0 Y X w b off cs) (hw:∀ c,¬ X c->c<w.heap.size->w'.heap[c]?=w.heap[c]?)
  (hb:b<w.heap.size->w'.heap[b]?=w.heap[b]?):V0 Y X w' b off cs:=by
 obtain⟨hd,h⟩:=h;refine⟨hd,?_⟩;intro i hi;obtain⟨v,h1,h2⟩:=h i hi;exact⟨v,by rw[cell?_of_heap (hb (Ht h1))];exact h1,h2.world hw⟩
theorem V0.mono {Y X X':Nat->Prop} {w:World} {b off:Nat} {cs:List AV} (h:V0 Y X w b off cs) (hX:∀ b,X' b->X b\/w.heap.size<=b):V0 Y X' w b off cs:=by
 obtain⟨hd,h⟩:=h;refine⟨hd,?_⟩;intro i hi;obtain⟨v,h1,h2⟩:=h i hi;exact⟨v,h1,h2.mono hX⟩
def Kc:Value->Option Addr
 | .pointer (some p)=>some p
 | .slice (some p) _ _=>some p
 | .agg vs=>match vs.toList with
  | [.bool _,.slice (some p) _ _]=>some p
  | _=>none
 | .tuple vs=>match vs.toList with
  | [.slice (some p) _ _,.bool _]=>some p
  | _=>none
 | _=>none
def Z3 (v:Value):Option Nat:=(Kc v).map (·.block)
def K3:Reg->Bool
 | .box _=>true
 | .own _ _ _=>true
 | .agn _ _ _ _=>true
 | .bxl _=>true
 | _=>false
def Xq (Y X:Nat->Prop) (w:World) (b off:Nat) (cs:List AV):Prop :=
 Dat cs/\∃ (vs:Array Value) (T:TypeId),w.heap[b]?=some (.cells vs T (0,0))/\off+cs.length<=vs.size/\∀ (i:Nat) (h:i<cs.length),∃ v,vs[off+i]?=some v/\Rd Y X w v cs[i]
theorem Xq.mem {Y X:Nat->Prop} {w:World} {b off:Nat} {cs:List AV} (h:Xq Y X w b off cs):V0 Y X w b off cs:=by
 obtain⟨hd,vs,T,hb,_,hc⟩:=h;refine⟨hd,?_⟩;intro i hi;obtain⟨v,h1,h2⟩:=hc i hi;exact⟨v,by simp[World.cell?,hb,h1],h2⟩
theorem Xq.lt {Y X:Nat->Prop} {w:World} {b off:Nat} {cs:List AV} (h:Xq Y X w b off cs):b<w.heap.size:=by
 obtain⟨_,vs,T,hb,_⟩:=h;exact (Array.getElem?_eq_some_iff.1 hb).1
theorem Xq.world {Y X:Nat->Prop} {w w':World} {b off:Nat} {cs:List AV} (h:Xq Y X w b off cs) (hw:∀ c,¬ X c->c<w.heap.size->w'.heap[c]?=w.heap[c]?)
  (hb:w'.heap[b]?=w.heap[b]?):Xq Y X w' b off cs:=by
 obtain⟨hd,vs,T,h1,h2,h3⟩:=h;exact⟨hd,vs,T,by rw[hb];exact h1,h2,fun i hi=>let ⟨v,h4,h5⟩:=h3 i hi; ⟨v,h4,h5.world hw⟩⟩
theorem Xq.mono {Y X X':Nat->Prop} {w:World} {b off:Nat} {cs:List AV} (h:Xq Y X w b off cs) (hX:∀ b,X' b->X b\/w.heap.size<=b):Xq Y X' w b off cs:=by
 obtain⟨hd,vs,T,h1,h2,h3⟩:=h;exact⟨hd,vs,T,h1,h2,fun i hi=>let ⟨v,h4,h5⟩:=h3 i hi; ⟨v,h4,h5.mono hX⟩⟩
def Zon (w:World) (b m:Nat):Prop:=∃ (vs:Array Value) (T:TypeId),w.heap[b]?=some (.cells vs T (0,0))/\m<=vs.size
theorem Zon.world {w w':World} {b m:Nat} (h:Zon w b m) (hb:w'.heap[b]?=w.heap[b]?):Zon w' b m:=by
 obtain⟨vs,T,h1,h2⟩:=h;exact⟨vs,T,by rw[hb];exact h1,h2⟩
def Jr (Y X:Nat->Prop) (B:Nat) (w:World) (v:Value) (k n:Nat) (cs:List AV):Prop :=
 (v = .slice none 0 0/\n=0/\cs=[]) \/
 ∃ b cap,v = .slice (some ⟨b,0,none⟩) n cap/\n<=cap/\cs.length=n*k/\B<=b/\Xq Y X w b 0 cs/\Zon w b (cap*k)
theorem Jr.world {Y X:Nat->Prop} {B:Nat} {w w':World} {v:Value} {k n:Nat} {cs:List AV} (h:Jr Y X B w v k n cs) (hw:∀ c,¬ X c->c<w.heap.size->w'.heap[c]?=w.heap[c]?)
  (hb:∀ b,Z3 v=some b->b<w.heap.size->w'.heap[b]?=w.heap[b]?):Jr Y X B w' v k n cs:=by
 rcases h with h | ⟨b,cap,e1,e2,e3,e4,e5,e6⟩
 ·exact .inl h
 ·have hbb:w'.heap[b]?=w.heap[b]?:=hb b (by rw[e1];rfl) e5.lt;exact .inr ⟨b,cap,e1,e2,e3,e4,e5.world hw hbb,e6.world hbb⟩
theorem Jr.mono {Y X X':Nat->Prop} {B:Nat} {w:World} {v:Value} {k n:Nat} {cs:List AV} (h:Jr Y X B w v k n cs) (hX:∀ b,X' b->X b\/w.heap.size<=b):Jr Y X' B w v k n cs:=by
 rcases h with h | ⟨b,cap,e1,e2,e3,e4,e5,e6⟩
 ·exact .inl h
 ·exact .inr ⟨b,cap,e1,e2,e3,e4,e5.mono hX,e6⟩
theorem Jr.lower {Y X:Nat->Prop} {B B':Nat} {w:World} {v:Value} {k n:Nat} {cs:List AV} (h:Jr Y X B w v k n cs) (hB:B'<=B):Jr Y X B' w v k n cs:=by
 rcases h with h | ⟨b,cap,e1,e2,e3,e4,e5,e6⟩
 ·exact .inl h
 ·exact .inr ⟨b,cap,e1,e2,e3,by omega,e5,e6⟩
theorem Jr.block {Y X:Nat->Prop} {B:Nat} {w:World} {v:Value} {k n:Nat} {cs:List AV} (h:Jr Y X B w v k n cs) {b:Nat} (hb:Z3 v=some b):B<=b/\b<w.heap.size:=by
 rcases h with ⟨rfl,_⟩ | ⟨b',cap,e1,e2,e3,e4,e5,e6⟩
 ·cases hb
 ·rw[e1] at hb;simp only[Z3,Kc,Option.map_some,Option.some.injEq] at hb;subst hb;exact⟨e4,e5.lt⟩
theorem Jr.frozen {Y X X':Nat->Prop} {B:Nat} {w:World} {v:Value} {k n:Nat} {cs:List AV} (h:Jr Y X B w v k n cs) (hX:∀ b,X' b->X b\/w.heap.size<=b) (hb:∀ b,Z3 v=some b->¬ X' b) (hY:∀ b,Y b->b<B):Rd Y X' w v (.sl n cs):=by
 rcases h with ⟨rfl,rfl,rfl⟩ | ⟨b,cap,e1,e2,e3,e4,e5,e6⟩
 ·exact .nil0
 have hbb:¬ X' b:=hb b (by rw[e1];rfl);obtain⟨hd,hm⟩:=(e5.mono hX).mem;subst e1;refine .sl b 0 n cap cs (fun i=>(w.cell? ⟨b,0+i,none⟩).getD Go.undef) hd e2 (fun _=>hbb) (fun _ h=>by have:=hY b h;omega) (fun i hi => ?_) (fun i hi => ?_)
 ·obtain⟨u,h1,_⟩:=hm i hi;rw[h1];rfl
 ·obtain⟨u,h1,h2⟩:=hm i hi;rw[h1];exact h2
theorem Jr.lent {Y X Y' X':Nat->Prop} {B:Nat} {w:World} {v:Value} {k n:Nat} {cs:List AV} (h:Jr Y X B w v k n cs) (hX:∀ b,X' b->X b) (hY:∀ b,Y' b->Y b\/X b) (hb:∀ b,Z3 v=some b->¬ X' b) (hi:cs.all (fun c => !isI c)=true):Rd Y' X' w v (.sl n cs):=by
 rcases h with ⟨rfl,rfl,rfl⟩ | ⟨b,cap,e1,e2,e3,e4,e5,e6⟩
 ·exact .nil0
 have hbb:¬ X' b:=hb b (by rw[e1];rfl);obtain⟨hd,hm⟩:=e5.mem;subst e1;refine .sl b 0 n cap cs (fun i=>(w.cell? ⟨b,0+i,none⟩).getD Go.undef) hd e2 (fun _=>hbb) (fun ⟨c,hc,h1⟩ _ => ?_) (fun i hi => ?_) (fun i hi => ?_)
 ·have:=List.all_eq_true.1 hi c hc;rw[h1] at this;cases this
 ·obtain⟨u,h1,_⟩:=hm i hi;rw[h1];rfl
 ·obtain⟨u,h1,h2⟩:=hm i hi;rw[h1];exact h2.lend hX hY
def tagV:Tag->Value->Value
 | .st b,u => .agg #[.bool b,u]
 | .tp b,u => .tuple #[u,.bool b]
def Ua (Y X:Nat->Prop) (B:Nat) (w:World) (v:Value) (b:Tag) (k n:Nat) (cs:List AV):Prop:=∃ u,v=tagV b u/\Jr Y X B w u k n cs
theorem X5 {Y X:Nat->Prop} {B:Nat} {w:World} {u:Value} {k n:Nat} {cs:List AV} (b:Tag) (h:Jr Y X B w u k n cs):Z3 (tagV b u)=Z3 u:=by
 cases b <;> rcases h with ⟨rfl,_⟩ | ⟨b',cap,rfl,_⟩ <;> rfl
theorem Ua.world {Y X:Nat->Prop} {B:Nat} {w w':World} {v:Value} {b:Tag} {k n:Nat} {cs:List AV} (h:Ua Y X B w v b k n cs) (hw:∀ c,¬ X c->c<w.heap.size->w'.heap[c]?=w.heap[c]?)
  (hb:∀ b,Z3 v=some b->b<w.heap.size->w'.heap[b]?=w.heap[b]?):Ua Y X B w' v b k n cs:=by
 obtain⟨u,rfl,h⟩:=h;rw[X5 b h] at hb;exact⟨u,rfl,h.world hw hb⟩
theorem Ua.mono {Y X X':Nat->Prop} {B:Nat} {w:World} {v:Value} {b:Tag} {k n:Nat} {cs:List AV} (h:Ua Y X B w v b k n cs) (hX:∀ b,X' b->X b\/w.heap.size<=b):Ua Y X' B w v b k n cs:=by
 obtain⟨u,e,h⟩:=h;exact⟨u,e,h.mono hX⟩
theorem Ua.lower {Y X:Nat->Prop} {B B':Nat} {w:World} {v:Value} {b:Tag} {k n:Nat} {cs:List AV} (h:Ua Y X B w v b k n cs) (hB:B'<=B):Ua Y X B' w v b k n cs:=by
 obtain⟨u,e,h⟩:=h;exact⟨u,e,h.lower hB⟩
theorem Ua.own {Y X0:Nat->Prop} {Z:Nat->Prop} {B:Nat} {w:World} {v:Value} {b:Tag} {k n:Nat} {cs:List AV} (h:Ua Y (fun c=>X0 c\/Z c) B w v b k n cs) (hZ:∀ c,Z3 v=some c->Z c):Ua Y (fun c=>X0 c\/Z3 v=some c) B w v b k n cs :=
 h.mono fun c hc => .inl (hc.imp id (hZ c))
theorem Ua.block {Y X:Nat->Prop} {B:Nat} {w:World} {v:Value} {b:Tag} {k n:Nat} {cs:List AV} (h:Ua Y X B w v b k n cs) {c:Nat} (hb:Z3 v=some c):B<=c/\c<w.heap.size:=by
 obtain⟨u,rfl,h⟩:=h;rw[X5 b h] at hb;exact h.block hb
def SubV (k l h:Nat) (u v:Value):Prop:=(u = .slice none 0 0/\v = .slice none 0 0/\l=0/\h=0) \/
 ∃ b n cap,u = .slice (some ⟨b,0,none⟩) n cap/\l<=h/\h<=n/\n<=cap/\v = .slice (if cap=l then some ⟨b,0,none⟩ else some ⟨b,l*k,none⟩) (h-l) (cap-l)
def Hf (Y X:Nat->Prop) (B:Nat) (roots:List (Nat × Nat)) (tm:Array Value) (w:World) (t:Nat) (v:Value):Reg->Prop
 | .val x=>Rd Y X w v x
 | .box cs=>∃ b,v = .pointer (some ⟨b,0,none⟩)/\B<=b/\Xq Y X w b 0 cs
 | .ptr d off=>(t,d)∈roots/\∃ p,Kc (tm.getD d Go.undef)=some p/\p.spot=none/\v = .pointer (some ⟨p.block,p.off+off,none⟩)
 | .mem cs=>∃ b off,v = .pointer (some ⟨b,off,none⟩)/\(cs ≠ []->¬ X b)/\V0 Y X w b off cs
 | .own k n cs=>Jr Y X B w v k n cs
 | .agn b k n cs=>Ua Y X B w v b k n cs
 | .bxl d=>(t,d)∈roots/\∃ b,v = .pointer (some ⟨b,0,none⟩)/\B<=b/\b<w.heap.size/\∀ i,i<2->w.cell? ⟨b,i,none⟩=(tm.getD d Go.undef).cells[i]?
 | .dup d=>(t,d)∈roots/\v=tm.getD d Go.undef
 | .sub d k l h=>(t,d)∈roots/\SubV k l h (tm.getD d Go.undef) v
 | .dead=>True
def XS (s:Zg) (tm:Array Value) (b:Nat):Prop:=∃ t,K3 (Z7 s t)=true/\Z3 (tm.getD t Go.undef)=some b
structure Rel (Y X0:Nat->Prop) (roots:List (Nat × Nat)) (w0:World) (s:Zg) (a:Act) (w:World):Prop where
 dfr:a.defers=[]
 size:a.tmps.size=s.length
 below:Below w0.heap.size w0 w
 low:∀ b,X0 b->b<w0.heap.size
 lowY:∀ b,Y b->b<w0.heap.size
 reg:∀ t,Hf Y (fun b=>X0 b\/XS s a.tmps b) w0.heap.size roots a.tmps w t (a.tmps.getD t Go.undef) (Z7 s t)
 inj:∀ t t' b,K3 (Z7 s t)=true->K3 (Z7 s t')=true->Z3 (a.tmps.getD t Go.undef)=some b->Z3 (a.tmps.getD t' Go.undef)=some b->t=t'
theorem Below.ext {w w':World} (h:Below w.heap.size w w'):∀ b,b<w.heap.size->w'.heap[b]?=w.heap[b]?:=h.block
theorem G8 (tm:Array Value) (d:Nat) (v:Value) (t:Nat):(tm.setIfInBounds d v).getD t Go.undef=if d=t/\d<tm.size then v else tm.getD t Go.undef:=by
 simp only[Array.getD_eq_getD_getElem?,Array.getElem?_setIfInBounds];by_cases h:d=t
 ·subst h;by_cases h2:d<tm.size
  ·simp[h2]
  ·simp[h2]
 ·simp[h]
theorem G1 (ks:List Nat):∀ (s:Zg) (t:Nat),Z7 (Qx s (ks.map fun u=>(u,Reg.dead))) t=Z7 s t\/Z7 (Qx s (ks.map fun u=>(u,Reg.dead))) t = .dead:=by
 induction ks with
 | nil=>exact fun s t => .inl rfl
 | cons k ks ih =>
  intro s t;simp only[List.map_cons,Qx];rcases ih (s.set k .dead) t with h | h
  ·rw[h,Jk];split
   ·exact .inr rfl
   ·exact .inl rfl
  ·exact .inr h
theorem Wy (ks:List Nat):∀ (s:Zg) (t:Nat),t∈ks->Z7 (Qx s (ks.map fun u=>(u,Reg.dead))) t = .dead:=by
 induction ks with
 | nil=>intro s t h;cases h
 | cons k ks ih =>
  intro s t h;simp only[List.map_cons,Qx];by_cases hk:t∈ks
  ·exact ih _ t hk
  ·have e:t=k:=by
    cases h with
    | head=>rfl
    | tail _ h=>exact absurd h hk
   subst e;rcases G1 ks (s.set t .dead) t with h1 | h1
   ·rw[h1,Jk];split
    ·rfl
    ·rename_i hn;simp only[Z7,List.getD_eq_getElem?_getD];have:s.length<=t:=by simp at hn;exact hn
     rw[List.getElem?_eq_none this];rfl
   ·exact h1
theorem Xo (l:List (Nat × Reg)):∀ s:Zg,(Qx s l).length=s.length:=by
 induction l with
 | nil=>intro s;rfl
 | cons p l ih=>intro s;obtain⟨t,r⟩:=p;simp only[Qx,ih,List.length_set]
theorem Rel.write {Y X0:Nat->Prop} {roots:List (Nat × Nat)} {w0 w w':World} {s:Zg} {a:Act} (h:Rel Y X0 roots w0 s a w) (hw:Below w.heap.size w w')
  {d:Nat} {v:Value} {r:Reg} {ks:List Nat} (hks:∀ t,(t,d)∈roots->t∈ks\/Vc (Z7 s t)=false)
  (hfresh:K3 r=true->∀ b,Z3 v=some b->w.heap.size<=b)
  (hr:∀ X:Nat->Prop,(∀ b,X b->(X0 b\/XS s a.tmps b)\/(w.heap.size<=b/\Z3 v=some b))->(K3 r=false->∀ b,X b->X0 b\/XS s a.tmps b) ->
   Hf Y X w0.heap.size roots (a.tmps.setIfInBounds d v) w' d v r) :
  Rel Y X0 roots w0 (Wb (Qx s (ks.map fun u=>(u,Reg.dead))) (some d) r) (a.put (some d) v) w':=by
 obtain⟨hd,hs,hb,hl,hly,hreg,hinj⟩:=h;have hsz:w0.heap.size<=w.heap.size:=hb.size;have key:∀ t,Z7 (Wb (Qx s (ks.map fun u=>(u,Reg.dead))) (some d) r) t=(if d=t/\d<s.length then r else Z7 (Qx s (ks.map fun u=>(u,Reg.dead))) t):=by
  intro t;simp only[Wb];rw[Jk,Xo]
 have kv:∀ t,(a.put (some d) v).tmps.getD t Go.undef=if d=t/\d<s.length then v else a.tmps.getD t Go.undef:=by
  intro t;simp only[Act.put];rw[G8,hs]
 have hXnew:∀ b,XS (Wb (Qx s (ks.map fun u=>(u,Reg.dead))) (some d) r) (a.put (some d) v).tmps b->XS s a.tmps b\/(K3 r=true/\w.heap.size<=b/\Z3 v=some b):=by
  rintro b ⟨t,h1,h2⟩;rw[key] at h1;rw[kv] at h2;by_cases hc:d=t/\d<s.length
  ·rw[if_pos hc] at h1 h2;exact .inr ⟨h1,hfresh h1 b h2,h2⟩
  ·rw[if_neg hc] at h1 h2;rcases G1 ks s t with hk | hk
   ·rw[hk] at h1;exact .inl ⟨t,h1,h2⟩
   ·rw[hk] at h1;cases h1
 generalize hXd:(fun b=>X0 b\/XS (Wb (Qx s (ks.map fun u=>(u,Reg.dead))) (some d) r) (a.put (some d) v).tmps b)=X;have hX1:∀ b,X b->(X0 b\/XS s a.tmps b)\/w.heap.size<=b:=by
  intro b hXb;rw[<- hXd] at hXb;rcases hXb with h | h
  ·exact .inl (.inl h)
  ·rcases hXnew b h with h | h
   ·exact .inl (.inr h)
   ·exact .inr h.2.1
 have hX1':∀ b,X b->(X0 b\/XS s a.tmps b)\/(w.heap.size<=b/\Z3 v=some b):=by
  intro b hXb;rw[<- hXd] at hXb;rcases hXb with h | h
  ·exact .inl (.inl h)
  ·rcases hXnew b h with h | h
   ·exact .inl (.inr h)
   ·exact .inr h.2
 have hX2:K3 r=false->∀ b,X b->X0 b\/XS s a.tmps b:=by
  intro he b hXb;rw[<- hXd] at hXb;rcases hXb with h | h
  ·exact .inl h
  ·rcases hXnew b h with h | h
   ·exact .inr h
   ·rw[he] at h;cases h.1
 have hext:∀ (Y:Nat->Prop) (c:Nat),¬ Y c->c<w.heap.size->w'.heap[c]?=w.heap[c]?:=fun _ c _ hc=>hw.block c hc;refine⟨hd,by simp only[Act.put,Array.size_setIfInBounds,Wb,List.length_set,Xo];exact hs,?_,hl,hly,?_,?_⟩
 ·exact hb.trans (hw.mono hsz)
 ·intro t;rw[hXd,key,kv];by_cases hc:d=t/\d<s.length
  ·rw[if_pos hc,if_pos hc];obtain⟨rfl,_⟩:=hc;exact hr X hX1' hX2
  ·rw[if_neg hc,if_neg hc];rcases G1 ks s t with hk | hk
   ·rw[hk];have h0:=hreg t;cases hrt:Z7 s t with
    | val x=>rw[hrt] at h0;exact (Rd.mono h0 hX1).world (hext _)
    | box cs =>
     rw[hrt] at h0;obtain⟨b,e1,e2,e3⟩:=h0;exact⟨b,e1,e2,(e3.mono hX1).world (hext _) (hw.block b e3.lt)⟩
    | own k n cs =>
     rw[hrt] at h0;exact (Jr.mono h0 hX1).world (hext _) (fun b _ hb=>hw.block b hb)
    | agn bb k n cs =>
     rw[hrt] at h0;exact (Ua.mono h0 hX1).world (hext _) (fun b _ hb=>hw.block b hb)
    | mem cs =>
     rw[hrt] at h0;obtain⟨b,off,e1,e2,e3⟩:=h0;refine⟨b,off,e1,fun hne hXb => ?_,(e3.mono hX1).world (hext _) (fun hb=>hw.block b hb)⟩;rcases hX1 b hXb with h | h
     ·exact e2 hne h
     ·have h0:0<cs.length:=List.length_pos_iff.2 hne;obtain⟨u,hu,_⟩:=e3.2 0 h0;have:=Ht hu;simp only at this;omega
    | ptr d' off =>
     rw[hrt] at h0;obtain⟨e1,p,e2,e3,e4⟩:=h0;refine⟨e1,p,?_,e3,e4⟩;rw[kv,if_neg]
     ·exact e2
     ·rintro⟨rfl,hlt⟩;rcases hks t e1 with hh | hh
      ·have:=Wy ks s t hh;rw[hk,hrt] at this;cases this
      ·rw[hrt] at hh;cases hh
    | dup d' =>
     rw[hrt] at h0;obtain⟨e1,e2⟩:=h0;refine⟨e1,?_⟩;rw[kv,if_neg]
     ·exact e2
     ·rintro⟨rfl,hlt⟩;rcases hks t e1 with hh | hh
      ·have:=Wy ks s t hh;rw[hk,hrt] at this;cases this
      ·rw[hrt] at hh;cases hh
    | sub d' _ _ _ =>
     rw[hrt] at h0;obtain⟨e1,e2⟩:=h0;refine⟨e1,?_⟩;rw[kv,if_neg]
     ·exact e2
     ·rintro⟨rfl,hlt⟩;rcases hks t e1 with hh | hh
      ·have:=Wy ks s t hh;rw[hk,hrt] at this;cases this
      ·rw[hrt] at hh;cases hh
    | bxl d' =>
     rw[hrt] at h0;obtain⟨e1,b,e2,e3,e4,e5⟩:=h0;refine⟨e1,b,e2,e3,Nat.lt_of_lt_of_le e4 hw.size,fun i hi => ?_⟩;rw[kv,if_neg]
     ·rw[<- e5 i hi];exact cell?_of_heap (hw.block b e4)
     ·rintro⟨rfl,hlt⟩;rcases hks t e1 with hh | hh
      ·have:=Wy ks s t hh;rw[hk,hrt] at this;cases this
      ·rw[hrt] at hh;cases hh
    | dead=>trivial
   ·rw[hk];trivial
 ·intro t t' b h1 h2 h3 h4;rw[key] at h1 h2;rw[kv] at h3 h4;have old:∀ u,(¬ (d=u/\d<s.length))->K3 (Z7 (Qx s (ks.map fun u=>(u,Reg.dead))) u)=true->K3 (Z7 s u)=true:=by
   intro u _ hu;rcases G1 ks s u with hk | hk
   ·rw[hk] at hu;exact hu
   ·rw[hk] at hu;cases hu
  have lt:∀ u,K3 (Z7 s u)=true->Z3 (a.tmps.getD u Go.undef)=some b->b<w.heap.size:=by
   intro u hu hv;have h0:=hreg u;cases hrt:Z7 s u with
   | box cs =>
    rw[hrt] at h0;obtain⟨b',e1,_,e3⟩:=h0;rw[e1] at hv;simp only[Z3,Kc,Option.map_some,Option.some.injEq] at hv;exact hv ▸ e3.lt
   | own k n cs =>
    rw[hrt] at h0;exact (Jr.block h0 hv).2
   | agn bb k n cs =>
    rw[hrt] at h0;exact (Ua.block h0 hv).2
   | bxl d' =>
    rw[hrt] at h0;obtain⟨_,b',e1,_,e3,_⟩:=h0;rw[e1] at hv;simp only[Z3,Kc,Option.map_some,Option.some.injEq] at hv;exact hv ▸ e3
   | val x=>rw[hrt] at hu;cases hu
   | ptr d off=>rw[hrt] at hu;cases hu
   | mem cs=>rw[hrt] at hu;cases hu
   | dup d=>rw[hrt] at hu;cases hu
   | sub _ _ _ _=>rw[hrt] at hu;cases hu
   | dead=>rw[hrt] at hu;cases hu
  by_cases c1:d=t/\d<s.length <;> by_cases c2:d=t'/\d<s.length
  ·exact c1.1.symm.trans c2.1
  ·rw[if_pos c1] at h1 h3;rw[if_neg c2] at h2 h4;have e2:=hfresh h1 b h3;have:=lt t' (old t' c2 h2) h4;omega
  ·rw[if_neg c1] at h1 h3;rw[if_pos c2] at h2 h4;have e2:=hfresh h2 b h4;have:=lt t (old t c1 h1) h3;omega
  ·rw[if_neg c1] at h1 h3;rw[if_neg c2] at h2 h4;exact hinj t t' b (old t c1 h1) (old t' c2 h2) h3 h4
theorem XS_set {s:Zg} {tm:Array Value} {d:Nat} {r r':Reg} (h:Z7 s d=r) (he:K3 r=K3 r') (b:Nat):XS (s.set d r') tm b↔XS s tm b:=by
 have key:∀ t,K3 (Z7 (s.set d r') t)=K3 (Z7 s t):=by
  intro t;rw[Jk];split
  ·rename_i hc;obtain⟨rfl,_⟩:=hc;rw[h,he]
  ·rfl
 constructor
 ·rintro⟨t,h1,h2⟩;exact⟨t,by rw[<- key];exact h1,h2⟩
 ·rintro⟨t,h1,h2⟩;exact⟨t,by rw[key];exact h1,h2⟩
theorem Rel.store {Y X0:Nat->Prop} {roots:List (Nat × Nat)} {w0 w w':World} {s:Zg} {a:Act} (h:Rel Y X0 roots w0 s a w) {d:Nat} {r r':Reg} {b:Nat}
  (hd:Z7 s d=r) (he:K3 r=true) (he':K3 r'=true) (hv:Z3 (a.tmps.getD d Go.undef)=some b) (hbB:w0.heap.size<=b) (hos:w'.os=w.os) (htape:w'.tape=w.tape) (hout:w'.output=w.output)
  (hsize:w'.heap.size=w.heap.size) (hoth:∀ c,c ≠ b->w'.heap[c]?=w.heap[c]?)
  (hnew:∀ X:Nat->Prop,(∀ c,X c↔(X0 c\/XS s a.tmps c))->Hf Y X w0.heap.size roots a.tmps w' d (a.tmps.getD d Go.undef) r') :
  Rel Y X0 roots w0 (s.set d r') a w':=by
 obtain⟨hdf,hs,hb,hl,hly,hreg,hinj⟩:=h;have hXb:XS s a.tmps b:=⟨d,by rw[hd];exact he,hv⟩;have hXeq:∀ c,(X0 c\/XS (s.set d r') a.tmps c)↔(X0 c\/XS s a.tmps c):=fun c=>by rw[XS_set (r':=r') hd (by rw[he,he'])]
 have hmono:∀ c,(X0 c\/XS (s.set d r') a.tmps c)->(X0 c\/XS s a.tmps c)\/w.heap.size<=c:=fun c hc => .inl ((hXeq c).1 hc);have hext:∀ c,¬ (X0 c\/XS (s.set d r') a.tmps c)->c<w.heap.size->w'.heap[c]?=w.heap[c]?:=by
  intro c hc _;refine hoth c ?_;rintro rfl;exact hc ((hXeq _).2 (.inr hXb))
 have hex:∀ t,K3 (Z7 (s.set d r') t)=true->K3 (Z7 s t)=true:=by
  intro t ht;rw[Jk] at ht;split at ht
  ·rename_i hc;rw[<- hc.1,hd];exact he
  ·exact ht
 refine⟨hdf,by rw[List.length_set];exact hs,?_,hl,hly,?_,?_⟩
 ·exact⟨hos.trans hb.os,htape.trans hb.tape,hout.trans hb.output,by rw[hsize];exact hb.size,fun k hk=>(hoth k (by omega)).trans (hb.block k hk)⟩
 ·intro t;rw[Jk];split
  ·rename_i hc;obtain⟨rfl,_⟩:=hc;exact hnew _ hXeq
  ·rename_i hc;have h0:=hreg t;have hne:K3 (Z7 s t)=true->Z3 (a.tmps.getD t Go.undef) ≠ some b:=by
    intro h1 h2;have:=hinj d t b (by rw[hd];exact he) h1 hv h2;subst this;refine hc ⟨rfl,?_⟩;rcases Nat.lt_or_ge d s.length with hlt | hge
    ·exact hlt
    ·simp only[Z7,List.getD_eq_getElem?_getD,List.getElem?_eq_none hge] at hd;subst hd;cases he
   cases hrt:Z7 s t with
   | val x=>rw[hrt] at h0;exact (Rd.mono h0 hmono).world hext
   | box cs =>
    rw[hrt] at h0 hne;obtain⟨b',e1,e2,e3⟩:=h0;refine⟨b',e1,e2,(e3.mono hmono).world hext (hoth b' ?_)⟩;rintro rfl;exact hne rfl (by rw[e1];rfl)
   | own k n cs =>
    rw[hrt] at h0 hne;refine (Jr.mono h0 hmono).world hext (fun b' hb' _=>hoth b' ?_);rintro rfl;exact hne rfl hb'
   | agn bb k n cs =>
    rw[hrt] at h0 hne;refine (Ua.mono h0 hmono).world hext (fun b' hb' _=>hoth b' ?_);rintro rfl;exact hne rfl hb'
   | bxl d' =>
    rw[hrt] at h0 hne;obtain⟨e1,b',e2,e3,e4,e5⟩:=h0;refine⟨e1,b',e2,e3,by rw[hsize];exact e4,fun i hi => ?_⟩;rw[<- e5 i hi];refine cell?_of_heap (hoth b' ?_);rintro rfl;exact hne rfl (by rw[e2];rfl)
   | mem cs =>
    rw[hrt] at h0;obtain⟨b',off,e1,e2,e3⟩:=h0;refine⟨b',off,e1,fun hne hx=>e2 hne ((hXeq _).1 hx),?_⟩;by_cases hnil:cs=[]
    ·subst hnil;exact⟨fun x hx=>(by cases hx),fun i hi=>(by simp at hi)⟩
    ·refine (e3.mono hmono).world hext (fun _=>hoth b' ?_);rintro rfl;exact e2 hnil (.inr hXb)
   | ptr d' off=>rw[hrt] at h0;exact h0
   | dup d'=>rw[hrt] at h0;exact h0
   | sub _ _ _ _=>rw[hrt] at h0;exact h0
   | dead=>trivial
 ·intro t t' c h1 h2 h3 h4;exact hinj t t' c (hex t h1) (hex t' h2) h3 h4
theorem Rel.kill {Y X0:Nat->Prop} {roots:List (Nat × Nat)} {w0 w:World} {s:Zg} {a:Act} (h:Rel Y X0 roots w0 s a w) (ks:List Nat):Rel Y X0 roots w0 (Go.Ai.kill s ks) a w:=by
 obtain⟨hdf,hs,hb,hl,hly,hreg,hinj⟩:=h;have hXS:∀ b,XS (Go.Ai.kill s ks) a.tmps b->XS s a.tmps b:=by
  rintro b ⟨t,h1,h2⟩;rw[Xn] at h1;split at h1
  ·cases h1
  ·exact⟨t,h1,h2⟩
 have hmono:∀ c,(X0 c\/XS (Go.Ai.kill s ks) a.tmps c)->(X0 c\/XS s a.tmps c)\/w.heap.size<=c:=fun c hc => .inl (hc.imp id (hXS c));refine⟨hdf,by rw[Go.Ai.kill,Xo];exact hs,hb,hl,hly,fun t => ?_,fun t t' b h1 h2 h3 h4 => ?_⟩
 ·rw[Xn];split
  ·trivial
  ·have h0:=hreg t;cases hrt:Z7 s t with
   | val x=>rw[hrt] at h0;exact Rd.mono h0 hmono
   | box cs=>rw[hrt] at h0;obtain⟨b,e1,e2,e3⟩:=h0;exact⟨b,e1,e2,e3.mono hmono⟩
   | own k n cs=>rw[hrt] at h0;exact Jr.mono h0 hmono
   | agn bb k n cs=>rw[hrt] at h0;exact Ua.mono h0 hmono
   | bxl d'=>rw[hrt] at h0;exact h0
   | mem cs=>rw[hrt] at h0;obtain⟨b,off,e1,e2,e3⟩:=h0;exact⟨b,off,e1,fun hne hx=>e2 hne (hx.imp id (hXS b)),e3.mono hmono⟩
   | ptr d off=>rw[hrt] at h0;exact h0
   | dup d=>rw[hrt] at h0;exact h0
   | sub _ _ _ _=>rw[hrt] at h0;exact h0
   | dead=>trivial
 ·rw[Xn] at h1 h2;split at h1
  ·cases h1
  ·split at h2
   ·cases h2
   ·exact hinj t t' b h1 h2 h3 h4
theorem Rel.ownLow {Y X0:Nat->Prop} {roots:List (Nat × Nat)} {w0 w:World} {s:Zg} {a:Act} (h:Rel Y X0 roots w0 s a w) {x k n:Nat} {cs:List AV} (hx:Z7 s x = .own k n cs) :
  (a.tmps.getD x Go.undef = .slice none 0 0/\n=0/\cs=[]) \/
  ∃ b cap,a.tmps.getD x Go.undef = .slice (some ⟨b,0,none⟩) n cap/\n<=cap/\cs.length=n*k/\w0.heap.size<=b/\Xq Y (fun b=>X0 b\/XS s a.tmps b) w b 0 cs/\Zon w b (cap*k)/\XS s a.tmps b:=by
 have h0:=h.reg x;rw[hx] at h0;rcases h0 with h0 | ⟨b,cap,e1,e2,e3,e4,e5,e6⟩
 ·exact .inl h0
 ·exact .inr ⟨b,cap,e1,e2,e3,e4,e5,e6,x,by rw[hx];rfl,by rw[e1];rfl⟩
theorem Rel.exclLow {Y X0:Nat->Prop} {roots:List (Nat × Nat)} {w0 w:World} {s:Zg} {a:Act} (h:Rel Y X0 roots w0 s a w) {x b:Nat} (hx:K3 (Z7 s x)=true) (hb:Z3 (a.tmps.getD x Go.undef)=some b):w0.heap.size<=b/\b<w.heap.size:=by
 have h0:=h.reg x;cases hrt:Z7 s x with
 | box cs =>
  rw[hrt] at h0;obtain⟨b',e1,e2,e3⟩:=h0;rw[e1] at hb;simp only[Z3,Kc,Option.map_some,Option.some.injEq] at hb;exact hb ▸ ⟨e2,e3.lt⟩
 | own k n cs=>rw[hrt] at h0;exact Jr.block h0 hb
 | agn bb k n cs=>rw[hrt] at h0;exact Ua.block h0 hb
 | bxl d' =>
  rw[hrt] at h0;obtain⟨_,b',e1,e2,e3,_⟩:=h0;rw[e1] at hb;simp only[Z3,Kc,Option.map_some,Option.some.injEq] at hb;exact hb ▸ ⟨e2,e3⟩
 | val x=>rw[hrt] at hx;cases hx
 | ptr d off=>rw[hrt] at hx;cases hx
 | mem cs=>rw[hrt] at hx;cases hx
 | dup d=>rw[hrt] at hx;cases hx
 | sub _ _ _ _=>rw[hrt] at hx;cases hx
 | dead=>rw[hrt] at hx;cases hx
theorem Rel.shift' {Y X0:Nat->Prop} {roots:List (Nat × Nat)} {w0 w w':World} {s:Zg} {a:Act} (h:Rel Y X0 roots w0 s a w) {x d:Nat} {r:Reg} {v:Value} {b':Nat}
  (hx:K3 (Z7 s x)=true) (hb:Z3 (a.tmps.getD x Go.undef)=some b') (hks:∀ t,(t,d)∈roots->Vc (Z7 s t)=false)
  (hos:w'.os=w.os) (htape:w'.tape=w.tape) (hout:w'.output=w.output) (hsize:w'.heap.size=w.heap.size) (hoth:∀ c,c ≠ b'->w'.heap[c]?=w.heap[c]?) (hrb:K3 r=true->Z3 v=some b')
  (hnew:∀ X:Nat->Prop,(∀ c,X c->(X0 c\/XS s a.tmps c))->(K3 r=false->¬ X b')->Hf Y X w0.heap.size roots (a.tmps.setIfInBounds d v) w' d v r) :
  Rel Y X0 roots w0 (Wb (Qx s [(x,Reg.dead)]) (some d) r) (a.put (some d) v) w':=by
 have hbB:=(h.exclLow hx hb).1;have hXb:XS s a.tmps b':=⟨x,hx,hb⟩;obtain⟨hdf,hs,hbel,hl,hly,hreg,hinj⟩:=h;have hown:∀ t,K3 (Z7 s t)=true->Z3 (a.tmps.getD t Go.undef)=some b'->t=x:=fun t h1 h2=>hinj t x b' h1 hx h2 hb;have key:∀ t,Z7 (Wb (Qx s [(x,Reg.dead)]) (some d) r) t=(if d=t/\d<s.length then r else if x=t then .dead else Z7 s t):=by
  intro t;simp only[Wb,Qx];rw[Jk,List.length_set,E7]
 have kv:∀ t,(a.put (some d) v).tmps.getD t Go.undef=if d=t/\d<s.length then v else a.tmps.getD t Go.undef:=by
  intro t;simp only[Act.put];rw[G8,hs]
 have hXold:∀ c,XS (Wb (Qx s [(x,Reg.dead)]) (some d) r) (a.put (some d) v).tmps c->XS s a.tmps c:=by
  rintro c ⟨t,h1,h2⟩;rw[key] at h1;rw[kv] at h2;by_cases hc:d=t/\d<s.length
  ·rw[if_pos hc] at h1 h2;rw[hrb h1] at h2;cases h2;exact hXb
  ·rw[if_neg hc] at h1 h2;split at h1
   ·cases h1
   ·exact⟨t,h1,h2⟩
 have hnb:K3 r=false->¬ (X0 b'\/XS (Wb (Qx s [(x,Reg.dead)]) (some d) r) (a.put (some d) v).tmps b'):=by
  rintro he (hx0 | ⟨t,h1,h2⟩)
  ·have:=hl b' hx0;omega
  ·rw[key] at h1;rw[kv] at h2;by_cases hc:d=t/\d<s.length
   ·rw[if_pos hc,he] at h1;cases h1
   ·rw[if_neg hc] at h1 h2;split at h1
    ·cases h1
    ·rename_i hxt;exact hxt (hown t h1 h2).symm
 generalize hXd:(fun c=>X0 c\/XS (Wb (Qx s [(x,Reg.dead)]) (some d) r) (a.put (some d) v).tmps c)=X;have hX1:∀ c,X c->(X0 c\/XS s a.tmps c):=by
  intro c hc;rw[<- hXd] at hc;exact hc.imp id (hXold c)
 have hX2:∀ c,X c->(X0 c\/XS s a.tmps c)\/w'.heap.size<=c:=fun c hc => .inl (hX1 c hc);have hext:∀ c,¬ (X0 c\/XS s a.tmps c)->c<w.heap.size->w'.heap[c]?=w.heap[c]?:=by
  intro c hc _;refine hoth c ?_;rintro rfl;exact hc (.inr hXb)
 refine⟨hdf,by simp only[Act.put,Array.size_setIfInBounds,Wb,List.length_set,Xo];exact hs,?_,hl,hly,?_,?_⟩
 ·exact⟨hos.trans hbel.os,htape.trans hbel.tape,hout.trans hbel.output,by rw[hsize];exact hbel.size,fun c hc=>(hoth c (by omega)).trans (hbel.block c hc)⟩
 ·intro t;rw[hXd,key,kv];by_cases hc:d=t/\d<s.length
  ·rw[if_pos hc,if_pos hc];obtain⟨rfl,_⟩:=hc;exact hnew X hX1 (fun he=>by rw[<- hXd];exact hnb he)
  ·rw[if_neg hc,if_neg hc];by_cases hxt:x=t
   ·rw[if_pos hxt];trivial
   ·rw[if_neg hxt];have h0:=hreg t;have hne:K3 (Z7 s t)=true->∀ c,Z3 (a.tmps.getD t Go.undef)=some c->c ≠ b':=by
     intro h1 c h2 e;subst e;exact hxt (hown t h1 h2).symm
    cases hrt:Z7 s t with
    | val y=>rw[hrt] at h0;exact (Rd.world h0 hext).mono hX2
    | box cs =>
     rw[hrt] at h0 hne;obtain⟨c,e1,e2,e3⟩:=h0;exact⟨c,e1,e2,(e3.world hext (hoth c (hne rfl c (by rw[e1];rfl)))).mono hX2⟩
    | own k n cs =>
     rw[hrt] at h0 hne;exact (Jr.world h0 hext (fun c hc _=>hoth c (hne rfl c hc))).mono hX2
    | agn bb k n cs =>
     rw[hrt] at h0 hne;exact (Ua.world h0 hext (fun c hc _=>hoth c (hne rfl c hc))).mono hX2
    | bxl d' =>
     rw[hrt] at h0 hne;obtain⟨e1,b,e2,e3,e4,e5⟩:=h0;refine⟨e1,b,e2,e3,by rw[hsize];exact e4,fun i hi => ?_⟩;rw[kv,if_neg]
     ·rw[<- e5 i hi];exact cell?_of_heap (hoth b (hne rfl b (by rw[e2];rfl)))
     ·rintro⟨rfl,_⟩;have:=hks t e1;rw[hrt] at this;cases this
    | mem cs =>
     rw[hrt] at h0;obtain⟨c,off,e1,e2,e3⟩:=h0;refine⟨c,off,e1,fun hn hx=>e2 hn (hX1 c hx),?_⟩;by_cases hnil:cs=[]
     ·subst hnil;exact⟨fun x hx=>(by cases hx),fun i hi=>(by simp at hi)⟩
     ·refine (e3.world hext (fun _=>hoth c ?_)).mono hX2;rintro rfl;exact e2 hnil (.inr hXb)
    | ptr d' off =>
     rw[hrt] at h0;obtain⟨e1,p,e2,e3,e4⟩:=h0;refine⟨e1,p,?_,e3,e4⟩;rw[kv,if_neg]
     ·exact e2
     ·rintro⟨rfl,_⟩;have:=hks t e1;rw[hrt] at this;cases this
    | dup d' =>
     rw[hrt] at h0;obtain⟨e1,e2⟩:=h0;refine⟨e1,?_⟩;rw[kv,if_neg]
     ·exact e2
     ·rintro⟨rfl,_⟩;have:=hks t e1;rw[hrt] at this;cases this
    | sub d' _ _ _ =>
     rw[hrt] at h0;obtain⟨e1,e2⟩:=h0;refine⟨e1,?_⟩;rw[kv,if_neg]
     ·exact e2
     ·rintro⟨rfl,_⟩;have:=hks t e1;rw[hrt] at this;cases this
    | dead=>trivial
 ·intro t t' c h1 h2 h3 h4;rw[key] at h1 h2;rw[kv] at h3 h4;by_cases c1:d=t/\d<s.length <;> by_cases c2:d=t'/\d<s.length
  ·exact c1.1.symm.trans c2.1
  ·rw[if_pos c1] at h1 h3;rw[if_neg c2] at h2 h4;split at h2
   ·cases h2
   ·rename_i hxt;rw[hrb h1] at h3;cases h3;exact absurd (hown t' h2 h4).symm hxt
  ·rw[if_neg c1] at h1 h3;rw[if_pos c2] at h2 h4;split at h1
   ·cases h1
   ·rename_i hxt;rw[hrb h2] at h4;cases h4;exact absurd (hown t h1 h3).symm hxt
  ·rw[if_neg c1] at h1 h3;rw[if_neg c2] at h2 h4;split at h1
   ·cases h1
   ·split at h2
    ·cases h2
    ·exact hinj t t' c h1 h2 h3 h4
theorem Rel.shift {Y X0:Nat->Prop} {roots:List (Nat × Nat)} {w0 w w':World} {s:Zg} {a:Act} (h:Rel Y X0 roots w0 s a w) {x d k n:Nat} {cs:List AV} {r:Reg} {v:Value} {b:Nat}
  (hx:Z7 s x = .own k n cs) (hb:Z3 (a.tmps.getD x Go.undef)=some b) (hks:∀ t,(t,d)∈roots->Vc (Z7 s t)=false)
  (hos:w'.os=w.os) (htape:w'.tape=w.tape) (hout:w'.output=w.output) (hsize:w'.heap.size=w.heap.size) (hoth:∀ c,c ≠ b->w'.heap[c]?=w.heap[c]?) (hrb:K3 r=true->Z3 v=some b)
  (hnew:∀ X:Nat->Prop,(∀ c,X c->(X0 c\/XS s a.tmps c))->(K3 r=false->¬ X b)->Hf Y X w0.heap.size roots (a.tmps.setIfInBounds d v) w' d v r) :
  Rel Y X0 roots w0 (Wb (Qx s [(x,Reg.dead)]) (some d) r) (a.put (some d) v) w' :=
 h.shift' (by rw[hx];rfl) hb hks hos htape hout hsize hoth hrb hnew
theorem Rel.pass {Y X0:Nat->Prop} {roots:List (Nat × Nat)} {w0 w:World} {s:Zg} {a:Act} (h:Rel Y X0 roots w0 s a w) {x d:Nat} {r:Reg} {v:Value} (hx:K3 (Z7 s x)=true) (hv:Z3 v=Z3 (a.tmps.getD x Go.undef))
  (hks:∀ t,(t,d)∈roots->Vc (Z7 s t)=false) (hnew:∀ X:Nat->Prop,(∀ c,X c->(X0 c\/XS s a.tmps c))->Hf Y X w0.heap.size roots (a.tmps.setIfInBounds d v) w d v r) :
  Rel Y X0 roots w0 (Wb (Qx s [(x,Reg.dead)]) (some d) r) (a.put (some d) v) w:=by
 cases hb:Z3 (a.tmps.getD x Go.undef) with
 | none =>
  rw[hb] at hv;refine Rel.write (ks:=[x]) h (Below.refl _ _) (fun t ht => .inr (hks t ht)) (fun _ b hb=>by rw[hv] at hb;cases hb) (fun X h1 _=>hnew X fun c hc => ?_);rcases h1 c hc with h2 | ⟨_,h2⟩
  ·exact h2
  ·rw[hv] at h2;cases h2
 | some b=>exact h.shift' hx hb hks rfl rfl rfl rfl (fun _ _=>rfl) (fun _=>by rw[hv,hb]) (fun X h1 _=>hnew X h1)
theorem Rel.wake {Y X0:Nat->Prop} {roots:List (Nat × Nat)} {w0 w:World} {s:Zg} {a:Act} (h:Rel Y X0 roots w0 s a w) {x:Nat} {y:AV} (hx:Z7 s x = .dead)
  (hr:Rd Y (fun b=>X0 b\/XS s a.tmps b) w (a.tmps.getD x Go.undef) y):Rel Y X0 roots w0 (s.set x (.val y)) a w:=by
 obtain⟨hdf,hs,hbel,hl,hly,hreg,hinj⟩:=h;have hex:∀ t,K3 (Z7 (s.set x (.val y)) t)=K3 (Z7 s t):=by
  intro t;rw[Jk];split
  ·rename_i g;rw[<- g.1,hx];rfl
  ·rfl
 have hXS:XS (s.set x (.val y)) a.tmps=XS s a.tmps:=by
  funext b;unfold XS;simp only[hex]
 refine⟨hdf,by rw[List.length_set];exact hs,hbel,hl,hly,fun t => ?_,fun t t' b h1 h2 h3 h4=>hinj t t' b (by rw[<- hex];exact h1) (by rw[<- hex];exact h2) h3 h4⟩;rw[hXS,Jk];split
 ·rename_i g;rw[<- g.1];exact hr
 ·exact hreg t
theorem Rel.unown {Y X0:Nat->Prop} {roots:List (Nat × Nat)} {w0 w:World} {s:Zg} {a:Act} (h:Rel Y X0 roots w0 s a w) {x:Nat} {r:Reg} (hx:K3 (Z7 s x)=true) (he:K3 r=false)
  (hnew:∀ X:Nat->Prop,(∀ c,X c->(X0 c\/XS s a.tmps c)\/w.heap.size<=c)->(∀ b,Z3 (a.tmps.getD x Go.undef)=some b->¬ X b)->Hf Y X w0.heap.size roots a.tmps w x (a.tmps.getD x Go.undef) r):Rel Y X0 roots w0 (s.set x r) a w:=by
 have hlow:=fun b hb=>(h.exclLow (b:=b) hx hb).1;obtain⟨hdf,hs,hbel,hl,hly,hreg,hinj⟩:=h;have hlt:x<s.length:=by
  rcases Nat.lt_or_ge x s.length with hlt | hge
  ·exact hlt
  ·simp only[Z7,List.getD_eq_getElem?_getD,List.getElem?_eq_none hge] at hx;cases hx
 have key:∀ t,Z7 (s.set x r) t=if x=t then r else Z7 s t:=by
  intro t;rw[Jk];by_cases hxt:x=t
  ·rw[if_pos ⟨hxt,hlt⟩,if_pos hxt]
  ·rw[if_neg (fun e=>hxt e.1),if_neg hxt]
 have hXold:∀ c,XS (s.set x r) a.tmps c->XS s a.tmps c:=by
  rintro c ⟨t,h1,h2⟩;rw[key] at h1;split at h1
  ·rw[he] at h1;cases h1
  ·exact⟨t,h1,h2⟩
 have hnb:∀ b,Z3 (a.tmps.getD x Go.undef)=some b->¬ (X0 b\/XS (s.set x r) a.tmps b):=by
  rintro b hb (hx0 | ⟨t,h1,h2⟩)
  ·have h1:=hlow b hb;have:=hl b hx0;omega
  ·rw[key] at h1;split at h1
   ·rw[he] at h1;cases h1
   ·rename_i hxt;exact hxt (hinj t x b h1 hx h2 hb).symm
 have hmono:∀ c,(X0 c\/XS (s.set x r) a.tmps c)->(X0 c\/XS s a.tmps c)\/w.heap.size<=c:=fun c hc => .inl (hc.imp id (hXold c));refine⟨hdf,by rw[List.length_set];exact hs,hbel,hl,hly,fun t => ?_,fun t t' b h1 h2 h3 h4 => ?_⟩
 ·rw[key];by_cases hxt:x=t
  ·subst hxt;rw[if_pos rfl];exact hnew _ hmono hnb
  ·rw[if_neg hxt];have h0:=hreg t;cases hrt:Z7 s t with
   | val x=>rw[hrt] at h0;exact Rd.mono h0 hmono
   | box cs=>rw[hrt] at h0;obtain⟨b,e1,e2,e3⟩:=h0;exact⟨b,e1,e2,e3.mono hmono⟩
   | own k n cs=>rw[hrt] at h0;exact Jr.mono h0 hmono
   | agn bb k n cs=>rw[hrt] at h0;exact Ua.mono h0 hmono
   | bxl d'=>rw[hrt] at h0;exact h0
   | mem cs=>rw[hrt] at h0;obtain⟨b,off,e1,e2,e3⟩:=h0;exact⟨b,off,e1,fun hne hx=>e2 hne (hx.imp id (hXold b)),e3.mono hmono⟩
   | ptr d off=>rw[hrt] at h0;exact h0
   | dup d=>rw[hrt] at h0;exact h0
   | sub _ _ _ _=>rw[hrt] at h0;exact h0
   | dead=>trivial
 ·rw[key] at h1 h2;split at h1
  ·rw[he] at h1;cases h1
  ·split at h2
   ·rw[he] at h2;cases h2
   ·exact hinj t t' b h1 h2 h3 h4
theorem Rel.freeze {Y X0:Nat->Prop} {roots:List (Nat × Nat)} {w0 w:World} {s:Zg} {a:Act} (h:Rel Y X0 roots w0 s a w) {x k n:Nat} {cs:List AV} (hx:Z7 s x = .own k n cs):Rel Y X0 roots w0 (s.set x (.val (.sl n cs))) a w:=by
 refine h.unown (by rw[hx];rfl) rfl fun X h1 h2 => ?_;have h0:=h.reg x;rw[hx] at h0;exact Jr.frozen h0 h1 h2 h.lowY
theorem V0.pt {Y X:Nat->Prop} {w:World} {b off:Nat} {cs:List AV} (hX:cs ≠ []->¬ X b) (h:V0 Y X w b off cs):Rd Y X w (.pointer (some ⟨b,off,none⟩)) (.pt cs):=by
 obtain⟨hd,hm⟩:=h;refine .pt b off cs (fun i=>(w.cell? ⟨b,off+i,none⟩).getD Go.undef) hd hX (fun i hi => ?_) (fun i hi => ?_)
 ·obtain⟨u,h1,_⟩:=hm i hi;rw[h1];rfl
 ·obtain⟨u,h1,h2⟩:=hm i hi;rw[h1];exact h2
theorem Rd.ofPt {Y X:Nat->Prop} {w:World} {v:Value} {cs:List AV} (h:Rd Y X w v (.pt cs)):∃ b off,v = .pointer (some ⟨b,off,none⟩)/\(cs ≠ []->¬ X b)/\V0 Y X w b off cs:=by
 cases h with
 | pt b off _ f hd hX hcell hr=>exact⟨b,off,rfl,hX,hd,fun i hi=>⟨f i,hcell i hi,hr i hi⟩⟩
end Go.Ai
