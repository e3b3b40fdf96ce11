/- Texts of the proof of RootOrder: part 1 of 13. -/
import Derived.Orders
import Derived.Below
namespace Go.Ai
open BitVec renaming ofInt->U
open Bool renaming and_eq_true->Af,not_eq_true'->Ey
open Decidable renaming decide->A9i
open Function renaming comp->A5a
open List renaming all_cons->Ayk,all_eq_true->BY,cons_append->Ii,contains_eq_mem->IG,flatMap_cons->Xz,getD_eq_getElem?_getD->Z,getElem?_eq_none->AD,getElem?_set_ne->FN,map_cons->C8,mem_append->Cc,mem_append_left->HQ,mem_append_right->NI,mem_cons_of_mem->Bh,mem_cons_self->B4,mem_map->Ec,nil_append->JN,replicate->At,set_comm->lE
open Option renaming map_eq_some_iff->Ak,map_some->A9
open Option.some renaming injEq->A3
open Prod.mk renaming injEq->D2
inductive Tag where
 | st (b:Bool)
 | tp (b:Bool)
inductive AV where
 | int (k:IntKind) (n:Int)
 | bool (b:Bool)
 | str (s:ByteArray)
 | agg (cs:List AV)
 | nil
 | sl (n:Nat) (cs:List AV)
 | tup (vs:List AV)
 | undef
 | fresh (k n:Nat) (cs:List AV)
 | frs (b:Tag) (k n:Nat) (cs:List AV)
 | pt (cs:List AV)
 | fnc (f:Nat) (cs:List AV)
def AV.cells:AV->List AV
 | .agg cs=>cs
 | x=>[x]
inductive Reg where
 | val (x:AV)
 | box (cs:List AV)
 | ptr (d off:Nat)
 | mem (cs:List AV)
 | own (k n:Nat) (cs:List AV)
 | agn (b:Tag) (k n:Nat) (cs:List AV)
 | bxl (d:Nat)
 | dup (d:Nat)
 | sub (d k l h:Nat)
 | dead
def F3:Reg->Bool
 | .ptr _ _=>true
 | .dup _=>true
 | .sub _ _ _ _=>true
 | .bxl _=>true
 | _=>false
def Gm:Reg->Bool
 | .val _=>true
 | .box _=>true
 | .mem _=>true
 | .own _ _ _=>true
 | .agn _ _ _ _=>true
 | _=>false
theorem Zz{r:Reg}(h:Gm r=true):F3 r=false:=by cases r <;> first | rfl | cases h
abbrev Al:=List Reg
def A5(s:Al)(t:Nat):Reg:=s.getD t .dead
def Ea(s:Al):Option Nat->Reg->Al
 | none,_=>s
 | some d,r=>s.set d r
def Cd(s:Al):List (Nat × Reg)->Al
 | []=>s
 | (t,r)::l=>Cd (s.set t r) l
def Ac:Nat->List Reg->List Reg
 | 0,s=>s
 | n+1,s => .dead::Ac n s
inductive Opd where
 | t (n:Nat)
 | c (x:AV)
def Opd.reg(s:Al):Opd->Reg
 | .t n=>A5 s n
 | .c x => .val x
def Opd.av(s:Al)(o:Opd):Option AV :=
 match o.reg s with
 | .val x=>some x
 | _=>none
def Opd.rd:Opd->List Nat
 | .t n=>[n]
 | .c _=>[]
inductive K where
 | mov (x:Opd)
 | pick (c a b:Opd)
 | bin (op:BinOp) (x y:Opd)
 | eqb (neg:Bool) (x y:Opd)
 | un (op:UnOp) (x:Opd)
 | cv (k:IntKind) (x:Opd)
 | new (z:List AV) (kills:List Nat)
 | box (x:Opd) (kills:List Nat)
 | bld (z:List AV) (ps:List (Nat × Nat × Opd))
 | bls (n:Nat) (z:List AV) (ps:List (Nat × Nat × Opd))
 | adr (x d off:Nat)
 | ld (x d n:Nat) (one:Bool)
 | st (x d n:Nat) (v:Opd)
 | fld (x:Opd) (off n:Nat) (one:Bool)
 | ixa (x:Nat) (i:Opd) (k:Nat)
 | six (x i:Opd)
 | ext (x:Opd) (i:Nat)
 | len (x:Opd)
 | mx (xs:List Opd)
 | mn (xs:List Opd)
 | call (f:Nat) (xs:List Opd)
 | cpy (x:Nat)
 | tra (x:Nat)
 | frz (x:Nat)
 | mks (z:List AV) (n:Opd)
 | blo (k n:Nat) (z:List AV) (ps:List (Nat × Nat × Opd))
 | apd (ow:Bool) (x y:Opd) (k B:Nat)
 | sli (x:Opd) (lo hi mx:Option Opd) (k:Nat)
 | ixo (x d:Nat) (i:Opd) (k:Nat)
 | lno (x d:Nat)
 | clo (f:Nat) (xs:List Opd)
 | nlo (k:Nat)
 | brw (f x d:Nat)
 | bdo (a:Opd) (x:Nat) (l:List Nat)
 | cln (f:Nat) (xs:List Opd) (l:List Nat)
 | stl (x v:Nat)
 | fdo (x:Nat)
 | exo (x:Nat)
 | slo (x:Nat) (hi:Opd) (k:Nat)
 | bad
structure IOp where
 dst:Option Nat
 k:K
 g:Option (Nat × Bool):=none
 ks:List Nat:=[]
def S(d:Nat)(k:K):IOp:=⟨some d,k,none,[]⟩
def oN(k:K):IOp:=⟨none,k,none,[]⟩
def a(d:Nat)(k:K)(g:Nat)(b:Bool):IOp:=⟨some d,k,some (g,b),[]⟩
def C(d s:Nat):IOp:=⟨some d,.mov (.t s),none,[]⟩
def b(d f:Nat)(l:List Nat):IOp:=⟨some d,.call f (l.map .t),none,[]⟩
def c(d:Nat)(b:BinOp)(x y:Nat):IOp:=⟨some d,.bin b (.t x) (.t y),none,[]⟩
inductive ICode where
 | skip
 | region (drawn:Bool) (ops:List IOp)
 | seq (a b:ICode)
 | cond (c:Opd) (a b:ICode)
 | block (id:Nat) (c:ICode)
 | loop (c:ICode)
 | scope (c:ICode)
 | exit (id:Nat)
 | ret
inductive IRes where
 | tmp (t:Nat)
 | cell (t n:Nat) (one:Bool)
structure IFunc where
 params:Nat
 slots:Nat
 res:List IRes
 body:ICode
def Aht(op:BinOp)(x y:Int):Option Bool :=
 match op with
 | .eql=>some (x==y)
 | .neq=>some (x != y)
 | .lss=>some (A9i (x<y))
 | .leq=>some (A9i (x<=y))
 | .gtr=>some (A9i (x>y))
 | .geq=>some (A9i (x>=y))
 | _=>none
def LP(op:BinOp)(k:IntKind)(x y:Int):Option Int :=
 match op with
 | .and=>some (k.wrap (U k.bits x &&& U k.bits y).toNat)
 | .or=>some (k.wrap (U k.bits x ||| U k.bits y).toNat)
 | .xor=>some (k.wrap (U k.bits x ^^^ U k.bits y).toNat)
 | _=>none
def bL(op:BinOp)(k:IntKind)(x y:Int):Option AV :=
 match op with
 | .add=>some (.int k (k.wrap (x+y)))
 | .sub=>some (.int k (k.wrap (x-y)))
 | .mul=>some (.int k (k.wrap (x*y)))
 | .quo=>if y=0 then none else some (.int k (k.wrap (x.tdiv y)))
 | .rem=>if y=0 then none else some (.int k (x.tmod y))
 | .and | .or | .xor=>(LP op k x y).map (.int k)
 | _=>(Aht op x y).map .bool
def Q_(op:BinOp)(k:IntKind)(x y:Int):Option AV :=
 if y<0 then none
 else match op with
  | .shl=>some (.int k (k.wrap (x*2^(min y.toNat k.bits))))
  | .shr=>some (.int k (x.fdiv (2^(min y.toNat k.bits))))
  | _=>none
def J1:BinOp->Bool
 | .shl | .shr=>true
 | _=>false
def Md(op:BinOp)(x y:AV):Option AV :=
 match x,y with
 | .int k a,.int k' b=>if J1 op then Q_ op k a b else if k=k' then bL op k a b else none
 | _,_=>none
def unA(op:UnOp)(x:AV):Option AV :=
 match op,x with
 | .neg,.int k n=>some (.int k (k.wrap (0-n)))
 | .not,.bool b=>some (.bool (!b))
 | _,_=>none
def Ya(k:IntKind):Int->List AV->Option Int
 | m,[]=>some m
 | m,.int k' n::l=>if k=k' then Ya k (if n>m then n else m) l else none
 | _,_=>none
def Yb(k:IntKind):Int->List AV->Option Int
 | m,[]=>some m
 | m,.int k' n::l=>if k=k' then Yb k (if n<m then n else m) l else none
 | _,_=>none
def Bv(cs:List AV)(off n:Nat)(one:Bool):Option AV :=
 if one then cs[off]? else if off+n<=cs.length then some (.agg ((cs.drop off).take n)) else none
def C6(cs:List AV)(off:Nat)(new:List AV):Option (List AV) :=
 if off+new.length<=cs.length then some (cs.take off++new++cs.drop (off+new.length)) else none
def Lm:AV->Bool
 | .int _ _ | .bool _ | .str _ | .nil | .sl _ _=>true
 | _=>false
def Gn(x:AV)(n:Nat):Option (List AV) :=
 match x with
 | .agg cs=>if cs.length=n then some cs else none
 | .tup _=>none
 | .undef=>none
 | .fresh _ _ _=>none
 | .frs _ _ _ _=>none
 | .pt _=>none
 | .fnc _ _=>none
 | x=>if n=1 then some [x] else none
def FV(s:Al):List AV->List (Nat × Nat × Opd)->Option (List AV)
 | cs,[]=>some cs
 | cs,(off,n,o)::ps =>
  match o.av s with
  | none=>none
  | some x=>match Gn x n with
   | none=>none
   | some ys=>match C6 cs off ys with
    | none=>none
    | some cs'=>FV s cs' ps
def avs(s:Al):List Opd->Option (List AV)
 | []=>some []
 | o::l=>match o.av s with
  | none=>none
  | some x=>match avs s l with
   | none=>none
   | some xs=>some (x::xs)
abbrev BM:=Nat->List AV->Option AV
def UI:AV->Bool
 | .int _ _=>true
 | _=>false
def Me:AV->Bool
 | .sl _ cs=>cs.all UI
 | .int _ _=>true
 | .bool _=>true
 | .str _=>true
 | .undef=>true
 | _=>false
def G9:AV->Bool
 | .agg cs=>cs.all Me
 | x=>Me x
def KK:AV->AV
 | .fresh _ n cs => .sl n cs
 | .frs (.st b) _ n cs => .agg [.bool b,.sl n cs]
 | .frs (.tp b) _ n cs => .tup [.sl n cs,.bool b]
 | x=>x
def Ln:AV->Reg
 | .fresh k n cs => .own k n cs
 | .frs b k n cs => .agn b k n cs
 | x => .val x
def Qg:Opd->List (Nat × Reg)
 | .t n=>[(n,.dead)]
 | .c _=>[]
def Cz(z:List AV):Nat->List AV
 | 0=>[]
 | n+1=>z++Cz z n
def GR(s:Al)(d:Nat):Option Opd->Option Nat
 | none=>some d
 | some o=>match o.av s with
  | some (.int _ i)=>if 0<=i then some i.toNat else none
  | _=>none
def BJ(F:BM)(s:Al):K->Option (Reg × List (Nat × Reg))
 | .mov x=>(x.av s).map fun v=>(.val v,[])
 | .pick c a b =>
  match c.av s with
  | some (.bool true)=>(a.av s).map fun v=>(.val v,[])
  | some (.bool false)=>(b.av s).map fun v=>(.val v,[])
  | _=>none
 | .bin op x y =>
  match x.av s,y.av s with
  | some a,some b=>(Md op a b).map fun v=>(.val v,[])
  | _,_=>none
 | .eqb neg x y =>
  match x.av s,y.av s with
  | some (.bool a),some (.bool b)=>some (.val (.bool (if neg then !(a==b) else a==b)),[])
  | _,_=>none
 | .un op x=>match x.av s with
  | some a=>(unA op a).map fun v=>(.val v,[])
  | none=>none
 | .cv k x=>match x.av s with
  | some (.int _ n)=>some (.val (.int k (k.wrap n)),[])
  | _=>none
 | .new z kills=>some (.box z,kills.map fun t=>(t,.dead))
 | .box x kills=>match x.av s with
  | some (.agg cs)=>some (.box cs,kills.map fun t=>(t,.dead))
  | some x=>if Lm x then some (.box [x],kills.map fun t=>(t,.dead)) else none
  | none=>none
 | .bld z ps=>(FV s z ps).map fun cs=>(.val (.agg cs),[])
 | .bls n z ps=>(FV s z ps).map fun cs=>(.val (.sl n cs),[])
 | .adr x d off=>match A5 s x with
  | .box _=>if x=d then some (.ptr d off,[]) else none
  | .ptr d' o=>if d'=d then some (.ptr d (o+off),[]) else none
  | .mem cs=>some (.mem (cs.drop off),[])
  | _=>none
 | .ld x d n one=>match A5 s x with
  | .box cs=>if x=d then (Bv cs 0 n one).map fun v=>(.val v,[]) else none
  | .ptr d' off=>if d'=d then (match A5 s d with
   | .box cs=>(Bv cs off n one).map fun v=>(.val v,[])
   | .own _ _ cs=>(Bv cs off n one).map fun v=>(.val v,[])
   | _=>none) else none
  | .mem cs=>(Bv cs 0 n one).map fun v=>(.val v,[])
  | _=>none
 | .st x d n v=>match v.av s with
  | none=>none
  | some a=>match Gn a n with
   | none=>none
   | some ys=>match A5 s x with
    | .box cs=>if x=d then (C6 cs 0 ys).map fun cs'=>(.dead,[(d,.box cs')]) else none
    | .ptr d' off=>if d'=d then (match A5 s d with
     | .box cs=>(C6 cs off ys).map fun cs'=>(.dead,[(d,.box cs')])
     | .own k m cs=>(C6 cs off ys).map fun cs'=>(.dead,[(d,.own k m cs')])
     | _=>none) else none
    | _=>none
 | .fld x off n one=>match x.av s with
  | some (.agg cs)=>(Bv cs off n one).map fun v=>(.val v,[])
  | _=>none
 | .ixa x i k=>match i.av s with
  | some (.int _ i)=>(match A5 s x with
   | .val (.sl n cs)=>if 0<=i/\i<n then some (.mem (cs.drop (i.toNat*k)),[]) else none
   | _=>none)
  | _=>none
 | .six x i=>match x.av s,i.av s with
  | some (.str b),some (.int _ i)=>(if 0<=i then b[i.toNat]? else none).map fun c=>(.val (.int .u8 c.toNat),[])
  | _,_=>none
 | .ext x i=>match x.av s with
  | some (.tup vs)=>(vs[i]?).map fun v=>(.val v,[])
  | _=>none
 | .len x=>match x.av s with
  | some .nil=>some (.val (.int .i64 0),[])
  | some (.sl n _)=>some (.val (.int .i64 n),[])
  | _=>none
 | .mx xs=>match avs s xs with
  | some (.int k n::l)=>(Ya k n l).map fun m=>(.val (.int k m),[])
  | _=>none
 | .mn xs=>match avs s xs with
  | some (.int k n::l)=>(Yb k n l).map fun m=>(.val (.int k m),[])
  | _=>none
 | .call f xs=>match avs s xs with
  | some vs=>(F f vs).map fun v=>(.val (KK v),[])
  | none=>none
 | .clo f xs=>match avs s xs with
  | some vs=>(F f vs).map fun v=>(Ln v,[])
  | none=>none
 | .brw f x d=>match A5 s x with
  | .dup d'=>if d'=d then (match A5 s d with
   | .own _ n cs=>if cs.all (fun c => !UI c) then (match F f [.sl n cs] with
    | some y=>if G9 (KK y) then some (.val (KK y),[]) else none
    | none=>none) else none
   | _=>none) else none
  | _=>none
 | .cpy x=>match A5 s x with
  | .val v=>some (.val v,[])
  | .own _ _ _=>some (.dup x,[])
  | _=>none
 | .tra x=>match A5 s x with
  | .val v=>some (.val v,[])
  | .own k n cs=>some (.own k n cs,[(x,.dead)])
  | .agn b k n cs=>some (.agn b k n cs,[(x,.dead)])
  | _=>none
 | .frz x=>match A5 s x with
  | .val v=>some (.val v,[])
  | .own _ n cs=>some (.val (.sl n cs),[(x,.val (.sl n cs))])
  | _=>none
 | .mks z n=>match n.av s with
  | some (.int _ m)=>if 0<=m/\m<=1048576 then some (.own z.length m.toNat (Cz z m.toNat),[]) else none
  | _=>none
 | .blo k n z ps=>(FV s z ps).map fun cs=>(.own k n cs,[])
 | .apd ow x y k B=>match y.av s with
  | some .nil=>(match x.reg s with
   | .val .nil=>some (.val .nil,[])
   | .own k' n cs=>if k'=k then some (if ow then .own k n cs else .val (.sl n cs),Qg x) else none
   | _=>none)
  | some (.sl m ys)=>if ys.length=m*k then (match x.reg s with
   | .val .nil=>if m<=B then some (if ow then .own k m ys else .val (.sl m ys),[]) else none
   | .own k' n cs=>if k'=k/\n+m<=B then some (if ow then .own k (n+m) (cs++ys) else .val (.sl (n+m) (cs++ys)),Qg x) else none
   | _=>none) else none
  | _=>none
 | .sli x lo hi mx k=>match x.av s with
  | some .nil=>(match GR s 0 mx,GR s 0 hi,GR s 0 lo with
   | some 0,some 0,some 0=>if mx.isSome->hi.isSome then some (.val .nil,[]) else none
   | _,_,_=>none)
  | some (.sl n cs)=>(match GR s n mx,GR s n hi,GR s 0 lo with
   | some m,some h,some l=>if l<=h/\h<=m/\m<=n/\(mx.isSome->hi.isSome) then some (.val (.sl (h-l) ((cs.drop (l*k)).take ((h-l)*k))),[]) else none
   | _,_,_=>none)
  | _=>none
 | .ixo x d i k=>match i.av s with
  | some (.int _ i)=>(match A5 s x with
   | .val (.sl n cs)=>if 0<=i/\i<n then some (.mem (cs.drop (i.toNat*k)),[]) else none
   | .dup d'=>if d'=d then (match A5 s d with
    | .own k' n _=>if k'=k/\0<=i/\i<n then some (.ptr d (i.toNat*k),[]) else none
    | _=>none) else none
   | _=>none)
  | _=>none
 | .lno x d=>match A5 s x with
  | .val .nil=>some (.val (.int .i64 0),[])
  | .val (.sl n _)=>some (.val (.int .i64 n),[])
  | .dup d'=>if d'=d then (match A5 s d with
   | .own _ n _=>some (.val (.int .i64 n),[])
   | _=>none) else none
  | _=>none
 | .nlo k=>some (.own k 0 [],[])
 | .bdo a x l=>match a.av s with
  | some (.bool b)=>(match A5 s x with
   | .own k n cs=>if l.all (fun t=>Gm (A5 s t)) then some (.agn (.st b) k n cs,[(x,.dead)]) else none
   | _=>none)
  | _=>none
 | .cln f xs l=>match avs s xs with
  | some vs=>if l.all (fun t=>Gm (A5 s t)) then (F f vs).map fun v=>(Ln v,[]) else none
  | none=>none
 | .stl x v=>match A5 s x with
  | .box cs=>(match A5 s v with
   | .agn (.st _) _ _ _=>if cs.length=2 then some (.dead,[(x,.bxl v)]) else none
   | _=>none)
  | _=>none
 | .fdo x=>match A5 s x with
  | .agn (.st _) k n cs=>some (.own k n cs,[(x,.dead)])
  | _=>none
 | .exo x=>match A5 s x with
  | .agn (.tp b) k n cs=>some (.own k n cs,[(x,.val (.tup [.sl n [],.bool b]))])
  | _=>none
 | .slo x hi k=>match hi.av s with
  | some (.int _ h)=>(match A5 s x with
   | .own k' n cs=>if k'=k/\0<=h/\h<=n then some (.own k h.toNat (cs.take (h.toNat*k)),[(x,.dead)]) else none
   | _=>none)
  | _=>none
 | .bad=>none
def GS(s:Al):Option (Nat × Bool)->Option Bool
 | none=>some true
 | some (t,b)=>match A5 s t with
  | .val (.bool c)=>some (c==b)
  | .val .undef=>some false
  | _=>none
def kill(s:Al)(ks:List Nat):Al:=Cd s (ks.map fun t=>(t,.dead))
def Iw(F:BM)(o:IOp)(s:Al):Option Al :=
 match GS s o.g with
 | none=>none
 | some false=>some (Ea s o.dst (.val .undef))
 | some true=>match BJ F s o.k with
  | none=>none
  | some (r,l)=>some (Ea (Cd s l) o.dst r)
def FW(F:BM)(o:IOp)(s:Al):Option Al:=Iw F o (kill s o.ks)
def Ej(F:BM):List IOp->Al->Option Al
 | [],s=>some s
 | o::l,s=>match FW F o s with
  | none=>none
  | some s'=>Ej F l s'
inductive Ex where
 | norm
 | exit (id:Nat)
 | ret
def JM(s:Al)(c:Opd):Option Bool :=
 match c.av s with
 | some (.bool b)=>some b
 | _=>none
def Cr(F:BM):Nat->ICode->Al->Option (Ex × Al)
 | 0,_,_=>none
 | _+1,.skip,s=>some (.norm,s)
 | _+1,.region _ ops,s=>(Ej F ops s).map fun s'=>(.norm,s')
 | n+1,.seq a b,s=>match Cr F n a s with
  | some (.norm,s')=>Cr F n b s'
  | r=>r
 | n+1,.cond c a b,s=>match JM s c with
  | some true=>Cr F n a s
  | some false=>Cr F n b s
  | none=>none
 | n+1,.block id c,s=>match Cr F n c s with
  | some (.exit i,s')=>if i=id then some (.norm,s') else some (.exit i,s')
  | r=>r
 | n+1,.loop c,s=>match Cr F n c s with
  | some (.norm,s')=>Cr F n (.loop c) s'
  | r=>r
 | n+1,.scope c,s=>Cr F n c s
 | _+1,.exit id,s=>some (.exit id,s)
 | _+1,.ret,s=>some (.ret,s)
def ER(s:Al):IRes->Option AV
 | .tmp t=>match A5 s t with
  | .val x=>some x
  | .own _ n cs=>some (.sl n cs)
  | _=>none
 | .cell t n one=>match A5 s t with
  | .box cs=>Bv cs 0 n one
  | _=>none
def DU(s:Al):List IRes->Option (List AV)
 | []=>some []
 | r::l=>match ER s r with
  | none=>none
  | some x=>match DU s l with
   | none=>none
   | some xs=>some (x::xs)
def HS(s:Al):List IRes->Option AV
 | [.tmp t]=>match A5 s t with
  | .own k n cs=>some (.fresh k n cs)
  | .agn b k n cs=>some (.frs b k n cs)
  | _=>none
 | [.tmp t,.tmp u]=>match A5 s t with
  | .own k n cs=>(match A5 s u with
   | .val (.bool b)=>some (.frs (.tp b) k n cs)
   | _=>none)
  | _=>none
 | [.cell t n one]=>match A5 s t with
  | .bxl d=>(match A5 s d with
   | .agn (.st b) k m cs=>if n=2/\one=false then some (.frs (.st b) k m cs) else none
   | _=>none)
  | _=>none
 | _=>none
def HJ(s:Al)(l:List IRes):Option AV :=
 match HS s l with
 | some x=>some x
 | none =>
 match DU s l with
 | some [x]=>some x
 | some xs=>some (.tup xs)
 | none=>none
def Lo:AV->Reg
 | .pt cs => .mem cs
 | x => .val x
def H'(fn:IFunc)(args:List AV):Al:=args.map Lo++At (fn.slots-args.length) .dead
def NO(prog:Nat->Option IFunc):Nat->BM
 | 0,_,_=>none
 | n+1,f,args=>match prog f with
  | none=>none
  | some fn=>if args.length=fn.params then (match Cr (NO prog n) n fn.body (H' fn args) with
   | some (.exit _,_)=>none
   | some (_,s)=>HJ s fn.res
   | none=>none) else none
abbrev LI:=List Int
abbrev Y{α:Type}(f:List α->List AV)(xs:List α):AV:=.sl xs.length (f xs)
def rg:List IOp -> ICode:=.region false
def i(n:Int):Opd:=.c (.int .i64 n)
def r(b:Bool):Opd:=.c (.bool b)
def e(l:List IOp)(b:ICode):ICode:=.seq (.region false l) b
instance(n:Nat):OfNat Opd n:=⟨.t n⟩
def g(d a b c:Nat):IOp:=⟨some d,.ld a b c false,none,[]⟩
def p(d a b:Nat):IOp:=⟨some d,.ext (.t a) b,none,[]⟩
def k(a b c d:Nat):IOp:=⟨none,.st a b c (.t d),none,[]⟩
def q(d a b c:Nat):IOp:=⟨some d,.ixa a (.t b) c,none,[]⟩
def h(d:Nat)(b:BinOp)(x:Nat)(n:Int):IOp:=⟨some d,.bin b (.t x) (.c (.int .i64 n)),none,[]⟩
def MD(l:List Opd):List Nat:=l.flatMap Opd.rd
def rdO:Option Opd->List Nat
 | none=>[]
 | some o=>o.rd
def UJ(l:List (Nat × Nat × Opd)):List Nat:=l.flatMap fun p=>p.2.2.rd
def rdK:K->List Nat
 | .mov x=>x.rd
 | .pick c a b=>c.rd++(a.rd++b.rd)
 | .bin _ x y=>x.rd++y.rd
 | .eqb _ x y=>x.rd++y.rd
 | .un _ x=>x.rd
 | .cv _ x=>x.rd
 | .new _ _=>[]
 | .box x _=>x.rd
 | .bld _ ps=>UJ ps
 | .bls _ _ ps=>UJ ps
 | .adr x _ _=>[x]
 | .ld x d _ _=>[x,d]
 | .st x d _ v=>x::d::v.rd
 | .fld x _ _ _=>x.rd
 | .ixa x i _=>x::i.rd
 | .six x i=>x.rd++i.rd
 | .ext x _=>x.rd
 | .len x=>x.rd
 | .mx xs=>MD xs
 | .mn xs=>MD xs
 | .call _ xs=>MD xs
 | .clo _ xs=>MD xs
 | .cpy x=>[x]
 | .tra x=>[x]
 | .frz x=>[x]
 | .mks _ n=>n.rd
 | .blo _ _ _ ps=>UJ ps
 | .apd _ x y _ _=>x.rd++y.rd
 | .sli x lo hi mx _=>x.rd++(rdO lo++(rdO hi++rdO mx))
 | .ixo x d i _=>x::d::i.rd
 | .lno x d=>[x,d]
 | .nlo _=>[]
 | .brw _ x d=>[x,d]
 | .bdo a x l=>x::(a.rd++l)
 | .cln _ xs l=>MD xs++l
 | .stl x v=>[x,v]
 | .fdo x=>[x]
 | .exo x=>[x]
 | .slo x hi _=>x::hi.rd
 | .bad=>[]
def Qh:K->List Nat
 | .new _ kills=>kills
 | .box _ kills=>kills
 | .st _ d _ _=>[d]
 | .tra x=>[x]
 | .frz x=>[x]
 | .apd _ x _ _ _=>x.rd
 | .bdo _ x _=>[x]
 | .stl x _=>[x]
 | .fdo x=>[x]
 | .exo x=>[x]
 | .slo x _ _=>[x]
 | _=>[]
def IOp.rd(o:IOp):List Nat:=rdK o.k++(o.g.toList.map (·.1))
def IOp.wr(o:IOp):List Nat:=Qh o.k++(o.dst.toList++o.ks)
def Ff(l:List Nat)(s s':Al):Prop:=∀ t∈l,A5 s t=A5 s' t
theorem Ff.left{l m:List Nat}{s s':Al}(h:Ff (l++m) s s'):Ff l s s':=fun t ht=>h t (HQ _ ht)
theorem Ff.right{l m:List Nat}{s s':Al}(h:Ff (l++m) s s'):Ff m s s':=fun t ht=>h t (NI _ ht)
theorem Ff.head{t:Nat}{m:List Nat}{s s':Al}(h:Ff (t::m) s s'):A5 s t=A5 s' t:=h t (B4 ..)
theorem Ff.tail{t:Nat}{m:List Nat}{s s':Al}(h:Ff (t::m) s s'):Ff m s s':=fun u hu=>h u (Bh _ hu)
theorem BA{o:Opd}{s s':Al}(h:Ff o.rd s s'):o.av s=o.av s':=by
 cases o with
 | t n=>simp only[Opd.av,Opd.reg,h n (by simp[Opd.rd])]
 | c x=>rfl
theorem UK{o:Opd}{s s':Al}(h:Ff o.rd s s'):o.reg s=o.reg s':=by
 cases o with
 | t n=>simp only[Opd.reg,h n (by simp[Opd.rd])]
 | c x=>rfl
theorem NP{o:Option Opd}{d:Nat}{s s':Al}(h:Ff (rdO o) s s'):GR s d o=GR s' d o:=by
 cases o with
 | none=>rfl
 | some o=>simp only[GR,BA (o:=o) h]
theorem IR{s s':Al}:∀ {l:List Opd},Ff (MD l) s s'->avs s l=avs s' l
 | [],_=>rfl
 | o::l,h=>by
  have h1:Ff o.rd s s':=fun t ht=>h t (by simp[MD,ht]);have h2:Ff (MD l) s s':=fun t ht=>h t (by simp only[MD,Xz,Cc];exact .inr ht);simp only[avs,BA h1,IR h2]
theorem Kl{s s':Al}:∀ {ps:List (Nat × Nat × Opd)} {cs:List AV},Ff (UJ ps) s s'->FV s cs ps=FV s' cs ps
 | [],_,_=>rfl
 | (off,n,o)::ps,cs,h=>by
  have h1:Ff o.rd s s':=fun t ht=>h t (by simp[UJ,ht]);have h2:Ff (UJ ps) s s':=fun t ht=>h t (by simp only[UJ,Xz,Cc];exact .inr ht);have ih:∀ cs':List AV,FV s cs' ps=FV s' cs' ps:=fun cs'=>Kl h2;simp only[FV,BA h1,ih]
theorem UL{l:List Nat}{s s':Al}{p:Reg->Bool}(h:Ff l s s'):(l.all fun t=>p (A5 s t))=(l.all fun t=>p (A5 s' t)):=by
 induction l with
 | nil=>rfl
 | cons t l ih=>simp only[Ayk,h.head,ih h.tail]
theorem lF{F:BM}{k:K}{s s':Al}(h:Ff (rdK k) s s'):BJ F s k=BJ F s' k:=by
 cases k <;> simp only[rdK] at h
 case mov x=>simp only[BJ,BA h]
 case pick c a b=>simp only[BJ,BA h.left,BA h.right.left,BA h.right.right]
 case bin op x y=>simp only[BJ,BA h.left,BA h.right]
 case eqb neg x y=>simp only[BJ,BA h.left,BA h.right]
 case un op x=>simp only[BJ,BA h]
 case cv k x=>simp only[BJ,BA h]
 case new z kills=>rfl
 case box x kills=>simp only[BJ,BA h]
 case bld z ps=>simp only[BJ,Kl h]
 case bls n z ps=>simp only[BJ,Kl h]
 case adr x d off=>simp only[BJ,h.head]
 case ld x d n one=>simp only[BJ,h.head,h.tail.head]
 case st x d n v=>simp only[BJ,h.head,h.tail.head,BA h.tail.tail]
 case fld x off n one=>simp only[BJ,BA h]
 case ixa x i k=>simp only[BJ,h.head,BA h.tail]
 case six x i=>simp only[BJ,BA h.left,BA h.right]
 case ext x i=>simp only[BJ,BA h]
 case len x=>simp only[BJ,BA h]
 case mx xs=>simp only[BJ,IR h]
 case mn xs=>simp only[BJ,IR h]
 case call f xs=>simp only[BJ,IR h]
 case clo f xs=>simp only[BJ,IR h]
 case cpy x=>simp only[BJ,h.head]
 case tra x=>simp only[BJ,h.head]
 case frz x=>simp only[BJ,h.head]
 case mks z n=>simp only[BJ,BA h]
 case blo k n z ps=>simp only[BJ,Kl h]
 case apd ow x y k B=>simp only[BJ,UK h.left,BA h.right]
 case sli x lo hi mx k=>simp only[BJ,BA h.left,NP h.right.left,NP h.right.right.left,NP h.right.right.right]
 case ixo x d i k=>simp only[BJ,h.head,h.tail.head,BA h.tail.tail]
 case lno x d=>simp only[BJ,h.head,h.tail.head]
 case nlo k=>rfl
 case bdo a x l =>
  have hl:(l.all fun t=>Gm (A5 s t))=(l.all fun t=>Gm (A5 s' t)):=UL (p:=Gm) h.tail.right;simp only[BJ,h.head,BA h.tail.left,hl]
 case cln f xs l =>
  have hl:(l.all fun t=>Gm (A5 s t))=(l.all fun t=>Gm (A5 s' t)):=UL (p:=Gm) h.right;simp only[BJ,IR h.left,hl]
 case stl x v=>simp only[BJ,h.head,h.tail.head]
 case fdo x=>simp only[BJ,h.head]
 case exo x=>simp only[BJ,h.head]
 case slo x hi k=>simp only[BJ,h.head,BA h.tail]
 case brw f x d=>simp only[BJ,h.head,h.tail.head]
 case bad=>rfl
theorem vN{F:BM}{k:K}{s:Al}{r:Reg}{l:List (Nat × Reg)}(h:BJ F s k=some (r,l)):∀ p∈l,p.1∈Qh k:=by
 cases k
 case new z kills=>simp only[BJ,A3,D2] at h;obtain⟨_,rfl⟩:=h;simp[Qh]
 case box x kills =>
  simp only[BJ] at h;split at h
  ·simp only[A3,D2] at h;obtain⟨_,rfl⟩:=h;simp[Qh]
  ·split at h
   ·simp only[A3,D2] at h;obtain⟨_,rfl⟩:=h;simp[Qh]
   ·cases h
  ·cases h
 case st x d n v =>
  simp only[BJ] at h;split at h
  ·cases h
  ·split at h
   ·cases h
   ·split at h
    ·split at h
     ·simp only[Ak] at h;obtain⟨a,_,h⟩:=h;cases h;simp[Qh]
     ·cases h
    ·split at h
     ·split at h
      ·simp only[Ak] at h;obtain⟨a,_,h⟩:=h;cases h;simp[Qh]
      ·simp only[Ak] at h;obtain⟨a,_,h⟩:=h;cases h;simp[Qh]
      ·cases h
     ·cases h
    ·cases h
 case tra x =>
  simp only[BJ] at h;split at h <;> cases h <;> simp[Qh]
 case frz x =>
  simp only[BJ] at h;split at h <;> cases h <;> simp[Qh]
 case bdo a x ls =>
  simp only[BJ] at h;repeat' split at h
  all_goals cases h
  simp[Qh]
 case stl x v =>
  simp only[BJ] at h;repeat' split at h
  all_goals cases h
  simp[Qh]
 case fdo x =>
  simp only[BJ] at h;split at h <;> cases h;simp[Qh]
 case exo x =>
  simp only[BJ] at h;split at h <;> cases h;simp[Qh]
 case slo x hi k =>
  simp only[BJ] at h;repeat' split at h
  all_goals cases h
  simp[Qh]
 case apd ow x y k B =>
  have hk:∀ p∈Qg x,p.1∈x.rd:=by cases x <;> simp[Qg,Opd.rd]
  simp only[BJ] at h;intro p hp;repeat' split at h
  all_goals first
   | (cases h;exact hk p hp)
   | (cases h;cases hp)
   | cases h
 all_goals
  have:l=[]:=by
   revert h;simp only[BJ];repeat' split
   all_goals
    intro h;first
     | cases h;rfl
     | (simp only[Ak] at h;obtain⟨_,_,h⟩:=h;cases h;rfl)
     | cases h
  subst this;intro p hp;cases hp
def Yc(F:BM)(o:IOp)(s:Al):Option (List (Nat × Reg)) :=
 match GS s o.g with
 | none=>none
 | some false=>some (o.dst.toList.map fun d=>(d,.val .undef))
 | some true=>(BJ F s o.k).map fun p=>p.2++o.dst.toList.map fun d=>(d,p.1)
def UM(F:BM)(o:IOp)(s:Al):Option (List (Nat × Reg)):=(Yc F o (kill s o.ks)).map fun l=>(o.ks.map fun t=>(t,Reg.dead))++l
theorem PF(s:Al)(l m:List (Nat × Reg)):Cd s (l++m)=Cd (Cd s l) m:=by
 induction l generalizing s with
 | nil=>rfl
 | cons p l ih=>obtain⟨t,r⟩:=p;simp only[Ii,Cd,ih]
theorem bO(s:Al)(d:Option Nat)(r:Reg):Ea s d r=Cd s (d.toList.map fun d=>(d,r)):=by
 cases d <;> rfl
theorem Yd(F:BM)(o:IOp)(s:Al):Iw F o s=(Yc F o s).map (Cd s):=by
 simp only[Iw,Yc];cases GS s o.g with
 | none=>rfl
 | some b =>
  cases b with
  | false=>simp only[A9,bO]
  | true =>
   cases BJ F s o.k with
   | none=>rfl
   | some p=>obtain⟨r,l⟩:=p;simp only[A9,PF,bO]
theorem UN(F:BM)(o:IOp)(s:Al):FW F o s=(UM F o s).map (Cd s):=by
 simp only[FW,UM,Yd,Option.map_map];congr 1;funext l;simp only[A5a,PF,kill]
theorem Z0{s:Al}{t u:Nat}{r:Reg}(h:t ≠ u):A5 (s.set t r) u=A5 s u:=by
 simp only[A5,Z,FN h]
theorem D0(s:Al)(d:Nat)(r:Reg)(t:Nat):A5 (s.set d r) t=if d=t/\d<s.length then r else A5 s t:=by
 simp only[A5,Z,List.getElem?_set];by_cases h:d=t
 ·subst h;by_cases h2:d<s.length
  ·simp[h2]
  ·simp[h2]
 ·simp[h]
theorem Ts(k:Nat)(s:Al)(t:Nat):A5 (s.set k .dead) t=if k=t then .dead else A5 s t:=by
 rw[D0];by_cases h:k=t
 ·subst h;rw[if_pos rfl];split
  ·rfl
  ·rename_i hn;have:s.length<=k:=by simpa using hn
   simp only[A5,Z,AD this];rfl
 ·rw[if_neg h,if_neg (fun e=>h e.1)]
theorem FG(ks:List Nat):∀ (s:Al) (t:Nat),A5 (kill s ks) t=if t∈ks then .dead else A5 s t:=by
 unfold kill;induction ks with
 | nil=>intro s t;simp[Cd]
 | cons k ks ih =>
  intro s t;simp only[C8,Cd];rw[ih,Ts];by_cases h1:t∈ks
  ·simp[h1]
  ·by_cases h2:k=t
   ·subst h2;simp
   ·have h2':¬ t=k:=fun e=>h2 e.symm;simp[h1,h2,h2']
theorem bP{l ks:List Nat}{s s':Al}(h:Ff l s s'):Ff l (kill s ks) (kill s' ks):=by
 intro t ht;rw[FG,FG,h t ht]
theorem Z1{g:Option (Nat × Bool)}{s s':Al}(h:Ff (g.toList.map (·.1)) s s'):GS s g=GS s' g:=by
 cases g with
 | none=>rfl
 | some p=>obtain⟨t,b⟩:=p;simp only[GS,h t (by simp)]
theorem UO{F:BM}{o:IOp}{s s':Al}(h:Ff o.rd s s'):UM F o s=UM F o s':=by
 have h':Ff o.rd (kill s o.ks) (kill s' o.ks):=bP h;simp only[UM,Yc,Z1 h'.right,lF h'.left]
theorem UP{F:BM}{o:IOp}{s:Al}{l:List (Nat × Reg)}(h:Yc F o s=some l):∀ p∈l,p.1∈o.wr:=by
 simp only[Yc] at h;intro p hp;split at h
 ·cases h
 ·cases h;simp only[Ec] at hp;obtain⟨d,hd,rfl⟩:=hp;exact NI _ (HQ _ hd)
 ·simp only[Ak] at h;obtain⟨⟨r,l'⟩,hk,rfl⟩:=h;rcases Cc.1 hp with hp | hp
  ·exact HQ _ (vN hk p hp)
  ·simp only[Ec] at hp;obtain⟨d,hd,rfl⟩:=hp;exact NI _ (HQ _ hd)
theorem Ye{F:BM}{o:IOp}{s:Al}{l:List (Nat × Reg)}(h:UM F o s=some l):∀ p∈l,p.1∈o.wr:=by
 simp only[UM,Ak] at h;obtain⟨l,h,rfl⟩:=h;intro p hp;rcases Cc.1 hp with hp | hp
 ·simp only[Ec] at hp;obtain⟨t,ht,rfl⟩:=hp;simp[IOp.wr,ht]
 ·exact UP h p hp
theorem NQ{l:List (Nat × Reg)}{u:Nat}:∀ {s:Al},(∀ p∈l,p.1 ≠ u)->A5 (Cd s l) u=A5 s u:=by
 induction l with
 | nil=>intro s _;rfl
 | cons p l ih =>
  intro s h;obtain⟨t,r⟩:=p;simp only[Cd];rw[ih (fun q hq=>h q (Bh _ hq)),Z0 (h (t,r) (B4 ..))]
theorem lH{l:List (Nat × Reg)}{t:Nat}{r:Reg}:∀ {s:Al},(∀ p∈l,p.1 ≠ t)->Cd (s.set t r) l=(Cd s l).set t r:=by
 induction l with
 | nil=>intro s _;rfl
 | cons p l ih =>
  intro s h;obtain⟨u,q⟩:=p;simp only[Cd];rw[lE _ _ (Ne.symm (h (u,q) (B4 ..))),ih (fun p hp=>h p (Bh _ hp))]
theorem bQ{l m:List (Nat × Reg)}:∀ {s:Al},(∀ p∈l,∀ q∈m,p.1 ≠ q.1)->Cd (Cd s l) m=Cd (Cd s m) l:=by
 induction l with
 | nil=>intro s _;rfl
 | cons p l ih =>
  intro s h;obtain⟨t,r⟩:=p;simp only[Cd];rw[ih (fun p hp q hq=>h p (Bh _ hp) q hq),lH (fun q hq=>Ne.symm (h (t,r) (B4 ..) q hq))]
def Qi(a b:IOp):Bool:=a.wr.all (fun t => !(b.rd.contains t) && !(b.wr.contains t))&&b.wr.all (fun t => !(a.rd.contains t))
theorem bT{a b:IOp}(h:Qi a b=true):(∀ t∈a.wr,t ∉ b.rd/\t ∉ b.wr)/\∀ t∈b.wr,t ∉ a.rd:=by
 simp only[Qi,Af,BY,Ey,IG,decide_eq_false_iff_not] at h;exact h
theorem lI{F:BM}{a b:IOp}{s s1 s2:Al}(hi:Qi a b=true)(h1:FW F a s=some s1)(h2:FW F b s1=some s2) :
  ∃ s',FW F b s=some s'/\FW F a s'=some s2:=by
 obtain⟨hab,hba⟩:=bT hi;rw[UN] at h1 h2;simp only[Ak] at h1 h2;obtain⟨la,ha,rfl⟩:=h1;obtain⟨lb,hb,rfl⟩:=h2;have ka:=Ye ha;have kb:=Ye hb;have e1:UM F b (Cd s la)=UM F b s:=UO fun t ht=>NQ fun p hp e=>(hab p.1 (ka p hp)).1 (e ▸ ht);rw[e1] at hb;have e2:UM F a (Cd s lb)=UM F a s:=UO fun t ht=>NQ fun p hp e=>hba p.1 (kb p hp) (e ▸ ht);refine⟨Cd s lb,by rw[UN,hb];rfl,?_⟩;rw[UN,e2,ha];simp only[A9,A3];exact (bQ fun p hp q hq e=>(hab p.1 (ka p hp)).2 (e ▸ kb q hq)).symm
theorem Z2{F:BM}{o:IOp}{l:List IOp}:∀ {s s2:Al} {m:List IOp},(∀ p∈m,Qi p o=true)->Ej F (m++o::l) s=some s2 ->
  ∃ s1,FW F o s=some s1/\Ej F (m++l) s1=some s2:=by
 intro s s2 m;induction m generalizing s with
 | nil =>
  intro _ h;simp only[JN,Ej] at h |-;cases h1:FW F o s with
  | none=>rw[h1] at h;cases h
  | some s1=>rw[h1] at h;exact⟨s1,rfl,h⟩
 | cons p m ih =>
  intro hp h;simp only[Ii,Ej] at h |-;cases h1:FW F p s with
  | none=>rw[h1] at h;cases h
  | some s1 =>
   rw[h1] at h;obtain⟨s3,h3,h4⟩:=ih (fun q hq=>hp q (Bh _ hq)) h;obtain⟨s',h5,h6⟩:=lI (hp p (B4 ..)) h1 h3;exact⟨s',h5,by rw[h6];exact h4⟩
end Go.Ai
namespace Go.Ai
open Go.RowKit
open _root_.Array renaming getD_eq_getD_getElem?->CS,getElem?_eq_none->Ayx,getElem?_eq_some_iff->EK,getElem?_setIfInBounds->Qf,size_setIfInBounds->OY
open Go renaming undef->B5
open Go.Act renaming put->tE
open Go.RowKit.Below renaming refl->HF
open Go.World renaming cell?->UF
open List renaming all_eq_true->BY,getD_eq_getElem?_getD->Z,getElem?_eq_none->AD,getElem_mem->CY,length_pos_iff->Am,length_set->A_,map_cons->C8,mem_cons->D4,mem_of_mem_drop->EV,not_mem_nil->Uo
open Nat renaming add_assoc->DE,lt_of_lt_of_le->EW,lt_or_ge->Cn
open Option renaming map_some->A9
open Option.some renaming injEq->A3
def NR(cs:List AV):Prop:=∀ x∈cs,Lm x=true
inductive Rd (Y X:Nat->Prop) (w:World):Value->AV->Prop where
 | int (k:IntKind) (n:Int):Rd Y X w (.int k n) (.int k n)
 | bool (b:Bool):Rd Y X w (.bool b) (.bool b)
 | str (s:ByteArray):Rd Y X w (.string s) (.str s)
 | undef:Rd Y X w B5 .undef
 | agg (vs:Array Value) (cs:List AV) (hd:NR cs) (h:vs.size=cs.length) (hc:∀ (i:Nat) (h1:i<vs.size) (h2:i<cs.length),Rd Y X w vs[i] cs[i]):Rd Y X w (.agg vs) (.agg cs)
 | tup (vs:Array Value) (cs:List AV) (h:vs.size=cs.length) (hc:∀ (i:Nat) (h1:i<vs.size) (h2:i<cs.length),Rd Y X w vs[i] cs[i]):Rd Y X w (.tuple vs) (.tup cs)
 | nil:Rd Y X w (.slice none 0 0) .nil
 | nil0:Rd Y X w (.slice none 0 0) (.sl 0 [])
 | e0 (a:Addr) (c:Nat):Rd Y X w (.slice (some a) 0 c) (.sl 0 [])
 | sl (b off n cap:Nat) (cs:List AV) (f:Nat->Value) (hd:NR cs) (hn:n<=cap) (hX:cs ≠ []->¬ X b) (hY:(∃ c∈cs,UI c=true)->¬ Y b) (hcell:∀ i,i<cs.length->w.cell? ⟨b,off+i,none⟩=some (f i))
   (hr:∀ (i:Nat) (h:i<cs.length),Rd Y X w (f i) cs[i]):Rd Y X w (.slice (some ⟨b,off,none⟩) n cap) (.sl n cs)
 | pt (b off:Nat) (cs:List AV) (f:Nat->Value) (hd:NR cs) (hX:cs ≠ []->¬ X b) (hcell:∀ i,i<cs.length->w.cell? ⟨b,off+i,none⟩=some (f i))
   (hr:∀ (i:Nat) (h:i<cs.length),Rd Y X w (f i) cs[i]):Rd Y X w (.pointer (some ⟨b,off,none⟩)) (.pt cs)
 | fnc (g:Nat) (u:Value) (cs:List AV) (h:Rd Y X w u (.pt cs)):Rd Y X w (.func (.func g) #[] #[u]) (.fnc g cs)
theorem Fg{w w':World}{p:Addr}(h:w'.heap[p.block]? = w.heap[p.block]?):w'.cell? p=w.cell? p:=by
 simp only[UF,h]
theorem K3{w:World}{p:Addr}{v:Value}(h:w.cell? p=some v):p.block<w.heap.size:=by
 rcases Cn p.block w.heap.size with h1 | h1
 ·exact h1
 ·simp[UF,Ayx h1] at h
theorem Rd.world{Y X:Nat->Prop}{w w':World}{v:Value}{x:AV}(h:Rd Y X w v x)(hw:∀ b,¬ X b->b<w.heap.size->w'.heap[b]? = w.heap[b]?):Rd Y X w' v x:=by
 induction h with
 | int k n=>exact .int k n
 | bool b=>exact .bool b
 | str s=>exact .str s
 | undef=>exact .undef
 | agg vs cs hd h hc ih=>exact .agg vs cs hd h ih
 | tup vs cs h hc ih=>exact .tup vs cs h ih
 | nil=>exact .nil
 | nil0=>exact .nil0
 | e0 a c=>exact .e0 a c
 | sl b off n cap cs f hd hn hX hY hcell hr ih =>
  refine .sl b off n cap cs f hd hn hX hY (fun i hi => ?_) ih;have h1:=hcell i hi;rw[Fg (hw b (hX (by intro e;subst e;simp at hi)) (K3 h1))];exact h1
 | pt b off cs f hd hX hcell hr ih =>
  refine .pt b off cs f hd hX (fun i hi => ?_) ih;have h1:=hcell i hi;rw[Fg (hw b (hX (by intro e;subst e;simp at hi)) (K3 h1))];exact h1
 | fnc g u cs h ih=>exact .fnc g u cs ih
theorem Rd.mono{Y X X':Nat->Prop}{w:World}{v:Value}{x:AV}(h:Rd Y X w v x)(hX:∀ b,X' b->X b\/w.heap.size<=b):Rd Y X' w v x:=by
 induction h with
 | int k n=>exact .int k n
 | bool b=>exact .bool b
 | str s=>exact .str s
 | undef=>exact .undef
 | agg vs cs hd h hc ih=>exact .agg vs cs hd h ih
 | tup vs cs h hc ih=>exact .tup vs cs h ih
 | nil=>exact .nil
 | nil0=>exact .nil0
 | e0 a c=>exact .e0 a c
 | sl b off n cap cs f hd hn hXb hY hcell hr ih =>
  refine .sl b off n cap cs f hd hn (fun hne hb => ?_) hY hcell ih;rcases hX b hb with h1 | h1
  ·exact hXb hne h1
  ·have h0:0<cs.length:=Am.2 hne;have:=K3 (hcell 0 h0);simp only at this;omega
 | pt b off cs f hd hXb hcell hr ih =>
  refine .pt b off cs f hd (fun hne hb => ?_) hcell ih;rcases hX b hb with h1 | h1
  ·exact hXb hne h1
  ·have h0:0<cs.length:=Am.2 hne;have:=K3 (hcell 0 h0);simp only at this;omega
 | fnc g u cs h ih=>exact .fnc g u cs ih
theorem Rd.lend{Y X Y' X':Nat->Prop}{w:World}{v:Value}{x:AV}(h:Rd Y X w v x)(hX:∀ b,X' b->X b)(hY:∀ b,Y' b->Y b\/X b):Rd Y' X' w v x:=by
 induction h with
 | int k n=>exact .int k n
 | bool b=>exact .bool b
 | str s=>exact .str s
 | undef=>exact .undef
 | agg vs cs hd h hc ih=>exact .agg vs cs hd h ih
 | tup vs cs h hc ih=>exact .tup vs cs h ih
 | nil=>exact .nil
 | nil0=>exact .nil0
 | e0 a c=>exact .e0 a c
 | sl b off n cap cs f hd hn hXb hYb hcell hr ih =>
  refine .sl b off n cap cs f hd hn (fun hne hb=>hXb hne (hX b hb)) (fun hi hb => ?_) hcell ih;rcases hY b hb with h1 | h1
  ·exact hYb hi h1
  ·obtain⟨c,hc,_⟩:=hi;exact hXb (List.ne_nil_of_mem hc) h1
 | pt b off cs f hd hXb hcell hr ih=>exact .pt b off cs f hd (fun hne hb=>hXb hne (hX b hb)) hcell ih
 | fnc g u cs h ih=>exact .fnc g u cs ih
theorem Rd.back1{Y X Y' X':Nat->Prop}{w:World}{v:Value}{x:AV}(h:Rd Y' X' w v x)(hx:Me x=true)(hX:∀ b,X b->X' b\/Y' b)(hY:∀ b,Y b->Y' b):Rd Y X w v x:=by
 cases h with
 | int k n=>exact .int k n
 | bool b=>exact .bool b
 | str s=>exact .str s
 | undef=>exact .undef
 | agg vs cs hd h hc=>cases hx
 | tup vs cs h hc=>cases hx
 | nil=>cases hx
 | pt _ _ _ _ _ _ _ _=>cases hx
 | fnc _ _ _ _=>cases hx
 | nil0=>exact .nil0
 | e0 a c=>exact .e0 a c
 | sl b off n cap cs f hd hn hXb hYb hcell hr =>
  simp only[Me,BY] at hx;have hall:∀ c∈cs,¬ Y' b:=fun c hc=>hYb ⟨c,hc,hx c hc⟩;refine .sl b off n cap cs f hd hn (fun hne hb => ?_) (fun ⟨c,hc,_⟩ hb=>hall c hc (hY b hb)) hcell (fun i hi => ?_)
  ·obtain⟨c,hc⟩:=List.exists_mem_of_ne_nil cs hne;rcases hX b hb with h1 | h1
   ·exact hXb hne h1
   ·exact hall c hc h1
  ·have h1:=hx _ (CY hi);have h2:=hr i hi;generalize cs[i]=c at h1 h2 |-;generalize f i=u at h2 |-;cases c <;> first | (cases h1;done) | (cases h2;exact .int _ _)
theorem Rd.back{Y X Y' X':Nat->Prop}{w:World}{v:Value}{x:AV}(h:Rd Y' X' w v x)(hx:G9 x=true)(hX:∀ b,X b->X' b\/Y' b)(hY:∀ b,Y b->Y' b):Rd Y X w v x:=by
 cases h with
 | agg vs cs hd h hc =>
  simp only[G9,BY] at hx;exact .agg vs cs hd h fun i h1 h2=>(hc i h1 h2).back1 (hx _ (CY h2)) hX hY
 | int k n=>exact .int k n
 | bool b=>exact .bool b
 | str s=>exact .str s
 | undef=>exact .undef
 | tup vs cs h hc=>cases hx
 | nil=>cases hx
 | pt _ _ _ _ _ _ _ _=>cases hx
 | fnc _ _ _ _=>cases hx
 | nil0=>exact .nil0
 | e0 a c=>exact .e0 a c
 | sl b off n cap cs f hd hn hXb hYb hcell hr=>exact Rd.back1 (.sl b off n cap cs f hd hn hXb hYb hcell hr) hx hX hY
theorem lJ{Y X:Nat->Prop}{w:World}{u:Value}{b:Bool}{n:Nat}{cs:List AV}(h:Rd Y X w u (.sl n cs)):Rd Y X w (.agg #[.bool b,u]) (.agg [.bool b,.sl n cs]):=by
 refine .agg _ _ (fun x hx => ?_) rfl (fun i h1 h2 => ?_)
 ·simp only[D4,Uo,or_false] at hx;rcases hx with rfl | rfl <;> rfl
 ·match i,h2 with
  | 0,_=>exact .bool b
  | 1,_=>exact h
def Gp(Y X:Nat->Prop)(w:World)(b off:Nat)(cs:List AV):Prop :=
 NR cs/\∀ (i:Nat) (h:i<cs.length),∃ v,w.cell? ⟨b,off+i,none⟩=some v/\Rd Y X w v cs[i]
theorem Gp.drop{Y X:Nat->Prop}{w:World}{b off:Nat}{cs:List AV}(h:Gp Y X w b off cs)(k:Nat):Gp Y X w b (off+k) (cs.drop k):=by
 obtain⟨hd,h⟩:=h;refine⟨fun x hx=>hd x (EV hx),?_⟩;intro i hi;have hi':k+i<cs.length:=by simp at hi;omega
 obtain⟨v,h1,h2⟩:=h (k+i) hi';refine⟨v,by rw[DE];exact h1,?_⟩;simpa using h2
theorem Gp.world{Y X:Nat->Prop}{w w':World}{b off:Nat}{cs:List AV}(h:Gp Y X w b off cs)(hw:∀ c,¬ X c->c<w.heap.size->w'.heap[c]? = w.heap[c]?)
  (hb:b<w.heap.size->w'.heap[b]? = w.heap[b]?):Gp Y X w' b off cs:=by
 obtain⟨hd,h⟩:=h;refine⟨hd,?_⟩;intro i hi;obtain⟨v,h1,h2⟩:=h i hi;exact⟨v,by rw[Fg (hb (K3 h1))];exact h1,h2.world hw⟩
theorem Gp.mono{Y X X':Nat->Prop}{w:World}{b off:Nat}{cs:List AV}(h:Gp Y X w b off cs)(hX:∀ b,X' b->X b\/w.heap.size<=b):Gp Y X' w b off cs:=by
 obtain⟨hd,h⟩:=h;refine⟨hd,?_⟩;intro i hi;obtain⟨v,h1,h2⟩:=h i hi;exact⟨v,h1,h2.mono hX⟩
def HT:Value->Option Addr
 | .pointer (some p)=>some p
 | .slice (some p) _ _=>some p
 | .agg vs=>match vs.toList with
  | [.bool _,.slice (some p) _ _]=>some p
  | _=>none
 | .tuple vs=>match vs.toList with
  | [.slice (some p) _ _,.bool _]=>some p
  | _=>none
 | _=>none
def Bq(v:Value):Option Nat:=(HT v).map (·.block)
def EA:Reg->Bool
 | .box _=>true
 | .own _ _ _=>true
 | .agn _ _ _ _=>true
 | .bxl _=>true
 | _=>false
def FX(Y X:Nat->Prop)(w:World)(b off:Nat)(cs:List AV):Prop :=
 NR cs/\∃ (vs:Array Value) (T:TypeId),w.heap[b]? = some (.cells vs T (0,0))/\off+cs.length<=vs.size/\∀ (i:Nat) (h:i<cs.length),∃ v,vs[off+i]? = some v/\Rd Y X w v cs[i]
theorem FX.mem{Y X:Nat->Prop}{w:World}{b off:Nat}{cs:List AV}(h:FX Y X w b off cs):Gp Y X w b off cs:=by
 obtain⟨hd,vs,T,hb,_,hc⟩:=h;refine⟨hd,?_⟩;intro i hi;obtain⟨v,h1,h2⟩:=hc i hi;exact⟨v,by simp[UF,hb,h1],h2⟩
theorem FX.lt{Y X:Nat->Prop}{w:World}{b off:Nat}{cs:List AV}(h:FX Y X w b off cs):b<w.heap.size:=by
 obtain⟨_,vs,T,hb,_⟩:=h;exact (EK.1 hb).1
theorem FX.world{Y X:Nat->Prop}{w w':World}{b off:Nat}{cs:List AV}(h:FX Y X w b off cs)(hw:∀ c,¬ X c->c<w.heap.size->w'.heap[c]? = w.heap[c]?)
  (hb:w'.heap[b]? = w.heap[b]?):FX Y X w' b off cs:=by
 obtain⟨hd,vs,T,h1,h2,h3⟩:=h;exact⟨hd,vs,T,by rw[hb];exact h1,h2,fun i hi=>let ⟨v,h4,h5⟩:=h3 i hi; ⟨v,h4,h5.world hw⟩⟩
theorem FX.mono{Y X X':Nat->Prop}{w:World}{b off:Nat}{cs:List AV}(h:FX Y X w b off cs)(hX:∀ b,X' b->X b\/w.heap.size<=b):FX Y X' w b off cs:=by
 obtain⟨hd,vs,T,h1,h2,h3⟩:=h;exact⟨hd,vs,T,h1,h2,fun i hi=>let ⟨v,h4,h5⟩:=h3 i hi; ⟨v,h4,h5.mono hX⟩⟩
def Tt(w:World)(b m:Nat):Prop:=∃ (vs:Array Value) (T:TypeId),w.heap[b]? = some (.cells vs T (0,0))/\m<=vs.size
theorem Tt.world{w w':World}{b m:Nat}(h:Tt w b m)(hb:w'.heap[b]? = w.heap[b]?):Tt w' b m:=by
 obtain⟨vs,T,h1,h2⟩:=h;exact⟨vs,T,by rw[hb];exact h1,h2⟩
def FY(Y X:Nat->Prop)(B:Nat)(w:World)(v:Value)(k n:Nat)(cs:List AV):Prop :=
 (v = .slice none 0 0/\n=0/\cs=[]) \/
 ∃ b cap,v = .slice (some ⟨b,0,none⟩) n cap/\n<=cap/\cs.length=n*k/\B<=b/\FX Y X w b 0 cs/\Tt w b (cap*k)
theorem FY.world{Y X:Nat->Prop}{B:Nat}{w w':World}{v:Value}{k n:Nat}{cs:List AV}(h:FY Y X B w v k n cs)(hw:∀ c,¬ X c->c<w.heap.size->w'.heap[c]? = w.heap[c]?)
  (hb:∀ b,Bq v=some b->b<w.heap.size->w'.heap[b]? = w.heap[b]?):FY Y X B w' v k n cs:=by
 rcases h with h | ⟨b,cap,e1,e2,e3,e4,e5,e6⟩
 ·exact .inl h
 ·have hbb:w'.heap[b]? = w.heap[b]? := hb b (by rw[e1];rfl) e5.lt;exact .inr ⟨b,cap,e1,e2,e3,e4,e5.world hw hbb,e6.world hbb⟩
theorem FY.mono{Y X X':Nat->Prop}{B:Nat}{w:World}{v:Value}{k n:Nat}{cs:List AV}(h:FY Y X B w v k n cs)(hX:∀ b,X' b->X b\/w.heap.size<=b):FY Y X' B w v k n cs:=by
 rcases h with h | ⟨b,cap,e1,e2,e3,e4,e5,e6⟩
 ·exact .inl h
 ·exact .inr ⟨b,cap,e1,e2,e3,e4,e5.mono hX,e6⟩
theorem FY.lower{Y X:Nat->Prop}{B B':Nat}{w:World}{v:Value}{k n:Nat}{cs:List AV}(h:FY Y X B w v k n cs)(hB:B'<=B):FY Y X B' w v k n cs:=by
 rcases h with h | ⟨b,cap,e1,e2,e3,e4,e5,e6⟩
 ·exact .inl h
 ·exact .inr ⟨b,cap,e1,e2,e3,by omega,e5,e6⟩
theorem FY.block{Y X:Nat->Prop}{B:Nat}{w:World}{v:Value}{k n:Nat}{cs:List AV}(h:FY Y X B w v k n cs){b:Nat}(hb:Bq v=some b):B<=b/\b<w.heap.size:=by
 rcases h with ⟨rfl,_⟩ | ⟨b',cap,e1,e2,e3,e4,e5,e6⟩
 ·cases hb
 ·rw[e1] at hb;simp only[Bq,HT,A9,A3] at hb;subst hb;exact⟨e4,e5.lt⟩
theorem FY.frozen{Y X X':Nat->Prop}{B:Nat}{w:World}{v:Value}{k n:Nat}{cs:List AV}(h:FY Y X B w v k n cs)(hX:∀ b,X' b->X b\/w.heap.size<=b)(hb:∀ b,Bq v=some b->¬ X' b)(hY:∀ b,Y b->b<B):Rd Y X' w v (.sl n cs):=by
 rcases h with ⟨rfl,rfl,rfl⟩ | ⟨b,cap,e1,e2,e3,e4,e5,e6⟩
 ·exact .nil0
 have hbb:¬ X' b:=hb b (by rw[e1];rfl);obtain⟨hd,hm⟩:=(e5.mono hX).mem;subst e1;refine .sl b 0 n cap cs (fun i=>(w.cell? ⟨b,0+i,none⟩).getD B5) hd e2 (fun _=>hbb) (fun _ h=>by have:=hY b h;omega) (fun i hi => ?_) (fun i hi => ?_)
 ·obtain⟨u,h1,_⟩:=hm i hi;rw[h1];rfl
 ·obtain⟨u,h1,h2⟩:=hm i hi;rw[h1];exact h2
theorem bW{Y X Y' X':Nat->Prop}{B:Nat}{w:World}{v:Value}{k n:Nat}{cs:List AV}(h:FY Y X B w v k n cs)(hX:∀ b,X' b->X b)(hY:∀ b,Y' b->Y b\/X b)(hb:∀ b,Bq v=some b->¬ X' b)(hi:cs.all (fun c => !UI c)=true):Rd Y' X' w v (.sl n cs):=by
 rcases h with ⟨rfl,rfl,rfl⟩ | ⟨b,cap,e1,e2,e3,e4,e5,e6⟩
 ·exact .nil0
 have hbb:¬ X' b:=hb b (by rw[e1];rfl);obtain⟨hd,hm⟩:=e5.mem;subst e1;refine .sl b 0 n cap cs (fun i=>(w.cell? ⟨b,0+i,none⟩).getD B5) hd e2 (fun _=>hbb) (fun ⟨c,hc,h1⟩ _ => ?_) (fun i hi => ?_) (fun i hi => ?_)
 ·have:=BY.1 hi c hc;rw[h1] at this;cases this
 ·obtain⟨u,h1,_⟩:=hm i hi;rw[h1];rfl
 ·obtain⟨u,h1,h2⟩:=hm i hi;rw[h1];exact h2.lend hX hY
def bX:Tag->Value->Value
 | .st b,u => .agg #[.bool b,u]
 | .tp b,u => .tuple #[u,.bool b]
def JO(Y X:Nat->Prop)(B:Nat)(w:World)(v:Value)(b:Tag)(k n:Nat)(cs:List AV):Prop:=∃ u,v=bX b u/\FY Y X B w u k n cs
theorem FH{Y X:Nat->Prop}{B:Nat}{w:World}{u:Value}{k n:Nat}{cs:List AV}(b:Tag)(h:FY Y X B w u k n cs):Bq (bX b u)=Bq u:=by
 cases b <;> rcases h with ⟨rfl,_⟩ | ⟨b',cap,rfl,_⟩ <;> rfl
theorem JO.world{Y X:Nat->Prop}{B:Nat}{w w':World}{v:Value}{b:Tag}{k n:Nat}{cs:List AV}(h:JO Y X B w v b k n cs)(hw:∀ c,¬ X c->c<w.heap.size->w'.heap[c]? = w.heap[c]?)
  (hb:∀ b,Bq v=some b->b<w.heap.size->w'.heap[b]? = w.heap[b]?):JO Y X B w' v b k n cs:=by
 obtain⟨u,rfl,h⟩:=h;rw[FH b h] at hb;exact⟨u,rfl,h.world hw hb⟩
theorem JO.mono{Y X X':Nat->Prop}{B:Nat}{w:World}{v:Value}{b:Tag}{k n:Nat}{cs:List AV}(h:JO Y X B w v b k n cs)(hX:∀ b,X' b->X b\/w.heap.size<=b):JO Y X' B w v b k n cs:=by
 obtain⟨u,e,h⟩:=h;exact⟨u,e,h.mono hX⟩
theorem JO.lower{Y X:Nat->Prop}{B B':Nat}{w:World}{v:Value}{b:Tag}{k n:Nat}{cs:List AV}(h:JO Y X B w v b k n cs)(hB:B'<=B):JO Y X B' w v b k n cs:=by
 obtain⟨u,e,h⟩:=h;exact⟨u,e,h.lower hB⟩
theorem JO.own{Y X0:Nat->Prop}{Z:Nat->Prop}{B:Nat}{w:World}{v:Value}{b:Tag}{k n:Nat}{cs:List AV}(h:JO Y (fun c=>X0 c\/Z c) B w v b k n cs)(hZ:∀ c,Bq v=some c->Z c):JO Y (fun c=>X0 c\/Bq v=some c) B w v b k n cs :=
 h.mono fun c hc => .inl (hc.imp id (hZ c))
theorem JO.block{Y X:Nat->Prop}{B:Nat}{w:World}{v:Value}{b:Tag}{k n:Nat}{cs:List AV}(h:JO Y X B w v b k n cs){c:Nat}(hb:Bq v=some c):B<=c/\c<w.heap.size:=by
 obtain⟨u,rfl,h⟩:=h;rw[FH b h] at hb;exact h.block hb
def SubV(k l h:Nat)(u v:Value):Prop:=(u = .slice none 0 0/\v = .slice none 0 0/\l=0/\h=0) \/
 ∃ b n cap,u = .slice (some ⟨b,0,none⟩) n cap/\l<=h/\h<=n/\n<=cap/\v = .slice (if cap=l then some ⟨b,0,none⟩ else some ⟨b,l*k,none⟩) (h-l) (cap-l)
def KL(Y X:Nat->Prop)(B:Nat)(roots:List (Nat × Nat))(tm:Array Value)(w:World)(t:Nat)(v:Value):Reg->Prop
 | .val x=>Rd Y X w v x
 | .box cs=>∃ b,v = .pointer (some ⟨b,0,none⟩)/\B<=b/\FX Y X w b 0 cs
 | .ptr d off=>(t,d)∈roots/\∃ p,HT (tm.getD d B5)=some p/\p.spot=none/\v = .pointer (some ⟨p.block,p.off+off,none⟩)
 | .mem cs=>∃ b off,v = .pointer (some ⟨b,off,none⟩)/\(cs ≠ []->¬ X b)/\Gp Y X w b off cs
 | .own k n cs=>FY Y X B w v k n cs
 | .agn b k n cs=>JO Y X B w v b k n cs
 | .bxl d=>(t,d)∈roots/\∃ b,v = .pointer (some ⟨b,0,none⟩)/\B<=b/\b<w.heap.size/\∀ i,i<2->w.cell? ⟨b,i,none⟩=(tm.getD d B5).cells[i]?
 | .dup d=>(t,d)∈roots/\v=tm.getD d B5
 | .sub d k l h=>(t,d)∈roots/\SubV k l h (tm.getD d B5) v
 | .dead=>True
def XS(s:Al)(tm:Array Value)(b:Nat):Prop:=∃ t,EA (A5 s t)=true/\Bq (tm.getD t B5)=some b
structure Rel (Y X0:Nat->Prop) (roots:List (Nat × Nat)) (w0:World) (s:Al) (a:Act) (w:World):Prop where
 dfr:a.defers=[]
 size:a.tmps.size=s.length
 below:Below w0.heap.size w0 w
 low:∀ b,X0 b->b<w0.heap.size
 lowY:∀ b,Y b->b<w0.heap.size
 reg:∀ t,KL Y (fun b=>X0 b\/XS s a.tmps b) w0.heap.size roots a.tmps w t (a.tmps.getD t B5) (A5 s t)
 inj:∀ t t' b,EA (A5 s t)=true->EA (A5 s t')=true->Bq (a.tmps.getD t B5)=some b->Bq (a.tmps.getD t' B5)=some b->t=t'
theorem Below.ext{w w':World}(h:Below w.heap.size w w'):∀ b,b<w.heap.size->w'.heap[b]? = w.heap[b]? := h.block
theorem Mf(tm:Array Value)(d:Nat)(v:Value)(t:Nat):(tm.setIfInBounds d v).getD t B5=if d=t/\d<tm.size then v else tm.getD t B5:=by
 simp only[CS,Qf];by_cases h:d=t
 ·subst h;by_cases h2:d<tm.size
  ·simp[h2]
  ·simp[h2]
 ·simp[h]
theorem ME(ks:List Nat):∀ (s:Al) (t:Nat),A5 (Cd s (ks.map fun u=>(u,Reg.dead))) t=A5 s t\/A5 (Cd s (ks.map fun u=>(u,Reg.dead))) t = .dead:=by
 induction ks with
 | nil=>exact fun s t => .inl rfl
 | cons k ks ih =>
  intro s t;simp only[C8,Cd];rcases ih (s.set k .dead) t with h | h
  ·rw[h,D0];split
   ·exact .inr rfl
   ·exact .inl rfl
  ·exact .inr h
theorem Km(ks:List Nat):∀ (s:Al) (t:Nat),t∈ks->A5 (Cd s (ks.map fun u=>(u,Reg.dead))) t = .dead:=by
 induction ks with
 | nil=>intro s t h;cases h
 | cons k ks ih =>
  intro s t h;simp only[C8,Cd];by_cases hk:t∈ks
  ·exact ih _ t hk
  ·have e:t=k:=by
    cases h with
    | head=>rfl
    | tail _ h=>exact absurd h hk
   subst e;rcases ME ks (s.set t .dead) t with h1 | h1
   ·rw[h1,D0];split
    ·rfl
    ·rename_i hn;simp only[A5,Z];have:s.length<=t:=by simp at hn;exact hn
     rw[AD this];rfl
   ·exact h1
theorem FI(l:List (Nat × Reg)):∀ s:Al,(Cd s l).length=s.length:=by
 induction l with
 | nil=>intro s;rfl
 | cons p l ih=>intro s;obtain⟨t,r⟩:=p;simp only[Cd,ih,A_]
theorem D7{Y X0:Nat->Prop}{roots:List (Nat × Nat)}{w0 w w':World}{s:Al}{a:Act}(h:Rel Y X0 roots w0 s a w)(hw:Below w.heap.size w w')
  {d:Nat} {v:Value} {r:Reg} {ks:List Nat} (hks:∀ t,(t,d)∈roots->t∈ks\/F3 (A5 s t)=false)
  (hfresh:EA r=true->∀ b,Bq v=some b->w.heap.size<=b)
  (hr:∀ X:Nat->Prop,(∀ b,X b->(X0 b\/XS s a.tmps b)\/(w.heap.size<=b/\Bq v=some b))->(EA r=false->∀ b,X b->X0 b\/XS s a.tmps b) ->
   KL Y X w0.heap.size roots (a.tmps.setIfInBounds d v) w' d v r) :
  Rel Y X0 roots w0 (Ea (Cd s (ks.map fun u=>(u,Reg.dead))) (some d) r) (a.put (some d) v) w':=by
 obtain⟨hd,hs,hb,hl,hly,hreg,hinj⟩:=h;have hsz:w0.heap.size<=w.heap.size:=hb.size;have key:∀ t,A5 (Ea (Cd s (ks.map fun u=>(u,Reg.dead))) (some d) r) t=(if d=t/\d<s.length then r else A5 (Cd s (ks.map fun u=>(u,Reg.dead))) t):=by
  intro t;simp only[Ea];rw[D0,FI]
 have kv:∀ t,(a.put (some d) v).tmps.getD t B5=if d=t/\d<s.length then v else a.tmps.getD t B5:=by
  intro t;simp only[tE];rw[Mf,hs]
 have hXnew:∀ b,XS (Ea (Cd s (ks.map fun u=>(u,Reg.dead))) (some d) r) (a.put (some d) v).tmps b->XS s a.tmps b\/(EA r=true/\w.heap.size<=b/\Bq v=some b):=by
  rintro b ⟨t,h1,h2⟩;rw[key] at h1;rw[kv] at h2;by_cases hc:d=t/\d<s.length
  ·rw[if_pos hc] at h1 h2;exact .inr ⟨h1,hfresh h1 b h2,h2⟩
  ·rw[if_neg hc] at h1 h2;rcases ME ks s t with hk | hk
   ·rw[hk] at h1;exact .inl ⟨t,h1,h2⟩
   ·rw[hk] at h1;cases h1
 generalize hXd:(fun b=>X0 b\/XS (Ea (Cd s (ks.map fun u=>(u,Reg.dead))) (some d) r) (a.put (some d) v).tmps b)=X;have hX1:∀ b,X b->(X0 b\/XS s a.tmps b)\/w.heap.size<=b:=by
  intro b hXb;rw[<- hXd] at hXb;rcases hXb with h | h
  ·exact .inl (.inl h)
  ·rcases hXnew b h with h | h
   ·exact .inl (.inr h)
   ·exact .inr h.2.1
 have hX1':∀ b,X b->(X0 b\/XS s a.tmps b)\/(w.heap.size<=b/\Bq v=some b):=by
  intro b hXb;rw[<- hXd] at hXb;rcases hXb with h | h
  ·exact .inl (.inl h)
  ·rcases hXnew b h with h | h
   ·exact .inl (.inr h)
   ·exact .inr h.2
 have hX2:EA r=false->∀ b,X b->X0 b\/XS s a.tmps b:=by
  intro he b hXb;rw[<- hXd] at hXb;rcases hXb with h | h
  ·exact .inl h
  ·rcases hXnew b h with h | h
   ·exact .inr h
   ·rw[he] at h;cases h.1
 have hext:∀ (Y:Nat->Prop) (c:Nat),¬ Y c->c<w.heap.size->w'.heap[c]? = w.heap[c]? := fun _ c _ hc=>hw.block c hc;refine⟨hd,by simp only[tE,OY,Ea,A_,FI];exact hs,?_,hl,hly,?_,?_⟩
 ·exact hb.trans (hw.mono hsz)
 ·intro t;rw[hXd,key,kv];by_cases hc:d=t/\d<s.length
  ·rw[if_pos hc,if_pos hc];obtain⟨rfl,_⟩:=hc;exact hr X hX1' hX2
  ·rw[if_neg hc,if_neg hc];rcases ME ks s t with hk | hk
   ·rw[hk];have h0:=hreg t;cases hrt:A5 s t with
    | val x=>rw[hrt] at h0;exact (Rd.mono h0 hX1).world (hext _)
    | box cs =>
     rw[hrt] at h0;obtain⟨b,e1,e2,e3⟩:=h0;exact⟨b,e1,e2,(e3.mono hX1).world (hext _) (hw.block b e3.lt)⟩
    | own k n cs =>
     rw[hrt] at h0;exact (FY.mono h0 hX1).world (hext _) (fun b _ hb=>hw.block b hb)
    | agn bb k n cs =>
     rw[hrt] at h0;exact (JO.mono h0 hX1).world (hext _) (fun b _ hb=>hw.block b hb)
    | mem cs =>
     rw[hrt] at h0;obtain⟨b,off,e1,e2,e3⟩:=h0;refine⟨b,off,e1,fun hne hXb => ?_,(e3.mono hX1).world (hext _) (fun hb=>hw.block b hb)⟩;rcases hX1 b hXb with h | h
     ·exact e2 hne h
     ·have h0:0<cs.length:=Am.2 hne;obtain⟨u,hu,_⟩:=e3.2 0 h0;have:=K3 hu;simp only at this;omega
    | ptr d' off =>
     rw[hrt] at h0;obtain⟨e1,p,e2,e3,e4⟩:=h0;refine⟨e1,p,?_,e3,e4⟩;rw[kv,if_neg]
     ·exact e2
     ·rintro⟨rfl,hlt⟩;rcases hks t e1 with hh | hh
      ·have:=Km ks s t hh;rw[hk,hrt] at this;cases this
      ·rw[hrt] at hh;cases hh
    | dup d' =>
     rw[hrt] at h0;obtain⟨e1,e2⟩:=h0;refine⟨e1,?_⟩;rw[kv,if_neg]
     ·exact e2
     ·rintro⟨rfl,hlt⟩;rcases hks t e1 with hh | hh
      ·have:=Km ks s t hh;rw[hk,hrt] at this;cases this
      ·rw[hrt] at hh;cases hh
    | sub d' _ _ _ =>
     rw[hrt] at h0;obtain⟨e1,e2⟩:=h0;refine⟨e1,?_⟩;rw[kv,if_neg]
     ·exact e2
     ·rintro⟨rfl,hlt⟩;rcases hks t e1 with hh | hh
      ·have:=Km ks s t hh;rw[hk,hrt] at this;cases this
      ·rw[hrt] at hh;cases hh
    | bxl d' =>
     rw[hrt] at h0;obtain⟨e1,b,e2,e3,e4,e5⟩:=h0;refine⟨e1,b,e2,e3,EW e4 hw.size,fun i hi => ?_⟩;rw[kv,if_neg]
     ·rw[<- e5 i hi];exact Fg (hw.block b e4)
     ·rintro⟨rfl,hlt⟩;rcases hks t e1 with hh | hh
      ·have:=Km ks s t hh;rw[hk,hrt] at this;cases this
      ·rw[hrt] at hh;cases hh
    | dead=>trivial
   ·rw[hk];trivial
 ·intro t t' b h1 h2 h3 h4;rw[key] at h1 h2;rw[kv] at h3 h4;have old:∀ u,(¬ (d=u/\d<s.length))->EA (A5 (Cd s (ks.map fun u=>(u,Reg.dead))) u)=true->EA (A5 s u)=true:=by
   intro u _ hu;rcases ME ks s u with hk | hk
   ·rw[hk] at hu;exact hu
   ·rw[hk] at hu;cases hu
  have lt:∀ u,EA (A5 s u)=true->Bq (a.tmps.getD u B5)=some b->b<w.heap.size:=by
   intro u hu hv;have h0:=hreg u;cases hrt:A5 s u with
   | box cs =>
    rw[hrt] at h0;obtain⟨b',e1,_,e3⟩:=h0;rw[e1] at hv;simp only[Bq,HT,A9,A3] at hv;exact hv ▸ e3.lt
   | own k n cs =>
    rw[hrt] at h0;exact (FY.block h0 hv).2
   | agn bb k n cs =>
    rw[hrt] at h0;exact (JO.block h0 hv).2
   | bxl d' =>
    rw[hrt] at h0;obtain⟨_,b',e1,_,e3,_⟩:=h0;rw[e1] at hv;simp only[Bq,HT,A9,A3] at hv;exact hv ▸ e3
   | val x=>rw[hrt] at hu;cases hu
   | ptr d off=>rw[hrt] at hu;cases hu
   | mem cs=>rw[hrt] at hu;cases hu
   | dup d=>rw[hrt] at hu;cases hu
   | sub _ _ _ _=>rw[hrt] at hu;cases hu
   | dead=>rw[hrt] at hu;cases hu
  by_cases c1:d=t/\d<s.length <;> by_cases c2:d=t'/\d<s.length
  ·exact c1.1.symm.trans c2.1
  ·rw[if_pos c1] at h1 h3;rw[if_neg c2] at h2 h4;have e2:=hfresh h1 b h3;have:=lt t' (old t' c2 h2) h4;omega
  ·rw[if_neg c1] at h1 h3;rw[if_pos c2] at h2 h4;have e2:=hfresh h2 b h4;have:=lt t (old t c1 h1) h3;omega
  ·rw[if_neg c1] at h1 h3;rw[if_neg c2] at h2 h4;exact hinj t t' b (old t c1 h1) (old t' c2 h2) h3 h4
theorem Aze{s:Al}{tm:Array Value}{d:Nat}{r r':Reg}(h:A5 s d=r)(he:EA r=EA r')(b:Nat):XS (s.set d r') tm b↔XS s tm b:=by
 have key:∀ t,EA (A5 (s.set d r') t)=EA (A5 s t):=by
  intro t;rw[D0];split
  ·rename_i hc;obtain⟨rfl,_⟩:=hc;rw[h,he]
  ·rfl
 constructor
 ·rintro⟨t,h1,h2⟩;exact⟨t,by rw[<- key];exact h1,h2⟩
 ·rintro⟨t,h1,h2⟩;exact⟨t,by rw[key];exact h1,h2⟩
theorem Rel.store{Y X0:Nat->Prop}{roots:List (Nat × Nat)}{w0 w w':World}{s:Al}{a:Act}(h:Rel Y X0 roots w0 s a w){d:Nat}{r r':Reg}{b:Nat}
  (hd:A5 s d=r) (he:EA r=true) (he':EA r'=true) (hv:Bq (a.tmps.getD d B5)=some b) (hbB:w0.heap.size<=b) (hos:w'.os=w.os) (htape:w'.tape=w.tape) (hout:w'.output=w.output)
  (hsize:w'.heap.size=w.heap.size) (hoth:∀ c,c ≠ b->w'.heap[c]? = w.heap[c]?)
  (hnew:∀ X:Nat->Prop,(∀ c,X c↔(X0 c\/XS s a.tmps c))->KL Y X w0.heap.size roots a.tmps w' d (a.tmps.getD d B5) r') :
  Rel Y X0 roots w0 (s.set d r') a w':=by
 obtain⟨hdf,hs,hb,hl,hly,hreg,hinj⟩:=h;have hXb:XS s a.tmps b:=⟨d,by rw[hd];exact he,hv⟩;have hXeq:∀ c,(X0 c\/XS (s.set d r') a.tmps c)↔(X0 c\/XS s a.tmps c):=fun c=>by rw[Aze (r':=r') hd (by rw[he,he'])]
 have hmono:∀ c,(X0 c\/XS (s.set d r') a.tmps c)->(X0 c\/XS s a.tmps c)\/w.heap.size<=c:=fun c hc => .inl ((hXeq c).1 hc);have hext:∀ c,¬ (X0 c\/XS (s.set d r') a.tmps c)->c<w.heap.size->w'.heap[c]? = w.heap[c]? := by
  intro c hc _;refine hoth c ?_;rintro rfl;exact hc ((hXeq _).2 (.inr hXb))
 have hex:∀ t,EA (A5 (s.set d r') t)=true->EA (A5 s t)=true:=by
  intro t ht;rw[D0] at ht;split at ht
  ·rename_i hc;rw[<- hc.1,hd];exact he
  ·exact ht
 refine⟨hdf,by rw[A_];exact hs,?_,hl,hly,?_,?_⟩
 ·exact⟨hos.trans hb.os,htape.trans hb.tape,hout.trans hb.output,by rw[hsize];exact hb.size,fun k hk=>(hoth k (by omega)).trans (hb.block k hk)⟩
 ·intro t;rw[D0];split
  ·rename_i hc;obtain⟨rfl,_⟩:=hc;exact hnew _ hXeq
  ·rename_i hc;have h0:=hreg t;have hne:EA (A5 s t)=true->Bq (a.tmps.getD t B5) ≠ some b:=by
    intro h1 h2;have:=hinj d t b (by rw[hd];exact he) h1 hv h2;subst this;refine hc ⟨rfl,?_⟩;rcases Cn d s.length with hlt | hge
    ·exact hlt
    ·simp only[A5,Z,AD hge] at hd;subst hd;cases he
   cases hrt:A5 s t with
   | val x=>rw[hrt] at h0;exact (Rd.mono h0 hmono).world hext
   | box cs =>
    rw[hrt] at h0 hne;obtain⟨b',e1,e2,e3⟩:=h0;refine⟨b',e1,e2,(e3.mono hmono).world hext (hoth b' ?_)⟩;rintro rfl;exact hne rfl (by rw[e1];rfl)
   | own k n cs =>
    rw[hrt] at h0 hne;refine (FY.mono h0 hmono).world hext (fun b' hb' _=>hoth b' ?_);rintro rfl;exact hne rfl hb'
   | agn bb k n cs =>
    rw[hrt] at h0 hne;refine (JO.mono h0 hmono).world hext (fun b' hb' _=>hoth b' ?_);rintro rfl;exact hne rfl hb'
   | bxl d' =>
    rw[hrt] at h0 hne;obtain⟨e1,b',e2,e3,e4,e5⟩:=h0;refine⟨e1,b',e2,e3,by rw[hsize];exact e4,fun i hi => ?_⟩;rw[<- e5 i hi];refine Fg (hoth b' ?_);rintro rfl;exact hne rfl (by rw[e2];rfl)
   | mem cs =>
    rw[hrt] at h0;obtain⟨b',off,e1,e2,e3⟩:=h0;refine⟨b',off,e1,fun hne hx=>e2 hne ((hXeq _).1 hx),?_⟩;by_cases hnil:cs=[]
    ·subst hnil;exact⟨fun x hx=>(by cases hx),fun i hi=>(by simp at hi)⟩
    ·refine (e3.mono hmono).world hext (fun _=>hoth b' ?_);rintro rfl;exact e2 hnil (.inr hXb)
   | ptr d' off=>rw[hrt] at h0;exact h0
   | dup d'=>rw[hrt] at h0;exact h0
   | sub _ _ _ _=>rw[hrt] at h0;exact h0
   | dead=>trivial
 ·intro t t' c h1 h2 h3 h4;exact hinj t t' c (hex t h1) (hex t' h2) h3 h4
theorem Rel.kill{Y X0:Nat->Prop}{roots:List (Nat × Nat)}{w0 w:World}{s:Al}{a:Act}(h:Rel Y X0 roots w0 s a w)(ks:List Nat):Rel Y X0 roots w0 (Go.Ai.kill s ks) a w:=by
 obtain⟨hdf,hs,hb,hl,hly,hreg,hinj⟩:=h;have hXS:∀ b,XS (Go.Ai.kill s ks) a.tmps b->XS s a.tmps b:=by
  rintro b ⟨t,h1,h2⟩;rw[FG] at h1;split at h1
  ·cases h1
  ·exact⟨t,h1,h2⟩
 have hmono:∀ c,(X0 c\/XS (Go.Ai.kill s ks) a.tmps c)->(X0 c\/XS s a.tmps c)\/w.heap.size<=c:=fun c hc => .inl (hc.imp id (hXS c));refine⟨hdf,by rw[Go.Ai.kill,FI];exact hs,hb,hl,hly,fun t => ?_,fun t t' b h1 h2 h3 h4 => ?_⟩
 ·rw[FG];split
  ·trivial
  ·have h0:=hreg t;cases hrt:A5 s t with
   | val x=>rw[hrt] at h0;exact Rd.mono h0 hmono
   | box cs=>rw[hrt] at h0;obtain⟨b,e1,e2,e3⟩:=h0;exact⟨b,e1,e2,e3.mono hmono⟩
   | own k n cs=>rw[hrt] at h0;exact FY.mono h0 hmono
   | agn bb k n cs=>rw[hrt] at h0;exact JO.mono h0 hmono
   | bxl d'=>rw[hrt] at h0;exact h0
   | mem cs=>rw[hrt] at h0;obtain⟨b,off,e1,e2,e3⟩:=h0;exact⟨b,off,e1,fun hne hx=>e2 hne (hx.imp id (hXS b)),e3.mono hmono⟩
   | ptr d off=>rw[hrt] at h0;exact h0
   | dup d=>rw[hrt] at h0;exact h0
   | sub _ _ _ _=>rw[hrt] at h0;exact h0
   | dead=>trivial
 ·rw[FG] at h1 h2;split at h1
  ·cases h1
  ·split at h2
   ·cases h2
   ·exact hinj t t' b h1 h2 h3 h4
theorem Rel.ownLow{Y X0:Nat->Prop}{roots:List (Nat × Nat)}{w0 w:World}{s:Al}{a:Act}(h:Rel Y X0 roots w0 s a w){x k n:Nat}{cs:List AV}(hx:A5 s x = .own k n cs) :
  (a.tmps.getD x B5 = .slice none 0 0/\n=0/\cs=[]) \/
  ∃ b cap,a.tmps.getD x B5 = .slice (some ⟨b,0,none⟩) n cap/\n<=cap/\cs.length=n*k/\w0.heap.size<=b/\FX Y (fun b=>X0 b\/XS s a.tmps b) w b 0 cs/\Tt w b (cap*k)/\XS s a.tmps b:=by
 have h0:=h.reg x;rw[hx] at h0;rcases h0 with h0 | ⟨b,cap,e1,e2,e3,e4,e5,e6⟩
 ·exact .inl h0
 ·exact .inr ⟨b,cap,e1,e2,e3,e4,e5,e6,x,by rw[hx];rfl,by rw[e1];rfl⟩
theorem Rel.exclLow{Y X0:Nat->Prop}{roots:List (Nat × Nat)}{w0 w:World}{s:Al}{a:Act}(h:Rel Y X0 roots w0 s a w){x b:Nat}(hx:EA (A5 s x)=true)(hb:Bq (a.tmps.getD x B5)=some b):w0.heap.size<=b/\b<w.heap.size:=by
 have h0:=h.reg x;cases hrt:A5 s x with
 | box cs =>
  rw[hrt] at h0;obtain⟨b',e1,e2,e3⟩:=h0;rw[e1] at hb;simp only[Bq,HT,A9,A3] at hb;exact hb ▸ ⟨e2,e3.lt⟩
 | own k n cs=>rw[hrt] at h0;exact FY.block h0 hb
 | agn bb k n cs=>rw[hrt] at h0;exact JO.block h0 hb
 | bxl d' =>
  rw[hrt] at h0;obtain⟨_,b',e1,e2,e3,_⟩:=h0;rw[e1] at hb;simp only[Bq,HT,A9,A3] at hb;exact hb ▸ ⟨e2,e3⟩
 | val x=>rw[hrt] at hx;cases hx
 | ptr d off=>rw[hrt] at hx;cases hx
 | mem cs=>rw[hrt] at hx;cases hx
 | dup d=>rw[hrt] at hx;cases hx
 | sub _ _ _ _=>rw[hrt] at hx;cases hx
 | dead=>rw[hrt] at hx;cases hx
theorem Rel.shift'{Y X0:Nat->Prop}{roots:List (Nat × Nat)}{w0 w w':World}{s:Al}{a:Act}(h:Rel Y X0 roots w0 s a w){x d:Nat}{r:Reg}{v:Value}{b':Nat}
  (hx:EA (A5 s x)=true) (hb:Bq (a.tmps.getD x B5)=some b') (hks:∀ t,(t,d)∈roots->F3 (A5 s t)=false)
  (hos:w'.os=w.os) (htape:w'.tape=w.tape) (hout:w'.output=w.output) (hsize:w'.heap.size=w.heap.size) (hoth:∀ c,c ≠ b'->w'.heap[c]? = w.heap[c]?) (hrb:EA r=true->Bq v=some b')
  (hnew:∀ X:Nat->Prop,(∀ c,X c->(X0 c\/XS s a.tmps c))->(EA r=false->¬ X b')->KL Y X w0.heap.size roots (a.tmps.setIfInBounds d v) w' d v r) :
  Rel Y X0 roots w0 (Ea (Cd s [(x,Reg.dead)]) (some d) r) (a.put (some d) v) w':=by
 have hbB:=(h.exclLow hx hb).1;have hXb:XS s a.tmps b':=⟨x,hx,hb⟩;obtain⟨hdf,hs,hbel,hl,hly,hreg,hinj⟩:=h;have hown:∀ t,EA (A5 s t)=true->Bq (a.tmps.getD t B5)=some b'->t=x:=fun t h1 h2=>hinj t x b' h1 hx h2 hb;have key:∀ t,A5 (Ea (Cd s [(x,Reg.dead)]) (some d) r) t=(if d=t/\d<s.length then r else if x=t then .dead else A5 s t):=by
  intro t;simp only[Ea,Cd];rw[D0,A_,Ts]
 have kv:∀ t,(a.put (some d) v).tmps.getD t B5=if d=t/\d<s.length then v else a.tmps.getD t B5:=by
  intro t;simp only[tE];rw[Mf,hs]
 have hXold:∀ c,XS (Ea (Cd s [(x,Reg.dead)]) (some d) r) (a.put (some d) v).tmps c->XS s a.tmps c:=by
  rintro c ⟨t,h1,h2⟩;rw[key] at h1;rw[kv] at h2;by_cases hc:d=t/\d<s.length
  ·rw[if_pos hc] at h1 h2;rw[hrb h1] at h2;cases h2;exact hXb
  ·rw[if_neg hc] at h1 h2;split at h1
   ·cases h1
   ·exact⟨t,h1,h2⟩
 have hnb:EA r=false->¬ (X0 b'\/XS (Ea (Cd s [(x,Reg.dead)]) (some d) r) (a.put (some d) v).tmps b'):=by
  rintro he (hx0 | ⟨t,h1,h2⟩)
  ·have:=hl b' hx0;omega
  ·rw[key] at h1;rw[kv] at h2;by_cases hc:d=t/\d<s.length
   ·rw[if_pos hc,he] at h1;cases h1
   ·rw[if_neg hc] at h1 h2;split at h1
    ·cases h1
    ·rename_i hxt;exact hxt (hown t h1 h2).symm
 generalize hXd:(fun c=>X0 c\/XS (Ea (Cd s [(x,Reg.dead)]) (some d) r) (a.put (some d) v).tmps c)=X;have hX1:∀ c,X c->(X0 c\/XS s a.tmps c):=by
  intro c hc;rw[<- hXd] at hc;exact hc.imp id (hXold c)
 have hX2:∀ c,X c->(X0 c\/XS s a.tmps c)\/w'.heap.size<=c:=fun c hc => .inl (hX1 c hc);have hext:∀ c,¬ (X0 c\/XS s a.tmps c)->c<w.heap.size->w'.heap[c]? = w.heap[c]? := by
  intro c hc _;refine hoth c ?_;rintro rfl;exact hc (.inr hXb)
 refine⟨hdf,by simp only[tE,OY,Ea,A_,FI];exact hs,?_,hl,hly,?_,?_⟩
 ·exact⟨hos.trans hbel.os,htape.trans hbel.tape,hout.trans hbel.output,by rw[hsize];exact hbel.size,fun c hc=>(hoth c (by omega)).trans (hbel.block c hc)⟩
 ·intro t;rw[hXd,key,kv];by_cases hc:d=t/\d<s.length
  ·rw[if_pos hc,if_pos hc];obtain⟨rfl,_⟩:=hc;exact hnew X hX1 (fun he=>by rw[<- hXd];exact hnb he)
  ·rw[if_neg hc,if_neg hc];by_cases hxt:x=t
   ·rw[if_pos hxt];trivial
   ·rw[if_neg hxt];have h0:=hreg t;have hne:EA (A5 s t)=true->∀ c,Bq (a.tmps.getD t B5)=some c->c ≠ b':=by
     intro h1 c h2 e;subst e;exact hxt (hown t h1 h2).symm
    cases hrt:A5 s t with
    | val y=>rw[hrt] at h0;exact (Rd.world h0 hext).mono hX2
    | box cs =>
     rw[hrt] at h0 hne;obtain⟨c,e1,e2,e3⟩:=h0;exact⟨c,e1,e2,(e3.world hext (hoth c (hne rfl c (by rw[e1];rfl)))).mono hX2⟩
    | own k n cs =>
     rw[hrt] at h0 hne;exact (FY.world h0 hext (fun c hc _=>hoth c (hne rfl c hc))).mono hX2
    | agn bb k n cs =>
     rw[hrt] at h0 hne;exact (JO.world h0 hext (fun c hc _=>hoth c (hne rfl c hc))).mono hX2
    | bxl d' =>
     rw[hrt] at h0 hne;obtain⟨e1,b,e2,e3,e4,e5⟩:=h0;refine⟨e1,b,e2,e3,by rw[hsize];exact e4,fun i hi => ?_⟩;rw[kv,if_neg]
     ·rw[<- e5 i hi];exact Fg (hoth b (hne rfl b (by rw[e2];rfl)))
     ·rintro⟨rfl,_⟩;have:=hks t e1;rw[hrt] at this;cases this
    | mem cs =>
     rw[hrt] at h0;obtain⟨c,off,e1,e2,e3⟩:=h0;refine⟨c,off,e1,fun hn hx=>e2 hn (hX1 c hx),?_⟩;by_cases hnil:cs=[]
     ·subst hnil;exact⟨fun x hx=>(by cases hx),fun i hi=>(by simp at hi)⟩
     ·refine (e3.world hext (fun _=>hoth c ?_)).mono hX2;rintro rfl;exact e2 hnil (.inr hXb)
    | ptr d' off =>
     rw[hrt] at h0;obtain⟨e1,p,e2,e3,e4⟩:=h0;refine⟨e1,p,?_,e3,e4⟩;rw[kv,if_neg]
     ·exact e2
     ·rintro⟨rfl,_⟩;have:=hks t e1;rw[hrt] at this;cases this
    | dup d' =>
     rw[hrt] at h0;obtain⟨e1,e2⟩:=h0;refine⟨e1,?_⟩;rw[kv,if_neg]
     ·exact e2
     ·rintro⟨rfl,_⟩;have:=hks t e1;rw[hrt] at this;cases this
    | sub d' _ _ _ =>
     rw[hrt] at h0;obtain⟨e1,e2⟩:=h0;refine⟨e1,?_⟩;rw[kv,if_neg]
     ·exact e2
     ·rintro⟨rfl,_⟩;have:=hks t e1;rw[hrt] at this;cases this
    | dead=>trivial
 ·intro t t' c h1 h2 h3 h4;rw[key] at h1 h2;rw[kv] at h3 h4;by_cases c1:d=t/\d<s.length <;> by_cases c2:d=t'/\d<s.length
  ·exact c1.1.symm.trans c2.1
  ·rw[if_pos c1] at h1 h3;rw[if_neg c2] at h2 h4;split at h2
   ·cases h2
   ·rename_i hxt;rw[hrb h1] at h3;cases h3;exact absurd (hown t' h2 h4).symm hxt
  ·rw[if_neg c1] at h1 h3;rw[if_pos c2] at h2 h4;split at h1
   ·cases h1
   ·rename_i hxt;rw[hrb h2] at h4;cases h4;exact absurd (hown t h1 h3).symm hxt
  ·rw[if_neg c1] at h1 h3;rw[if_neg c2] at h2 h4;split at h1
   ·cases h1
   ·split at h2
    ·cases h2
    ·exact hinj t t' c h1 h2 h3 h4
theorem Rel.shift{Y X0:Nat->Prop}{roots:List (Nat × Nat)}{w0 w w':World}{s:Al}{a:Act}(h:Rel Y X0 roots w0 s a w){x d k n:Nat}{cs:List AV}{r:Reg}{v:Value}{b:Nat}
  (hx:A5 s x = .own k n cs) (hb:Bq (a.tmps.getD x B5)=some b) (hks:∀ t,(t,d)∈roots->F3 (A5 s t)=false)
  (hos:w'.os=w.os) (htape:w'.tape=w.tape) (hout:w'.output=w.output) (hsize:w'.heap.size=w.heap.size) (hoth:∀ c,c ≠ b->w'.heap[c]? = w.heap[c]?) (hrb:EA r=true->Bq v=some b)
  (hnew:∀ X:Nat->Prop,(∀ c,X c->(X0 c\/XS s a.tmps c))->(EA r=false->¬ X b)->KL Y X w0.heap.size roots (a.tmps.setIfInBounds d v) w' d v r) :
  Rel Y X0 roots w0 (Ea (Cd s [(x,Reg.dead)]) (some d) r) (a.put (some d) v) w' :=
 h.shift' (by rw[hx];rfl) hb hks hos htape hout hsize hoth hrb hnew
theorem Rel.pass{Y X0:Nat->Prop}{roots:List (Nat × Nat)}{w0 w:World}{s:Al}{a:Act}(h:Rel Y X0 roots w0 s a w){x d:Nat}{r:Reg}{v:Value}(hx:EA (A5 s x)=true)(hv:Bq v=Bq (a.tmps.getD x B5))
  (hks:∀ t,(t,d)∈roots->F3 (A5 s t)=false) (hnew:∀ X:Nat->Prop,(∀ c,X c->(X0 c\/XS s a.tmps c))->KL Y X w0.heap.size roots (a.tmps.setIfInBounds d v) w d v r) :
  Rel Y X0 roots w0 (Ea (Cd s [(x,Reg.dead)]) (some d) r) (a.put (some d) v) w:=by
 cases hb:Bq (a.tmps.getD x B5) with
 | none =>
  rw[hb] at hv;refine D7 (ks:=[x]) h (HF _ _) (fun t ht => .inr (hks t ht)) (fun _ b hb=>by rw[hv] at hb;cases hb) (fun X h1 _=>hnew X fun c hc => ?_);rcases h1 c hc with h2 | ⟨_,h2⟩
  ·exact h2
  ·rw[hv] at h2;cases h2
 | some b=>exact h.shift' hx hb hks rfl rfl rfl rfl (fun _ _=>rfl) (fun _=>by rw[hv,hb]) (fun X h1 _=>hnew X h1)
theorem Rel.wake{Y X0:Nat->Prop}{roots:List (Nat × Nat)}{w0 w:World}{s:Al}{a:Act}(h:Rel Y X0 roots w0 s a w){x:Nat}{y:AV}(hx:A5 s x = .dead)
  (hr:Rd Y (fun b=>X0 b\/XS s a.tmps b) w (a.tmps.getD x B5) y):Rel Y X0 roots w0 (s.set x (.val y)) a w:=by
 obtain⟨hdf,hs,hbel,hl,hly,hreg,hinj⟩:=h;have hex:∀ t,EA (A5 (s.set x (.val y)) t)=EA (A5 s t):=by
  intro t;rw[D0];split
  ·rename_i g;rw[<- g.1,hx];rfl
  ·rfl
 have hXS:XS (s.set x (.val y)) a.tmps=XS s a.tmps:=by
  funext b;unfold XS;simp only[hex]
 refine⟨hdf,by rw[A_];exact hs,hbel,hl,hly,fun t => ?_,fun t t' b h1 h2 h3 h4=>hinj t t' b (by rw[<- hex];exact h1) (by rw[<- hex];exact h2) h3 h4⟩;rw[hXS,D0];split
 ·rename_i g;rw[<- g.1];exact hr
 ·exact hreg t
theorem Rel.unown{Y X0:Nat->Prop}{roots:List (Nat × Nat)}{w0 w:World}{s:Al}{a:Act}(h:Rel Y X0 roots w0 s a w){x:Nat}{r:Reg}(hx:EA (A5 s x)=true)(he:EA r=false)
  (hnew:∀ X:Nat->Prop,(∀ c,X c->(X0 c\/XS s a.tmps c)\/w.heap.size<=c)->(∀ b,Bq (a.tmps.getD x B5)=some b->¬ X b)->KL Y X w0.heap.size roots a.tmps w x (a.tmps.getD x B5) r):Rel Y X0 roots w0 (s.set x r) a w:=by
 have hlow:=fun b hb=>(h.exclLow (b:=b) hx hb).1;obtain⟨hdf,hs,hbel,hl,hly,hreg,hinj⟩:=h;have hlt:x<s.length:=by
  rcases Cn x s.length with hlt | hge
  ·exact hlt
  ·simp only[A5,Z,AD hge] at hx;cases hx
 have key:∀ t,A5 (s.set x r) t=if x=t then r else A5 s t:=by
  intro t;rw[D0];by_cases hxt:x=t
  ·rw[if_pos ⟨hxt,hlt⟩,if_pos hxt]
  ·rw[if_neg (fun e=>hxt e.1),if_neg hxt]
 have hXold:∀ c,XS (s.set x r) a.tmps c->XS s a.tmps c:=by
  rintro c ⟨t,h1,h2⟩;rw[key] at h1;split at h1
  ·rw[he] at h1;cases h1
  ·exact⟨t,h1,h2⟩
 have hnb:∀ b,Bq (a.tmps.getD x B5)=some b->¬ (X0 b\/XS (s.set x r) a.tmps b):=by
  rintro b hb (hx0 | ⟨t,h1,h2⟩)
  ·have h1:=hlow b hb;have:=hl b hx0;omega
  ·rw[key] at h1;split at h1
   ·rw[he] at h1;cases h1
   ·rename_i hxt;exact hxt (hinj t x b h1 hx h2 hb).symm
 have hmono:∀ c,(X0 c\/XS (s.set x r) a.tmps c)->(X0 c\/XS s a.tmps c)\/w.heap.size<=c:=fun c hc => .inl (hc.imp id (hXold c));refine⟨hdf,by rw[A_];exact hs,hbel,hl,hly,fun t => ?_,fun t t' b h1 h2 h3 h4 => ?_⟩
 ·rw[key];by_cases hxt:x=t
  ·subst hxt;rw[if_pos rfl];exact hnew _ hmono hnb
  ·rw[if_neg hxt];have h0:=hreg t;cases hrt:A5 s t with
   | val x=>rw[hrt] at h0;exact Rd.mono h0 hmono
   | box cs=>rw[hrt] at h0;obtain⟨b,e1,e2,e3⟩:=h0;exact⟨b,e1,e2,e3.mono hmono⟩
   | own k n cs=>rw[hrt] at h0;exact FY.mono h0 hmono
   | agn bb k n cs=>rw[hrt] at h0;exact JO.mono h0 hmono
   | bxl d'=>rw[hrt] at h0;exact h0
   | mem cs=>rw[hrt] at h0;obtain⟨b,off,e1,e2,e3⟩:=h0;exact⟨b,off,e1,fun hne hx=>e2 hne (hx.imp id (hXold b)),e3.mono hmono⟩
   | ptr d off=>rw[hrt] at h0;exact h0
   | dup d=>rw[hrt] at h0;exact h0
   | sub _ _ _ _=>rw[hrt] at h0;exact h0
   | dead=>trivial
 ·rw[key] at h1 h2;split at h1
  ·rw[he] at h1;cases h1
  ·split at h2
   ·rw[he] at h2;cases h2
   ·exact hinj t t' b h1 h2 h3 h4
theorem Rel.freeze{Y X0:Nat->Prop}{roots:List (Nat × Nat)}{w0 w:World}{s:Al}{a:Act}(h:Rel Y X0 roots w0 s a w){x k n:Nat}{cs:List AV}(hx:A5 s x = .own k n cs):Rel Y X0 roots w0 (s.set x (.val (.sl n cs))) a w:=by
 refine h.unown (by rw[hx];rfl) rfl fun X h1 h2 => ?_;have h0:=h.reg x;rw[hx] at h0;exact FY.frozen h0 h1 h2 h.lowY
theorem Gp.pt{Y X:Nat->Prop}{w:World}{b off:Nat}{cs:List AV}(hX:cs ≠ []->¬ X b)(h:Gp Y X w b off cs):Rd Y X w (.pointer (some ⟨b,off,none⟩)) (.pt cs):=by
 obtain⟨hd,hm⟩:=h;refine .pt b off cs (fun i=>(w.cell? ⟨b,off+i,none⟩).getD B5) hd hX (fun i hi => ?_) (fun i hi => ?_)
 ·obtain⟨u,h1,_⟩:=hm i hi;rw[h1];rfl
 ·obtain⟨u,h1,h2⟩:=hm i hi;rw[h1];exact h2
theorem Rd.ofPt{Y X:Nat->Prop}{w:World}{v:Value}{cs:List AV}(h:Rd Y X w v (.pt cs)):∃ b off,v = .pointer (some ⟨b,off,none⟩)/\(cs ≠ []->¬ X b)/\Gp Y X w b off cs:=by
 cases h with
 | pt b off _ f hd hX hcell hr=>exact⟨b,off,rfl,hX,hd,fun i hi=>⟨f i,hcell i hi,hr i hi⟩⟩
end Go.Ai
