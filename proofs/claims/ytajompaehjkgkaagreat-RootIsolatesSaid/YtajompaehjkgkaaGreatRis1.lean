/- Texts of the proof of RootIsolates: part 1 of 13. -/
import Derived.Orders
import Derived.Below
namespace Go.Ai
open BitVec renaming ofInt->T
open Bool renaming and_eq_true->Ad,not_eq_true'->Ea
open Decidable renaming decide->B
open Function renaming comp->A2o
open List renaming all_cons->Avy,all_eq_true->BA,cons_append->HT,contains_eq_mem->I5,flatMap_cons->WT,getD_eq_getElem?_getD->Z,getElem?_eq_none->AE,getElem?_set_ne->FO,map_cons->C2,mem_append->BV,mem_append_left->HA,mem_append_right->N1,mem_cons_of_mem->Bi,mem_cons_self->By,mem_map->Em,nil_append->Ia,replicate->Av,set_comm->jB
open Option renaming map_eq_some_iff->Aj,map_some->A3
open Option.some renaming injEq->A1
open Prod.mk renaming injEq->D0
inductive Tag where
 | st (b:Bool)
 | tp (b:Bool)
inductive AV where
 | int (k:IntKind) (n:Int)
 | bool (b:Bool)
 | str (s:ByteArray)
 | agg (cs:List AV)
 | nil
 | sl (n:Nat) (cs:List AV)
 | tup (vs:List AV)
 | undef
 | fresh (k n:Nat) (cs:List AV)
 | frs (b:Tag) (k n:Nat) (cs:List AV)
 | pt (cs:List AV)
 | fnc (f:Nat) (cs:List AV)
def AV.cells:AV->List AV
 | .agg cs=>cs
 | x=>[x]
inductive Reg where
 | val (x:AV)
 | box (cs:List AV)
 | ptr (d off:Nat)
 | mem (cs:List AV)
 | own (k n:Nat) (cs:List AV)
 | agn (b:Tag) (k n:Nat) (cs:List AV)
 | bxl (d:Nat)
 | dup (d:Nat)
 | sub (d k l h:Nat)
 | dead
def E_:Reg->Bool
 | .ptr _ _=>true
 | .dup _=>true
 | .sub _ _ _ _=>true
 | .bxl _=>true
 | _=>false
def Gn:Reg->Bool
 | .val _=>true
 | .box _=>true
 | .mem _=>true
 | .own _ _ _=>true
 | .agn _ _ _ _=>true
 | _=>false
theorem YR{r:Reg}(h:Gn r=true):E_ r=false:=by cases r <;> first | rfl | cases h
abbrev Al:=List Reg
def A4(s:Al)(t:Nat):Reg:=s.getD t .dead
def DL(s:Al):Option Nat->Reg->Al
 | none,_=>s
 | some d,r=>s.set d r
def BO(s:Al):List (Nat × Reg)->Al
 | []=>s
 | (t,r)::l=>BO (s.set t r) l
def Y:Nat->List Reg->List Reg
 | 0,s=>s
 | n+1,s => .dead::Y n s
inductive Opd where
 | t (n:Nat)
 | c (x:AV)
def Opd.reg(s:Al):Opd->Reg
 | .t n=>A4 s n
 | .c x => .val x
def Opd.av(s:Al)(o:Opd):Option AV :=
 match o.reg s with
 | .val x=>some x
 | _=>none
def Opd.rd:Opd->List Nat
 | .t n=>[n]
 | .c _=>[]
inductive K where
 | mov (x:Opd)
 | pick (c a b:Opd)
 | bin (op:BinOp) (x y:Opd)
 | eqb (neg:Bool) (x y:Opd)
 | un (op:UnOp) (x:Opd)
 | cv (k:IntKind) (x:Opd)
 | new (z:List AV) (kills:List Nat)
 | box (x:Opd) (kills:List Nat)
 | bld (z:List AV) (ps:List (Nat × Nat × Opd))
 | bls (n:Nat) (z:List AV) (ps:List (Nat × Nat × Opd))
 | adr (x d off:Nat)
 | ld (x d n:Nat) (one:Bool)
 | st (x d n:Nat) (v:Opd)
 | fld (x:Opd) (off n:Nat) (one:Bool)
 | ixa (x:Nat) (i:Opd) (k:Nat)
 | six (x i:Opd)
 | ext (x:Opd) (i:Nat)
 | len (x:Opd)
 | mx (xs:List Opd)
 | mn (xs:List Opd)
 | call (f:Nat) (xs:List Opd)
 | cpy (x:Nat)
 | tra (x:Nat)
 | frz (x:Nat)
 | mks (z:List AV) (n:Opd)
 | blo (k n:Nat) (z:List AV) (ps:List (Nat × Nat × Opd))
 | apd (ow:Bool) (x y:Opd) (k B:Nat)
 | sli (x:Opd) (lo hi mx:Option Opd) (k:Nat)
 | ixo (x d:Nat) (i:Opd) (k:Nat)
 | lno (x d:Nat)
 | clo (f:Nat) (xs:List Opd)
 | nlo (k:Nat)
 | brw (f x d:Nat)
 | bdo (a:Opd) (x:Nat) (l:List Nat)
 | cln (f:Nat) (xs:List Opd) (l:List Nat)
 | stl (x v:Nat)
 | fdo (x:Nat)
 | exo (x:Nat)
 | slo (x:Nat) (hi:Opd) (k:Nat)
 | cao (f k:Nat) (x:Opd) (xs:List Opd)
 | bad
structure IOp where
 dst:Option Nat
 k:K
 g:Option (Nat × Bool):=none
 ks:List Nat:=[]
def o1(d:Nat)(k:K):IOp:=⟨some d,k,none,[]⟩
def oN(k:K):IOp:=⟨none,k,none,[]⟩
def n(d:Nat)(k:K)(g:Nat)(b:Bool):IOp:=⟨some d,k,some (g,b),[]⟩
def a(d s:Nat):IOp:=⟨some d,.mov (.t s),none,[]⟩
def r(d f:Nat)(l:List Nat):IOp:=⟨some d,.call f (l.map .t),none,[]⟩
def oB(d:Nat)(b:BinOp)(x y:Nat):IOp:=⟨some d,.bin b (.t x) (.t y),none,[]⟩
inductive ICode where
 | skip
 | region (drawn:Bool) (ops:List IOp)
 | seq (a b:ICode)
 | cond (c:Opd) (a b:ICode)
 | block (id:Nat) (c:ICode)
 | loop (c:ICode)
 | scope (c:ICode)
 | exit (id:Nat)
 | ret
inductive IRes where
 | tmp (t:Nat)
 | cell (t n:Nat) (one:Bool)
structure IFunc where
 params:Nat
 slots:Nat
 res:List IRes
 body:ICode
def Afi(op:BinOp)(x y:Int):Option Bool :=
 match op with
 | .eql=>some (x==y)
 | .neq=>some (x != y)
 | .lss=>some (B (x<y))
 | .leq=>some (B (x<=y))
 | .gtr=>some (B (x>y))
 | .geq=>some (B (x>=y))
 | _=>none
def L7(op:BinOp)(k:IntKind)(x y:Int):Option Int :=
 match op with
 | .and=>some (k.wrap (T k.bits x &&& T k.bits y).toNat)
 | .or=>some (k.wrap (T k.bits x ||| T k.bits y).toNat)
 | .xor=>some (k.wrap (T k.bits x ^^^ T k.bits y).toNat)
 | _=>none
def aJ(op:BinOp)(k:IntKind)(x y:Int):Option AV :=
 match op with
 | .add=>some (.int k (k.wrap (x+y)))
 | .sub=>some (.int k (k.wrap (x-y)))
 | .mul=>some (.int k (k.wrap (x*y)))
 | .quo=>if y=0 then none else some (.int k (k.wrap (x.tdiv y)))
 | .rem=>if y=0 then none else some (.int k (x.tmod y))
 | .and | .or | .xor=>(L7 op k x y).map (.int k)
 | _=>(Afi op x y).map .bool
def Q9(op:BinOp)(k:IntKind)(x y:Int):Option AV :=
 if y<0 then none
 else match op with
  | .shl=>some (.int k (k.wrap (x*2^(min y.toNat k.bits))))
  | .shr=>some (.int k (x.fdiv (2^(min y.toNat k.bits))))
  | _=>none
def Jm:BinOp->Bool
 | .shl | .shr=>true
 | _=>false
def LW(op:BinOp)(x y:AV):Option AV :=
 match x,y with
 | .int k a,.int k' b=>if Jm op then Q9 op k a b else if k=k' then aJ op k a b else none
 | _,_=>none
def unA(op:UnOp)(x:AV):Option AV :=
 match op,x with
 | .neg,.int k n=>some (.int k (k.wrap (0-n)))
 | .not,.bool b=>some (.bool (!b))
 | _,_=>none
def X8(k:IntKind):Int->List AV->Option Int
 | m,[]=>some m
 | m,.int k' n::l=>if k=k' then X8 k (if n>m then n else m) l else none
 | _,_=>none
def X9(k:IntKind):Int->List AV->Option Int
 | m,[]=>some m
 | m,.int k' n::l=>if k=k' then X9 k (if n<m then n else m) l else none
 | _,_=>none
def Bn(cs:List AV)(off n:Nat)(one:Bool):Option AV :=
 if one then cs[off]? else if off+n<=cs.length then some (.agg ((cs.drop off).take n)) else none
def C4(cs:List AV)(off:Nat)(new:List AV):Option (List AV) :=
 if off+new.length<=cs.length then some (cs.take off++new++cs.drop (off+new.length)) else none
def KU:AV->Bool
 | .int _ _ | .bool _ | .str _ | .nil | .sl _ _=>true
 | _=>false
def Gp(x:AV)(n:Nat):Option (List AV) :=
 match x with
 | .agg cs=>if cs.length=n then some cs else none
 | .tup _=>none
 | .undef=>none
 | .fresh _ _ _=>none
 | .frs _ _ _ _=>none
 | .pt _=>none
 | .fnc _ _=>none
 | x=>if n=1 then some [x] else none
def FW(s:Al):List AV->List (Nat × Nat × Opd)->Option (List AV)
 | cs,[]=>some cs
 | cs,(off,n,o)::ps =>
  match o.av s with
  | none=>none
  | some x=>match Gp x n with
   | none=>none
   | some ys=>match C4 cs off ys with
    | none=>none
    | some cs'=>FW s cs' ps
def avs(s:Al):List Opd->Option (List AV)
 | []=>some []
 | o::l=>match o.av s with
  | none=>none
  | some x=>match avs s l with
   | none=>none
   | some xs=>some (x::xs)
abbrev B7:=Nat->List AV->Option AV
def Ut:AV->Bool
 | .int _ _=>true
 | _=>false
def LX:AV->Bool
 | .sl _ cs=>cs.all Ut
 | .int _ _=>true
 | .bool _=>true
 | .str _=>true
 | .undef=>true
 | _=>false
def G6:AV->Bool
 | .agg cs=>cs.all LX
 | x=>LX x
def K5:AV->AV
 | .fresh _ n cs => .sl n cs
 | .frs (.st b) _ n cs => .agg [.bool b,.sl n cs]
 | .frs (.tp b) _ n cs => .tup [.sl n cs,.bool b]
 | x=>x
def F4:AV->Reg
 | .fresh k n cs => .own k n cs
 | .frs b k n cs => .agn b k n cs
 | x => .val x
def PB:Opd->List (Nat × Reg)
 | .t n=>[(n,.dead)]
 | .c _=>[]
def Cu(z:List AV):Nat->List AV
 | 0=>[]
 | n+1=>z++Cu z n
def GL(s:Al)(d:Nat):Option Opd->Option Nat
 | none=>some d
 | some o=>match o.av s with
  | some (.int _ i)=>if 0<=i then some i.toNat else none
  | _=>none
def B4(F:B7)(s:Al):K->Option (Reg × List (Nat × Reg))
 | .mov x=>(x.av s).map fun v=>(.val v,[])
 | .pick c a b =>
  match c.av s with
  | some (.bool true)=>(a.av s).map fun v=>(.val v,[])
  | some (.bool false)=>(b.av s).map fun v=>(.val v,[])
  | _=>none
 | .bin op x y =>
  match x.av s,y.av s with
  | some a,some b=>(LW op a b).map fun v=>(.val v,[])
  | _,_=>none
 | .eqb neg x y =>
  match x.av s,y.av s with
  | some (.bool a),some (.bool b)=>some (.val (.bool (if neg then !(a==b) else a==b)),[])
  | _,_=>none
 | .un op x=>match x.av s with
  | some a=>(unA op a).map fun v=>(.val v,[])
  | none=>none
 | .cv k x=>match x.av s with
  | some (.int _ n)=>some (.val (.int k (k.wrap n)),[])
  | _=>none
 | .new z kills=>some (.box z,kills.map fun t=>(t,.dead))
 | .box x kills=>match x.av s with
  | some (.agg cs)=>some (.box cs,kills.map fun t=>(t,.dead))
  | some x=>if KU x then some (.box [x],kills.map fun t=>(t,.dead)) else none
  | none=>none
 | .bld z ps=>(FW s z ps).map fun cs=>(.val (.agg cs),[])
 | .bls n z ps=>(FW s z ps).map fun cs=>(.val (.sl n cs),[])
 | .adr x d off=>match A4 s x with
  | .box _=>if x=d then some (.ptr d off,[]) else none
  | .ptr d' o=>if d'=d then some (.ptr d (o+off),[]) else none
  | .mem cs=>some (.mem (cs.drop off),[])
  | _=>none
 | .ld x d n one=>match A4 s x with
  | .box cs=>if x=d then (Bn cs 0 n one).map fun v=>(.val v,[]) else none
  | .ptr d' off=>if d'=d then (match A4 s d with
   | .box cs=>(Bn cs off n one).map fun v=>(.val v,[])
   | .own _ _ cs=>(Bn cs off n one).map fun v=>(.val v,[])
   | _=>none) else none
  | .mem cs=>(Bn cs 0 n one).map fun v=>(.val v,[])
  | _=>none
 | .st x d n v=>match v.av s with
  | none=>none
  | some a=>match Gp a n with
   | none=>none
   | some ys=>match A4 s x with
    | .box cs=>if x=d then (C4 cs 0 ys).map fun cs'=>(.dead,[(d,.box cs')]) else none
    | .ptr d' off=>if d'=d then (match A4 s d with
     | .box cs=>(C4 cs off ys).map fun cs'=>(.dead,[(d,.box cs')])
     | .own k m cs=>(C4 cs off ys).map fun cs'=>(.dead,[(d,.own k m cs')])
     | _=>none) else none
    | _=>none
 | .fld x off n one=>match x.av s with
  | some (.agg cs)=>(Bn cs off n one).map fun v=>(.val v,[])
  | _=>none
 | .ixa x i k=>match i.av s with
  | some (.int _ i)=>(match A4 s x with
   | .val (.sl n cs)=>if 0<=i/\i<n then some (.mem (cs.drop (i.toNat*k)),[]) else none
   | _=>none)
  | _=>none
 | .six x i=>match x.av s,i.av s with
  | some (.str b),some (.int _ i)=>(if 0<=i then b[i.toNat]? else none).map fun c=>(.val (.int .u8 c.toNat),[])
  | _,_=>none
 | .ext x i=>match x.av s with
  | some (.tup vs)=>(vs[i]?).map fun v=>(.val v,[])
  | _=>none
 | .len x=>match x.av s with
  | some .nil=>some (.val (.int .i64 0),[])
  | some (.sl n _)=>some (.val (.int .i64 n),[])
  | _=>none
 | .mx xs=>match avs s xs with
  | some (.int k n::l)=>(X8 k n l).map fun m=>(.val (.int k m),[])
  | _=>none
 | .mn xs=>match avs s xs with
  | some (.int k n::l)=>(X9 k n l).map fun m=>(.val (.int k m),[])
  | _=>none
 | .call f xs=>match avs s xs with
  | some vs=>(F f vs).map fun v=>(.val (K5 v),[])
  | none=>none
 | .clo f xs=>match avs s xs with
  | some vs=>(F f vs).map fun v=>(F4 v,[])
  | none=>none
 | .brw f x d=>match A4 s x with
  | .dup d'=>if d'=d then (match A4 s d with
   | .own _ n cs=>if cs.all (fun c => !Ut c) then (match F f [.sl n cs] with
    | some y=>if G6 (K5 y) then some (.val (K5 y),[]) else none
    | none=>none) else none
   | _=>none) else none
  | _=>none
 | .cpy x=>match A4 s x with
  | .val v=>some (.val v,[])
  | .own _ _ _=>some (.dup x,[])
  | _=>none
 | .tra x=>match A4 s x with
  | .val v=>some (.val v,[])
  | .own k n cs=>some (.own k n cs,[(x,.dead)])
  | .agn b k n cs=>some (.agn b k n cs,[(x,.dead)])
  | _=>none
 | .frz x=>match A4 s x with
  | .val v=>some (.val v,[])
  | .own _ n cs=>some (.val (.sl n cs),[(x,.val (.sl n cs))])
  | _=>none
 | .mks z n=>match n.av s with
  | some (.int _ m)=>if 0<=m/\m<=1048576 then some (.own z.length m.toNat (Cu z m.toNat),[]) else none
  | _=>none
 | .blo k n z ps=>(FW s z ps).map fun cs=>(.own k n cs,[])
 | .apd ow x y k B=>match y.av s with
  | some .nil=>(match x.reg s with
   | .val .nil=>some (.val .nil,[])
   | .own k' n cs=>if k'=k then some (if ow then .own k n cs else .val (.sl n cs),PB x) else none
   | _=>none)
  | some (.sl m ys)=>if ys.length=m*k then (match x.reg s with
   | .val .nil=>if m<=B then some (if ow then .own k m ys else .val (.sl m ys),[]) else none
   | .own k' n cs=>if k'=k/\n+m<=B then some (if ow then .own k (n+m) (cs++ys) else .val (.sl (n+m) (cs++ys)),PB x) else none
   | _=>none) else none
  | _=>none
 | .sli x lo hi mx k=>match x.av s with
  | some .nil=>(match GL s 0 mx,GL s 0 hi,GL s 0 lo with
   | some 0,some 0,some 0=>if mx.isSome->hi.isSome then some (.val .nil,[]) else none
   | _,_,_=>none)
  | some (.sl n cs)=>(match GL s n mx,GL s n hi,GL s 0 lo with
   | some m,some h,some l=>if l<=h/\h<=m/\m<=n/\(mx.isSome->hi.isSome) then some (.val (.sl (h-l) ((cs.drop (l*k)).take ((h-l)*k))),[]) else none
   | _,_,_=>none)
  | _=>none
 | .ixo x d i k=>match i.av s with
  | some (.int _ i)=>(match A4 s x with
   | .val (.sl n cs)=>if 0<=i/\i<n then some (.mem (cs.drop (i.toNat*k)),[]) else none
   | .dup d'=>if d'=d then (match A4 s d with
    | .own k' n _=>if k'=k/\0<=i/\i<n then some (.ptr d (i.toNat*k),[]) else none
    | _=>none) else none
   | _=>none)
  | _=>none
 | .lno x d=>match A4 s x with
  | .val .nil=>some (.val (.int .i64 0),[])
  | .val (.sl n _)=>some (.val (.int .i64 n),[])
  | .dup d'=>if d'=d then (match A4 s d with
   | .own _ n _=>some (.val (.int .i64 n),[])
   | _=>none) else none
  | _=>none
 | .nlo k=>some (.own k 0 [],[])
 | .bdo a x l=>match a.av s with
  | some (.bool b)=>(match A4 s x with
   | .own k n cs=>if l.all (fun t=>Gn (A4 s t)) then some (.agn (.st b) k n cs,[(x,.dead)]) else none
   | _=>none)
  | _=>none
 | .cln f xs l=>match avs s xs with
  | some vs=>if l.all (fun t=>Gn (A4 s t)) then (F f vs).map fun v=>(F4 v,[]) else none
  | none=>none
 | .stl x v=>match A4 s x with
  | .box cs=>(match A4 s v with
   | .agn (.st _) _ _ _=>if cs.length=2 then some (.dead,[(x,.bxl v)]) else none
   | _=>none)
  | _=>none
 | .fdo x=>match A4 s x with
  | .agn (.st _) k n cs=>some (.own k n cs,[(x,.dead)])
  | _=>none
 | .exo x=>match A4 s x with
  | .agn (.tp b) k n cs=>some (.own k n cs,[(x,.val (.tup [.sl n [],.bool b]))])
  | _=>none
 | .slo x hi k=>match hi.av s with
  | some (.int _ h)=>(match A4 s x with
   | .own k' n cs=>if k'=k/\0<=h/\h<=n then some (.own k h.toNat (cs.take (h.toNat*k)),[(x,.dead)]) else none
   | _=>none)
  | _=>none
 | .cao f k x xs=>match avs s xs with
  | some vs=>(match x with
   | .t m=>(match A4 s m with
    | .own k' n cs=>(F f (.fresh k' n cs::vs)).map fun v=>(F4 v,[(m,.dead)])
    | _=>none)
   | .c (.sl 0 [])=>(F f (.fresh k 0 []::vs)).map fun v=>(F4 v,[])
   | _=>none)
  | none=>none
 | .bad=>none
def GM(s:Al):Option (Nat × Bool)->Option Bool
 | none=>some true
 | some (t,b)=>match A4 s t with
  | .val (.bool c)=>some (c==b)
  | .val .undef=>some false
  | _=>none
def kill(s:Al)(ks:List Nat):Al:=BO s (ks.map fun t=>(t,.dead))
def Ih(F:B7)(o:IOp)(s:Al):Option Al :=
 match GM s o.g with
 | none=>none
 | some false=>some (DL s o.dst (.val .undef))
 | some true=>match B4 F s o.k with
  | none=>none
  | some (r,l)=>some (DL (BO s l) o.dst r)
def FX(F:B7)(o:IOp)(s:Al):Option Al:=Ih F o (kill s o.ks)
def Ej(F:B7):List IOp->Al->Option Al
 | [],s=>some s
 | o::l,s=>match FX F o s with
  | none=>none
  | some s'=>Ej F l s'
inductive Ex where
 | norm
 | exit (id:Nat)
 | ret
def J7(s:Al)(c:Opd):Option Bool :=
 match c.av s with
 | some (.bool b)=>some b
 | _=>none
def Cm(F:B7):Nat->ICode->Al->Option (Ex × Al)
 | 0,_,_=>none
 | _+1,.skip,s=>some (.norm,s)
 | _+1,.region _ ops,s=>(Ej F ops s).map fun s'=>(.norm,s')
 | n+1,.seq a b,s=>match Cm F n a s with
  | some (.norm,s')=>Cm F n b s'
  | r=>r
 | n+1,.cond c a b,s=>match J7 s c with
  | some true=>Cm F n a s
  | some false=>Cm F n b s
  | none=>none
 | n+1,.block id c,s=>match Cm F n c s with
  | some (.exit i,s')=>if i=id then some (.norm,s') else some (.exit i,s')
  | r=>r
 | n+1,.loop c,s=>match Cm F n c s with
  | some (.norm,s')=>Cm F n (.loop c) s'
  | r=>r
 | n+1,.scope c,s=>Cm F n c s
 | _+1,.exit id,s=>some (.exit id,s)
 | _+1,.ret,s=>some (.ret,s)
def EW(s:Al):IRes->Option AV
 | .tmp t=>match A4 s t with
  | .val x=>some x
  | .own _ n cs=>some (.sl n cs)
  | _=>none
 | .cell t n one=>match A4 s t with
  | .box cs=>Bn cs 0 n one
  | _=>none
def DT(s:Al):List IRes->Option (List AV)
 | []=>some []
 | r::l=>match EW s r with
  | none=>none
  | some x=>match DT s l with
   | none=>none
   | some xs=>some (x::xs)
def HC(s:Al):List IRes->Option AV
 | [.tmp t]=>match A4 s t with
  | .own k n cs=>some (.fresh k n cs)
  | .agn b k n cs=>some (.frs b k n cs)
  | _=>none
 | [.tmp t,.tmp u]=>match A4 s t with
  | .own k n cs=>(match A4 s u with
   | .val (.bool b)=>some (.frs (.tp b) k n cs)
   | _=>none)
  | _=>none
 | [.cell t n one]=>match A4 s t with
  | .bxl d=>(match A4 s d with
   | .agn (.st b) k m cs=>if n=2/\one=false then some (.frs (.st b) k m cs) else none
   | _=>none)
  | _=>none
 | _=>none
def GN(s:Al)(l:List IRes):Option AV :=
 match HC s l with
 | some x=>some x
 | none =>
 match DT s l with
 | some [x]=>some x
 | some xs=>some (.tup xs)
 | none=>none
def KV:AV->Reg
 | .pt cs => .mem cs
 | .fresh k n cs => .own k n cs
 | x => .val x
def GO(fn:IFunc)(args:List AV):Al:=args.map KV++Av (fn.slots-args.length) .dead
def N6(prog:Nat->Option IFunc):Nat->B7
 | 0,_,_=>none
 | n+1,f,args=>match prog f with
  | none=>none
  | some fn=>if args.length=fn.params then (match Cm (N6 prog n) n fn.body (GO fn args) with
   | some (.exit _,_)=>none
   | some (_,s)=>GN s fn.res
   | none=>none) else none
abbrev LI:=List Int
abbrev sL{α:Type}(f:List α->List AV)(xs:List α):AV:=.sl xs.length (f xs)
def rg:List IOp -> ICode:=.region false
def ci(n:Int):Opd:=.c (.int .i64 n)
def cb(b:Bool):Opd:=.c (.bool b)
def e(l:List IOp)(b:ICode):ICode:=.seq (.region false l) b
instance(n:Nat):OfNat Opd n:=⟨.t n⟩
def oL(d a b c:Nat):IOp:=⟨some d,.ld a b c false,none,[]⟩
def oE(d a b:Nat):IOp:=⟨some d,.ext (.t a) b,none,[]⟩
def oS(a b c d:Nat):IOp:=⟨none,.st a b c (.t d),none,[]⟩
def oA(d a b c:Nat):IOp:=⟨some d,.ixa a (.t b) c,none,[]⟩
def oI(d:Nat)(b:BinOp)(x:Nat)(n:Int):IOp:=⟨some d,.bin b (.t x) (.c (.int .i64 n)),none,[]⟩
def L8(l:List Opd):List Nat:=l.flatMap Opd.rd
def rdO:Option Opd->List Nat
 | none=>[]
 | some o=>o.rd
def Uu(l:List (Nat × Nat × Opd)):List Nat:=l.flatMap fun p=>p.2.2.rd
def rdK:K->List Nat
 | .mov x=>x.rd
 | .pick c a b=>c.rd++(a.rd++b.rd)
 | .bin _ x y=>x.rd++y.rd
 | .eqb _ x y=>x.rd++y.rd
 | .un _ x=>x.rd
 | .cv _ x=>x.rd
 | .new _ _=>[]
 | .box x _=>x.rd
 | .bld _ ps=>Uu ps
 | .bls _ _ ps=>Uu ps
 | .adr x _ _=>[x]
 | .ld x d _ _=>[x,d]
 | .st x d _ v=>x::d::v.rd
 | .fld x _ _ _=>x.rd
 | .ixa x i _=>x::i.rd
 | .six x i=>x.rd++i.rd
 | .ext x _=>x.rd
 | .len x=>x.rd
 | .mx xs=>L8 xs
 | .mn xs=>L8 xs
 | .call _ xs=>L8 xs
 | .clo _ xs=>L8 xs
 | .cpy x=>[x]
 | .tra x=>[x]
 | .frz x=>[x]
 | .mks _ n=>n.rd
 | .blo _ _ _ ps=>Uu ps
 | .apd _ x y _ _=>x.rd++y.rd
 | .sli x lo hi mx _=>x.rd++(rdO lo++(rdO hi++rdO mx))
 | .ixo x d i _=>x::d::i.rd
 | .lno x d=>[x,d]
 | .nlo _=>[]
 | .brw _ x d=>[x,d]
 | .bdo a x l=>x::(a.rd++l)
 | .cln _ xs l=>L8 xs++l
 | .stl x v=>[x,v]
 | .fdo x=>[x]
 | .exo x=>[x]
 | .slo x hi _=>x::hi.rd
 | .cao _ _ x xs=>x.rd++L8 xs
 | .bad=>[]
def Ph:K->List Nat
 | .new _ kills=>kills
 | .box _ kills=>kills
 | .st _ d _ _=>[d]
 | .tra x=>[x]
 | .frz x=>[x]
 | .apd _ x _ _ _=>x.rd
 | .bdo _ x _=>[x]
 | .stl x _=>[x]
 | .fdo x=>[x]
 | .exo x=>[x]
 | .slo x _ _=>[x]
 | .cao _ _ x _=>x.rd
 | _=>[]
def IOp.rd(o:IOp):List Nat:=rdK o.k++(o.g.toList.map (·.1))
def IOp.wr(o:IOp):List Nat:=Ph o.k++(o.dst.toList++o.ks)
def Fm(l:List Nat)(s s':Al):Prop:=∀ t∈l,A4 s t=A4 s' t
theorem Fm.left{l m:List Nat}{s s':Al}(h:Fm (l++m) s s'):Fm l s s':=fun t ht=>h t (HA _ ht)
theorem Fm.right{l m:List Nat}{s s':Al}(h:Fm (l++m) s s'):Fm m s s':=fun t ht=>h t (N1 _ ht)
theorem Fm.head{t:Nat}{m:List Nat}{s s':Al}(h:Fm (t::m) s s'):A4 s t=A4 s' t:=h t (By ..)
theorem Fm.tail{t:Nat}{m:List Nat}{s s':Al}(h:Fm (t::m) s s'):Fm m s s':=fun u hu=>h u (Bi _ hu)
theorem B2{o:Opd}{s s':Al}(h:Fm o.rd s s'):o.av s=o.av s':=by
 cases o with
 | t n=>simp only[Opd.av,Opd.reg,h n (by simp[Opd.rd])]
 | c x=>rfl
theorem Uv{o:Opd}{s s':Al}(h:Fm o.rd s s'):o.reg s=o.reg s':=by
 cases o with
 | t n=>simp only[Opd.reg,h n (by simp[Opd.rd])]
 | c x=>rfl
theorem N7{o:Option Opd}{d:Nat}{s s':Al}(h:Fm (rdO o) s s'):GL s d o=GL s' d o:=by
 cases o with
 | none=>rfl
 | some o=>simp only[GL,B2 (o:=o) h]
theorem GP{s s':Al}:∀ {l:List Opd},Fm (L8 l) s s'->avs s l=avs s' l
 | [],_=>rfl
 | o::l,h=>by
  have h1:Fm o.rd s s':=fun t ht=>h t (by simp[L8,ht]);have h2:Fm (L8 l) s s':=fun t ht=>h t (by simp only[L8,WT,BV];exact .inr ht);simp only[avs,B2 h1,GP h2]
theorem JX{s s':Al}:∀ {ps:List (Nat × Nat × Opd)} {cs:List AV},Fm (Uu ps) s s'->FW s cs ps=FW s' cs ps
 | [],_,_=>rfl
 | (off,n,o)::ps,cs,h=>by
  have h1:Fm o.rd s s':=fun t ht=>h t (by simp[Uu,ht]);have h2:Fm (Uu ps) s s':=fun t ht=>h t (by simp only[Uu,WT,BV];exact .inr ht);have ih:∀ cs':List AV,FW s cs' ps=FW s' cs' ps:=fun cs'=>JX h2;simp only[FW,B2 h1,ih]
theorem Uw{l:List Nat}{s s':Al}{p:Reg->Bool}(h:Fm l s s'):(l.all fun t=>p (A4 s t))=(l.all fun t=>p (A4 s' t)):=by
 induction l with
 | nil=>rfl
 | cons t l ih=>simp only[Avy,h.head,ih h.tail]
theorem jC{F:B7}{k:K}{s s':Al}(h:Fm (rdK k) s s'):B4 F s k=B4 F s' k:=by
 cases k <;> simp only[rdK] at h
 case mov x=>simp only[B4,B2 h]
 case pick c a b=>simp only[B4,B2 h.left,B2 h.right.left,B2 h.right.right]
 case bin op x y=>simp only[B4,B2 h.left,B2 h.right]
 case eqb neg x y=>simp only[B4,B2 h.left,B2 h.right]
 case un op x=>simp only[B4,B2 h]
 case cv k x=>simp only[B4,B2 h]
 case new z kills=>rfl
 case box x kills=>simp only[B4,B2 h]
 case bld z ps=>simp only[B4,JX h]
 case bls n z ps=>simp only[B4,JX h]
 case adr x d off=>simp only[B4,h.head]
 case ld x d n one=>simp only[B4,h.head,h.tail.head]
 case st x d n v=>simp only[B4,h.head,h.tail.head,B2 h.tail.tail]
 case fld x off n one=>simp only[B4,B2 h]
 case ixa x i k=>simp only[B4,h.head,B2 h.tail]
 case six x i=>simp only[B4,B2 h.left,B2 h.right]
 case ext x i=>simp only[B4,B2 h]
 case len x=>simp only[B4,B2 h]
 case mx xs=>simp only[B4,GP h]
 case mn xs=>simp only[B4,GP h]
 case call f xs=>simp only[B4,GP h]
 case clo f xs=>simp only[B4,GP h]
 case cpy x=>simp only[B4,h.head]
 case tra x=>simp only[B4,h.head]
 case frz x=>simp only[B4,h.head]
 case mks z n=>simp only[B4,B2 h]
 case blo k n z ps=>simp only[B4,JX h]
 case apd ow x y k B=>simp only[B4,Uv h.left,B2 h.right]
 case sli x lo hi mx k=>simp only[B4,B2 h.left,N7 h.right.left,N7 h.right.right.left,N7 h.right.right.right]
 case ixo x d i k=>simp only[B4,h.head,h.tail.head,B2 h.tail.tail]
 case lno x d=>simp only[B4,h.head,h.tail.head]
 case nlo k=>rfl
 case bdo a x l =>
  have hl:(l.all fun t=>Gn (A4 s t))=(l.all fun t=>Gn (A4 s' t)):=Uw (p:=Gn) h.tail.right;simp only[B4,h.head,B2 h.tail.left,hl]
 case cln f xs l =>
  have hl:(l.all fun t=>Gn (A4 s t))=(l.all fun t=>Gn (A4 s' t)):=Uw (p:=Gn) h.right;simp only[B4,GP h.left,hl]
 case stl x v=>simp only[B4,h.head,h.tail.head]
 case fdo x=>simp only[B4,h.head]
 case exo x=>simp only[B4,h.head]
 case slo x hi k=>simp only[B4,h.head,B2 h.tail]
 case cao f k x xs =>
  cases x with
  | t m=>simp only[B4,h.left m (by simp[Opd.rd]),GP h.right]
  | c y =>
   simp only[B4,GP h.right];cases avs s' xs with
   | none=>rfl
   | some vs=>cases y <;> first | rfl | (rename_i n cs;cases n <;> cases cs <;> rfl)
 case brw f x d=>simp only[B4,h.head,h.tail.head]
 case bad=>rfl
theorem tF{F:B7}{k:K}{s:Al}{r:Reg}{l:List (Nat × Reg)}(h:B4 F s k=some (r,l)):∀ p∈l,p.1∈Ph k:=by
 cases k
 case new z kills=>simp only[B4,A1,D0] at h;obtain⟨_,rfl⟩:=h;simp[Ph]
 case box x kills =>
  simp only[B4] at h;split at h
  ·simp only[A1,D0] at h;obtain⟨_,rfl⟩:=h;simp[Ph]
  ·split at h
   ·simp only[A1,D0] at h;obtain⟨_,rfl⟩:=h;simp[Ph]
   ·cases h
  ·cases h
 case st x d n v =>
  simp only[B4] at h;split at h
  ·cases h
  ·split at h
   ·cases h
   ·split at h
    ·split at h
     ·simp only[Aj] at h;obtain⟨a,_,h⟩:=h;cases h;simp[Ph]
     ·cases h
    ·split at h
     ·split at h
      ·simp only[Aj] at h;obtain⟨a,_,h⟩:=h;cases h;simp[Ph]
      ·simp only[Aj] at h;obtain⟨a,_,h⟩:=h;cases h;simp[Ph]
      ·cases h
     ·cases h
    ·cases h
 case tra x =>
  simp only[B4] at h;split at h <;> cases h <;> simp[Ph]
 case frz x =>
  simp only[B4] at h;split at h <;> cases h <;> simp[Ph]
 case bdo a x ls =>
  simp only[B4] at h;repeat' split at h
  all_goals cases h
  simp[Ph]
 case stl x v =>
  simp only[B4] at h;repeat' split at h
  all_goals cases h
  simp[Ph]
 case fdo x =>
  simp only[B4] at h;split at h <;> cases h;simp[Ph]
 case exo x =>
  simp only[B4] at h;split at h <;> cases h;simp[Ph]
 case slo x hi k =>
  simp only[B4] at h;repeat' split at h
  all_goals cases h
  simp[Ph]
 case apd ow x y k B =>
  have hk:∀ p∈PB x,p.1∈x.rd:=by cases x <;> simp[PB,Opd.rd]
  simp only[B4] at h;intro p hp;repeat' split at h
  all_goals first
   | (cases h;exact hk p hp)
   | (cases h;cases hp)
   | cases h
 case cao f k x xs =>
  simp only[B4] at h;intro p hp;repeat' split at h
  all_goals first
   | (simp only[Aj] at h;obtain⟨_,_,h⟩:=h;cases h;first | exact hk p hp | (simp at hp;subst hp;simp[Ph,Opd.rd]) | cases hp)
   | cases h
 all_goals
  have:l=[]:=by
   revert h;simp only[B4];repeat' split
   all_goals
    intro h;first
     | cases h;rfl
     | (simp only[Aj] at h;obtain⟨_,_,h⟩:=h;cases h;rfl)
     | cases h
  subst this;intro p hp;cases hp
def XA(F:B7)(o:IOp)(s:Al):Option (List (Nat × Reg)) :=
 match GM s o.g with
 | none=>none
 | some false=>some (o.dst.toList.map fun d=>(d,.val .undef))
 | some true=>(B4 F s o.k).map fun p=>p.2++o.dst.toList.map fun d=>(d,p.1)
def Ux(F:B7)(o:IOp)(s:Al):Option (List (Nat × Reg)):=(XA F o (kill s o.ks)).map fun l=>(o.ks.map fun t=>(t,Reg.dead))++l
theorem Pk(s:Al)(l m:List (Nat × Reg)):BO s (l++m)=BO (BO s l) m:=by
 induction l generalizing s with
 | nil=>rfl
 | cons p l ih=>obtain⟨t,r⟩:=p;simp only[HT,BO,ih]
theorem aK(s:Al)(d:Option Nat)(r:Reg):DL s d r=BO s (d.toList.map fun d=>(d,r)):=by
 cases d <;> rfl
theorem XB(F:B7)(o:IOp)(s:Al):Ih F o s=(XA F o s).map (BO s):=by
 simp only[Ih,XA];cases GM s o.g with
 | none=>rfl
 | some b =>
  cases b with
  | false=>simp only[A3,aK]
  | true =>
   cases B4 F s o.k with
   | none=>rfl
   | some p=>obtain⟨r,l⟩:=p;simp only[A3,Pk,aK]
theorem Uy(F:B7)(o:IOp)(s:Al):FX F o s=(Ux F o s).map (BO s):=by
 simp only[FX,Ux,XB,Option.map_map];congr 1;funext l;simp only[A2o,Pk,kill]
theorem YS{s:Al}{t u:Nat}{r:Reg}(h:t ≠ u):A4 (s.set t r) u=A4 s u:=by
 simp only[A4,Z,FO h]
theorem Dx(s:Al)(d:Nat)(r:Reg)(t:Nat):A4 (s.set d r) t=if d=t/\d<s.length then r else A4 s t:=by
 simp only[A4,Z,List.getElem?_set];by_cases h:d=t
 ·subst h;by_cases h2:d<s.length
  ·simp[h2]
  ·simp[h2]
 ·simp[h]
theorem SR(k:Nat)(s:Al)(t:Nat):A4 (s.set k .dead) t=if k=t then .dead else A4 s t:=by
 rw[Dx];by_cases h:k=t
 ·subst h;rw[if_pos rfl];split
  ·rfl
  ·rename_i hn;have:s.length<=k:=by simpa using hn
   simp only[A4,Z,AE this];rfl
 ·rw[if_neg h,if_neg (fun e=>h e.1)]
theorem FF(ks:List Nat):∀ (s:Al) (t:Nat),A4 (kill s ks) t=if t∈ks then .dead else A4 s t:=by
 unfold kill;induction ks with
 | nil=>intro s t;simp[BO]
 | cons k ks ih =>
  intro s t;simp only[C2,BO];rw[ih,SR];by_cases h1:t∈ks
  ·simp[h1]
  ·by_cases h2:k=t
   ·subst h2;simp
   ·have h2':¬ t=k:=fun e=>h2 e.symm;simp[h1,h2,h2']
theorem aL{l ks:List Nat}{s s':Al}(h:Fm l s s'):Fm l (kill s ks) (kill s' ks):=by
 intro t ht;rw[FF,FF,h t ht]
theorem YT{g:Option (Nat × Bool)}{s s':Al}(h:Fm (g.toList.map (·.1)) s s'):GM s g=GM s' g:=by
 cases g with
 | none=>rfl
 | some p=>obtain⟨t,b⟩:=p;simp only[GM,h t (by simp)]
theorem Uz{F:B7}{o:IOp}{s s':Al}(h:Fm o.rd s s'):Ux F o s=Ux F o s':=by
 have h':Fm o.rd (kill s o.ks) (kill s' o.ks):=aL h;simp only[Ux,XA,YT h'.right,jC h'.left]
theorem U0{F:B7}{o:IOp}{s:Al}{l:List (Nat × Reg)}(h:XA F o s=some l):∀ p∈l,p.1∈o.wr:=by
 simp only[XA] at h;intro p hp;split at h
 ·cases h
 ·cases h;simp only[Em] at hp;obtain⟨d,hd,rfl⟩:=hp;exact N1 _ (HA _ hd)
 ·simp only[Aj] at h;obtain⟨⟨r,l'⟩,hk,rfl⟩:=h;rcases BV.1 hp with hp | hp
  ·exact HA _ (tF hk p hp)
  ·simp only[Em] at hp;obtain⟨d,hd,rfl⟩:=hp;exact N1 _ (HA _ hd)
theorem XC{F:B7}{o:IOp}{s:Al}{l:List (Nat × Reg)}(h:Ux F o s=some l):∀ p∈l,p.1∈o.wr:=by
 simp only[Ux,Aj] at h;obtain⟨l,h,rfl⟩:=h;intro p hp;rcases BV.1 hp with hp | hp
 ·simp only[Em] at hp;obtain⟨t,ht,rfl⟩:=hp;simp[IOp.wr,ht]
 ·exact U0 h p hp
theorem N8{l:List (Nat × Reg)}{u:Nat}:∀ {s:Al},(∀ p∈l,p.1 ≠ u)->A4 (BO s l) u=A4 s u:=by
 induction l with
 | nil=>intro s _;rfl
 | cons p l ih =>
  intro s h;obtain⟨t,r⟩:=p;simp only[BO];rw[ih (fun q hq=>h q (Bi _ hq)),YS (h (t,r) (By ..))]
theorem jD{l:List (Nat × Reg)}{t:Nat}{r:Reg}:∀ {s:Al},(∀ p∈l,p.1 ≠ t)->BO (s.set t r) l=(BO s l).set t r:=by
 induction l with
 | nil=>intro s _;rfl
 | cons p l ih =>
  intro s h;obtain⟨u,q⟩:=p;simp only[BO];rw[jB _ _ (Ne.symm (h (u,q) (By ..))),ih (fun p hp=>h p (Bi _ hp))]
theorem aM{l m:List (Nat × Reg)}:∀ {s:Al},(∀ p∈l,∀ q∈m,p.1 ≠ q.1)->BO (BO s l) m=BO (BO s m) l:=by
 induction l with
 | nil=>intro s _;rfl
 | cons p l ih =>
  intro s h;obtain⟨t,r⟩:=p;simp only[BO];rw[ih (fun p hp q hq=>h p (Bi _ hp) q hq),jD (fun q hq=>Ne.symm (h (t,r) (By ..) q hq))]
def PC(a b:IOp):Bool:=a.wr.all (fun t => !(b.rd.contains t) && !(b.wr.contains t))&&b.wr.all (fun t => !(a.rd.contains t))
theorem aN{a b:IOp}(h:PC a b=true):(∀ t∈a.wr,t ∉ b.rd/\t ∉ b.wr)/\∀ t∈b.wr,t ∉ a.rd:=by
 simp only[PC,Ad,BA,Ea,I5,decide_eq_false_iff_not] at h;exact h
theorem jE{F:B7}{a b:IOp}{s s1 s2:Al}(hi:PC a b=true)(h1:FX F a s=some s1)(h2:FX F b s1=some s2) :
  ∃ s',FX F b s=some s'/\FX F a s'=some s2:=by
 obtain⟨hab,hba⟩:=aN hi;rw[Uy] at h1 h2;simp only[Aj] at h1 h2;obtain⟨la,ha,rfl⟩:=h1;obtain⟨lb,hb,rfl⟩:=h2;have ka:=XC ha;have kb:=XC hb;have e1:Ux F b (BO s la)=Ux F b s:=Uz fun t ht=>N8 fun p hp e=>(hab p.1 (ka p hp)).1 (e ▸ ht);rw[e1] at hb;have e2:Ux F a (BO s lb)=Ux F a s:=Uz fun t ht=>N8 fun p hp e=>hba p.1 (kb p hp) (e ▸ ht);refine⟨BO s lb,by rw[Uy,hb];rfl,?_⟩;rw[Uy,e2,ha];simp only[A3,A1];exact (aM fun p hp q hq e=>(hab p.1 (ka p hp)).2 (e ▸ kb q hq)).symm
theorem YU{F:B7}{o:IOp}{l:List IOp}:∀ {s s2:Al} {m:List IOp},(∀ p∈m,PC p o=true)->Ej F (m++o::l) s=some s2 ->
  ∃ s1,FX F o s=some s1/\Ej F (m++l) s1=some s2:=by
 intro s s2 m;induction m generalizing s with
 | nil =>
  intro _ h;simp only[Ia,Ej] at h |-;cases h1:FX F o s with
  | none=>rw[h1] at h;cases h
  | some s1=>rw[h1] at h;exact⟨s1,rfl,h⟩
 | cons p m ih =>
  intro hp h;simp only[HT,Ej] at h |-;cases h1:FX F p s with
  | none=>rw[h1] at h;cases h
  | some s1 =>
   rw[h1] at h;obtain⟨s3,h3,h4⟩:=ih (fun q hq=>hp q (Bi _ hq)) h;obtain⟨s',h5,h6⟩:=jE (hp p (By ..)) h1 h3;exact⟨s',h5,by rw[h6];exact h4⟩
end Go.Ai
namespace Go.Ai
open Go.RowKit
open _root_.Array renaming getD_eq_getD_getElem?->Ct,getElem?_eq_none->Awh,getElem?_eq_some_iff->EP,getElem?_setIfInBounds->PA,size_setIfInBounds->OE
open Go renaming undef->Br
open Go.Act renaming put->qV
open Go.RowKit.Below renaming refl->Ig
open Go.World renaming cell?->Up
open List renaming all_eq_true->BA,getD_eq_getElem?_getD->Z,getElem?_eq_none->AE,getElem_mem->CT,length_pos_iff->An,length_set->A',map_cons->C2,mem_cons->D4,mem_of_mem_drop->E',not_mem_nil->TR
open Nat renaming add_assoc->Dw,le_trans->Be,lt_irrefl->TM,lt_of_lt_of_le->Dk,lt_of_not_le->I4,lt_or_ge->Cp
open Option renaming map_some->A3
open Option.some renaming injEq->A1
def N9(cs:List AV):Prop:=∀ x∈cs,KU x=true
inductive Rd (Y X:Nat->Prop) (w:World):Value->AV->Prop where
 | int (k:IntKind) (n:Int):Rd Y X w (.int k n) (.int k n)
 | bool (b:Bool):Rd Y X w (.bool b) (.bool b)
 | str (s:ByteArray):Rd Y X w (.string s) (.str s)
 | undef:Rd Y X w Br .undef
 | agg (vs:Array Value) (cs:List AV) (hd:N9 cs) (h:vs.size=cs.length) (hc:∀ (i:Nat) (h1:i<vs.size) (h2:i<cs.length),Rd Y X w vs[i] cs[i]):Rd Y X w (.agg vs) (.agg cs)
 | tup (vs:Array Value) (cs:List AV) (h:vs.size=cs.length) (hc:∀ (i:Nat) (h1:i<vs.size) (h2:i<cs.length),Rd Y X w vs[i] cs[i]):Rd Y X w (.tuple vs) (.tup cs)
 | nil:Rd Y X w (.slice none 0 0) .nil
 | nil0:Rd Y X w (.slice none 0 0) (.sl 0 [])
 | e0 (a:Addr) (c:Nat):Rd Y X w (.slice (some a) 0 c) (.sl 0 [])
 | sl (b off n cap:Nat) (cs:List AV) (f:Nat->Value) (hd:N9 cs) (hn:n<=cap) (hX:cs ≠ []->¬ X b) (hY:(∃ c∈cs,Ut c=true)->¬ Y b) (hcell:∀ i,i<cs.length->w.cell? ⟨b,off+i,none⟩=some (f i))
   (hr:∀ (i:Nat) (h:i<cs.length),Rd Y X w (f i) cs[i]):Rd Y X w (.slice (some ⟨b,off,none⟩) n cap) (.sl n cs)
 | pt (b off:Nat) (cs:List AV) (f:Nat->Value) (hd:N9 cs) (hX:cs ≠ []->¬ X b) (hcell:∀ i,i<cs.length->w.cell? ⟨b,off+i,none⟩=some (f i))
   (hr:∀ (i:Nat) (h:i<cs.length),Rd Y X w (f i) cs[i]):Rd Y X w (.pointer (some ⟨b,off,none⟩)) (.pt cs)
 | fnc (g:Nat) (u:Value) (cs:List AV) (h:Rd Y X w u (.pt cs)):Rd Y X w (.func (.func g) #[] #[u]) (.fnc g cs)
theorem Fo{w w':World}{p:Addr}(h:w'.heap[p.block]? = w.heap[p.block]?):w'.cell? p=w.cell? p:=by
 simp only[Up,h]
theorem Km{w:World}{p:Addr}{v:Value}(h:w.cell? p=some v):p.block<w.heap.size:=by
 rcases Cp p.block w.heap.size with h1 | h1
 ·exact h1
 ·simp[Up,Awh h1] at h
theorem Rd.world{Y X:Nat->Prop}{w w':World}{v:Value}{x:AV}(h:Rd Y X w v x)(hw:∀ b,¬ X b->b<w.heap.size->w'.heap[b]? = w.heap[b]?):Rd Y X w' v x:=by
 induction h with
 | int k n=>exact .int k n
 | bool b=>exact .bool b
 | str s=>exact .str s
 | undef=>exact .undef
 | agg vs cs hd h hc ih=>exact .agg vs cs hd h ih
 | tup vs cs h hc ih=>exact .tup vs cs h ih
 | nil=>exact .nil
 | nil0=>exact .nil0
 | e0 a c=>exact .e0 a c
 | sl b off n cap cs f hd hn hX hY hcell hr ih =>
  refine .sl b off n cap cs f hd hn hX hY (fun i hi => ?_) ih;have h1:=hcell i hi;rw[Fo (hw b (hX (by intro e;subst e;simp at hi)) (Km h1))];exact h1
 | pt b off cs f hd hX hcell hr ih =>
  refine .pt b off cs f hd hX (fun i hi => ?_) ih;have h1:=hcell i hi;rw[Fo (hw b (hX (by intro e;subst e;simp at hi)) (Km h1))];exact h1
 | fnc g u cs h ih=>exact .fnc g u cs ih
theorem Rd.mono{Y X X':Nat->Prop}{w:World}{v:Value}{x:AV}(h:Rd Y X w v x)(hX:∀ b,X' b->X b\/w.heap.size<=b):Rd Y X' w v x:=by
 induction h with
 | int k n=>exact .int k n
 | bool b=>exact .bool b
 | str s=>exact .str s
 | undef=>exact .undef
 | agg vs cs hd h hc ih=>exact .agg vs cs hd h ih
 | tup vs cs h hc ih=>exact .tup vs cs h ih
 | nil=>exact .nil
 | nil0=>exact .nil0
 | e0 a c=>exact .e0 a c
 | sl b off n cap cs f hd hn hXb hY hcell hr ih =>
  refine .sl b off n cap cs f hd hn (fun hne hb => ?_) hY hcell ih;rcases hX b hb with h1 | h1
  ·exact hXb hne h1
  ·have h0:0<cs.length:=An.2 hne;have:=Km (hcell 0 h0);simp only at this;omega
 | pt b off cs f hd hXb hcell hr ih =>
  refine .pt b off cs f hd (fun hne hb => ?_) hcell ih;rcases hX b hb with h1 | h1
  ·exact hXb hne h1
  ·have h0:0<cs.length:=An.2 hne;have:=Km (hcell 0 h0);simp only at this;omega
 | fnc g u cs h ih=>exact .fnc g u cs ih
theorem Rd.lend{Y X Y' X':Nat->Prop}{w:World}{v:Value}{x:AV}(h:Rd Y X w v x)(hX:∀ b,X' b->X b)(hY:∀ b,Y' b->Y b\/X b):Rd Y' X' w v x:=by
 induction h with
 | int k n=>exact .int k n
 | bool b=>exact .bool b
 | str s=>exact .str s
 | undef=>exact .undef
 | agg vs cs hd h hc ih=>exact .agg vs cs hd h ih
 | tup vs cs h hc ih=>exact .tup vs cs h ih
 | nil=>exact .nil
 | nil0=>exact .nil0
 | e0 a c=>exact .e0 a c
 | sl b off n cap cs f hd hn hXb hYb hcell hr ih =>
  refine .sl b off n cap cs f hd hn (fun hne hb=>hXb hne (hX b hb)) (fun hi hb => ?_) hcell ih;rcases hY b hb with h1 | h1
  ·exact hYb hi h1
  ·obtain⟨c,hc,_⟩:=hi;exact hXb (List.ne_nil_of_mem hc) h1
 | pt b off cs f hd hXb hcell hr ih=>exact .pt b off cs f hd (fun hne hb=>hXb hne (hX b hb)) hcell ih
 | fnc g u cs h ih=>exact .fnc g u cs ih
theorem Rd.back1{Y X Y' X':Nat->Prop}{w:World}{v:Value}{x:AV}(h:Rd Y' X' w v x)(hx:LX x=true)(hX:∀ b,X b->X' b\/Y' b)(hY:∀ b,Y b->Y' b):Rd Y X w v x:=by
 cases h with
 | int k n=>exact .int k n
 | bool b=>exact .bool b
 | str s=>exact .str s
 | undef=>exact .undef
 | agg vs cs hd h hc=>cases hx
 | tup vs cs h hc=>cases hx
 | nil=>cases hx
 | pt _ _ _ _ _ _ _ _=>cases hx
 | fnc _ _ _ _=>cases hx
 | nil0=>exact .nil0
 | e0 a c=>exact .e0 a c
 | sl b off n cap cs f hd hn hXb hYb hcell hr =>
  simp only[LX,BA] at hx;have hall:∀ c∈cs,¬ Y' b:=fun c hc=>hYb ⟨c,hc,hx c hc⟩;refine .sl b off n cap cs f hd hn (fun hne hb => ?_) (fun ⟨c,hc,_⟩ hb=>hall c hc (hY b hb)) hcell (fun i hi => ?_)
  ·obtain⟨c,hc⟩:=List.exists_mem_of_ne_nil cs hne;rcases hX b hb with h1 | h1
   ·exact hXb hne h1
   ·exact hall c hc h1
  ·have h1:=hx _ (CT hi);have h2:=hr i hi;generalize cs[i]=c at h1 h2 |-;generalize f i=u at h2 |-;cases c <;> first | (cases h1;done) | (cases h2;exact .int _ _)
theorem Rd.back{Y X Y' X':Nat->Prop}{w:World}{v:Value}{x:AV}(h:Rd Y' X' w v x)(hx:G6 x=true)(hX:∀ b,X b->X' b\/Y' b)(hY:∀ b,Y b->Y' b):Rd Y X w v x:=by
 cases h with
 | agg vs cs hd h hc =>
  simp only[G6,BA] at hx;exact .agg vs cs hd h fun i h1 h2=>(hc i h1 h2).back1 (hx _ (CT h2)) hX hY
 | int k n=>exact .int k n
 | bool b=>exact .bool b
 | str s=>exact .str s
 | undef=>exact .undef
 | tup vs cs h hc=>cases hx
 | nil=>cases hx
 | pt _ _ _ _ _ _ _ _=>cases hx
 | fnc _ _ _ _=>cases hx
 | nil0=>exact .nil0
 | e0 a c=>exact .e0 a c
 | sl b off n cap cs f hd hn hXb hYb hcell hr=>exact Rd.back1 (.sl b off n cap cs f hd hn hXb hYb hcell hr) hx hX hY
theorem jF{Y X:Nat->Prop}{w:World}{u:Value}{b:Bool}{n:Nat}{cs:List AV}(h:Rd Y X w u (.sl n cs)):Rd Y X w (.agg #[.bool b,u]) (.agg [.bool b,.sl n cs]):=by
 refine .agg _ _ (fun x hx => ?_) rfl (fun i h1 h2 => ?_)
 ·simp only[D4,TR,or_false] at hx;rcases hx with rfl | rfl <;> rfl
 ·match i,h2 with
  | 0,_=>exact .bool b
  | 1,_=>exact h
def Gq(Y X:Nat->Prop)(w:World)(b off:Nat)(cs:List AV):Prop :=
 N9 cs/\∀ (i:Nat) (h:i<cs.length),∃ v,w.cell? ⟨b,off+i,none⟩=some v/\Rd Y X w v cs[i]
theorem Gq.drop{Y X:Nat->Prop}{w:World}{b off:Nat}{cs:List AV}(h:Gq Y X w b off cs)(k:Nat):Gq Y X w b (off+k) (cs.drop k):=by
 obtain⟨hd,h⟩:=h;refine⟨fun x hx=>hd x (E' hx),?_⟩;intro i hi;have hi':k+i<cs.length:=by simp at hi;omega
 obtain⟨v,h1,h2⟩:=h (k+i) hi';refine⟨v,by rw[Dw];exact h1,?_⟩;simpa using h2
theorem Gq.world{Y X:Nat->Prop}{w w':World}{b off:Nat}{cs:List AV}(h:Gq Y X w b off cs)(hw:∀ c,¬ X c->c<w.heap.size->w'.heap[c]? = w.heap[c]?)
  (hb:b<w.heap.size->w'.heap[b]? = w.heap[b]?):Gq Y X w' b off cs:=by
 obtain⟨hd,h⟩:=h;refine⟨hd,?_⟩;intro i hi;obtain⟨v,h1,h2⟩:=h i hi;exact⟨v,by rw[Fo (hb (Km h1))];exact h1,h2.world hw⟩
theorem Gq.mono{Y X X':Nat->Prop}{w:World}{b off:Nat}{cs:List AV}(h:Gq Y X w b off cs)(hX:∀ b,X' b->X b\/w.heap.size<=b):Gq Y X' w b off cs:=by
 obtain⟨hd,h⟩:=h;refine⟨hd,?_⟩;intro i hi;obtain⟨v,h1,h2⟩:=h i hi;exact⟨v,h1,h2.mono hX⟩
def GD:Value->Option Addr
 | .pointer (some p)=>some p
 | .slice (some p) _ _=>some p
 | .agg vs=>match vs.toList with
  | [.bool _,.slice (some p) _ _]=>some p
  | _=>none
 | .tuple vs=>match vs.toList with
  | [.slice (some p) _ _,.bool _]=>some p
  | _=>none
 | _=>none
def AI(v:Value):Option Nat:=(GD v).map (·.block)
def DU:Reg->Bool
 | .box _=>true
 | .own _ _ _=>true
 | .agn _ _ _ _=>true
 | .bxl _=>true
 | _=>false
def FY(Y X:Nat->Prop)(w:World)(b off:Nat)(cs:List AV):Prop :=
 N9 cs/\∃ (vs:Array Value) (T:TypeId),w.heap[b]? = some (.cells vs T (0,0))/\off+cs.length<=vs.size/\∀ (i:Nat) (h:i<cs.length),∃ v,vs[off+i]? = some v/\Rd Y X w v cs[i]
theorem FY.mem{Y X:Nat->Prop}{w:World}{b off:Nat}{cs:List AV}(h:FY Y X w b off cs):Gq Y X w b off cs:=by
 obtain⟨hd,vs,T,hb,_,hc⟩:=h;refine⟨hd,?_⟩;intro i hi;obtain⟨v,h1,h2⟩:=hc i hi;exact⟨v,by simp[Up,hb,h1],h2⟩
theorem FY.lt{Y X:Nat->Prop}{w:World}{b off:Nat}{cs:List AV}(h:FY Y X w b off cs):b<w.heap.size:=by
 obtain⟨_,vs,T,hb,_⟩:=h;exact (EP.1 hb).1
theorem FY.world{Y X:Nat->Prop}{w w':World}{b off:Nat}{cs:List AV}(h:FY Y X w b off cs)(hw:∀ c,¬ X c->c<w.heap.size->w'.heap[c]? = w.heap[c]?)
  (hb:w'.heap[b]? = w.heap[b]?):FY Y X w' b off cs:=by
 obtain⟨hd,vs,T,h1,h2,h3⟩:=h;exact⟨hd,vs,T,by rw[hb];exact h1,h2,fun i hi=>let ⟨v,h4,h5⟩:=h3 i hi; ⟨v,h4,h5.world hw⟩⟩
theorem FY.mono{Y X X':Nat->Prop}{w:World}{b off:Nat}{cs:List AV}(h:FY Y X w b off cs)(hX:∀ b,X' b->X b\/w.heap.size<=b):FY Y X' w b off cs:=by
 obtain⟨hd,vs,T,h1,h2,h3⟩:=h;exact⟨hd,vs,T,h1,h2,fun i hi=>let ⟨v,h4,h5⟩:=h3 i hi; ⟨v,h4,h5.mono hX⟩⟩
def SS(w:World)(b m:Nat):Prop:=∃ (vs:Array Value) (T:TypeId),w.heap[b]? = some (.cells vs T (0,0))/\m<=vs.size
theorem SS.world{w w':World}{b m:Nat}(h:SS w b m)(hb:w'.heap[b]? = w.heap[b]?):SS w' b m:=by
 obtain⟨vs,T,h1,h2⟩:=h;exact⟨vs,T,by rw[hb];exact h1,h2⟩
def Fp(Y X:Nat->Prop)(B:Nat->Prop)(w:World)(v:Value)(k n:Nat)(cs:List AV):Prop :=
 (v = .slice none 0 0/\n=0/\cs=[]) \/
 ∃ b cap,v = .slice (some ⟨b,0,none⟩) n cap/\n<=cap/\cs.length=n*k/\B b/\FY Y X w b 0 cs/\SS w b (cap*k)
theorem Fp.world{Y X:Nat->Prop}{B:Nat->Prop}{w w':World}{v:Value}{k n:Nat}{cs:List AV}(h:Fp Y X B w v k n cs)(hw:∀ c,¬ X c->c<w.heap.size->w'.heap[c]? = w.heap[c]?)
  (hb:∀ b,AI v=some b->b<w.heap.size->w'.heap[b]? = w.heap[b]?):Fp Y X B w' v k n cs:=by
 rcases h with h | ⟨b,cap,e1,e2,e3,e4,e5,e6⟩
 ·exact .inl h
 ·have hbb:w'.heap[b]? = w.heap[b]? := hb b (by rw[e1];rfl) e5.lt;exact .inr ⟨b,cap,e1,e2,e3,e4,e5.world hw hbb,e6.world hbb⟩
theorem Fp.mono{Y X X':Nat->Prop}{B:Nat->Prop}{w:World}{v:Value}{k n:Nat}{cs:List AV}(h:Fp Y X B w v k n cs)(hX:∀ b,X' b->X b\/w.heap.size<=b):Fp Y X' B w v k n cs:=by
 rcases h with h | ⟨b,cap,e1,e2,e3,e4,e5,e6⟩
 ·exact .inl h
 ·exact .inr ⟨b,cap,e1,e2,e3,e4,e5.mono hX,e6⟩
theorem Fp.lower{Y X:Nat->Prop}{B B':Nat->Prop}{w:World}{v:Value}{k n:Nat}{cs:List AV}(h:Fp Y X B w v k n cs)(hB:∀ b,B b->B' b):Fp Y X B' w v k n cs:=by
 rcases h with h | ⟨b,cap,e1,e2,e3,e4,e5,e6⟩
 ·exact .inl h
 ·exact .inr ⟨b,cap,e1,e2,e3,hB b e4,e5,e6⟩
theorem Fp.block{Y X:Nat->Prop}{B:Nat->Prop}{w:World}{v:Value}{k n:Nat}{cs:List AV}(h:Fp Y X B w v k n cs){b:Nat}(hb:AI v=some b):B b/\b<w.heap.size:=by
 rcases h with ⟨rfl,_⟩ | ⟨b',cap,e1,e2,e3,e4,e5,e6⟩
 ·cases hb
 ·rw[e1] at hb;simp only[AI,GD,A3,A1] at hb;subst hb;exact⟨e4,e5.lt⟩
theorem Fp.frozen{Y X X':Nat->Prop}{B:Nat->Prop}{w:World}{v:Value}{k n:Nat}{cs:List AV}(h:Fp Y X B w v k n cs)(hX:∀ b,X' b->X b\/w.heap.size<=b)(hb:∀ b,AI v=some b->¬ X' b)(hY:∀ b,Y b->¬ B b):Rd Y X' w v (.sl n cs):=by
 rcases h with ⟨rfl,rfl,rfl⟩ | ⟨b,cap,e1,e2,e3,e4,e5,e6⟩
 ·exact .nil0
 have hbb:¬ X' b:=hb b (by rw[e1];rfl);obtain⟨hd,hm⟩:=(e5.mono hX).mem;subst e1;refine .sl b 0 n cap cs (fun i=>(w.cell? ⟨b,0+i,none⟩).getD Br) hd e2 (fun _=>hbb) (fun _ h=>hY b h e4) (fun i hi => ?_) (fun i hi => ?_)
 ·obtain⟨u,h1,_⟩:=hm i hi;rw[h1];rfl
 ·obtain⟨u,h1,h2⟩:=hm i hi;rw[h1];exact h2
theorem aO{Y X Y' X':Nat->Prop}{B:Nat->Prop}{w:World}{v:Value}{k n:Nat}{cs:List AV}(h:Fp Y X B w v k n cs)(hX:∀ b,X' b->X b)(hY:∀ b,Y' b->Y b\/X b)(hb:∀ b,AI v=some b->¬ X' b)(hi:cs.all (fun c => !Ut c)=true):Rd Y' X' w v (.sl n cs):=by
 rcases h with ⟨rfl,rfl,rfl⟩ | ⟨b,cap,e1,e2,e3,e4,e5,e6⟩
 ·exact .nil0
 have hbb:¬ X' b:=hb b (by rw[e1];rfl);obtain⟨hd,hm⟩:=e5.mem;subst e1;refine .sl b 0 n cap cs (fun i=>(w.cell? ⟨b,0+i,none⟩).getD Br) hd e2 (fun _=>hbb) (fun ⟨c,hc,h1⟩ _ => ?_) (fun i hi => ?_) (fun i hi => ?_)
 ·have:=BA.1 hi c hc;rw[h1] at this;cases this
 ·obtain⟨u,h1,_⟩:=hm i hi;rw[h1];rfl
 ·obtain⟨u,h1,h2⟩:=hm i hi;rw[h1];exact h2.lend hX hY
def aP:Tag->Value->Value
 | .st b,u => .agg #[.bool b,u]
 | .tp b,u => .tuple #[u,.bool b]
def J8(Y X:Nat->Prop)(B:Nat->Prop)(w:World)(v:Value)(b:Tag)(k n:Nat)(cs:List AV):Prop:=∃ u,v=aP b u/\Fp Y X B w u k n cs
theorem FG{Y X:Nat->Prop}{B:Nat->Prop}{w:World}{u:Value}{k n:Nat}{cs:List AV}(b:Tag)(h:Fp Y X B w u k n cs):AI (aP b u)=AI u:=by
 cases b <;> rcases h with ⟨rfl,_⟩ | ⟨b',cap,rfl,_⟩ <;> rfl
theorem J8.world{Y X:Nat->Prop}{B:Nat->Prop}{w w':World}{v:Value}{b:Tag}{k n:Nat}{cs:List AV}(h:J8 Y X B w v b k n cs)(hw:∀ c,¬ X c->c<w.heap.size->w'.heap[c]? = w.heap[c]?)
  (hb:∀ b,AI v=some b->b<w.heap.size->w'.heap[b]? = w.heap[b]?):J8 Y X B w' v b k n cs:=by
 obtain⟨u,rfl,h⟩:=h;rw[FG b h] at hb;exact⟨u,rfl,h.world hw hb⟩
theorem J8.mono{Y X X':Nat->Prop}{B:Nat->Prop}{w:World}{v:Value}{b:Tag}{k n:Nat}{cs:List AV}(h:J8 Y X B w v b k n cs)(hX:∀ b,X' b->X b\/w.heap.size<=b):J8 Y X' B w v b k n cs:=by
 obtain⟨u,e,h⟩:=h;exact⟨u,e,h.mono hX⟩
theorem J8.lower{Y X:Nat->Prop}{B B':Nat->Prop}{w:World}{v:Value}{b:Tag}{k n:Nat}{cs:List AV}(h:J8 Y X B w v b k n cs)(hB:∀ b,B b->B' b):J8 Y X B' w v b k n cs:=by
 obtain⟨u,e,h⟩:=h;exact⟨u,e,h.lower hB⟩
theorem J8.own{Y X0:Nat->Prop}{Z:Nat->Prop}{B:Nat->Prop}{w:World}{v:Value}{b:Tag}{k n:Nat}{cs:List AV}(h:J8 Y (fun c=>X0 c\/Z c) B w v b k n cs)(hZ:∀ c,AI v=some c->Z c):J8 Y (fun c=>X0 c\/AI v=some c) B w v b k n cs :=
 h.mono fun c hc => .inl (hc.imp id (hZ c))
theorem J8.block{Y X:Nat->Prop}{B:Nat->Prop}{w:World}{v:Value}{b:Tag}{k n:Nat}{cs:List AV}(h:J8 Y X B w v b k n cs){c:Nat}(hb:AI v=some c):B c/\c<w.heap.size:=by
 obtain⟨u,rfl,h⟩:=h;rw[FG b h] at hb;exact h.block hb
def SubV(k l h:Nat)(u v:Value):Prop:=(u = .slice none 0 0/\v = .slice none 0 0/\l=0/\h=0) \/
 ∃ b n cap,u = .slice (some ⟨b,0,none⟩) n cap/\l<=h/\h<=n/\n<=cap/\v = .slice (if cap=l then some ⟨b,0,none⟩ else some ⟨b,l*k,none⟩) (h-l) (cap-l)
def HJ(Y X:Nat->Prop)(B:Nat->Prop)(roots:List (Nat × Nat))(tm:Array Value)(w:World)(t:Nat)(v:Value):Reg->Prop
 | .val x=>Rd Y X w v x
 | .box cs=>∃ b,v = .pointer (some ⟨b,0,none⟩)/\B b/\FY Y X w b 0 cs
 | .ptr d off=>(t,d)∈roots/\∃ p,GD (tm.getD d Br)=some p/\p.spot=none/\v = .pointer (some ⟨p.block,p.off+off,none⟩)
 | .mem cs=>∃ b off,v = .pointer (some ⟨b,off,none⟩)/\(cs ≠ []->¬ X b)/\Gq Y X w b off cs
 | .own k n cs=>Fp Y X B w v k n cs
 | .agn b k n cs=>J8 Y X B w v b k n cs
 | .bxl d=>(t,d)∈roots/\∃ b,v = .pointer (some ⟨b,0,none⟩)/\B b/\b<w.heap.size/\∀ i,i<2->w.cell? ⟨b,i,none⟩=(tm.getD d Br).cells[i]?
 | .dup d=>(t,d)∈roots/\v=tm.getD d Br
 | .sub d k l h=>(t,d)∈roots/\SubV k l h (tm.getD d Br) v
 | .dead=>True
def XS(s:Al)(tm:Array Value)(b:Nat):Prop:=∃ t,DU (A4 s t)=true/\AI (tm.getD t Br)=some b
theorem HJ.monoX{Y X X':Nat->Prop}{B:Nat->Prop}{roots:List (Nat × Nat)}{tm:Array Value}{w:World}{t:Nat}{v:Value}{r:Reg}(h:HJ Y X B roots tm w t v r)(hX:∀ b,X' b->X b):HJ Y X' B roots tm w t v r:=by
 have hX':∀ b,X' b->X b\/w.heap.size<=b:=fun b hb => .inl (hX b hb);cases r with
 | val x=>exact Rd.mono h hX'
 | box cs=>obtain⟨b,e1,e2,e3⟩:=h;exact⟨b,e1,e2,e3.mono hX'⟩
 | own k n cs=>exact Fp.mono h hX'
 | agn bb k n cs=>exact J8.mono h hX'
 | mem cs=>obtain⟨b,off,e1,e2,e3⟩:=h;exact⟨b,off,e1,fun hne hx=>e2 hne (hX b hx),e3.mono hX'⟩
 | bxl d'=>exact h
 | ptr d off=>exact h
 | dup d=>exact h
 | sub _ _ _ _=>exact h
 | dead=>trivial
structure Base where
 w:World
 own:Nat->Prop
def Base.mine(B:Base)(b:Nat):Prop:=B.w.heap.size<=b\/B.own b
structure Grown (B:Base) (w:World):Prop where
 os:w.os=B.w.os
 tape:w.tape=B.w.tape
 output:w.output=B.w.output
 size:B.w.heap.size<=w.heap.size
 block:∀ b,¬ B.mine b->w.heap[b]? = B.w.heap[b]?
theorem Grown.trans{B:Base}{w w':World}(h:Grown B w)(g:Below w.heap.size w w'):Grown B w' :=
 ⟨g.os.trans h.os,g.tape.trans h.tape,g.output.trans h.output,Be h.size g.size,fun b hb=>(g.block b (Dk (I4 fun e=>hb (.inl e)) h.size)).trans (h.block b hb)⟩
theorem Grown.below{B:Base}{w:World}(h:Grown B w)(ho:∀ b,¬ B.own b):Below B.w.heap.size B.w w :=
 ⟨h.os,h.tape,h.output,h.size,fun b hb=>h.block b (fun e=>e.elim (fun e=>TM _ (Dk hb e)) (ho b))⟩
structure Rel (Y X0:Nat->Prop) (roots:List (Nat × Nat)) (w0:Base) (s:Al) (a:Act) (w:World):Prop where
 dfr:a.defers=[]
 size:a.tmps.size=s.length
 below:Grown w0 w
 low:∀ b,X0 b->¬ w0.mine b
 lowY:∀ b,Y b->¬ w0.mine b
 reg:∀ t,HJ Y (fun b=>X0 b\/XS s a.tmps b) w0.mine roots a.tmps w t (a.tmps.getD t Br) (A4 s t)
 inj:∀ t t' b,DU (A4 s t)=true->DU (A4 s t')=true->AI (a.tmps.getD t Br)=some b->AI (a.tmps.getD t' Br)=some b->t=t'
theorem Below.ext{w w':World}(h:Below w.heap.size w w'):∀ b,b<w.heap.size->w'.heap[b]? = w.heap[b]? := h.block
theorem LY(tm:Array Value)(d:Nat)(v:Value)(t:Nat):(tm.setIfInBounds d v).getD t Br=if d=t/\d<tm.size then v else tm.getD t Br:=by
 simp only[Ct,PA];by_cases h:d=t
 ·subst h;by_cases h2:d<tm.size
  ·simp[h2]
  ·simp[h2]
 ·simp[h]
theorem HK(ks:List Nat):∀ (s:Al) (t:Nat),A4 (BO s (ks.map fun u=>(u,Reg.dead))) t=A4 s t\/A4 (BO s (ks.map fun u=>(u,Reg.dead))) t = .dead:=by
 induction ks with
 | nil=>exact fun s t => .inl rfl
 | cons k ks ih =>
  intro s t;simp only[C2,BO];rcases ih (s.set k .dead) t with h | h
  ·rw[h,Dx];split
   ·exact .inr rfl
   ·exact .inl rfl
  ·exact .inr h
theorem Ii(ks:List Nat):∀ (s:Al) (t:Nat),t∈ks->A4 (BO s (ks.map fun u=>(u,Reg.dead))) t = .dead:=by
 induction ks with
 | nil=>intro s t h;cases h
 | cons k ks ih =>
  intro s t h;simp only[C2,BO];by_cases hk:t∈ks
  ·exact ih _ t hk
  ·have e:t=k:=by
    cases h with
    | head=>rfl
    | tail _ h=>exact absurd h hk
   subst e;rcases HK ks (s.set t .dead) t with h1 | h1
   ·rw[h1,Dx];split
    ·rfl
    ·rename_i hn;simp only[A4,Z];have:s.length<=t:=by simp at hn;exact hn
     rw[AE this];rfl
   ·exact h1
theorem FH(l:List (Nat × Reg)):∀ s:Al,(BO s l).length=s.length:=by
 induction l with
 | nil=>intro s;rfl
 | cons p l ih=>intro s;obtain⟨t,r⟩:=p;simp only[BO,ih,A']
theorem XD{Y X:Nat->Prop}{B:Nat->Prop}{roots:List (Nat × Nat)}{tm:Array Value}{w:World}{t:Nat}{v:Value}{r:Reg}{b:Nat}(h:HJ Y X B roots tm w t v r)(he:DU r=true)(hb:AI v=some b):B b:=by
 cases r with
 | box cs =>
  obtain⟨b',e1,e2,e3⟩:=h;rw[e1] at hb;simp only[AI,GD,A3,A1] at hb;exact hb ▸ e2
 | own k n cs=>exact (Fp.block h hb).1
 | agn bb k n cs=>exact (J8.block h hb).1
 | bxl d' =>
  obtain⟨_,b',e1,e2,e3,_⟩:=h;rw[e1] at hb;simp only[AI,GD,A3,A1] at hb;exact hb ▸ e2
 | val x=>cases he
 | ptr d off=>cases he
 | mem cs=>cases he
 | dup d=>cases he
 | sub _ _ _ _=>cases he
 | dead=>cases he
theorem Rel.give{Y X0:Nat->Prop}{roots:List (Nat × Nat)}{w0:Base}{w w':World}{s:Al}{a:Act}(h:Rel Y X0 roots w0 s a w){O:Nat->Prop}(hw:Grown ⟨w,O⟩ w')
  {d:Nat} {v:Value} {r:Reg} {ks:List Nat} (hO:∀ b,O b->∃ x,x∈ks/\DU (A4 s x)=true/\AI (a.tmps.getD x Br)=some b) (hks:∀ t,(t,d)∈roots->t∈ks\/E_ (A4 s t)=false)
  (hfresh:DU r=true->∀ b,AI v=some b->w.heap.size<=b\/O b)
  (hr:∀ X:Nat->Prop,(∀ b,X b->(X0 b\/XS s a.tmps b)\/(w.heap.size<=b/\AI v=some b))->(∀ c,X c->O c->DU r=true/\AI v=some c)->(DU r=false->∀ b,X b->X0 b\/XS s a.tmps b) ->
   HJ Y X w0.mine roots (a.tmps.setIfInBounds d v) w' d v r) :
  Rel Y X0 roots w0 (DL (BO s (ks.map fun u=>(u,Reg.dead))) (some d) r) (a.put (some d) v) w':=by
 obtain⟨hd,hs,hb,hl,hly,hreg,hinj⟩:=h;have hsz:w0.w.heap.size<=w.heap.size:=hb.size;have hblk:∀ c,c<w.heap.size->¬ O c->w'.heap[c]? = w.heap[c]? := fun c hc ho=>hw.block c (fun e=>e.elim (fun e=>TM _ (Dk hc e)) ho);have hOX:∀ b,O b->XS s a.tmps b:=fun b hb=>let ⟨x,_,h2,h3⟩:=hO b hb; ⟨x,h2,h3⟩
 have hne:∀ t,A4 (BO s (ks.map fun u=>(u,Reg.dead))) t=A4 s t->DU (A4 s t)=true->∀ b,AI (a.tmps.getD t Br)=some b->¬ O b:=by
  intro t hk he b hbt ho;obtain⟨x,h1,h2,h3⟩:=hO b ho;have e:=hinj t x b he h2 hbt h3;subst e;rw[Ii ks s t h1] at hk;rw[<- hk] at he;cases he
 have key:∀ t,A4 (DL (BO s (ks.map fun u=>(u,Reg.dead))) (some d) r) t=(if d=t/\d<s.length then r else A4 (BO s (ks.map fun u=>(u,Reg.dead))) t):=by
  intro t;simp only[DL];rw[Dx,FH]
 have kv:∀ t,(a.put (some d) v).tmps.getD t Br=if d=t/\d<s.length then v else a.tmps.getD t Br:=by
  intro t;simp only[qV];rw[LY,hs]
 have hXnew:∀ b,XS (DL (BO s (ks.map fun u=>(u,Reg.dead))) (some d) r) (a.put (some d) v).tmps b->XS s a.tmps b\/(DU r=true/\w.heap.size<=b/\AI v=some b):=by
  rintro b ⟨t,h1,h2⟩;rw[key] at h1;rw[kv] at h2;by_cases hc:d=t/\d<s.length
  ·rw[if_pos hc] at h1 h2;rcases hfresh h1 b h2 with h3 | h3
   ·exact .inr ⟨h1,h3,h2⟩
   ·exact .inl (hOX b h3)
  ·rw[if_neg hc] at h1 h2;rcases HK ks s t with hk | hk
   ·rw[hk] at h1;exact .inl ⟨t,h1,h2⟩
   ·rw[hk] at h1;cases h1
 generalize hXd:(fun b=>X0 b\/XS (DL (BO s (ks.map fun u=>(u,Reg.dead))) (some d) r) (a.put (some d) v).tmps b)=X;have hX1:∀ b,X b->(X0 b\/XS s a.tmps b)\/w.heap.size<=b:=by
  intro b hXb;rw[<- hXd] at hXb;rcases hXb with h | h
  ·exact .inl (.inl h)
  ·rcases hXnew b h with h | h
   ·exact .inl (.inr h)
   ·exact .inr h.2.1
 have hX1':∀ b,X b->(X0 b\/XS s a.tmps b)\/(w.heap.size<=b/\AI v=some b):=by
  intro b hXb;rw[<- hXd] at hXb;rcases hXb with h | h
  ·exact .inl (.inl h)
  ·rcases hXnew b h with h | h
   ·exact .inl (.inr h)
   ·exact .inr h.2
 have hX2:DU r=false->∀ b,X b->X0 b\/XS s a.tmps b:=by
  intro he b hXb;rw[<- hXd] at hXb;rcases hXb with h | h
  ·exact .inl h
  ·rcases hXnew b h with h | h
   ·exact .inr h
   ·rw[he] at h;cases h.1
 have hX3:∀ c,X c->O c->DU r=true/\AI v=some c:=by
  intro c hc ho;rw[<- hXd] at hc;rcases hc with hc | ⟨t,h1,h2⟩
  ·obtain⟨x,_,h2,h3⟩:=hO c ho;exact absurd (XD (hreg x) h2 h3) (hl c hc)
  ·rw[key] at h1;rw[kv] at h2;by_cases hc:d=t/\d<s.length
   ·rw[if_pos hc] at h1 h2;exact⟨h1,h2⟩
   ·rw[if_neg hc] at h1 h2;rcases HK ks s t with hk | hk
    ·rw[hk] at h1;exact absurd ho (hne t hk h1 c h2)
    ·rw[hk] at h1;cases h1
 have hext:∀ c,¬ (X c\/(X0 c\/XS s a.tmps c))->c<w.heap.size->w'.heap[c]? = w.heap[c]? := fun c hc hl=>hblk c hl fun ho=>hc (.inr (.inr (hOX c ho)));have hXu:∀ c,(X c\/(X0 c\/XS s a.tmps c))->(X0 c\/XS s a.tmps c)\/w.heap.size<=c:=fun c hc=>hc.elim (hX1 c) .inl;have hXv:∀ c,X c->(X c\/(X0 c\/XS s a.tmps c))\/w'.heap.size<=c:=fun c hc => .inl (.inl hc);refine⟨hd,by simp only[qV,OE,DL,A',FH];exact hs,?_,hl,hly,?_,?_⟩
 ·refine⟨hw.os.trans hb.os,hw.tape.trans hb.tape,hw.output.trans hb.output,Be hsz hw.size,fun c hc => ?_⟩;have hlt:c<w.heap.size:=Dk (I4 fun e=>hc (.inl e)) hsz;refine (hblk c hlt fun ho => ?_).trans (hb.block c hc);obtain⟨x,_,h2,h3⟩:=hO c ho;exact hc (XD (hreg x) h2 h3)
 ·intro t;rw[hXd,key,kv];by_cases hc:d=t/\d<s.length
  ·rw[if_pos hc,if_pos hc];obtain⟨rfl,_⟩:=hc;exact hr X hX1' hX3 hX2
  ·rw[if_neg hc,if_neg hc];rcases HK ks s t with hk | hk
   ·rw[hk];have h0:=hreg t;cases hrt:A4 s t with
    | val x=>rw[hrt] at h0;exact ((Rd.mono h0 hXu).world hext).mono hXv
    | box cs =>
     rw[hrt] at h0;obtain⟨b,e1,e2,e3⟩:=h0;exact⟨b,e1,e2,((e3.mono hXu).world hext (hblk b e3.lt (hne t hk (by rw[hrt];rfl) b (by rw[e1];rfl)))).mono hXv⟩
    | own k n cs =>
     rw[hrt] at h0;exact ((Fp.mono h0 hXu).world hext (fun b h1 hb=>hblk b hb (hne t hk (by rw[hrt];rfl) b h1))).mono hXv
    | agn bb k n cs =>
     rw[hrt] at h0;exact ((J8.mono h0 hXu).world hext (fun b h1 hb=>hblk b hb (hne t hk (by rw[hrt];rfl) b h1))).mono hXv
    | mem cs =>
     rw[hrt] at h0;obtain⟨b,off,e1,e2,e3⟩:=h0;refine⟨b,off,e1,fun hne hXb => ?_,?_⟩;rotate_left
     ·by_cases hnil:cs=[]
      ·subst hnil;exact⟨fun x hx=>(by cases hx),fun i hi=>(by simp at hi)⟩
      ·exact ((e3.mono hXu).world hext (fun hb=>hblk b hb fun ho=>e2 hnil (.inr (hOX b ho)))).mono hXv
     rcases hX1 b hXb with h | h
     ·exact e2 hne h
     ·have h0:0<cs.length:=An.2 hne;obtain⟨u,hu,_⟩:=e3.2 0 h0;have:=Km hu;simp only at this;omega
    | ptr d' off =>
     rw[hrt] at h0;obtain⟨e1,p,e2,e3,e4⟩:=h0;refine⟨e1,p,?_,e3,e4⟩;rw[kv,if_neg]
     ·exact e2
     ·rintro⟨rfl,hlt⟩;rcases hks t e1 with hh | hh
      ·have:=Ii ks s t hh;rw[hk,hrt] at this;cases this
      ·rw[hrt] at hh;cases hh
    | dup d' =>
     rw[hrt] at h0;obtain⟨e1,e2⟩:=h0;refine⟨e1,?_⟩;rw[kv,if_neg]
     ·exact e2
     ·rintro⟨rfl,hlt⟩;rcases hks t e1 with hh | hh
      ·have:=Ii ks s t hh;rw[hk,hrt] at this;cases this
      ·rw[hrt] at hh;cases hh
    | sub d' _ _ _ =>
     rw[hrt] at h0;obtain⟨e1,e2⟩:=h0;refine⟨e1,?_⟩;rw[kv,if_neg]
     ·exact e2
     ·rintro⟨rfl,hlt⟩;rcases hks t e1 with hh | hh
      ·have:=Ii ks s t hh;rw[hk,hrt] at this;cases this
      ·rw[hrt] at hh;cases hh
    | bxl d' =>
     rw[hrt] at h0;obtain⟨e1,b,e2,e3,e4,e5⟩:=h0;refine⟨e1,b,e2,e3,Dk e4 hw.size,fun i hi => ?_⟩;rw[kv,if_neg]
     ·rw[<- e5 i hi];exact Fo (hblk b e4 (hne t hk (by rw[hrt];rfl) b (by rw[e2];rfl)))
     ·rintro⟨rfl,hlt⟩;rcases hks t e1 with hh | hh
      ·have:=Ii ks s t hh;rw[hk,hrt] at this;cases this
      ·rw[hrt] at hh;cases hh
    | dead=>trivial
   ·rw[hk];trivial
 ·intro t t' b h1 h2 h3 h4;rw[key] at h1 h2;rw[kv] at h3 h4;have old:∀ u,(¬ (d=u/\d<s.length))->DU (A4 (BO s (ks.map fun u=>(u,Reg.dead))) u)=true->DU (A4 s u)=true:=by
   intro u _ hu;rcases HK ks s u with hk | hk
   ·rw[hk] at hu;exact hu
   ·rw[hk] at hu;cases hu
  have lt:∀ u,DU (A4 s u)=true->AI (a.tmps.getD u Br)=some b->b<w.heap.size:=by
   intro u hu hv;have h0:=hreg u;cases hrt:A4 s u with
   | box cs =>
    rw[hrt] at h0;obtain⟨b',e1,_,e3⟩:=h0;rw[e1] at hv;simp only[AI,GD,A3,A1] at hv;exact hv ▸ e3.lt
   | own k n cs =>
    rw[hrt] at h0;exact (Fp.block h0 hv).2
   | agn bb k n cs =>
    rw[hrt] at h0;exact (J8.block h0 hv).2
   | bxl d' =>
    rw[hrt] at h0;obtain⟨_,b',e1,_,e3,_⟩:=h0;rw[e1] at hv;simp only[AI,GD,A3,A1] at hv;exact hv ▸ e3
   | val x=>rw[hrt] at hu;cases hu
   | ptr d off=>rw[hrt] at hu;cases hu
   | mem cs=>rw[hrt] at hu;cases hu
   | dup d=>rw[hrt] at hu;cases hu
   | sub _ _ _ _=>rw[hrt] at hu;cases hu
   | dead=>rw[hrt] at hu;cases hu
  by_cases c1:d=t/\d<s.length <;> by_cases c2:d=t'/\d<s.length
  ·exact c1.1.symm.trans c2.1
  ·rw[if_pos c1] at h1 h3;rw[if_neg c2] at h2 h4;have:=lt t' (old t' c2 h2) h4;rcases hfresh h1 b h3 with e2 | e2
   ·omega
   ·rcases HK ks s t' with hk | hk
    ·exact absurd e2 (hne t' hk (old t' c2 h2) b h4)
    ·rw[hk] at h2;cases h2
  ·rw[if_neg c1] at h1 h3;rw[if_pos c2] at h2 h4;have:=lt t (old t c1 h1) h3;rcases hfresh h2 b h4 with e2 | e2
   ·omega
   ·rcases HK ks s t with hk | hk
    ·exact absurd e2 (hne t hk (old t c1 h1) b h3)
    ·rw[hk] at h1;cases h1
  ·rw[if_neg c1] at h1 h3;rw[if_neg c2] at h2 h4;exact hinj t t' b (old t c1 h1) (old t' c2 h2) h3 h4
theorem tH{w w':World}(h:Below w.heap.size w w'):Grown ⟨w,fun _=>False⟩ w' :=
 ⟨h.os,h.tape,h.output,h.size,fun b hb=>h.block b (I4 fun e=>hb (.inl e))⟩
theorem D7{Y X0:Nat->Prop}{roots:List (Nat × Nat)}{w0:Base}{w w':World}{s:Al}{a:Act}(h:Rel Y X0 roots w0 s a w)(hw:Below w.heap.size w w')
  {d:Nat} {v:Value} {r:Reg} {ks:List Nat} (hks:∀ t,(t,d)∈roots->t∈ks\/E_ (A4 s t)=false)
  (hfresh:DU r=true->∀ b,AI v=some b->w.heap.size<=b)
  (hr:∀ X:Nat->Prop,(∀ b,X b->(X0 b\/XS s a.tmps b)\/(w.heap.size<=b/\AI v=some b))->(DU r=false->∀ b,X b->X0 b\/XS s a.tmps b) ->
   HJ Y X w0.mine roots (a.tmps.setIfInBounds d v) w' d v r) :
  Rel Y X0 roots w0 (DL (BO s (ks.map fun u=>(u,Reg.dead))) (some d) r) (a.put (some d) v) w' :=
 h.give (tH hw) (fun _ hb=>False.elim hb) hks (fun he b hb => .inl (hfresh he b hb)) fun X h1 _ h2=>hr X h1 h2
theorem Awp{s:Al}{tm:Array Value}{d:Nat}{r r':Reg}(h:A4 s d=r)(he:DU r=DU r')(b:Nat):XS (s.set d r') tm b↔XS s tm b:=by
 have key:∀ t,DU (A4 (s.set d r') t)=DU (A4 s t):=by
  intro t;rw[Dx];split
  ·rename_i hc;obtain⟨rfl,_⟩:=hc;rw[h,he]
  ·rfl
 constructor
 ·rintro⟨t,h1,h2⟩;exact⟨t,by rw[<- key];exact h1,h2⟩
 ·rintro⟨t,h1,h2⟩;exact⟨t,by rw[key];exact h1,h2⟩
theorem Rel.store{Y X0:Nat->Prop}{roots:List (Nat × Nat)}{w0:Base}{w w':World}{s:Al}{a:Act}(h:Rel Y X0 roots w0 s a w){d:Nat}{r r':Reg}{b:Nat}
  (hd:A4 s d=r) (he:DU r=true) (he':DU r'=true) (hv:AI (a.tmps.getD d Br)=some b) (hbB:w0.mine b) (hos:w'.os=w.os) (htape:w'.tape=w.tape) (hout:w'.output=w.output)
  (hsize:w'.heap.size=w.heap.size) (hoth:∀ c,c ≠ b->w'.heap[c]? = w.heap[c]?)
  (hnew:∀ X:Nat->Prop,(∀ c,X c↔(X0 c\/XS s a.tmps c))->HJ Y X w0.mine roots a.tmps w' d (a.tmps.getD d Br) r') :
  Rel Y X0 roots w0 (s.set d r') a w':=by
 obtain⟨hdf,hs,hb,hl,hly,hreg,hinj⟩:=h;have hXb:XS s a.tmps b:=⟨d,by rw[hd];exact he,hv⟩;have hXeq:∀ c,(X0 c\/XS (s.set d r') a.tmps c)↔(X0 c\/XS s a.tmps c):=fun c=>by rw[Awp (r':=r') hd (by rw[he,he'])]
 have hmono:∀ c,(X0 c\/XS (s.set d r') a.tmps c)->(X0 c\/XS s a.tmps c)\/w.heap.size<=c:=fun c hc => .inl ((hXeq c).1 hc);have hext:∀ c,¬ (X0 c\/XS (s.set d r') a.tmps c)->c<w.heap.size->w'.heap[c]? = w.heap[c]? := by
  intro c hc _;refine hoth c ?_;rintro rfl;exact hc ((hXeq _).2 (.inr hXb))
 have hex:∀ t,DU (A4 (s.set d r') t)=true->DU (A4 s t)=true:=by
  intro t ht;rw[Dx] at ht;split at ht
  ·rename_i hc;rw[<- hc.1,hd];exact he
  ·exact ht
 refine⟨hdf,by rw[A'];exact hs,?_,hl,hly,?_,?_⟩
 ·exact⟨hos.trans hb.os,htape.trans hb.tape,hout.trans hb.output,by rw[hsize];exact hb.size,fun k hk=>(hoth k (fun e=>hk (e ▸ hbB))).trans (hb.block k hk)⟩
 ·intro t;rw[Dx];split
  ·rename_i hc;obtain⟨rfl,_⟩:=hc;exact hnew _ hXeq
  ·rename_i hc;have h0:=hreg t;have hne:DU (A4 s t)=true->AI (a.tmps.getD t Br) ≠ some b:=by
    intro h1 h2;have:=hinj d t b (by rw[hd];exact he) h1 hv h2;subst this;refine hc ⟨rfl,?_⟩;rcases Cp d s.length with hlt | hge
    ·exact hlt
    ·simp only[A4,Z,AE hge] at hd;subst hd;cases he
   cases hrt:A4 s t with
   | val x=>rw[hrt] at h0;exact (Rd.mono h0 hmono).world hext
   | box cs =>
    rw[hrt] at h0 hne;obtain⟨b',e1,e2,e3⟩:=h0;refine⟨b',e1,e2,(e3.mono hmono).world hext (hoth b' ?_)⟩;rintro rfl;exact hne rfl (by rw[e1];rfl)
   | own k n cs =>
    rw[hrt] at h0 hne;refine (Fp.mono h0 hmono).world hext (fun b' hb' _=>hoth b' ?_);rintro rfl;exact hne rfl hb'
   | agn bb k n cs =>
    rw[hrt] at h0 hne;refine (J8.mono h0 hmono).world hext (fun b' hb' _=>hoth b' ?_);rintro rfl;exact hne rfl hb'
   | bxl d' =>
    rw[hrt] at h0 hne;obtain⟨e1,b',e2,e3,e4,e5⟩:=h0;refine⟨e1,b',e2,e3,by rw[hsize];exact e4,fun i hi => ?_⟩;rw[<- e5 i hi];refine Fo (hoth b' ?_);rintro rfl;exact hne rfl (by rw[e2];rfl)
   | mem cs =>
    rw[hrt] at h0;obtain⟨b',off,e1,e2,e3⟩:=h0;refine⟨b',off,e1,fun hne hx=>e2 hne ((hXeq _).1 hx),?_⟩;by_cases hnil:cs=[]
    ·subst hnil;exact⟨fun x hx=>(by cases hx),fun i hi=>(by simp at hi)⟩
    ·refine (e3.mono hmono).world hext (fun _=>hoth b' ?_);rintro rfl;exact e2 hnil (.inr hXb)
   | ptr d' off=>rw[hrt] at h0;exact h0
   | dup d'=>rw[hrt] at h0;exact h0
   | sub _ _ _ _=>rw[hrt] at h0;exact h0
   | dead=>trivial
 ·intro t t' c h1 h2 h3 h4;exact hinj t t' c (hex t h1) (hex t' h2) h3 h4
theorem Rel.kill{Y X0:Nat->Prop}{roots:List (Nat × Nat)}{w0:Base}{w:World}{s:Al}{a:Act}(h:Rel Y X0 roots w0 s a w)(ks:List Nat):Rel Y X0 roots w0 (Go.Ai.kill s ks) a w:=by
 obtain⟨hdf,hs,hb,hl,hly,hreg,hinj⟩:=h;have hXS:∀ b,XS (Go.Ai.kill s ks) a.tmps b->XS s a.tmps b:=by
  rintro b ⟨t,h1,h2⟩;rw[FF] at h1;split at h1
  ·cases h1
  ·exact⟨t,h1,h2⟩
 have hmono:∀ c,(X0 c\/XS (Go.Ai.kill s ks) a.tmps c)->(X0 c\/XS s a.tmps c)\/w.heap.size<=c:=fun c hc => .inl (hc.imp id (hXS c));refine⟨hdf,by rw[Go.Ai.kill,FH];exact hs,hb,hl,hly,fun t => ?_,fun t t' b h1 h2 h3 h4 => ?_⟩
 ·rw[FF];split
  ·trivial
  ·have h0:=hreg t;cases hrt:A4 s t with
   | val x=>rw[hrt] at h0;exact Rd.mono h0 hmono
   | box cs=>rw[hrt] at h0;obtain⟨b,e1,e2,e3⟩:=h0;exact⟨b,e1,e2,e3.mono hmono⟩
   | own k n cs=>rw[hrt] at h0;exact Fp.mono h0 hmono
   | agn bb k n cs=>rw[hrt] at h0;exact J8.mono h0 hmono
   | bxl d'=>rw[hrt] at h0;exact h0
   | mem cs=>rw[hrt] at h0;obtain⟨b,off,e1,e2,e3⟩:=h0;exact⟨b,off,e1,fun hne hx=>e2 hne (hx.imp id (hXS b)),e3.mono hmono⟩
   | ptr d off=>rw[hrt] at h0;exact h0
   | dup d=>rw[hrt] at h0;exact h0
   | sub _ _ _ _=>rw[hrt] at h0;exact h0
   | dead=>trivial
 ·rw[FF] at h1 h2;split at h1
  ·cases h1
  ·split at h2
   ·cases h2
   ·exact hinj t t' b h1 h2 h3 h4
theorem Rel.ownLow{Y X0:Nat->Prop}{roots:List (Nat × Nat)}{w0:Base}{w:World}{s:Al}{a:Act}(h:Rel Y X0 roots w0 s a w){x k n:Nat}{cs:List AV}(hx:A4 s x = .own k n cs) :
  (a.tmps.getD x Br = .slice none 0 0/\n=0/\cs=[]) \/
  ∃ b cap,a.tmps.getD x Br = .slice (some ⟨b,0,none⟩) n cap/\n<=cap/\cs.length=n*k/\w0.mine b/\FY Y (fun b=>X0 b\/XS s a.tmps b) w b 0 cs/\SS w b (cap*k)/\XS s a.tmps b:=by
 have h0:=h.reg x;rw[hx] at h0;rcases h0 with h0 | ⟨b,cap,e1,e2,e3,e4,e5,e6⟩
 ·exact .inl h0
 ·exact .inr ⟨b,cap,e1,e2,e3,e4,e5,e6,x,by rw[hx];rfl,by rw[e1];rfl⟩
theorem Rel.exclLow{Y X0:Nat->Prop}{roots:List (Nat × Nat)}{w0:Base}{w:World}{s:Al}{a:Act}(h:Rel Y X0 roots w0 s a w){x b:Nat}(hx:DU (A4 s x)=true)(hb:AI (a.tmps.getD x Br)=some b):w0.mine b/\b<w.heap.size:=by
 have h0:=h.reg x;cases hrt:A4 s x with
 | box cs =>
  rw[hrt] at h0;obtain⟨b',e1,e2,e3⟩:=h0;rw[e1] at hb;simp only[AI,GD,A3,A1] at hb;exact hb ▸ ⟨e2,e3.lt⟩
 | own k n cs=>rw[hrt] at h0;exact Fp.block h0 hb
 | agn bb k n cs=>rw[hrt] at h0;exact J8.block h0 hb
 | bxl d' =>
  rw[hrt] at h0;obtain⟨_,b',e1,e2,e3,_⟩:=h0;rw[e1] at hb;simp only[AI,GD,A3,A1] at hb;exact hb ▸ ⟨e2,e3⟩
 | val x=>rw[hrt] at hx;cases hx
 | ptr d off=>rw[hrt] at hx;cases hx
 | mem cs=>rw[hrt] at hx;cases hx
 | dup d=>rw[hrt] at hx;cases hx
 | sub _ _ _ _=>rw[hrt] at hx;cases hx
 | dead=>rw[hrt] at hx;cases hx
theorem Rel.shift'{Y X0:Nat->Prop}{roots:List (Nat × Nat)}{w0:Base}{w w':World}{s:Al}{a:Act}(h:Rel Y X0 roots w0 s a w){x d:Nat}{r:Reg}{v:Value}{b':Nat}
  (hx:DU (A4 s x)=true) (hb:AI (a.tmps.getD x Br)=some b') (hks:∀ t,(t,d)∈roots->E_ (A4 s t)=false)
  (hos:w'.os=w.os) (htape:w'.tape=w.tape) (hout:w'.output=w.output) (hsize:w'.heap.size=w.heap.size) (hoth:∀ c,c ≠ b'->w'.heap[c]? = w.heap[c]?) (hrb:DU r=true->AI v=some b')
  (hnew:∀ X:Nat->Prop,(∀ c,X c->(X0 c\/XS s a.tmps c))->(DU r=false->¬ X b')->HJ Y X w0.mine roots (a.tmps.setIfInBounds d v) w' d v r) :
  Rel Y X0 roots w0 (DL (BO s [(x,Reg.dead)]) (some d) r) (a.put (some d) v) w':=by
 have hbB:=(h.exclLow hx hb).1;have hXb:XS s a.tmps b':=⟨x,hx,hb⟩;obtain⟨hdf,hs,hbel,hl,hly,hreg,hinj⟩:=h;have hown:∀ t,DU (A4 s t)=true->AI (a.tmps.getD t Br)=some b'->t=x:=fun t h1 h2=>hinj t x b' h1 hx h2 hb;have key:∀ t,A4 (DL (BO s [(x,Reg.dead)]) (some d) r) t=(if d=t/\d<s.length then r else if x=t then .dead else A4 s t):=by
  intro t;simp only[DL,BO];rw[Dx,A',SR]
 have kv:∀ t,(a.put (some d) v).tmps.getD t Br=if d=t/\d<s.length then v else a.tmps.getD t Br:=by
  intro t;simp only[qV];rw[LY,hs]
 have hXold:∀ c,XS (DL (BO s [(x,Reg.dead)]) (some d) r) (a.put (some d) v).tmps c->XS s a.tmps c:=by
  rintro c ⟨t,h1,h2⟩;rw[key] at h1;rw[kv] at h2;by_cases hc:d=t/\d<s.length
  ·rw[if_pos hc] at h1 h2;rw[hrb h1] at h2;cases h2;exact hXb
  ·rw[if_neg hc] at h1 h2;split at h1
   ·cases h1
   ·exact⟨t,h1,h2⟩
 have hnb:DU r=false->¬ (X0 b'\/XS (DL (BO s [(x,Reg.dead)]) (some d) r) (a.put (some d) v).tmps b'):=by
  rintro he (hx0 | ⟨t,h1,h2⟩)
  ·exact hl b' hx0 hbB
  ·rw[key] at h1;rw[kv] at h2;by_cases hc:d=t/\d<s.length
   ·rw[if_pos hc,he] at h1;cases h1
   ·rw[if_neg hc] at h1 h2;split at h1
    ·cases h1
    ·rename_i hxt;exact hxt (hown t h1 h2).symm
 generalize hXd:(fun c=>X0 c\/XS (DL (BO s [(x,Reg.dead)]) (some d) r) (a.put (some d) v).tmps c)=X;have hX1:∀ c,X c->(X0 c\/XS s a.tmps c):=by
  intro c hc;rw[<- hXd] at hc;exact hc.imp id (hXold c)
 have hX2:∀ c,X c->(X0 c\/XS s a.tmps c)\/w'.heap.size<=c:=fun c hc => .inl (hX1 c hc);have hext:∀ c,¬ (X0 c\/XS s a.tmps c)->c<w.heap.size->w'.heap[c]? = w.heap[c]? := by
  intro c hc _;refine hoth c ?_;rintro rfl;exact hc (.inr hXb)
 refine⟨hdf,by simp only[qV,OE,DL,A',FH];exact hs,?_,hl,hly,?_,?_⟩
 ·exact⟨hos.trans hbel.os,htape.trans hbel.tape,hout.trans hbel.output,by rw[hsize];exact hbel.size,fun c hc=>(hoth c (fun e=>hc (e ▸ hbB))).trans (hbel.block c hc)⟩
 ·intro t;rw[hXd,key,kv];by_cases hc:d=t/\d<s.length
  ·rw[if_pos hc,if_pos hc];obtain⟨rfl,_⟩:=hc;exact hnew X hX1 (fun he=>by rw[<- hXd];exact hnb he)
  ·rw[if_neg hc,if_neg hc];by_cases hxt:x=t
   ·rw[if_pos hxt];trivial
   ·rw[if_neg hxt];have h0:=hreg t;have hne:DU (A4 s t)=true->∀ c,AI (a.tmps.getD t Br)=some c->c ≠ b':=by
     intro h1 c h2 e;subst e;exact hxt (hown t h1 h2).symm
    cases hrt:A4 s t with
    | val y=>rw[hrt] at h0;exact (Rd.world h0 hext).mono hX2
    | box cs =>
     rw[hrt] at h0 hne;obtain⟨c,e1,e2,e3⟩:=h0;exact⟨c,e1,e2,(e3.world hext (hoth c (hne rfl c (by rw[e1];rfl)))).mono hX2⟩
    | own k n cs =>
     rw[hrt] at h0 hne;exact (Fp.world h0 hext (fun c hc _=>hoth c (hne rfl c hc))).mono hX2
    | agn bb k n cs =>
     rw[hrt] at h0 hne;exact (J8.world h0 hext (fun c hc _=>hoth c (hne rfl c hc))).mono hX2
    | bxl d' =>
     rw[hrt] at h0 hne;obtain⟨e1,b,e2,e3,e4,e5⟩:=h0;refine⟨e1,b,e2,e3,by rw[hsize];exact e4,fun i hi => ?_⟩;rw[kv,if_neg]
     ·rw[<- e5 i hi];exact Fo (hoth b (hne rfl b (by rw[e2];rfl)))
     ·rintro⟨rfl,_⟩;have:=hks t e1;rw[hrt] at this;cases this
    | mem cs =>
     rw[hrt] at h0;obtain⟨c,off,e1,e2,e3⟩:=h0;refine⟨c,off,e1,fun hn hx=>e2 hn (hX1 c hx),?_⟩;by_cases hnil:cs=[]
     ·subst hnil;exact⟨fun x hx=>(by cases hx),fun i hi=>(by simp at hi)⟩
     ·refine (e3.world hext (fun _=>hoth c ?_)).mono hX2;rintro rfl;exact e2 hnil (.inr hXb)
    | ptr d' off =>
     rw[hrt] at h0;obtain⟨e1,p,e2,e3,e4⟩:=h0;refine⟨e1,p,?_,e3,e4⟩;rw[kv,if_neg]
     ·exact e2
     ·rintro⟨rfl,_⟩;have:=hks t e1;rw[hrt] at this;cases this
    | dup d' =>
     rw[hrt] at h0;obtain⟨e1,e2⟩:=h0;refine⟨e1,?_⟩;rw[kv,if_neg]
     ·exact e2
     ·rintro⟨rfl,_⟩;have:=hks t e1;rw[hrt] at this;cases this
    | sub d' _ _ _ =>
     rw[hrt] at h0;obtain⟨e1,e2⟩:=h0;refine⟨e1,?_⟩;rw[kv,if_neg]
     ·exact e2
     ·rintro⟨rfl,_⟩;have:=hks t e1;rw[hrt] at this;cases this
    | dead=>trivial
 ·intro t t' c h1 h2 h3 h4;rw[key] at h1 h2;rw[kv] at h3 h4;by_cases c1:d=t/\d<s.length <;> by_cases c2:d=t'/\d<s.length
  ·exact c1.1.symm.trans c2.1
  ·rw[if_pos c1] at h1 h3;rw[if_neg c2] at h2 h4;split at h2
   ·cases h2
   ·rename_i hxt;rw[hrb h1] at h3;cases h3;exact absurd (hown t' h2 h4).symm hxt
  ·rw[if_neg c1] at h1 h3;rw[if_pos c2] at h2 h4;split at h1
   ·cases h1
   ·rename_i hxt;rw[hrb h2] at h4;cases h4;exact absurd (hown t h1 h3).symm hxt
  ·rw[if_neg c1] at h1 h3;rw[if_neg c2] at h2 h4;split at h1
   ·cases h1
   ·split at h2
    ·cases h2
    ·exact hinj t t' c h1 h2 h3 h4
theorem Rel.shift{Y X0:Nat->Prop}{roots:List (Nat × Nat)}{w0:Base}{w w':World}{s:Al}{a:Act}(h:Rel Y X0 roots w0 s a w){x d k n:Nat}{cs:List AV}{r:Reg}{v:Value}{b:Nat}
  (hx:A4 s x = .own k n cs) (hb:AI (a.tmps.getD x Br)=some b) (hks:∀ t,(t,d)∈roots->E_ (A4 s t)=false)
  (hos:w'.os=w.os) (htape:w'.tape=w.tape) (hout:w'.output=w.output) (hsize:w'.heap.size=w.heap.size) (hoth:∀ c,c ≠ b->w'.heap[c]? = w.heap[c]?) (hrb:DU r=true->AI v=some b)
  (hnew:∀ X:Nat->Prop,(∀ c,X c->(X0 c\/XS s a.tmps c))->(DU r=false->¬ X b)->HJ Y X w0.mine roots (a.tmps.setIfInBounds d v) w' d v r) :
  Rel Y X0 roots w0 (DL (BO s [(x,Reg.dead)]) (some d) r) (a.put (some d) v) w' :=
 h.shift' (by rw[hx];rfl) hb hks hos htape hout hsize hoth hrb hnew
theorem Rel.pass{Y X0:Nat->Prop}{roots:List (Nat × Nat)}{w0:Base}{w:World}{s:Al}{a:Act}(h:Rel Y X0 roots w0 s a w){x d:Nat}{r:Reg}{v:Value}(hx:DU (A4 s x)=true)(hv:AI v=AI (a.tmps.getD x Br))
  (hks:∀ t,(t,d)∈roots->E_ (A4 s t)=false) (hnew:∀ X:Nat->Prop,(∀ c,X c->(X0 c\/XS s a.tmps c))->HJ Y X w0.mine roots (a.tmps.setIfInBounds d v) w d v r) :
  Rel Y X0 roots w0 (DL (BO s [(x,Reg.dead)]) (some d) r) (a.put (some d) v) w:=by
 cases hb:AI (a.tmps.getD x Br) with
 | none =>
  rw[hb] at hv;refine D7 (ks:=[x]) h (Ig _ _) (fun t ht => .inr (hks t ht)) (fun _ b hb=>by rw[hv] at hb;cases hb) (fun X h1 _=>hnew X fun c hc => ?_);rcases h1 c hc with h2 | ⟨_,h2⟩
  ·exact h2
  ·rw[hv] at h2;cases h2
 | some b=>exact h.shift' hx hb hks rfl rfl rfl rfl (fun _ _=>rfl) (fun _=>by rw[hv,hb]) (fun X h1 _=>hnew X h1)
theorem Rel.wake{Y X0:Nat->Prop}{roots:List (Nat × Nat)}{w0:Base}{w:World}{s:Al}{a:Act}(h:Rel Y X0 roots w0 s a w){x:Nat}{y:AV}(hx:A4 s x = .dead)
  (hr:Rd Y (fun b=>X0 b\/XS s a.tmps b) w (a.tmps.getD x Br) y):Rel Y X0 roots w0 (s.set x (.val y)) a w:=by
 obtain⟨hdf,hs,hbel,hl,hly,hreg,hinj⟩:=h;have hex:∀ t,DU (A4 (s.set x (.val y)) t)=DU (A4 s t):=by
  intro t;rw[Dx];split
  ·rename_i g;rw[<- g.1,hx];rfl
  ·rfl
 have hXS:XS (s.set x (.val y)) a.tmps=XS s a.tmps:=by
  funext b;unfold XS;simp only[hex]
 refine⟨hdf,by rw[A'];exact hs,hbel,hl,hly,fun t => ?_,fun t t' b h1 h2 h3 h4=>hinj t t' b (by rw[<- hex];exact h1) (by rw[<- hex];exact h2) h3 h4⟩;rw[hXS,Dx];split
 ·rename_i g;rw[<- g.1];exact hr
 ·exact hreg t
theorem Rel.unown{Y X0:Nat->Prop}{roots:List (Nat × Nat)}{w0:Base}{w:World}{s:Al}{a:Act}(h:Rel Y X0 roots w0 s a w){x:Nat}{r:Reg}(hx:DU (A4 s x)=true)(he:DU r=false)
  (hnew:∀ X:Nat->Prop,(∀ c,X c->(X0 c\/XS s a.tmps c)\/w.heap.size<=c)->(∀ b,AI (a.tmps.getD x Br)=some b->¬ X b)->HJ Y X w0.mine roots a.tmps w x (a.tmps.getD x Br) r):Rel Y X0 roots w0 (s.set x r) a w:=by
 have hlow:=fun b hb=>(h.exclLow (b:=b) hx hb).1;obtain⟨hdf,hs,hbel,hl,hly,hreg,hinj⟩:=h;have hlt:x<s.length:=by
  rcases Cp x s.length with hlt | hge
  ·exact hlt
  ·simp only[A4,Z,AE hge] at hx;cases hx
 have key:∀ t,A4 (s.set x r) t=if x=t then r else A4 s t:=by
  intro t;rw[Dx];by_cases hxt:x=t
  ·rw[if_pos ⟨hxt,hlt⟩,if_pos hxt]
  ·rw[if_neg (fun e=>hxt e.1),if_neg hxt]
 have hXold:∀ c,XS (s.set x r) a.tmps c->XS s a.tmps c:=by
  rintro c ⟨t,h1,h2⟩;rw[key] at h1;split at h1
  ·rw[he] at h1;cases h1
  ·exact⟨t,h1,h2⟩
 have hnb:∀ b,AI (a.tmps.getD x Br)=some b->¬ (X0 b\/XS (s.set x r) a.tmps b):=by
  rintro b hb (hx0 | ⟨t,h1,h2⟩)
  ·exact hl b hx0 (hlow b hb)
  ·rw[key] at h1;split at h1
   ·rw[he] at h1;cases h1
   ·rename_i hxt;exact hxt (hinj t x b h1 hx h2 hb).symm
 have hmono:∀ c,(X0 c\/XS (s.set x r) a.tmps c)->(X0 c\/XS s a.tmps c)\/w.heap.size<=c:=fun c hc => .inl (hc.imp id (hXold c));refine⟨hdf,by rw[A'];exact hs,hbel,hl,hly,fun t => ?_,fun t t' b h1 h2 h3 h4 => ?_⟩
 ·rw[key];by_cases hxt:x=t
  ·subst hxt;rw[if_pos rfl];exact hnew _ hmono hnb
  ·rw[if_neg hxt];have h0:=hreg t;cases hrt:A4 s t with
   | val x=>rw[hrt] at h0;exact Rd.mono h0 hmono
   | box cs=>rw[hrt] at h0;obtain⟨b,e1,e2,e3⟩:=h0;exact⟨b,e1,e2,e3.mono hmono⟩
   | own k n cs=>rw[hrt] at h0;exact Fp.mono h0 hmono
   | agn bb k n cs=>rw[hrt] at h0;exact J8.mono h0 hmono
   | bxl d'=>rw[hrt] at h0;exact h0
   | mem cs=>rw[hrt] at h0;obtain⟨b,off,e1,e2,e3⟩:=h0;exact⟨b,off,e1,fun hne hx=>e2 hne (hx.imp id (hXold b)),e3.mono hmono⟩
   | ptr d off=>rw[hrt] at h0;exact h0
   | dup d=>rw[hrt] at h0;exact h0
   | sub _ _ _ _=>rw[hrt] at h0;exact h0
   | dead=>trivial
 ·rw[key] at h1 h2;split at h1
  ·rw[he] at h1;cases h1
  ·split at h2
   ·rw[he] at h2;cases h2
   ·exact hinj t t' b h1 h2 h3 h4
theorem Rel.freeze{Y X0:Nat->Prop}{roots:List (Nat × Nat)}{w0:Base}{w:World}{s:Al}{a:Act}(h:Rel Y X0 roots w0 s a w){x k n:Nat}{cs:List AV}(hx:A4 s x = .own k n cs):Rel Y X0 roots w0 (s.set x (.val (.sl n cs))) a w:=by
 refine h.unown (by rw[hx];rfl) rfl fun X h1 h2 => ?_;have h0:=h.reg x;rw[hx] at h0;exact Fp.frozen h0 h1 h2 h.lowY
theorem Gq.pt{Y X:Nat->Prop}{w:World}{b off:Nat}{cs:List AV}(hX:cs ≠ []->¬ X b)(h:Gq Y X w b off cs):Rd Y X w (.pointer (some ⟨b,off,none⟩)) (.pt cs):=by
 obtain⟨hd,hm⟩:=h;refine .pt b off cs (fun i=>(w.cell? ⟨b,off+i,none⟩).getD Br) hd hX (fun i hi => ?_) (fun i hi => ?_)
 ·obtain⟨u,h1,_⟩:=hm i hi;rw[h1];rfl
 ·obtain⟨u,h1,h2⟩:=hm i hi;rw[h1];exact h2
theorem Afj{Y X:Nat->Prop}{w:World}{v:Value}{cs:List AV}(h:Rd Y X w v (.pt cs)):∃ b off,v = .pointer (some ⟨b,off,none⟩)/\(cs ≠ []->¬ X b)/\Gq Y X w b off cs:=by
 cases h with
 | pt b off _ f hd hX hcell hr=>exact⟨b,off,rfl,hX,hd,fun i hi=>⟨f i,hcell i hi,hr i hi⟩⟩
end Go.Ai
