/- Texts of the proof of EntryOrder: part 1 of 14. -/
import Derived.Orders
import Derived.Below
namespace Go.Ai
open BitVec renaming ofInt->T
open Bool renaming and_eq_true->Af,not_eq_true'->F1
open Decidable renaming decide->A
open Function renaming comp->A8c
open List renaming all_cons->A3i,all_eq_true->Cf,cons_append->I_,contains_eq_mem->JI,flatMap_cons->ZL,getD_eq_getElem?_getD->Z,getElem?_eq_none->AI,getElem?_set_ne->F9,map_cons->Cx,mem_append->Bn,mem_append_left->Ff,mem_append_right->EM,mem_cons_of_mem->AT,mem_cons_self->AO,mem_map->Cn,nil_append->GV,replicate->l,set_comm->sE
open Option renaming map_eq_some_iff->Am,map_some->AF
open Option.some renaming injEq->A9
open Prod.mk renaming injEq->DJ
inductive Tag where
 | st (b:Bool)
 | tp (b:Bool)
inductive AV where
 | int (k:IntKind) (n:Int)
 | bool (b:Bool)
 | str (s:ByteArray)
 | agg (cs:List AV)
 | nil
 | sl (n:Nat) (cs:List AV)
 | tup (vs:List AV)
 | undef
 | fresh (k n:Nat) (cs:List AV)
 | frs (b:Tag) (k n:Nat) (cs:List AV)
 | pt (cs:List AV)
 | fnc (f:Nat) (cs:List AV)
def AV.cells:AV->List AV
 | .agg cs=>cs
 | x=>[x]
inductive Reg where
 | val (x:AV)
 | box (cs:List AV)
 | ptr (d off:Nat)
 | mem (cs:List AV)
 | own (k n:Nat) (cs:List AV)
 | agn (b:Tag) (k n:Nat) (cs:List AV)
 | bxl (d:Nat)
 | dup (d:Nat)
 | sub (d k l h:Nat)
 | dead
def EP:Reg->Bool
 | .ptr _ _=>true
 | .dup _=>true
 | .sub _ _ _ _=>true
 | .bxl _=>true
 | _=>false
def GT:Reg->Bool
 | .val _=>true
 | .box _=>true
 | .mem _=>true
 | .own _ _ _=>true
 | .agn _ _ _ _=>true
 | _=>false
theorem fE{r:Reg}(h:GT r=true):EP r=false:=by cases r <;> first | rfl | cases h
abbrev Aj:=List Reg
def A8(s:Aj)(t:Nat):Reg:=s.getD t .dead
def Ea(s:Aj):Option Nat->Reg->Aj
 | none,_=>s
 | some d,r=>s.set d r
def BZ(s:Aj):List (Nat × Reg)->Aj
 | []=>s
 | (t,r)::l=>BZ (s.set t r) l
def W:Nat->List Reg->List Reg
 | 0,s=>s
 | n+1,s => .dead::W n s
inductive Opd where
 | t (n:Nat)
 | c (x:AV)
def Opd.reg(s:Aj):Opd->Reg
 | .t n=>A8 s n
 | .c x => .val x
def Opd.av(s:Aj)(o:Opd):Option AV :=
 match o.reg s with
 | .val x=>some x
 | _=>none
def Opd.rd:Opd->List Nat
 | .t n=>[n]
 | .c _=>[]
inductive K where
 | mov (x:Opd)
 | pick (c a b:Opd)
 | bin (op:BinOp) (x y:Opd)
 | eqb (neg:Bool) (x y:Opd)
 | un (op:UnOp) (x:Opd)
 | cv (k:IntKind) (x:Opd)
 | new (z:List AV) (kills:List Nat)
 | box (x:Opd) (kills:List Nat)
 | bld (z:List AV) (ps:List (Nat × Nat × Opd))
 | bls (n:Nat) (z:List AV) (ps:List (Nat × Nat × Opd))
 | adr (x d off:Nat)
 | ld (x d n:Nat) (one:Bool)
 | st (x d n:Nat) (v:Opd)
 | fld (x:Opd) (off n:Nat) (one:Bool)
 | ixa (x:Nat) (i:Opd) (k:Nat)
 | six (x i:Opd)
 | ext (x:Opd) (i:Nat)
 | len (x:Opd)
 | mx (xs:List Opd)
 | mn (xs:List Opd)
 | call (f:Nat) (xs:List Opd)
 | cpy (x:Nat)
 | tra (x:Nat)
 | frz (x:Nat)
 | mks (z:List AV) (n:Opd)
 | blo (k n:Nat) (z:List AV) (ps:List (Nat × Nat × Opd))
 | apd (ow:Bool) (x y:Opd) (k B:Nat)
 | sli (x:Opd) (lo hi mx:Option Opd) (k:Nat)
 | ixo (x d:Nat) (i:Opd) (k:Nat)
 | lno (x d:Nat)
 | clo (f:Nat) (xs:List Opd)
 | nlo (k:Nat)
 | brw (f x d:Nat)
 | bdo (a:Opd) (x:Nat) (l:List Nat)
 | cln (f:Nat) (xs:List Opd) (l:List Nat)
 | stl (x v:Nat)
 | fdo (x:Nat)
 | exo (x:Nat)
 | cpo (x:Nat)
 | sub (x d:Nat) (lo hi:Option Opd) (k:Nat)
 | app (ow:Bool) (x d:Nat) (y:Opd) (k:Nat)
 | apb (ow:Bool) (x y d k:Nat)
 | slo (x:Nat) (hi:Opd) (k:Nat)
 | bad
structure IOp where
 dst:Option Nat
 k:K
 g:Option (Nat × Bool):=none
 ks:List Nat:=[]
def o1(d:Nat)(k:K):IOp:=⟨some d,k,none,[]⟩
def oG(d:Nat)(k:K)(g:Nat)(b:Bool):IOp:=⟨some d,k,some (g,b),[]⟩
inductive ICode where
 | skip
 | region (drawn:Bool) (ops:List IOp)
 | seq (a b:ICode)
 | cond (c:Opd) (a b:ICode)
 | block (id:Nat) (c:ICode)
 | loop (c:ICode)
 | scope (c:ICode)
 | exit (id:Nat)
 | ret
inductive IRes where
 | tmp (t:Nat)
 | cell (t n:Nat) (one:Bool)
structure IFunc where
 params:Nat
 slots:Nat
 res:List IRes
 body:ICode
def Aoa(op:BinOp)(x y:Int):Option Bool :=
 match op with
 | .eql=>some (x==y)
 | .neq=>some (x != y)
 | .lss=>some (A (x<y))
 | .leq=>some (A (x<=y))
 | .gtr=>some (A (x>y))
 | .geq=>some (A (x>=y))
 | _=>none
def N6(op:BinOp)(k:IntKind)(x y:Int):Option Int :=
 match op with
 | .and=>some (k.wrap (T k.bits x &&& T k.bits y).toNat)
 | .or=>some (k.wrap (T k.bits x ||| T k.bits y).toNat)
 | .xor=>some (k.wrap (T k.bits x ^^^ T k.bits y).toNat)
 | _=>none
def jR(op:BinOp)(k:IntKind)(x y:Int):Option AV :=
 match op with
 | .add=>some (.int k (k.wrap (x+y)))
 | .sub=>some (.int k (k.wrap (x-y)))
 | .mul=>some (.int k (k.wrap (x*y)))
 | .quo=>if y=0 then none else some (.int k (k.wrap (x.tdiv y)))
 | .rem=>if y=0 then none else some (.int k (x.tmod y))
 | .and | .or | .xor=>(N6 op k x y).map (.int k)
 | _=>(Aoa op x y).map .bool
def TO(op:BinOp)(k:IntKind)(x y:Int):Option AV :=
 if y<0 then none
 else match op with
  | .shl=>some (.int k (k.wrap (x*2^(min y.toNat k.bits))))
  | .shr=>some (.int k (x.fdiv (2^(min y.toNat k.bits))))
  | _=>none
def KG:BinOp->Bool
 | .shl | .shr=>true
 | _=>false
def NS(op:BinOp)(x y:AV):Option AV :=
 match x,y with
 | .int k a,.int k' b=>if KG op then TO op k a b else if k=k' then jR op k a b else none
 | _,_=>none
def GW(op:UnOp)(x:AV):Option AV :=
 match op,x with
 | .neg,.int k n=>some (.int k (k.wrap (0-n)))
 | .not,.bool b=>some (.bool (!b))
 | _,_=>none
def aS(k:IntKind):Int->List AV->Option Int
 | m,[]=>some m
 | m,.int k' n::l=>if k=k' then aS k (if n>m then n else m) l else none
 | _,_=>none
def aT(k:IntKind):Int->List AV->Option Int
 | m,[]=>some m
 | m,.int k' n::l=>if k=k' then aT k (if n<m then n else m) l else none
 | _,_=>none
def Bj(cs:List AV)(off n:Nat)(one:Bool):Option AV :=
 if one then cs[off]? else if off+n<=cs.length then some (.agg ((cs.drop off).take n)) else none
def C5(cs:List AV)(off:Nat)(new:List AV):Option (List AV) :=
 if off+new.length<=cs.length then some (cs.take off++new++cs.drop (off+new.length)) else none
def MP:AV->Bool
 | .int _ _ | .bool _ | .str _ | .nil | .sl _ _=>true
 | _=>false
def GU(x:AV)(n:Nat):Option (List AV) :=
 match x with
 | .agg cs=>if cs.length=n then some cs else none
 | .tup _=>none
 | .undef=>none
 | .fresh _ _ _=>none
 | .frs _ _ _ _=>none
 | .pt _=>none
 | .fnc _ _=>none
 | x=>if n=1 then some [x] else none
def G8(s:Aj):List AV->List (Nat × Nat × Opd)->Option (List AV)
 | cs,[]=>some cs
 | cs,(off,n,o)::ps =>
  match o.av s with
  | none=>none
  | some x=>match GU x n with
   | none=>none
   | some ys=>match C5 cs off ys with
    | none=>none
    | some cs'=>G8 s cs' ps
def avs(s:Aj):List Opd->Option (List AV)
 | []=>some []
 | o::l=>match o.av s with
  | none=>none
  | some x=>match avs s l with
   | none=>none
   | some xs=>some (x::xs)
abbrev BL:=Nat->List AV->Option AV
def X3:AV->Bool
 | .int _ _=>true
 | _=>false
def NT:AV->Bool
 | .sl _ cs=>cs.all X3
 | .int _ _=>true
 | .bool _=>true
 | .str _=>true
 | .undef=>true
 | _=>false
def Hr:AV->Bool
 | .agg cs=>cs.all NT
 | x=>NT x
def Mq:AV->AV
 | .fresh _ n cs => .sl n cs
 | .frs (.st b) _ n cs => .agg [.bool b,.sl n cs]
 | .frs (.tp b) _ n cs => .tup [.sl n cs,.bool b]
 | x=>x
def MQ:AV->Reg
 | .fresh k n cs => .own k n cs
 | .frs b k n cs => .agn b k n cs
 | x => .val x
def SM:Opd->List (Nat × Reg)
 | .t n=>[(n,.dead)]
 | .c _=>[]
def CD(z:List AV):Nat->List AV
 | 0=>[]
 | n+1=>z++CD z n
def Hm(s:Aj)(d:Nat):Option Opd->Option Nat
 | none=>some d
 | some o=>match o.av s with
  | some (.int _ i)=>if 0<=i then some i.toNat else none
  | _=>none
def B7(F:BL)(s:Aj):K->Option (Reg × List (Nat × Reg))
 | .mov x=>(x.av s).map fun v=>(.val v,[])
 | .pick c a b =>
  match c.av s with
  | some (.bool true)=>(a.av s).map fun v=>(.val v,[])
  | some (.bool false)=>(b.av s).map fun v=>(.val v,[])
  | _=>none
 | .bin op x y =>
  match x.av s,y.av s with
  | some a,some b=>(NS op a b).map fun v=>(.val v,[])
  | _,_=>none
 | .eqb neg x y =>
  match x.av s,y.av s with
  | some (.bool a),some (.bool b)=>some (.val (.bool (if neg then !(a==b) else a==b)),[])
  | _,_=>none
 | .un op x=>match x.av s with
  | some a=>(GW op a).map fun v=>(.val v,[])
  | none=>none
 | .cv k x=>match x.av s with
  | some (.int _ n)=>some (.val (.int k (k.wrap n)),[])
  | _=>none
 | .new z kills=>some (.box z,kills.map fun t=>(t,.dead))
 | .box x kills=>match x.av s with
  | some (.agg cs)=>some (.box cs,kills.map fun t=>(t,.dead))
  | some x=>if MP x then some (.box [x],kills.map fun t=>(t,.dead)) else none
  | none=>none
 | .bld z ps=>(G8 s z ps).map fun cs=>(.val (.agg cs),[])
 | .bls n z ps=>(G8 s z ps).map fun cs=>(.val (.sl n cs),[])
 | .adr x d off=>match A8 s x with
  | .box _=>if x=d then some (.ptr d off,[]) else none
  | .ptr d' o=>if d'=d then some (.ptr d (o+off),[]) else none
  | .mem cs=>some (.mem (cs.drop off),[])
  | _=>none
 | .ld x d n one=>match A8 s x with
  | .box cs=>if x=d then (Bj cs 0 n one).map fun v=>(.val v,[]) else none
  | .ptr d' off=>if d'=d then (match A8 s d with
   | .box cs=>(Bj cs off n one).map fun v=>(.val v,[])
   | .own _ _ cs=>(Bj cs off n one).map fun v=>(.val v,[])
   | _=>none) else none
  | .mem cs=>(Bj cs 0 n one).map fun v=>(.val v,[])
  | _=>none
 | .st x d n v=>match v.av s with
  | none=>none
  | some a=>match GU a n with
   | none=>none
   | some ys=>match A8 s x with
    | .box cs=>if x=d then (C5 cs 0 ys).map fun cs'=>(.dead,[(d,.box cs')]) else none
    | .ptr d' off=>if d'=d then (match A8 s d with
     | .box cs=>(C5 cs off ys).map fun cs'=>(.dead,[(d,.box cs')])
     | .own k m cs=>(C5 cs off ys).map fun cs'=>(.dead,[(d,.own k m cs')])
     | _=>none) else none
    | _=>none
 | .fld x off n one=>match x.av s with
  | some (.agg cs)=>(Bj cs off n one).map fun v=>(.val v,[])
  | _=>none
 | .ixa x i k=>match i.av s with
  | some (.int _ i)=>(match A8 s x with
   | .val (.sl n cs)=>if 0<=i/\i<n then some (.mem (cs.drop (i.toNat*k)),[]) else none
   | _=>none)
  | _=>none
 | .six x i=>match x.av s,i.av s with
  | some (.str b),some (.int _ i)=>(if 0<=i then b[i.toNat]? else none).map fun c=>(.val (.int .u8 c.toNat),[])
  | _,_=>none
 | .ext x i=>match x.av s with
  | some (.tup vs)=>(vs[i]?).map fun v=>(.val v,[])
  | _=>none
 | .len x=>match x.av s with
  | some .nil=>some (.val (.int .i64 0),[])
  | some (.sl n _)=>some (.val (.int .i64 n),[])
  | _=>none
 | .mx xs=>match avs s xs with
  | some (.int k n::l)=>(aS k n l).map fun m=>(.val (.int k m),[])
  | _=>none
 | .mn xs=>match avs s xs with
  | some (.int k n::l)=>(aT k n l).map fun m=>(.val (.int k m),[])
  | _=>none
 | .call f xs=>match avs s xs with
  | some vs=>(F f vs).map fun v=>(.val (Mq v),[])
  | none=>none
 | .clo f xs=>match avs s xs with
  | some vs=>(F f vs).map fun v=>(MQ v,[])
  | none=>none
 | .brw f x d=>match A8 s x with
  | .dup d'=>if d'=d then (match A8 s d with
   | .own _ n cs=>if cs.all (fun c => !X3 c) then (match F f [.sl n cs] with
    | some y=>if Hr (Mq y) then some (.val (Mq y),[]) else none
    | none=>none) else none
   | _=>none) else none
  | _=>none
 | .cpy x=>match A8 s x with
  | .val v=>some (.val v,[])
  | .own _ _ _=>some (.dup x,[])
  | _=>none
 | .tra x=>match A8 s x with
  | .val v=>some (.val v,[])
  | .own k n cs=>some (.own k n cs,[(x,.dead)])
  | .agn b k n cs=>some (.agn b k n cs,[(x,.dead)])
  | _=>none
 | .frz x=>match A8 s x with
  | .val v=>some (.val v,[])
  | .own _ n cs=>some (.val (.sl n cs),[(x,.val (.sl n cs))])
  | _=>none
 | .mks z n=>match n.av s with
  | some (.int _ m)=>if 0<=m/\m<=1048576 then some (.own z.length m.toNat (CD z m.toNat),[]) else none
  | _=>none
 | .blo k n z ps=>(G8 s z ps).map fun cs=>(.own k n cs,[])
 | .apd ow x y k B=>match y.av s with
  | some .nil=>(match x.reg s with
   | .val .nil=>some (.val .nil,[])
   | .own k' n cs=>if k'=k then some (if ow then .own k n cs else .val (.sl n cs),SM x) else none
   | _=>none)
  | some (.sl m ys)=>if ys.length=m*k then (match x.reg s with
   | .val .nil=>if m<=B then some (if ow then .own k m ys else .val (.sl m ys),[]) else none
   | .own k' n cs=>if k'=k/\n+m<=B then some (if ow then .own k (n+m) (cs++ys) else .val (.sl (n+m) (cs++ys)),SM x) else none
   | _=>none) else none
  | _=>none
 | .sli x lo hi mx k=>match x.av s with
  | some .nil=>(match Hm s 0 mx,Hm s 0 hi,Hm s 0 lo with
   | some 0,some 0,some 0=>if mx.isSome->hi.isSome then some (.val .nil,[]) else none
   | _,_,_=>none)
  | some (.sl n cs)=>(match Hm s n mx,Hm s n hi,Hm s 0 lo with
   | some m,some h,some l=>if l<=h/\h<=m/\m<=n/\(mx.isSome->hi.isSome) then some (.val (.sl (h-l) ((cs.drop (l*k)).take ((h-l)*k))),[]) else none
   | _,_,_=>none)
  | _=>none
 | .ixo x d i k=>match i.av s with
  | some (.int _ i)=>(match A8 s x with
   | .val (.sl n cs)=>if 0<=i/\i<n then some (.mem (cs.drop (i.toNat*k)),[]) else none
   | .dup d'=>if d'=d then (match A8 s d with
    | .own k' n _=>if k'=k/\0<=i/\i<n then some (.ptr d (i.toNat*k),[]) else none
    | _=>none) else none
   | _=>none)
  | _=>none
 | .lno x d=>match A8 s x with
  | .val .nil=>some (.val (.int .i64 0),[])
  | .val (.sl n _)=>some (.val (.int .i64 n),[])
  | .dup d'=>if d'=d then (match A8 s d with
   | .own _ n _=>some (.val (.int .i64 n),[])
   | _=>none) else none
  | _=>none
 | .nlo k=>some (.own k 0 [],[])
 | .bdo a x l=>match a.av s with
  | some (.bool b)=>(match A8 s x with
   | .own k n cs=>if l.all (fun t=>GT (A8 s t)) then some (.agn (.st b) k n cs,[(x,.dead)]) else none
   | _=>none)
  | _=>none
 | .cln f xs l=>match avs s xs with
  | some vs=>if l.all (fun t=>GT (A8 s t)) then (F f vs).map fun v=>(MQ v,[]) else none
  | none=>none
 | .stl x v=>match A8 s x with
  | .box cs=>(match A8 s v with
   | .agn (.st _) _ _ _=>if cs.length=2 then some (.dead,[(x,.bxl v)]) else none
   | _=>none)
  | _=>none
 | .fdo x=>match A8 s x with
  | .agn (.st _) k n cs=>some (.own k n cs,[(x,.dead)])
  | _=>none
 | .cpo x=>some (.dup x,[])
 | .exo x=>match A8 s x with
  | .agn (.tp b) k n cs=>some (.own k n cs,[(x,.val (.tup [.sl n [],.bool b]))])
  | _=>none
 | .sub x d lo hi k=>match A8 s x with
  | .dup d'=>if d'=d then (match A8 s d with
   | .own k' n _=>(match Hm s n hi,Hm s 0 lo with
    | some h,some l=>if k'=k/\l<=h/\h<=n then some (.sub d k l h,[]) else none
    | _,_=>none)
   | _=>none) else none
  | _=>none
 | .app ow x d y k=>match A8 s x with
  | .sub d' k' l h=>if d'=d/\k'=k/\l=0 then (match A8 s d with
   | .own k'' n cs=>if k''=k/\h<=n then (match y.av s with
    | some (.sl m ys)=>if ys.length=m*k/\h+m<=1048576 then some (if ow then .own k (h+m) (cs.take (h*k)++ys) else .val (.sl (h+m) (cs.take (h*k)++ys)),[(d,.dead),(x,.dead)]) else none
    | _=>none) else none
   | _=>none) else none
  | _=>none
 | .apb ow x y d k=>match A8 s x with
  | .own k0 n cs=>(match A8 s y with
   | .sub d' k' l h=>if d'=d/\k'=k/\k0=k then (match A8 s d with
    | .own k'' n' cs'=>if k''=k/\h<=n'/\n+(h-l)<=1048576 then some (if ow then .own k (n+(h-l)) (cs++(cs'.drop (l*k)).take ((h-l)*k)) else .val (.sl (n+(h-l)) (cs++(cs'.drop (l*k)).take ((h-l)*k))),[(x,.dead)]) else none
    | _=>none) else none
   | _=>none)
  | _=>none
 | .slo x hi k=>match hi.av s with
  | some (.int _ h)=>(match A8 s x with
   | .own k' n cs=>if k'=k/\0<=h/\h<=n then some (.own k h.toNat (cs.take (h.toNat*k)),[(x,.dead)]) else none
   | _=>none)
  | _=>none
 | .bad=>none
def HK(s:Aj):Option (Nat × Bool)->Option Bool
 | none=>some true
 | some (t,b)=>match A8 s t with
  | .val (.bool c)=>some (c==b)
  | .val .undef=>some false
  | _=>none
def kill(s:Aj)(ks:List Nat):Aj:=BZ s (ks.map fun t=>(t,.dead))
def Jo(F:BL)(o:IOp)(s:Aj):Option Aj :=
 match HK s o.g with
 | none=>none
 | some false=>some (Ea s o.dst (.val .undef))
 | some true=>match B7 F s o.k with
  | none=>none
  | some (r,l)=>some (Ea (BZ s l) o.dst r)
def G9(F:BL)(o:IOp)(s:Aj):Option Aj:=Jo F o (kill s o.ks)
def EA(F:BL):List IOp->Aj->Option Aj
 | [],s=>some s
 | o::l,s=>match G9 F o s with
  | none=>none
  | some s'=>EA F l s'
inductive Ex where
 | norm
 | exit (id:Nat)
 | ret
def Lh(s:Aj)(c:Opd):Option Bool :=
 match c.av s with
 | some (.bool b)=>some b
 | _=>none
def C4(F:BL):Nat->ICode->Aj->Option (Ex × Aj)
 | 0,_,_=>none
 | _+1,.skip,s=>some (.norm,s)
 | _+1,.region _ ops,s=>(EA F ops s).map fun s'=>(.norm,s')
 | n+1,.seq a b,s=>match C4 F n a s with
  | some (.norm,s')=>C4 F n b s'
  | r=>r
 | n+1,.cond c a b,s=>match Lh s c with
  | some true=>C4 F n a s
  | some false=>C4 F n b s
  | none=>none
 | n+1,.block id c,s=>match C4 F n c s with
  | some (.exit i,s')=>if i=id then some (.norm,s') else some (.exit i,s')
  | r=>r
 | n+1,.loop c,s=>match C4 F n c s with
  | some (.norm,s')=>C4 F n (.loop c) s'
  | r=>r
 | n+1,.scope c,s=>C4 F n c s
 | _+1,.exit id,s=>some (.exit id,s)
 | _+1,.ret,s=>some (.ret,s)
def F2(s:Aj):IRes->Option AV
 | .tmp t=>match A8 s t with
  | .val x=>some x
  | .own _ n cs=>some (.sl n cs)
  | _=>none
 | .cell t n one=>match A8 s t with
  | .box cs=>Bj cs 0 n one
  | _=>none
def Eo(s:Aj):List IRes->Option (List AV)
 | []=>some []
 | r::l=>match F2 s r with
  | none=>none
  | some x=>match Eo s l with
   | none=>none
   | some xs=>some (x::xs)
def II(s:Aj):List IRes->Option AV
 | [.tmp t]=>match A8 s t with
  | .own k n cs=>some (.fresh k n cs)
  | .agn b k n cs=>some (.frs b k n cs)
  | _=>none
 | [.tmp t,.tmp u]=>match A8 s t with
  | .own k n cs=>(match A8 s u with
   | .val (.bool b)=>some (.frs (.tp b) k n cs)
   | _=>none)
  | _=>none
 | [.cell t n one]=>match A8 s t with
  | .bxl d=>(match A8 s d with
   | .agn (.st b) k m cs=>if n=2/\one=false then some (.frs (.st b) k m cs) else none
   | _=>none)
  | _=>none
 | _=>none
def HL(s:Aj)(l:List IRes):Option AV :=
 match II s l with
 | some x=>some x
 | none =>
 match Eo s l with
 | some [x]=>some x
 | some xs=>some (.tup xs)
 | none=>none
def MR:AV->Reg
 | .pt cs => .mem cs
 | .fresh k n cs => .own k n cs
 | x => .val x
def HM(fn:IFunc)(args:List AV):Aj:=args.map MR++l (fn.slots-args.length) .dead
def Qe(prog:Nat->Option IFunc):Nat->BL
 | 0,_,_=>none
 | n+1,f,args=>match prog f with
  | none=>none
  | some fn=>if args.length=fn.params then (match C4 (Qe prog n) n fn.body (HM fn args) with
   | some (.exit _,_)=>none
   | some (_,s)=>HL s fn.res
   | none=>none) else none
abbrev LI:=List Int
abbrev sL{α:Type}(f:List α->List AV)(xs:List α):AV:=.sl xs.length (f xs)
instance(n:Nat):OfNat Opd n:=⟨.t n⟩
def O9(l:List Opd):List Nat:=l.flatMap Opd.rd
def Gs:Option Opd->List Nat
 | none=>[]
 | some o=>o.rd
def X4(l:List (Nat × Nat × Opd)):List Nat:=l.flatMap fun p=>p.2.2.rd
def rdK:K->List Nat
 | .mov x=>x.rd
 | .pick c a b=>c.rd++(a.rd++b.rd)
 | .bin _ x y=>x.rd++y.rd
 | .eqb _ x y=>x.rd++y.rd
 | .un _ x=>x.rd
 | .cv _ x=>x.rd
 | .new _ _=>[]
 | .box x _=>x.rd
 | .bld _ ps=>X4 ps
 | .bls _ _ ps=>X4 ps
 | .adr x _ _=>[x]
 | .ld x d _ _=>[x,d]
 | .st x d _ v=>x::d::v.rd
 | .fld x _ _ _=>x.rd
 | .ixa x i _=>x::i.rd
 | .six x i=>x.rd++i.rd
 | .ext x _=>x.rd
 | .len x=>x.rd
 | .mx xs=>O9 xs
 | .mn xs=>O9 xs
 | .call _ xs=>O9 xs
 | .clo _ xs=>O9 xs
 | .cpy x=>[x]
 | .tra x=>[x]
 | .frz x=>[x]
 | .mks _ n=>n.rd
 | .blo _ _ _ ps=>X4 ps
 | .apd _ x y _ _=>x.rd++y.rd
 | .sli x lo hi mx _=>x.rd++(Gs lo++(Gs hi++Gs mx))
 | .ixo x d i _=>x::d::i.rd
 | .lno x d=>[x,d]
 | .nlo _=>[]
 | .brw _ x d=>[x,d]
 | .bdo a x l=>x::(a.rd++l)
 | .cln _ xs l=>O9 xs++l
 | .stl x v=>[x,v]
 | .fdo x=>[x]
 | .cpo _=>[]
 | .exo x=>[x]
 | .sub x d lo hi _=>x::d::(Gs lo++Gs hi)
 | .app _ x d y _=>x::d::y.rd
 | .apb _ x y d _=>[x,y,d]
 | .slo x hi _=>x::hi.rd
 | .bad=>[]
def OA:K->List Nat
 | .new _ kills=>kills
 | .box _ kills=>kills
 | .st _ d _ _=>[d]
 | .tra x=>[x]
 | .frz x=>[x]
 | .apd _ x _ _ _=>x.rd
 | .bdo _ x _=>[x]
 | .stl x _=>[x]
 | .fdo x=>[x]
 | .exo x=>[x]
 | .app _ x d _ _=>[d,x]
 | .apb _ x _ _ _=>[x]
 | .slo x _ _=>[x]
 | _=>[]
def IOp.rd(o:IOp):List Nat:=rdK o.k++(o.g.toList.map (·.1))
def IOp.wr(o:IOp):List Nat:=OA o.k++(o.dst.toList++o.ks)
def FN(l:List Nat)(s s':Aj):Prop:=∀ t∈l,A8 s t=A8 s' t
theorem FN.left{l m:List Nat}{s s':Aj}(h:FN (l++m) s s'):FN l s s':=fun t ht=>h t (Ff _ ht)
theorem FN.right{l m:List Nat}{s s':Aj}(h:FN (l++m) s s'):FN m s s':=fun t ht=>h t (EM _ ht)
theorem FN.head{t:Nat}{m:List Nat}{s s':Aj}(h:FN (t::m) s s'):A8 s t=A8 s' t:=h t (AO ..)
theorem FN.tail{t:Nat}{m:List Nat}{s s':Aj}(h:FN (t::m) s s'):FN m s s':=fun u hu=>h u (AT _ hu)
theorem B6{o:Opd}{s s':Aj}(h:FN o.rd s s'):o.av s=o.av s':=by
 cases o with
 | t n=>simp only[Opd.av,Opd.reg,h n (by simp[Opd.rd])]
 | c x=>rfl
theorem X5{o:Opd}{s s':Aj}(h:FN o.rd s s'):o.reg s=o.reg s':=by
 cases o with
 | t n=>simp only[Opd.reg,h n (by simp[Opd.rd])]
 | c x=>rfl
theorem KH{o:Option Opd}{d:Nat}{s s':Aj}(h:FN (Gs o) s s'):Hm s d o=Hm s' d o:=by
 cases o with
 | none=>rfl
 | some o=>simp only[Hm,B6 (o:=o) h]
theorem JO{s s':Aj}:∀ {l:List Opd},FN (O9 l) s s'->avs s l=avs s' l
 | [],_=>rfl
 | o::l,h=>by
  have h1:FN o.rd s s':=fun t ht=>h t (by simp[O9,ht]);have h2:FN (O9 l) s s':=fun t ht=>h t (by simp only[O9,ZL,Bn];exact .inr ht);simp only[avs,B6 h1,JO h2]
theorem L9{s s':Aj}:∀ {ps:List (Nat × Nat × Opd)} {cs:List AV},FN (X4 ps) s s'->G8 s cs ps=G8 s' cs ps
 | [],_,_=>rfl
 | (off,n,o)::ps,cs,h=>by
  have h1:FN o.rd s s':=fun t ht=>h t (by simp[X4,ht]);have h2:FN (X4 ps) s s':=fun t ht=>h t (by simp only[X4,ZL,Bn];exact .inr ht);have ih:∀ cs':List AV,G8 s cs' ps=G8 s' cs' ps:=fun cs'=>L9 h2;simp only[G8,B6 h1,ih]
theorem X6{l:List Nat}{s s':Aj}{p:Reg->Bool}(h:FN l s s'):(l.all fun t=>p (A8 s t))=(l.all fun t=>p (A8 s' t)):=by
 induction l with
 | nil=>rfl
 | cons t l ih=>simp only[A3i,h.head,ih h.tail]
theorem sF{F:BL}{k:K}{s s':Aj}(h:FN (rdK k) s s'):B7 F s k=B7 F s' k:=by
 cases k <;> simp only[rdK] at h
 case mov x=>simp only[B7,B6 h]
 case pick c a b=>simp only[B7,B6 h.left,B6 h.right.left,B6 h.right.right]
 case bin op x y=>simp only[B7,B6 h.left,B6 h.right]
 case eqb neg x y=>simp only[B7,B6 h.left,B6 h.right]
 case un op x=>simp only[B7,B6 h]
 case cv k x=>simp only[B7,B6 h]
 case new z kills=>rfl
 case box x kills=>simp only[B7,B6 h]
 case bld z ps=>simp only[B7,L9 h]
 case bls n z ps=>simp only[B7,L9 h]
 case adr x d off=>simp only[B7,h.head]
 case ld x d n one=>simp only[B7,h.head,h.tail.head]
 case st x d n v=>simp only[B7,h.head,h.tail.head,B6 h.tail.tail]
 case fld x off n one=>simp only[B7,B6 h]
 case ixa x i k=>simp only[B7,h.head,B6 h.tail]
 case six x i=>simp only[B7,B6 h.left,B6 h.right]
 case ext x i=>simp only[B7,B6 h]
 case len x=>simp only[B7,B6 h]
 case mx xs=>simp only[B7,JO h]
 case mn xs=>simp only[B7,JO h]
 case call f xs=>simp only[B7,JO h]
 case clo f xs=>simp only[B7,JO h]
 case cpy x=>simp only[B7,h.head]
 case tra x=>simp only[B7,h.head]
 case frz x=>simp only[B7,h.head]
 case mks z n=>simp only[B7,B6 h]
 case blo k n z ps=>simp only[B7,L9 h]
 case apd ow x y k B=>simp only[B7,X5 h.left,B6 h.right]
 case sli x lo hi mx k=>simp only[B7,B6 h.left,KH h.right.left,KH h.right.right.left,KH h.right.right.right]
 case ixo x d i k=>simp only[B7,h.head,h.tail.head,B6 h.tail.tail]
 case lno x d=>simp only[B7,h.head,h.tail.head]
 case nlo k=>rfl
 case bdo a x l =>
  have hl:(l.all fun t=>GT (A8 s t))=(l.all fun t=>GT (A8 s' t)):=X6 (p:=GT) h.tail.right;simp only[B7,h.head,B6 h.tail.left,hl]
 case cln f xs l =>
  have hl:(l.all fun t=>GT (A8 s t))=(l.all fun t=>GT (A8 s' t)):=X6 (p:=GT) h.right;simp only[B7,JO h.left,hl]
 case stl x v=>simp only[B7,h.head,h.tail.head]
 case fdo x=>simp only[B7,h.head]
 case exo x=>simp only[B7,h.head]
 case cpo x=>rfl
 case sub x d lo hi k=>simp only[B7,h.head,h.tail.head,KH h.tail.tail.left,KH h.tail.tail.right]
 case app ow x d y k=>simp only[B7,h.head,h.tail.head,B6 h.tail.tail]
 case apb ow x y d k=>simp only[B7,h.head,h.tail.head,h.tail.tail.head]
 case slo x hi k=>simp only[B7,h.head,B6 h.tail]
 case brw f x d=>simp only[B7,h.head,h.tail.head]
 case bad=>rfl
theorem Adk{F:BL}{k:K}{s:Aj}{r:Reg}{l:List (Nat × Reg)}(h:B7 F s k=some (r,l)):∀ p∈l,p.1∈OA k:=by
 cases k
 case new z kills=>simp only[B7,A9,DJ] at h;obtain⟨_,rfl⟩:=h;simp[OA]
 case box x kills =>
  simp only[B7] at h;split at h
  ·simp only[A9,DJ] at h;obtain⟨_,rfl⟩:=h;simp[OA]
  ·split at h
   ·simp only[A9,DJ] at h;obtain⟨_,rfl⟩:=h;simp[OA]
   ·cases h
  ·cases h
 case st x d n v =>
  simp only[B7] at h;split at h
  ·cases h
  ·split at h
   ·cases h
   ·split at h
    ·split at h
     ·simp only[Am] at h;obtain⟨a,_,h⟩:=h;cases h;simp[OA]
     ·cases h
    ·split at h
     ·split at h
      ·simp only[Am] at h;obtain⟨a,_,h⟩:=h;cases h;simp[OA]
      ·simp only[Am] at h;obtain⟨a,_,h⟩:=h;cases h;simp[OA]
      ·cases h
     ·cases h
    ·cases h
 case tra x =>
  simp only[B7] at h;split at h <;> cases h <;> simp[OA]
 case frz x =>
  simp only[B7] at h;split at h <;> cases h <;> simp[OA]
 case bdo a x ls =>
  simp only[B7] at h;repeat' split at h
  all_goals cases h
  simp[OA]
 case stl x v =>
  simp only[B7] at h;repeat' split at h
  all_goals cases h
  simp[OA]
 case fdo x =>
  simp only[B7] at h;split at h <;> cases h;simp[OA]
 case cpo x =>
  simp only[B7] at h;cases h;simp[OA]
 case exo x =>
  simp only[B7] at h;split at h <;> cases h;simp[OA]
 case sub x d lo hi k =>
  simp only[B7] at h;repeat' split at h
  all_goals cases h
  simp[OA]
 case app ow x d y k =>
  simp only[B7] at h;repeat' split at h
  all_goals cases h
  all_goals simp[OA]
 case apb ow x y d k =>
  simp only[B7] at h;repeat' split at h
  all_goals cases h
  all_goals simp[OA]
 case slo x hi k =>
  simp only[B7] at h;repeat' split at h
  all_goals cases h
  simp[OA]
 case apd ow x y k B =>
  have hk:∀ p∈SM x,p.1∈x.rd:=by cases x <;> simp[SM,Opd.rd]
  simp only[B7] at h;intro p hp;repeat' split at h
  all_goals first
   | (cases h;exact hk p hp)
   | (cases h;cases hp)
   | cases h
 all_goals
  have:l=[]:=by
   revert h;simp only[B7];repeat' split
   all_goals
    intro h;first
     | cases h;rfl
     | (simp only[Am] at h;obtain⟨_,_,h⟩:=h;cases h;rfl)
     | cases h
  subst this;intro p hp;cases hp
def aU(F:BL)(o:IOp)(s:Aj):Option (List (Nat × Reg)) :=
 match HK s o.g with
 | none=>none
 | some false=>some (o.dst.toList.map fun d=>(d,.val .undef))
 | some true=>(B7 F s o.k).map fun p=>p.2++o.dst.toList.map fun d=>(d,p.1)
def X7(F:BL)(o:IOp)(s:Aj):Option (List (Nat × Reg)):=(aU F o (kill s o.ks)).map fun l=>(o.ks.map fun t=>(t,Reg.dead))++l
theorem Sp(s:Aj)(l m:List (Nat × Reg)):BZ s (l++m)=BZ (BZ s l) m:=by
 induction l generalizing s with
 | nil=>rfl
 | cons p l ih=>obtain⟨t,r⟩:=p;simp only[I_,BZ,ih]
theorem jS(s:Aj)(d:Option Nat)(r:Reg):Ea s d r=BZ s (d.toList.map fun d=>(d,r)):=by
 cases d <;> rfl
theorem aV(F:BL)(o:IOp)(s:Aj):Jo F o s=(aU F o s).map (BZ s):=by
 simp only[Jo,aU];cases HK s o.g with
 | none=>rfl
 | some b =>
  cases b with
  | false=>simp only[AF,jS]
  | true =>
   cases B7 F s o.k with
   | none=>rfl
   | some p=>obtain⟨r,l⟩:=p;simp only[AF,Sp,jS]
theorem X8(F:BL)(o:IOp)(s:Aj):G9 F o s=(X7 F o s).map (BZ s):=by
 simp only[G9,X7,aV,Option.map_map];congr 1;funext l;simp only[A8c,Sp,kill]
theorem fG{s:Aj}{t u:Nat}{r:Reg}(h:t ≠ u):A8 (s.set t r) u=A8 s u:=by
 simp only[A8,Z,F9 h]
theorem Du(s:Aj)(d:Nat)(r:Reg)(t:Nat):A8 (s.set d r) t=if d=t/\d<s.length then r else A8 s t:=by
 simp only[A8,Z,List.getElem?_set];by_cases h:d=t
 ·subst h;by_cases h2:d<s.length
  ·simp[h2]
  ·simp[h2]
 ·simp[h]
theorem Wa(k:Nat)(s:Aj)(t:Nat):A8 (s.set k .dead) t=if k=t then .dead else A8 s t:=by
 rw[Du];by_cases h:k=t
 ·subst h;rw[if_pos rfl];split
  ·rfl
  ·rename_i hn;have:s.length<=k:=by simpa using hn
   simp only[A8,Z,AI this];rfl
 ·rw[if_neg h,if_neg (fun e=>h e.1)]
theorem Gn(ks:List Nat):∀ (s:Aj) (t:Nat),A8 (kill s ks) t=if t∈ks then .dead else A8 s t:=by
 unfold kill;induction ks with
 | nil=>intro s t;simp[BZ]
 | cons k ks ih =>
  intro s t;simp only[Cx,BZ];rw[ih,Wa];by_cases h1:t∈ks
  ·simp[h1]
  ·by_cases h2:k=t
   ·subst h2;simp
   ·have h2':¬ t=k:=fun e=>h2 e.symm;simp[h1,h2,h2']
theorem jT{l ks:List Nat}{s s':Aj}(h:FN l s s'):FN l (kill s ks) (kill s' ks):=by
 intro t ht;rw[Gn,Gn,h t ht]
theorem fH{g:Option (Nat × Bool)}{s s':Aj}(h:FN (g.toList.map (·.1)) s s'):HK s g=HK s' g:=by
 cases g with
 | none=>rfl
 | some p=>obtain⟨t,b⟩:=p;simp only[HK,h t (by simp)]
theorem X9{F:BL}{o:IOp}{s s':Aj}(h:FN o.rd s s'):X7 F o s=X7 F o s':=by
 have h':FN o.rd (kill s o.ks) (kill s' o.ks):=jT h;simp only[X7,aU,fH h'.right,sF h'.left]
theorem XA{F:BL}{o:IOp}{s:Aj}{l:List (Nat × Reg)}(h:aU F o s=some l):∀ p∈l,p.1∈o.wr:=by
 simp only[aU] at h;intro p hp;split at h
 ·cases h
 ·cases h;simp only[Cn] at hp;obtain⟨d,hd,rfl⟩:=hp;exact EM _ (Ff _ hd)
 ·simp only[Am] at h;obtain⟨⟨r,l'⟩,hk,rfl⟩:=h;rcases Bn.1 hp with hp | hp
  ·exact Ff _ (Adk hk p hp)
  ·simp only[Cn] at hp;obtain⟨d,hd,rfl⟩:=hp;exact EM _ (Ff _ hd)
theorem aW{F:BL}{o:IOp}{s:Aj}{l:List (Nat × Reg)}(h:X7 F o s=some l):∀ p∈l,p.1∈o.wr:=by
 simp only[X7,Am] at h;obtain⟨l,h,rfl⟩:=h;intro p hp;rcases Bn.1 hp with hp | hp
 ·simp only[Cn] at hp;obtain⟨t,ht,rfl⟩:=hp;simp[IOp.wr,ht]
 ·exact XA h p hp
theorem Qf{l:List (Nat × Reg)}{u:Nat}:∀ {s:Aj},(∀ p∈l,p.1 ≠ u)->A8 (BZ s l) u=A8 s u:=by
 induction l with
 | nil=>intro s _;rfl
 | cons p l ih =>
  intro s h;obtain⟨t,r⟩:=p;simp only[BZ];rw[ih (fun q hq=>h q (AT _ hq)),fG (h (t,r) (AO ..))]
theorem sG{l:List (Nat × Reg)}{t:Nat}{r:Reg}:∀ {s:Aj},(∀ p∈l,p.1 ≠ t)->BZ (s.set t r) l=(BZ s l).set t r:=by
 induction l with
 | nil=>intro s _;rfl
 | cons p l ih =>
  intro s h;obtain⟨u,q⟩:=p;simp only[BZ];rw[sE _ _ (Ne.symm (h (u,q) (AO ..))),ih (fun p hp=>h p (AT _ hp))]
theorem jU{l m:List (Nat × Reg)}:∀ {s:Aj},(∀ p∈l,∀ q∈m,p.1 ≠ q.1)->BZ (BZ s l) m=BZ (BZ s m) l:=by
 induction l with
 | nil=>intro s _;rfl
 | cons p l ih =>
  intro s h;obtain⟨t,r⟩:=p;simp only[BZ];rw[ih (fun p hp q hq=>h p (AT _ hp) q hq),sG (fun q hq=>Ne.symm (h (t,r) (AO ..) q hq))]
def SN(a b:IOp):Bool:=a.wr.all (fun t => !(b.rd.contains t) && !(b.wr.contains t))&&b.wr.all (fun t => !(a.rd.contains t))
theorem jV{a b:IOp}(h:SN a b=true):(∀ t∈a.wr,t ∉ b.rd/\t ∉ b.wr)/\∀ t∈b.wr,t ∉ a.rd:=by
 simp only[SN,Af,Cf,F1,JI,decide_eq_false_iff_not] at h;exact h
theorem sH{F:BL}{a b:IOp}{s s1 s2:Aj}(hi:SN a b=true)(h1:G9 F a s=some s1)(h2:G9 F b s1=some s2) :
  ∃ s',G9 F b s=some s'/\G9 F a s'=some s2:=by
 obtain⟨hab,hba⟩:=jV hi;rw[X8] at h1 h2;simp only[Am] at h1 h2;obtain⟨la,ha,rfl⟩:=h1;obtain⟨lb,hb,rfl⟩:=h2;have ka:=aW ha;have kb:=aW hb;have e1:X7 F b (BZ s la)=X7 F b s:=X9 fun t ht=>Qf fun p hp e=>(hab p.1 (ka p hp)).1 (e ▸ ht);rw[e1] at hb;have e2:X7 F a (BZ s lb)=X7 F a s:=X9 fun t ht=>Qf fun p hp e=>hba p.1 (kb p hp) (e ▸ ht);refine⟨BZ s lb,by rw[X8,hb];rfl,?_⟩;rw[X8,e2,ha];simp only[AF,A9];exact (jU fun p hp q hq e=>(hab p.1 (ka p hp)).2 (e ▸ kb q hq)).symm
theorem fI{F:BL}{o:IOp}{l:List IOp}:∀ {s s2:Aj} {m:List IOp},(∀ p∈m,SN p o=true)->EA F (m++o::l) s=some s2 ->
  ∃ s1,G9 F o s=some s1/\EA F (m++l) s1=some s2:=by
 intro s s2 m;induction m generalizing s with
 | nil =>
  intro _ h;simp only[GV,EA] at h |-;cases h1:G9 F o s with
  | none=>rw[h1] at h;cases h
  | some s1=>rw[h1] at h;exact⟨s1,rfl,h⟩
 | cons p m ih =>
  intro hp h;simp only[I_,EA] at h |-;cases h1:G9 F p s with
  | none=>rw[h1] at h;cases h
  | some s1 =>
   rw[h1] at h;obtain⟨s3,h3,h4⟩:=ih (fun q hq=>hp q (AT _ hq)) h;obtain⟨s',h5,h6⟩:=sH (hp p (AO ..)) h1 h3;exact⟨s',h5,by rw[h6];exact h4⟩
end Go.Ai
namespace Go.Ai
open Go.RowKit
open _root_.Array renaming getD_eq_getD_getElem?->CB,getElem?_eq_none->A3x,getElem?_eq_some_iff->Fl,getElem?_setIfInBounds->SK,size_setIfInBounds->R4
open Go renaming undef->Bq
open Go.Act renaming put->Aaz
open Go.RowKit.Below renaming refl->If
open Go.World renaming cell?->Xz
open List renaming all_eq_true->Cf,getD_eq_getElem?_getD->Z,getElem?_eq_none->AI,getElem_mem->AM,length_pos_iff->Ak,length_set->Ba,map_cons->Cx,mem_cons->BD,mem_of_mem_drop->Eh,not_mem_nil->WZ
open Nat renaming add_assoc->DW,le_trans->Bm,lt_irrefl->WW,lt_of_lt_of_le->CG,lt_of_not_le->JH,lt_or_ge->Ct
open Option renaming map_some->AF
open Option.some renaming injEq->A9
def Qg(cs:List AV):Prop:=∀ x∈cs,MP x=true
inductive Rd (Y X:Nat->Prop) (w:World):Value->AV->Prop where
 | int (k:IntKind) (n:Int):Rd Y X w (.int k n) (.int k n)
 | bool (b:Bool):Rd Y X w (.bool b) (.bool b)
 | str (s:ByteArray):Rd Y X w (.string s) (.str s)
 | undef:Rd Y X w Bq .undef
 | agg (vs:Array Value) (cs:List AV) (hd:Qg cs) (h:vs.size=cs.length) (hc:∀ (i:Nat) (h1:i<vs.size) (h2:i<cs.length),Rd Y X w vs[i] cs[i]):Rd Y X w (.agg vs) (.agg cs)
 | tup (vs:Array Value) (cs:List AV) (h:vs.size=cs.length) (hc:∀ (i:Nat) (h1:i<vs.size) (h2:i<cs.length),Rd Y X w vs[i] cs[i]):Rd Y X w (.tuple vs) (.tup cs)
 | nil:Rd Y X w (.slice none 0 0) .nil
 | nil0:Rd Y X w (.slice none 0 0) (.sl 0 [])
 | e0 (a:Addr) (c:Nat):Rd Y X w (.slice (some a) 0 c) (.sl 0 [])
 | sl (b off n cap:Nat) (cs:List AV) (f:Nat->Value) (hd:Qg cs) (hn:n<=cap) (hX:cs ≠ []->¬ X b) (hY:(∃ c∈cs,X3 c=true)->¬ Y b) (hcell:∀ i,i<cs.length->w.cell? ⟨b,off+i,none⟩=some (f i))
   (hr:∀ (i:Nat) (h:i<cs.length),Rd Y X w (f i) cs[i]):Rd Y X w (.slice (some ⟨b,off,none⟩) n cap) (.sl n cs)
 | pt (b off:Nat) (cs:List AV) (f:Nat->Value) (hd:Qg cs) (hX:cs ≠ []->¬ X b) (hcell:∀ i,i<cs.length->w.cell? ⟨b,off+i,none⟩=some (f i))
   (hr:∀ (i:Nat) (h:i<cs.length),Rd Y X w (f i) cs[i]):Rd Y X w (.pointer (some ⟨b,off,none⟩)) (.pt cs)
 | fnc (g:Nat) (u:Value) (cs:List AV) (h:Rd Y X w u (.pt cs)):Rd Y X w (.func (.func g) #[] #[u]) (.fnc g cs)
theorem FO{w w':World}{p:Addr}(h:w'.heap[p.block]? = w.heap[p.block]?):w'.cell? p=w.cell? p:=by
 simp only[Xz,h]
theorem LU{w:World}{p:Addr}{v:Value}(h:w.cell? p=some v):p.block<w.heap.size:=by
 rcases Ct p.block w.heap.size with h1 | h1
 ·exact h1
 ·simp[Xz,A3x h1] at h
theorem Rd.world{Y X:Nat->Prop}{w w':World}{v:Value}{x:AV}(h:Rd Y X w v x)(hw:∀ b,¬ X b->b<w.heap.size->w'.heap[b]? = w.heap[b]?):Rd Y X w' v x:=by
 induction h with
 | int k n=>exact .int k n
 | bool b=>exact .bool b
 | str s=>exact .str s
 | undef=>exact .undef
 | agg vs cs hd h hc ih=>exact .agg vs cs hd h ih
 | tup vs cs h hc ih=>exact .tup vs cs h ih
 | nil=>exact .nil
 | nil0=>exact .nil0
 | e0 a c=>exact .e0 a c
 | sl b off n cap cs f hd hn hX hY hcell hr ih =>
  refine .sl b off n cap cs f hd hn hX hY (fun i hi => ?_) ih;have h1:=hcell i hi;rw[FO (hw b (hX (by intro e;subst e;simp at hi)) (LU h1))];exact h1
 | pt b off cs f hd hX hcell hr ih =>
  refine .pt b off cs f hd hX (fun i hi => ?_) ih;have h1:=hcell i hi;rw[FO (hw b (hX (by intro e;subst e;simp at hi)) (LU h1))];exact h1
 | fnc g u cs h ih=>exact .fnc g u cs ih
theorem Rd.mono{Y X X':Nat->Prop}{w:World}{v:Value}{x:AV}(h:Rd Y X w v x)(hX:∀ b,X' b->X b\/w.heap.size<=b):Rd Y X' w v x:=by
 induction h with
 | int k n=>exact .int k n
 | bool b=>exact .bool b
 | str s=>exact .str s
 | undef=>exact .undef
 | agg vs cs hd h hc ih=>exact .agg vs cs hd h ih
 | tup vs cs h hc ih=>exact .tup vs cs h ih
 | nil=>exact .nil
 | nil0=>exact .nil0
 | e0 a c=>exact .e0 a c
 | sl b off n cap cs f hd hn hXb hY hcell hr ih =>
  refine .sl b off n cap cs f hd hn (fun hne hb => ?_) hY hcell ih;rcases hX b hb with h1 | h1
  ·exact hXb hne h1
  ·have h0:0<cs.length:=Ak.2 hne;have:=LU (hcell 0 h0);simp only at this;omega
 | pt b off cs f hd hXb hcell hr ih =>
  refine .pt b off cs f hd (fun hne hb => ?_) hcell ih;rcases hX b hb with h1 | h1
  ·exact hXb hne h1
  ·have h0:0<cs.length:=Ak.2 hne;have:=LU (hcell 0 h0);simp only at this;omega
 | fnc g u cs h ih=>exact .fnc g u cs ih
theorem Rd.lend{Y X Y' X':Nat->Prop}{w:World}{v:Value}{x:AV}(h:Rd Y X w v x)(hX:∀ b,X' b->X b)(hY:∀ b,Y' b->Y b\/X b):Rd Y' X' w v x:=by
 induction h with
 | int k n=>exact .int k n
 | bool b=>exact .bool b
 | str s=>exact .str s
 | undef=>exact .undef
 | agg vs cs hd h hc ih=>exact .agg vs cs hd h ih
 | tup vs cs h hc ih=>exact .tup vs cs h ih
 | nil=>exact .nil
 | nil0=>exact .nil0
 | e0 a c=>exact .e0 a c
 | sl b off n cap cs f hd hn hXb hYb hcell hr ih =>
  refine .sl b off n cap cs f hd hn (fun hne hb=>hXb hne (hX b hb)) (fun hi hb => ?_) hcell ih;rcases hY b hb with h1 | h1
  ·exact hYb hi h1
  ·obtain⟨c,hc,_⟩:=hi;exact hXb (List.ne_nil_of_mem hc) h1
 | pt b off cs f hd hXb hcell hr ih=>exact .pt b off cs f hd (fun hne hb=>hXb hne (hX b hb)) hcell ih
 | fnc g u cs h ih=>exact .fnc g u cs ih
theorem Rd.back1{Y X Y' X':Nat->Prop}{w:World}{v:Value}{x:AV}(h:Rd Y' X' w v x)(hx:NT x=true)(hX:∀ b,X b->X' b\/Y' b)(hY:∀ b,Y b->Y' b):Rd Y X w v x:=by
 cases h with
 | int k n=>exact .int k n
 | bool b=>exact .bool b
 | str s=>exact .str s
 | undef=>exact .undef
 | agg vs cs hd h hc=>cases hx
 | tup vs cs h hc=>cases hx
 | nil=>cases hx
 | pt _ _ _ _ _ _ _ _=>cases hx
 | fnc _ _ _ _=>cases hx
 | nil0=>exact .nil0
 | e0 a c=>exact .e0 a c
 | sl b off n cap cs f hd hn hXb hYb hcell hr =>
  simp only[NT,Cf] at hx;have hall:∀ c∈cs,¬ Y' b:=fun c hc=>hYb ⟨c,hc,hx c hc⟩;refine .sl b off n cap cs f hd hn (fun hne hb => ?_) (fun ⟨c,hc,_⟩ hb=>hall c hc (hY b hb)) hcell (fun i hi => ?_)
  ·obtain⟨c,hc⟩:=List.exists_mem_of_ne_nil cs hne;rcases hX b hb with h1 | h1
   ·exact hXb hne h1
   ·exact hall c hc h1
  ·have h1:=hx _ (AM hi);have h2:=hr i hi;generalize cs[i]=c at h1 h2 |-;generalize f i=u at h2 |-;cases c <;> first | (cases h1;done) | (cases h2;exact .int _ _)
theorem Rd.back{Y X Y' X':Nat->Prop}{w:World}{v:Value}{x:AV}(h:Rd Y' X' w v x)(hx:Hr x=true)(hX:∀ b,X b->X' b\/Y' b)(hY:∀ b,Y b->Y' b):Rd Y X w v x:=by
 cases h with
 | agg vs cs hd h hc =>
  simp only[Hr,Cf] at hx;exact .agg vs cs hd h fun i h1 h2=>(hc i h1 h2).back1 (hx _ (AM h2)) hX hY
 | int k n=>exact .int k n
 | bool b=>exact .bool b
 | str s=>exact .str s
 | undef=>exact .undef
 | tup vs cs h hc=>cases hx
 | nil=>cases hx
 | pt _ _ _ _ _ _ _ _=>cases hx
 | fnc _ _ _ _=>cases hx
 | nil0=>exact .nil0
 | e0 a c=>exact .e0 a c
 | sl b off n cap cs f hd hn hXb hYb hcell hr=>exact Rd.back1 (.sl b off n cap cs f hd hn hXb hYb hcell hr) hx hX hY
theorem sI{Y X:Nat->Prop}{w:World}{u:Value}{b:Bool}{n:Nat}{cs:List AV}(h:Rd Y X w u (.sl n cs)):Rd Y X w (.agg #[.bool b,u]) (.agg [.bool b,.sl n cs]):=by
 refine .agg _ _ (fun x hx => ?_) rfl (fun i h1 h2 => ?_)
 ·simp only[BD,WZ,or_false] at hx;rcases hx with rfl | rfl <;> rfl
 ·match i,h2 with
  | 0,_=>exact .bool b
  | 1,_=>exact h
def FX(Y X:Nat->Prop)(w:World)(b off:Nat)(cs:List AV):Prop :=
 Qg cs/\∀ (i:Nat) (h:i<cs.length),∃ v,w.cell? ⟨b,off+i,none⟩=some v/\Rd Y X w v cs[i]
theorem FX.drop{Y X:Nat->Prop}{w:World}{b off:Nat}{cs:List AV}(h:FX Y X w b off cs)(k:Nat):FX Y X w b (off+k) (cs.drop k):=by
 obtain⟨hd,h⟩:=h;refine⟨fun x hx=>hd x (Eh hx),?_⟩;intro i hi;have hi':k+i<cs.length:=by simp at hi;omega
 obtain⟨v,h1,h2⟩:=h (k+i) hi';refine⟨v,by rw[DW];exact h1,?_⟩;simpa using h2
theorem FX.world{Y X:Nat->Prop}{w w':World}{b off:Nat}{cs:List AV}(h:FX Y X w b off cs)(hw:∀ c,¬ X c->c<w.heap.size->w'.heap[c]? = w.heap[c]?)
  (hb:b<w.heap.size->w'.heap[b]? = w.heap[b]?):FX Y X w' b off cs:=by
 obtain⟨hd,h⟩:=h;refine⟨hd,?_⟩;intro i hi;obtain⟨v,h1,h2⟩:=h i hi;exact⟨v,by rw[FO (hb (LU h1))];exact h1,h2.world hw⟩
theorem FX.mono{Y X X':Nat->Prop}{w:World}{b off:Nat}{cs:List AV}(h:FX Y X w b off cs)(hX:∀ b,X' b->X b\/w.heap.size<=b):FX Y X' w b off cs:=by
 obtain⟨hd,h⟩:=h;refine⟨hd,?_⟩;intro i hi;obtain⟨v,h1,h2⟩:=h i hi;exact⟨v,h1,h2.mono hX⟩
def H6:Value->Option Addr
 | .pointer (some p)=>some p
 | .slice (some p) _ _=>some p
 | .agg vs=>match vs.toList with
  | [.bool _,.slice (some p) _ _]=>some p
  | _=>none
 | .tuple vs=>match vs.toList with
  | [.slice (some p) _ _,.bool _]=>some p
  | _=>none
 | _=>none
def Bh(v:Value):Option Nat:=(H6 v).map (·.block)
def Ey:Reg->Bool
 | .box _=>true
 | .own _ _ _=>true
 | .agn _ _ _ _=>true
 | .bxl _=>true
 | _=>false
def GA(Y X:Nat->Prop)(w:World)(b off:Nat)(cs:List AV):Prop :=
 Qg cs/\∃ (vs:Array Value) (T:TypeId),w.heap[b]? = some (.cells vs T (0,0))/\off+cs.length<=vs.size/\∀ (i:Nat) (h:i<cs.length),∃ v,vs[off+i]? = some v/\Rd Y X w v cs[i]
theorem GA.mem{Y X:Nat->Prop}{w:World}{b off:Nat}{cs:List AV}(h:GA Y X w b off cs):FX Y X w b off cs:=by
 obtain⟨hd,vs,T,hb,_,hc⟩:=h;refine⟨hd,?_⟩;intro i hi;obtain⟨v,h1,h2⟩:=hc i hi;exact⟨v,by simp[Xz,hb,h1],h2⟩
theorem GA.lt{Y X:Nat->Prop}{w:World}{b off:Nat}{cs:List AV}(h:GA Y X w b off cs):b<w.heap.size:=by
 obtain⟨_,vs,T,hb,_⟩:=h;exact (Fl.1 hb).1
theorem GA.world{Y X:Nat->Prop}{w w':World}{b off:Nat}{cs:List AV}(h:GA Y X w b off cs)(hw:∀ c,¬ X c->c<w.heap.size->w'.heap[c]? = w.heap[c]?)
  (hb:w'.heap[b]? = w.heap[b]?):GA Y X w' b off cs:=by
 obtain⟨hd,vs,T,h1,h2,h3⟩:=h;exact⟨hd,vs,T,by rw[hb];exact h1,h2,fun i hi=>let ⟨v,h4,h5⟩:=h3 i hi; ⟨v,h4,h5.world hw⟩⟩
theorem GA.mono{Y X X':Nat->Prop}{w:World}{b off:Nat}{cs:List AV}(h:GA Y X w b off cs)(hX:∀ b,X' b->X b\/w.heap.size<=b):GA Y X' w b off cs:=by
 obtain⟨hd,vs,T,h1,h2,h3⟩:=h;exact⟨hd,vs,T,h1,h2,fun i hi=>let ⟨v,h4,h5⟩:=h3 i hi; ⟨v,h4,h5.mono hX⟩⟩
def Wb(w:World)(b m:Nat):Prop:=∃ (vs:Array Value) (T:TypeId),w.heap[b]? = some (.cells vs T (0,0))/\m<=vs.size
theorem Wb.world{w w':World}{b m:Nat}(h:Wb w b m)(hb:w'.heap[b]? = w.heap[b]?):Wb w' b m:=by
 obtain⟨vs,T,h1,h2⟩:=h;exact⟨vs,T,by rw[hb];exact h1,h2⟩
def Gp(Y X:Nat->Prop)(B:Nat->Prop)(w:World)(v:Value)(k n:Nat)(cs:List AV):Prop :=
 (v = .slice none 0 0/\n=0/\cs=[]) \/
 ∃ b cap,v = .slice (some ⟨b,0,none⟩) n cap/\n<=cap/\cs.length=n*k/\B b/\GA Y X w b 0 cs/\Wb w b (cap*k)
theorem Gp.world{Y X:Nat->Prop}{B:Nat->Prop}{w w':World}{v:Value}{k n:Nat}{cs:List AV}(h:Gp Y X B w v k n cs)(hw:∀ c,¬ X c->c<w.heap.size->w'.heap[c]? = w.heap[c]?)
  (hb:∀ b,Bh v=some b->b<w.heap.size->w'.heap[b]? = w.heap[b]?):Gp Y X B w' v k n cs:=by
 rcases h with h | ⟨b,cap,e1,e2,e3,e4,e5,e6⟩
 ·exact .inl h
 ·have hbb:w'.heap[b]? = w.heap[b]? := hb b (by rw[e1];rfl) e5.lt;exact .inr ⟨b,cap,e1,e2,e3,e4,e5.world hw hbb,e6.world hbb⟩
theorem Gp.mono{Y X X':Nat->Prop}{B:Nat->Prop}{w:World}{v:Value}{k n:Nat}{cs:List AV}(h:Gp Y X B w v k n cs)(hX:∀ b,X' b->X b\/w.heap.size<=b):Gp Y X' B w v k n cs:=by
 rcases h with h | ⟨b,cap,e1,e2,e3,e4,e5,e6⟩
 ·exact .inl h
 ·exact .inr ⟨b,cap,e1,e2,e3,e4,e5.mono hX,e6⟩
theorem Gp.lower{Y X:Nat->Prop}{B B':Nat->Prop}{w:World}{v:Value}{k n:Nat}{cs:List AV}(h:Gp Y X B w v k n cs)(hB:∀ b,B b->B' b):Gp Y X B' w v k n cs:=by
 rcases h with h | ⟨b,cap,e1,e2,e3,e4,e5,e6⟩
 ·exact .inl h
 ·exact .inr ⟨b,cap,e1,e2,e3,hB b e4,e5,e6⟩
theorem Gp.block{Y X:Nat->Prop}{B:Nat->Prop}{w:World}{v:Value}{k n:Nat}{cs:List AV}(h:Gp Y X B w v k n cs){b:Nat}(hb:Bh v=some b):B b/\b<w.heap.size:=by
 rcases h with ⟨rfl,_⟩ | ⟨b',cap,e1,e2,e3,e4,e5,e6⟩
 ·cases hb
 ·rw[e1] at hb;simp only[Bh,H6,AF,A9] at hb;subst hb;exact⟨e4,e5.lt⟩
theorem Gp.frozen{Y X X':Nat->Prop}{B:Nat->Prop}{w:World}{v:Value}{k n:Nat}{cs:List AV}(h:Gp Y X B w v k n cs)(hX:∀ b,X' b->X b\/w.heap.size<=b)(hb:∀ b,Bh v=some b->¬ X' b)(hY:∀ b,Y b->¬ B b):Rd Y X' w v (.sl n cs):=by
 rcases h with ⟨rfl,rfl,rfl⟩ | ⟨b,cap,e1,e2,e3,e4,e5,e6⟩
 ·exact .nil0
 have hbb:¬ X' b:=hb b (by rw[e1];rfl);obtain⟨hd,hm⟩:=(e5.mono hX).mem;subst e1;refine .sl b 0 n cap cs (fun i=>(w.cell? ⟨b,0+i,none⟩).getD Bq) hd e2 (fun _=>hbb) (fun _ h=>hY b h e4) (fun i hi => ?_) (fun i hi => ?_)
 ·obtain⟨u,h1,_⟩:=hm i hi;rw[h1];rfl
 ·obtain⟨u,h1,h2⟩:=hm i hi;rw[h1];exact h2
theorem jW{Y X Y' X':Nat->Prop}{B:Nat->Prop}{w:World}{v:Value}{k n:Nat}{cs:List AV}(h:Gp Y X B w v k n cs)(hX:∀ b,X' b->X b)(hY:∀ b,Y' b->Y b\/X b)(hb:∀ b,Bh v=some b->¬ X' b)(hi:cs.all (fun c => !X3 c)=true):Rd Y' X' w v (.sl n cs):=by
 rcases h with ⟨rfl,rfl,rfl⟩ | ⟨b,cap,e1,e2,e3,e4,e5,e6⟩
 ·exact .nil0
 have hbb:¬ X' b:=hb b (by rw[e1];rfl);obtain⟨hd,hm⟩:=e5.mem;subst e1;refine .sl b 0 n cap cs (fun i=>(w.cell? ⟨b,0+i,none⟩).getD Bq) hd e2 (fun _=>hbb) (fun ⟨c,hc,h1⟩ _ => ?_) (fun i hi => ?_) (fun i hi => ?_)
 ·have:=Cf.1 hi c hc;rw[h1] at this;cases this
 ·obtain⟨u,h1,_⟩:=hm i hi;rw[h1];rfl
 ·obtain⟨u,h1,h2⟩:=hm i hi;rw[h1];exact h2.lend hX hY
def jX:Tag->Value->Value
 | .st b,u => .agg #[.bool b,u]
 | .tp b,u => .tuple #[u,.bool b]
def Li(Y X:Nat->Prop)(B:Nat->Prop)(w:World)(v:Value)(b:Tag)(k n:Nat)(cs:List AV):Prop:=∃ u,v=jX b u/\Gp Y X B w u k n cs
theorem Gq{Y X:Nat->Prop}{B:Nat->Prop}{w:World}{u:Value}{k n:Nat}{cs:List AV}(b:Tag)(h:Gp Y X B w u k n cs):Bh (jX b u)=Bh u:=by
 cases b <;> rcases h with ⟨rfl,_⟩ | ⟨b',cap,rfl,_⟩ <;> rfl
theorem Li.world{Y X:Nat->Prop}{B:Nat->Prop}{w w':World}{v:Value}{b:Tag}{k n:Nat}{cs:List AV}(h:Li Y X B w v b k n cs)(hw:∀ c,¬ X c->c<w.heap.size->w'.heap[c]? = w.heap[c]?)
  (hb:∀ b,Bh v=some b->b<w.heap.size->w'.heap[b]? = w.heap[b]?):Li Y X B w' v b k n cs:=by
 obtain⟨u,rfl,h⟩:=h;rw[Gq b h] at hb;exact⟨u,rfl,h.world hw hb⟩
theorem Li.mono{Y X X':Nat->Prop}{B:Nat->Prop}{w:World}{v:Value}{b:Tag}{k n:Nat}{cs:List AV}(h:Li Y X B w v b k n cs)(hX:∀ b,X' b->X b\/w.heap.size<=b):Li Y X' B w v b k n cs:=by
 obtain⟨u,e,h⟩:=h;exact⟨u,e,h.mono hX⟩
theorem Li.lower{Y X:Nat->Prop}{B B':Nat->Prop}{w:World}{v:Value}{b:Tag}{k n:Nat}{cs:List AV}(h:Li Y X B w v b k n cs)(hB:∀ b,B b->B' b):Li Y X B' w v b k n cs:=by
 obtain⟨u,e,h⟩:=h;exact⟨u,e,h.lower hB⟩
theorem Li.own{Y X0:Nat->Prop}{Z:Nat->Prop}{B:Nat->Prop}{w:World}{v:Value}{b:Tag}{k n:Nat}{cs:List AV}(h:Li Y (fun c=>X0 c\/Z c) B w v b k n cs)(hZ:∀ c,Bh v=some c->Z c):Li Y (fun c=>X0 c\/Bh v=some c) B w v b k n cs :=
 h.mono fun c hc => .inl (hc.imp id (hZ c))
theorem Li.block{Y X:Nat->Prop}{B:Nat->Prop}{w:World}{v:Value}{b:Tag}{k n:Nat}{cs:List AV}(h:Li Y X B w v b k n cs){c:Nat}(hb:Bh v=some c):B c/\c<w.heap.size:=by
 obtain⟨u,rfl,h⟩:=h;rw[Gq b h] at hb;exact h.block hb
def A8f(k l h:Nat)(u v:Value):Prop:=(u = .slice none 0 0/\v = .slice none 0 0/\l=0/\h=0) \/
 ∃ b n cap,u = .slice (some ⟨b,0,none⟩) n cap/\l<=h/\h<=n/\n<=cap/\v = .slice (if cap=l then some ⟨b,0,none⟩ else some ⟨b,l*k,none⟩) (h-l) (cap-l)
def IR(Y X:Nat->Prop)(B:Nat->Prop)(roots:List (Nat × Nat))(tm:Array Value)(w:World)(t:Nat)(v:Value):Reg->Prop
 | .val x=>Rd Y X w v x
 | .box cs=>∃ b,v = .pointer (some ⟨b,0,none⟩)/\B b/\GA Y X w b 0 cs
 | .ptr d off=>(t,d)∈roots/\∃ p,H6 (tm.getD d Bq)=some p/\p.spot=none/\v = .pointer (some ⟨p.block,p.off+off,none⟩)
 | .mem cs=>∃ b off,v = .pointer (some ⟨b,off,none⟩)/\(cs ≠ []->¬ X b)/\FX Y X w b off cs
 | .own k n cs=>Gp Y X B w v k n cs
 | .agn b k n cs=>Li Y X B w v b k n cs
 | .bxl d=>(t,d)∈roots/\∃ b,v = .pointer (some ⟨b,0,none⟩)/\B b/\b<w.heap.size/\∀ i,i<2->w.cell? ⟨b,i,none⟩=(tm.getD d Bq).cells[i]?
 | .dup d=>(t,d)∈roots/\v=tm.getD d Bq
 | .sub d k l h=>(t,d)∈roots/\A8f k l h (tm.getD d Bq) v
 | .dead=>True
def XS(s:Aj)(tm:Array Value)(b:Nat):Prop:=∃ t,Ey (A8 s t)=true/\Bh (tm.getD t Bq)=some b
theorem IR.monoX{Y X X':Nat->Prop}{B:Nat->Prop}{roots:List (Nat × Nat)}{tm:Array Value}{w:World}{t:Nat}{v:Value}{r:Reg}(h:IR Y X B roots tm w t v r)(hX:∀ b,X' b->X b):IR Y X' B roots tm w t v r:=by
 have hX':∀ b,X' b->X b\/w.heap.size<=b:=fun b hb => .inl (hX b hb);cases r with
 | val x=>exact Rd.mono h hX'
 | box cs=>obtain⟨b,e1,e2,e3⟩:=h;exact⟨b,e1,e2,e3.mono hX'⟩
 | own k n cs=>exact Gp.mono h hX'
 | agn bb k n cs=>exact Li.mono h hX'
 | mem cs=>obtain⟨b,off,e1,e2,e3⟩:=h;exact⟨b,off,e1,fun hne hx=>e2 hne (hX b hx),e3.mono hX'⟩
 | bxl d'=>exact h
 | ptr d off=>exact h
 | dup d=>exact h
 | sub _ _ _ _=>exact h
 | dead=>trivial
structure Base where
 w:World
 own:Nat->Prop
def Base.mine(B:Base)(b:Nat):Prop:=B.w.heap.size<=b\/B.own b
structure Grown (B:Base) (w:World):Prop where
 os:w.os=B.w.os
 tape:w.tape=B.w.tape
 output:w.output=B.w.output
 size:B.w.heap.size<=w.heap.size
 block:∀ b,¬ B.mine b->w.heap[b]? = B.w.heap[b]?
theorem Grown.trans{B:Base}{w w':World}(h:Grown B w)(g:Below w.heap.size w w'):Grown B w' :=
 ⟨g.os.trans h.os,g.tape.trans h.tape,g.output.trans h.output,Bm h.size g.size,fun b hb=>(g.block b (CG (JH fun e=>hb (.inl e)) h.size)).trans (h.block b hb)⟩
theorem Grown.below{B:Base}{w:World}(h:Grown B w)(ho:∀ b,¬ B.own b):Below B.w.heap.size B.w w :=
 ⟨h.os,h.tape,h.output,h.size,fun b hb=>h.block b (fun e=>e.elim (fun e=>WW _ (CG hb e)) (ho b))⟩
structure Rel (Y X0:Nat->Prop) (roots:List (Nat × Nat)) (w0:Base) (s:Aj) (a:Act) (w:World):Prop where
 dfr:a.defers=[]
 size:a.tmps.size=s.length
 below:Grown w0 w
 low:∀ b,X0 b->¬ w0.mine b
 lowY:∀ b,Y b->¬ w0.mine b
 reg:∀ t,IR Y (fun b=>X0 b\/XS s a.tmps b) w0.mine roots a.tmps w t (a.tmps.getD t Bq) (A8 s t)
 inj:∀ t t' b,Ey (A8 s t)=true->Ey (A8 s t')=true->Bh (a.tmps.getD t Bq)=some b->Bh (a.tmps.getD t' Bq)=some b->t=t'
theorem Below.ext{w w':World}(h:Below w.heap.size w w'):∀ b,b<w.heap.size->w'.heap[b]? = w.heap[b]? := h.block
theorem LV(tm:Array Value)(d:Nat)(v:Value)(t:Nat):(tm.setIfInBounds d v).getD t Bq=if d=t/\d<tm.size then v else tm.getD t Bq:=by
 simp only[CB,SK];by_cases h:d=t
 ·subst h;by_cases h2:d<tm.size
  ·simp[h2]
  ·simp[h2]
 ·simp[h]
theorem IS(ks:List Nat):∀ (s:Aj) (t:Nat),A8 (BZ s (ks.map fun u=>(u,Reg.dead))) t=A8 s t\/A8 (BZ s (ks.map fun u=>(u,Reg.dead))) t = .dead:=by
 induction ks with
 | nil=>exact fun s t => .inl rfl
 | cons k ks ih =>
  intro s t;simp only[Cx,BZ];rcases ih (s.set k .dead) t with h | h
  ·rw[h,Du];split
   ·exact .inr rfl
   ·exact .inl rfl
  ·exact .inr h
theorem Jq(ks:List Nat):∀ (s:Aj) (t:Nat),t∈ks->A8 (BZ s (ks.map fun u=>(u,Reg.dead))) t = .dead:=by
 induction ks with
 | nil=>intro s t h;cases h
 | cons k ks ih =>
  intro s t h;simp only[Cx,BZ];by_cases hk:t∈ks
  ·exact ih _ t hk
  ·have e:t=k:=by
    cases h with
    | head=>rfl
    | tail _ h=>exact absurd h hk
   subst e;rcases IS ks (s.set t .dead) t with h1 | h1
   ·rw[h1,Du];split
    ·rfl
    ·rename_i hn;simp only[A8,Z];have:s.length<=t:=by simp at hn;exact hn
     rw[AI this];rfl
   ·exact h1
theorem Gr(l:List (Nat × Reg)):∀ s:Aj,(BZ s l).length=s.length:=by
 induction l with
 | nil=>intro s;rfl
 | cons p l ih=>intro s;obtain⟨t,r⟩:=p;simp only[BZ,ih,Ba]
theorem aX{Y X:Nat->Prop}{B:Nat->Prop}{roots:List (Nat × Nat)}{tm:Array Value}{w:World}{t:Nat}{v:Value}{r:Reg}{b:Nat}(h:IR Y X B roots tm w t v r)(he:Ey r=true)(hb:Bh v=some b):B b:=by
 cases r with
 | box cs =>
  obtain⟨b',e1,e2,e3⟩:=h;rw[e1] at hb;simp only[Bh,H6,AF,A9] at hb;exact hb ▸ e2
 | own k n cs=>exact (Gp.block h hb).1
 | agn bb k n cs=>exact (Li.block h hb).1
 | bxl d' =>
  obtain⟨_,b',e1,e2,e3,_⟩:=h;rw[e1] at hb;simp only[Bh,H6,AF,A9] at hb;exact hb ▸ e2
 | val x=>cases he
 | ptr d off=>cases he
 | mem cs=>cases he
 | dup d=>cases he
 | sub _ _ _ _=>cases he
 | dead=>cases he
theorem Rel.give{Y X0:Nat->Prop}{roots:List (Nat × Nat)}{w0:Base}{w w':World}{s:Aj}{a:Act}(h:Rel Y X0 roots w0 s a w){O:Nat->Prop}(hw:Grown ⟨w,O⟩ w')
  {d:Nat} {v:Value} {r:Reg} {ks:List Nat} (hO:∀ b,O b->∃ x,x∈ks/\Ey (A8 s x)=true/\Bh (a.tmps.getD x Bq)=some b) (hks:∀ t,(t,d)∈roots->t∈ks\/EP (A8 s t)=false)
  (hfresh:Ey r=true->∀ b,Bh v=some b->w.heap.size<=b\/O b)
  (hr:∀ X:Nat->Prop,(∀ b,X b->(X0 b\/XS s a.tmps b)\/(w.heap.size<=b/\Bh v=some b))->(∀ c,X c->O c->Ey r=true/\Bh v=some c)->(Ey r=false->∀ b,X b->X0 b\/XS s a.tmps b) ->
   IR Y X w0.mine roots (a.tmps.setIfInBounds d v) w' d v r) :
  Rel Y X0 roots w0 (Ea (BZ s (ks.map fun u=>(u,Reg.dead))) (some d) r) (a.put (some d) v) w':=by
 obtain⟨hd,hs,hb,hl,hly,hreg,hinj⟩:=h;have hsz:w0.w.heap.size<=w.heap.size:=hb.size;have hblk:∀ c,c<w.heap.size->¬ O c->w'.heap[c]? = w.heap[c]? := fun c hc ho=>hw.block c (fun e=>e.elim (fun e=>WW _ (CG hc e)) ho);have hOX:∀ b,O b->XS s a.tmps b:=fun b hb=>let ⟨x,_,h2,h3⟩:=hO b hb; ⟨x,h2,h3⟩
 have hne:∀ t,A8 (BZ s (ks.map fun u=>(u,Reg.dead))) t=A8 s t->Ey (A8 s t)=true->∀ b,Bh (a.tmps.getD t Bq)=some b->¬ O b:=by
  intro t hk he b hbt ho;obtain⟨x,h1,h2,h3⟩:=hO b ho;have e:=hinj t x b he h2 hbt h3;subst e;rw[Jq ks s t h1] at hk;rw[<- hk] at he;cases he
 have key:∀ t,A8 (Ea (BZ s (ks.map fun u=>(u,Reg.dead))) (some d) r) t=(if d=t/\d<s.length then r else A8 (BZ s (ks.map fun u=>(u,Reg.dead))) t):=by
  intro t;simp only[Ea];rw[Du,Gr]
 have kv:∀ t,(a.put (some d) v).tmps.getD t Bq=if d=t/\d<s.length then v else a.tmps.getD t Bq:=by
  intro t;simp only[Aaz];rw[LV,hs]
 have hXnew:∀ b,XS (Ea (BZ s (ks.map fun u=>(u,Reg.dead))) (some d) r) (a.put (some d) v).tmps b->XS s a.tmps b\/(Ey r=true/\w.heap.size<=b/\Bh v=some b):=by
  rintro b ⟨t,h1,h2⟩;rw[key] at h1;rw[kv] at h2;by_cases hc:d=t/\d<s.length
  ·rw[if_pos hc] at h1 h2;rcases hfresh h1 b h2 with h3 | h3
   ·exact .inr ⟨h1,h3,h2⟩
   ·exact .inl (hOX b h3)
  ·rw[if_neg hc] at h1 h2;rcases IS ks s t with hk | hk
   ·rw[hk] at h1;exact .inl ⟨t,h1,h2⟩
   ·rw[hk] at h1;cases h1
 generalize hXd:(fun b=>X0 b\/XS (Ea (BZ s (ks.map fun u=>(u,Reg.dead))) (some d) r) (a.put (some d) v).tmps b)=X;have hX1:∀ b,X b->(X0 b\/XS s a.tmps b)\/w.heap.size<=b:=by
  intro b hXb;rw[<- hXd] at hXb;rcases hXb with h | h
  ·exact .inl (.inl h)
  ·rcases hXnew b h with h | h
   ·exact .inl (.inr h)
   ·exact .inr h.2.1
 have hX1':∀ b,X b->(X0 b\/XS s a.tmps b)\/(w.heap.size<=b/\Bh v=some b):=by
  intro b hXb;rw[<- hXd] at hXb;rcases hXb with h | h
  ·exact .inl (.inl h)
  ·rcases hXnew b h with h | h
   ·exact .inl (.inr h)
   ·exact .inr h.2
 have hX2:Ey r=false->∀ b,X b->X0 b\/XS s a.tmps b:=by
  intro he b hXb;rw[<- hXd] at hXb;rcases hXb with h | h
  ·exact .inl h
  ·rcases hXnew b h with h | h
   ·exact .inr h
   ·rw[he] at h;cases h.1
 have hX3:∀ c,X c->O c->Ey r=true/\Bh v=some c:=by
  intro c hc ho;rw[<- hXd] at hc;rcases hc with hc | ⟨t,h1,h2⟩
  ·obtain⟨x,_,h2,h3⟩:=hO c ho;exact absurd (aX (hreg x) h2 h3) (hl c hc)
  ·rw[key] at h1;rw[kv] at h2;by_cases hc:d=t/\d<s.length
   ·rw[if_pos hc] at h1 h2;exact⟨h1,h2⟩
   ·rw[if_neg hc] at h1 h2;rcases IS ks s t with hk | hk
    ·rw[hk] at h1;exact absurd ho (hne t hk h1 c h2)
    ·rw[hk] at h1;cases h1
 have hext:∀ c,¬ (X c\/(X0 c\/XS s a.tmps c))->c<w.heap.size->w'.heap[c]? = w.heap[c]? := fun c hc hl=>hblk c hl fun ho=>hc (.inr (.inr (hOX c ho)));have hXu:∀ c,(X c\/(X0 c\/XS s a.tmps c))->(X0 c\/XS s a.tmps c)\/w.heap.size<=c:=fun c hc=>hc.elim (hX1 c) .inl;have hXv:∀ c,X c->(X c\/(X0 c\/XS s a.tmps c))\/w'.heap.size<=c:=fun c hc => .inl (.inl hc);refine⟨hd,by simp only[Aaz,R4,Ea,Ba,Gr];exact hs,?_,hl,hly,?_,?_⟩
 ·refine⟨hw.os.trans hb.os,hw.tape.trans hb.tape,hw.output.trans hb.output,Bm hsz hw.size,fun c hc => ?_⟩;have hlt:c<w.heap.size:=CG (JH fun e=>hc (.inl e)) hsz;refine (hblk c hlt fun ho => ?_).trans (hb.block c hc);obtain⟨x,_,h2,h3⟩:=hO c ho;exact hc (aX (hreg x) h2 h3)
 ·intro t;rw[hXd,key,kv];by_cases hc:d=t/\d<s.length
  ·rw[if_pos hc,if_pos hc];obtain⟨rfl,_⟩:=hc;exact hr X hX1' hX3 hX2
  ·rw[if_neg hc,if_neg hc];rcases IS ks s t with hk | hk
   ·rw[hk];have h0:=hreg t;cases hrt:A8 s t with
    | val x=>rw[hrt] at h0;exact ((Rd.mono h0 hXu).world hext).mono hXv
    | box cs =>
     rw[hrt] at h0;obtain⟨b,e1,e2,e3⟩:=h0;exact⟨b,e1,e2,((e3.mono hXu).world hext (hblk b e3.lt (hne t hk (by rw[hrt];rfl) b (by rw[e1];rfl)))).mono hXv⟩
    | own k n cs =>
     rw[hrt] at h0;exact ((Gp.mono h0 hXu).world hext (fun b h1 hb=>hblk b hb (hne t hk (by rw[hrt];rfl) b h1))).mono hXv
    | agn bb k n cs =>
     rw[hrt] at h0;exact ((Li.mono h0 hXu).world hext (fun b h1 hb=>hblk b hb (hne t hk (by rw[hrt];rfl) b h1))).mono hXv
    | mem cs =>
     rw[hrt] at h0;obtain⟨b,off,e1,e2,e3⟩:=h0;refine⟨b,off,e1,fun hne hXb => ?_,?_⟩;rotate_left
     ·by_cases hnil:cs=[]
      ·subst hnil;exact⟨fun x hx=>(by cases hx),fun i hi=>(by simp at hi)⟩
      ·exact ((e3.mono hXu).world hext (fun hb=>hblk b hb fun ho=>e2 hnil (.inr (hOX b ho)))).mono hXv
     rcases hX1 b hXb with h | h
     ·exact e2 hne h
     ·have h0:0<cs.length:=Ak.2 hne;obtain⟨u,hu,_⟩:=e3.2 0 h0;have:=LU hu;simp only at this;omega
    | ptr d' off =>
     rw[hrt] at h0;obtain⟨e1,p,e2,e3,e4⟩:=h0;refine⟨e1,p,?_,e3,e4⟩;rw[kv,if_neg]
     ·exact e2
     ·rintro⟨rfl,hlt⟩;rcases hks t e1 with hh | hh
      ·have:=Jq ks s t hh;rw[hk,hrt] at this;cases this
      ·rw[hrt] at hh;cases hh
    | dup d' =>
     rw[hrt] at h0;obtain⟨e1,e2⟩:=h0;refine⟨e1,?_⟩;rw[kv,if_neg]
     ·exact e2
     ·rintro⟨rfl,hlt⟩;rcases hks t e1 with hh | hh
      ·have:=Jq ks s t hh;rw[hk,hrt] at this;cases this
      ·rw[hrt] at hh;cases hh
    | sub d' _ _ _ =>
     rw[hrt] at h0;obtain⟨e1,e2⟩:=h0;refine⟨e1,?_⟩;rw[kv,if_neg]
     ·exact e2
     ·rintro⟨rfl,hlt⟩;rcases hks t e1 with hh | hh
      ·have:=Jq ks s t hh;rw[hk,hrt] at this;cases this
      ·rw[hrt] at hh;cases hh
    | bxl d' =>
     rw[hrt] at h0;obtain⟨e1,b,e2,e3,e4,e5⟩:=h0;refine⟨e1,b,e2,e3,CG e4 hw.size,fun i hi => ?_⟩;rw[kv,if_neg]
     ·rw[<- e5 i hi];exact FO (hblk b e4 (hne t hk (by rw[hrt];rfl) b (by rw[e2];rfl)))
     ·rintro⟨rfl,hlt⟩;rcases hks t e1 with hh | hh
      ·have:=Jq ks s t hh;rw[hk,hrt] at this;cases this
      ·rw[hrt] at hh;cases hh
    | dead=>trivial
   ·rw[hk];trivial
 ·intro t t' b h1 h2 h3 h4;rw[key] at h1 h2;rw[kv] at h3 h4;have old:∀ u,(¬ (d=u/\d<s.length))->Ey (A8 (BZ s (ks.map fun u=>(u,Reg.dead))) u)=true->Ey (A8 s u)=true:=by
   intro u _ hu;rcases IS ks s u with hk | hk
   ·rw[hk] at hu;exact hu
   ·rw[hk] at hu;cases hu
  have lt:∀ u,Ey (A8 s u)=true->Bh (a.tmps.getD u Bq)=some b->b<w.heap.size:=by
   intro u hu hv;have h0:=hreg u;cases hrt:A8 s u with
   | box cs =>
    rw[hrt] at h0;obtain⟨b',e1,_,e3⟩:=h0;rw[e1] at hv;simp only[Bh,H6,AF,A9] at hv;exact hv ▸ e3.lt
   | own k n cs =>
    rw[hrt] at h0;exact (Gp.block h0 hv).2
   | agn bb k n cs =>
    rw[hrt] at h0;exact (Li.block h0 hv).2
   | bxl d' =>
    rw[hrt] at h0;obtain⟨_,b',e1,_,e3,_⟩:=h0;rw[e1] at hv;simp only[Bh,H6,AF,A9] at hv;exact hv ▸ e3
   | val x=>rw[hrt] at hu;cases hu
   | ptr d off=>rw[hrt] at hu;cases hu
   | mem cs=>rw[hrt] at hu;cases hu
   | dup d=>rw[hrt] at hu;cases hu
   | sub _ _ _ _=>rw[hrt] at hu;cases hu
   | dead=>rw[hrt] at hu;cases hu
  by_cases c1:d=t/\d<s.length <;> by_cases c2:d=t'/\d<s.length
  ·exact c1.1.symm.trans c2.1
  ·rw[if_pos c1] at h1 h3;rw[if_neg c2] at h2 h4;have:=lt t' (old t' c2 h2) h4;rcases hfresh h1 b h3 with e2 | e2
   ·omega
   ·rcases IS ks s t' with hk | hk
    ·exact absurd e2 (hne t' hk (old t' c2 h2) b h4)
    ·rw[hk] at h2;cases h2
  ·rw[if_neg c1] at h1 h3;rw[if_pos c2] at h2 h4;have:=lt t (old t c1 h1) h3;rcases hfresh h2 b h4 with e2 | e2
   ·omega
   ·rcases IS ks s t with hk | hk
    ·exact absurd e2 (hne t hk (old t c1 h1) b h3)
    ·rw[hk] at h1;cases h1
  ·rw[if_neg c1] at h1 h3;rw[if_neg c2] at h2 h4;exact hinj t t' b (old t c1 h1) (old t' c2 h2) h3 h4
theorem Adl{w w':World}(h:Below w.heap.size w w'):Grown ⟨w,fun _=>False⟩ w' :=
 ⟨h.os,h.tape,h.output,h.size,fun b hb=>h.block b (JH fun e=>hb (.inl e))⟩
theorem DA{Y X0:Nat->Prop}{roots:List (Nat × Nat)}{w0:Base}{w w':World}{s:Aj}{a:Act}(h:Rel Y X0 roots w0 s a w)(hw:Below w.heap.size w w')
  {d:Nat} {v:Value} {r:Reg} {ks:List Nat} (hks:∀ t,(t,d)∈roots->t∈ks\/EP (A8 s t)=false)
  (hfresh:Ey r=true->∀ b,Bh v=some b->w.heap.size<=b)
  (hr:∀ X:Nat->Prop,(∀ b,X b->(X0 b\/XS s a.tmps b)\/(w.heap.size<=b/\Bh v=some b))->(Ey r=false->∀ b,X b->X0 b\/XS s a.tmps b) ->
   IR Y X w0.mine roots (a.tmps.setIfInBounds d v) w' d v r) :
  Rel Y X0 roots w0 (Ea (BZ s (ks.map fun u=>(u,Reg.dead))) (some d) r) (a.put (some d) v) w' :=
 h.give (Adl hw) (fun _ hb=>False.elim hb) hks (fun he b hb => .inl (hfresh he b hb)) fun X h1 _ h2=>hr X h1 h2
theorem A4c{s:Aj}{tm:Array Value}{d:Nat}{r r':Reg}(h:A8 s d=r)(he:Ey r=Ey r')(b:Nat):XS (s.set d r') tm b↔XS s tm b:=by
 have key:∀ t,Ey (A8 (s.set d r') t)=Ey (A8 s t):=by
  intro t;rw[Du];split
  ·rename_i hc;obtain⟨rfl,_⟩:=hc;rw[h,he]
  ·rfl
 constructor
 ·rintro⟨t,h1,h2⟩;exact⟨t,by rw[<- key];exact h1,h2⟩
 ·rintro⟨t,h1,h2⟩;exact⟨t,by rw[key];exact h1,h2⟩
theorem Rel.store{Y X0:Nat->Prop}{roots:List (Nat × Nat)}{w0:Base}{w w':World}{s:Aj}{a:Act}(h:Rel Y X0 roots w0 s a w){d:Nat}{r r':Reg}{b:Nat}
  (hd:A8 s d=r) (he:Ey r=true) (he':Ey r'=true) (hv:Bh (a.tmps.getD d Bq)=some b) (hbB:w0.mine b) (hos:w'.os=w.os) (htape:w'.tape=w.tape) (hout:w'.output=w.output)
  (hsize:w'.heap.size=w.heap.size) (hoth:∀ c,c ≠ b->w'.heap[c]? = w.heap[c]?)
  (hnew:∀ X:Nat->Prop,(∀ c,X c↔(X0 c\/XS s a.tmps c))->IR Y X w0.mine roots a.tmps w' d (a.tmps.getD d Bq) r') :
  Rel Y X0 roots w0 (s.set d r') a w':=by
 obtain⟨hdf,hs,hb,hl,hly,hreg,hinj⟩:=h;have hXb:XS s a.tmps b:=⟨d,by rw[hd];exact he,hv⟩;have hXeq:∀ c,(X0 c\/XS (s.set d r') a.tmps c)↔(X0 c\/XS s a.tmps c):=fun c=>by rw[A4c (r':=r') hd (by rw[he,he'])]
 have hmono:∀ c,(X0 c\/XS (s.set d r') a.tmps c)->(X0 c\/XS s a.tmps c)\/w.heap.size<=c:=fun c hc => .inl ((hXeq c).1 hc);have hext:∀ c,¬ (X0 c\/XS (s.set d r') a.tmps c)->c<w.heap.size->w'.heap[c]? = w.heap[c]? := by
  intro c hc _;refine hoth c ?_;rintro rfl;exact hc ((hXeq _).2 (.inr hXb))
 have hex:∀ t,Ey (A8 (s.set d r') t)=true->Ey (A8 s t)=true:=by
  intro t ht;rw[Du] at ht;split at ht
  ·rename_i hc;rw[<- hc.1,hd];exact he
  ·exact ht
 refine⟨hdf,by rw[Ba];exact hs,?_,hl,hly,?_,?_⟩
 ·exact⟨hos.trans hb.os,htape.trans hb.tape,hout.trans hb.output,by rw[hsize];exact hb.size,fun k hk=>(hoth k (fun e=>hk (e ▸ hbB))).trans (hb.block k hk)⟩
 ·intro t;rw[Du];split
  ·rename_i hc;obtain⟨rfl,_⟩:=hc;exact hnew _ hXeq
  ·rename_i hc;have h0:=hreg t;have hne:Ey (A8 s t)=true->Bh (a.tmps.getD t Bq) ≠ some b:=by
    intro h1 h2;have:=hinj d t b (by rw[hd];exact he) h1 hv h2;subst this;refine hc ⟨rfl,?_⟩;rcases Ct d s.length with hlt | hge
    ·exact hlt
    ·simp only[A8,Z,AI hge] at hd;subst hd;cases he
   cases hrt:A8 s t with
   | val x=>rw[hrt] at h0;exact (Rd.mono h0 hmono).world hext
   | box cs =>
    rw[hrt] at h0 hne;obtain⟨b',e1,e2,e3⟩:=h0;refine⟨b',e1,e2,(e3.mono hmono).world hext (hoth b' ?_)⟩;rintro rfl;exact hne rfl (by rw[e1];rfl)
   | own k n cs =>
    rw[hrt] at h0 hne;refine (Gp.mono h0 hmono).world hext (fun b' hb' _=>hoth b' ?_);rintro rfl;exact hne rfl hb'
   | agn bb k n cs =>
    rw[hrt] at h0 hne;refine (Li.mono h0 hmono).world hext (fun b' hb' _=>hoth b' ?_);rintro rfl;exact hne rfl hb'
   | bxl d' =>
    rw[hrt] at h0 hne;obtain⟨e1,b',e2,e3,e4,e5⟩:=h0;refine⟨e1,b',e2,e3,by rw[hsize];exact e4,fun i hi => ?_⟩;rw[<- e5 i hi];refine FO (hoth b' ?_);rintro rfl;exact hne rfl (by rw[e2];rfl)
   | mem cs =>
    rw[hrt] at h0;obtain⟨b',off,e1,e2,e3⟩:=h0;refine⟨b',off,e1,fun hne hx=>e2 hne ((hXeq _).1 hx),?_⟩;by_cases hnil:cs=[]
    ·subst hnil;exact⟨fun x hx=>(by cases hx),fun i hi=>(by simp at hi)⟩
    ·refine (e3.mono hmono).world hext (fun _=>hoth b' ?_);rintro rfl;exact e2 hnil (.inr hXb)
   | ptr d' off=>rw[hrt] at h0;exact h0
   | dup d'=>rw[hrt] at h0;exact h0
   | sub _ _ _ _=>rw[hrt] at h0;exact h0
   | dead=>trivial
 ·intro t t' c h1 h2 h3 h4;exact hinj t t' c (hex t h1) (hex t' h2) h3 h4
theorem Rel.kill{Y X0:Nat->Prop}{roots:List (Nat × Nat)}{w0:Base}{w:World}{s:Aj}{a:Act}(h:Rel Y X0 roots w0 s a w)(ks:List Nat):Rel Y X0 roots w0 (Go.Ai.kill s ks) a w:=by
 obtain⟨hdf,hs,hb,hl,hly,hreg,hinj⟩:=h;have hXS:∀ b,XS (Go.Ai.kill s ks) a.tmps b->XS s a.tmps b:=by
  rintro b ⟨t,h1,h2⟩;rw[Gn] at h1;split at h1
  ·cases h1
  ·exact⟨t,h1,h2⟩
 have hmono:∀ c,(X0 c\/XS (Go.Ai.kill s ks) a.tmps c)->(X0 c\/XS s a.tmps c)\/w.heap.size<=c:=fun c hc => .inl (hc.imp id (hXS c));refine⟨hdf,by rw[Go.Ai.kill,Gr];exact hs,hb,hl,hly,fun t => ?_,fun t t' b h1 h2 h3 h4 => ?_⟩
 ·rw[Gn];split
  ·trivial
  ·have h0:=hreg t;cases hrt:A8 s t with
   | val x=>rw[hrt] at h0;exact Rd.mono h0 hmono
   | box cs=>rw[hrt] at h0;obtain⟨b,e1,e2,e3⟩:=h0;exact⟨b,e1,e2,e3.mono hmono⟩
   | own k n cs=>rw[hrt] at h0;exact Gp.mono h0 hmono
   | agn bb k n cs=>rw[hrt] at h0;exact Li.mono h0 hmono
   | bxl d'=>rw[hrt] at h0;exact h0
   | mem cs=>rw[hrt] at h0;obtain⟨b,off,e1,e2,e3⟩:=h0;exact⟨b,off,e1,fun hne hx=>e2 hne (hx.imp id (hXS b)),e3.mono hmono⟩
   | ptr d off=>rw[hrt] at h0;exact h0
   | dup d=>rw[hrt] at h0;exact h0
   | sub _ _ _ _=>rw[hrt] at h0;exact h0
   | dead=>trivial
 ·rw[Gn] at h1 h2;split at h1
  ·cases h1
  ·split at h2
   ·cases h2
   ·exact hinj t t' b h1 h2 h3 h4
theorem Rel.ownLow{Y X0:Nat->Prop}{roots:List (Nat × Nat)}{w0:Base}{w:World}{s:Aj}{a:Act}(h:Rel Y X0 roots w0 s a w){x k n:Nat}{cs:List AV}(hx:A8 s x = .own k n cs) :
  (a.tmps.getD x Bq = .slice none 0 0/\n=0/\cs=[]) \/
  ∃ b cap,a.tmps.getD x Bq = .slice (some ⟨b,0,none⟩) n cap/\n<=cap/\cs.length=n*k/\w0.mine b/\GA Y (fun b=>X0 b\/XS s a.tmps b) w b 0 cs/\Wb w b (cap*k)/\XS s a.tmps b:=by
 have h0:=h.reg x;rw[hx] at h0;rcases h0 with h0 | ⟨b,cap,e1,e2,e3,e4,e5,e6⟩
 ·exact .inl h0
 ·exact .inr ⟨b,cap,e1,e2,e3,e4,e5,e6,x,by rw[hx];rfl,by rw[e1];rfl⟩
theorem Rel.exclLow{Y X0:Nat->Prop}{roots:List (Nat × Nat)}{w0:Base}{w:World}{s:Aj}{a:Act}(h:Rel Y X0 roots w0 s a w){x b:Nat}(hx:Ey (A8 s x)=true)(hb:Bh (a.tmps.getD x Bq)=some b):w0.mine b/\b<w.heap.size:=by
 have h0:=h.reg x;cases hrt:A8 s x with
 | box cs =>
  rw[hrt] at h0;obtain⟨b',e1,e2,e3⟩:=h0;rw[e1] at hb;simp only[Bh,H6,AF,A9] at hb;exact hb ▸ ⟨e2,e3.lt⟩
 | own k n cs=>rw[hrt] at h0;exact Gp.block h0 hb
 | agn bb k n cs=>rw[hrt] at h0;exact Li.block h0 hb
 | bxl d' =>
  rw[hrt] at h0;obtain⟨_,b',e1,e2,e3,_⟩:=h0;rw[e1] at hb;simp only[Bh,H6,AF,A9] at hb;exact hb ▸ ⟨e2,e3⟩
 | val x=>rw[hrt] at hx;cases hx
 | ptr d off=>rw[hrt] at hx;cases hx
 | mem cs=>rw[hrt] at hx;cases hx
 | dup d=>rw[hrt] at hx;cases hx
 | sub _ _ _ _=>rw[hrt] at hx;cases hx
 | dead=>rw[hrt] at hx;cases hx
theorem Rel.shift'{Y X0:Nat->Prop}{roots:List (Nat × Nat)}{w0:Base}{w w':World}{s:Aj}{a:Act}(h:Rel Y X0 roots w0 s a w){x d:Nat}{r:Reg}{v:Value}{b':Nat}
  (hx:Ey (A8 s x)=true) (hb:Bh (a.tmps.getD x Bq)=some b') (hks:∀ t,(t,d)∈roots->EP (A8 s t)=false)
  (hos:w'.os=w.os) (htape:w'.tape=w.tape) (hout:w'.output=w.output) (hsize:w'.heap.size=w.heap.size) (hoth:∀ c,c ≠ b'->w'.heap[c]? = w.heap[c]?) (hrb:Ey r=true->Bh v=some b')
  (hnew:∀ X:Nat->Prop,(∀ c,X c->(X0 c\/XS s a.tmps c))->(Ey r=false->¬ X b')->IR Y X w0.mine roots (a.tmps.setIfInBounds d v) w' d v r) :
  Rel Y X0 roots w0 (Ea (BZ s [(x,Reg.dead)]) (some d) r) (a.put (some d) v) w':=by
 have hbB:=(h.exclLow hx hb).1;have hXb:XS s a.tmps b':=⟨x,hx,hb⟩;obtain⟨hdf,hs,hbel,hl,hly,hreg,hinj⟩:=h;have hown:∀ t,Ey (A8 s t)=true->Bh (a.tmps.getD t Bq)=some b'->t=x:=fun t h1 h2=>hinj t x b' h1 hx h2 hb;have key:∀ t,A8 (Ea (BZ s [(x,Reg.dead)]) (some d) r) t=(if d=t/\d<s.length then r else if x=t then .dead else A8 s t):=by
  intro t;simp only[Ea,BZ];rw[Du,Ba,Wa]
 have kv:∀ t,(a.put (some d) v).tmps.getD t Bq=if d=t/\d<s.length then v else a.tmps.getD t Bq:=by
  intro t;simp only[Aaz];rw[LV,hs]
 have hXold:∀ c,XS (Ea (BZ s [(x,Reg.dead)]) (some d) r) (a.put (some d) v).tmps c->XS s a.tmps c:=by
  rintro c ⟨t,h1,h2⟩;rw[key] at h1;rw[kv] at h2;by_cases hc:d=t/\d<s.length
  ·rw[if_pos hc] at h1 h2;rw[hrb h1] at h2;cases h2;exact hXb
  ·rw[if_neg hc] at h1 h2;split at h1
   ·cases h1
   ·exact⟨t,h1,h2⟩
 have hnb:Ey r=false->¬ (X0 b'\/XS (Ea (BZ s [(x,Reg.dead)]) (some d) r) (a.put (some d) v).tmps b'):=by
  rintro he (hx0 | ⟨t,h1,h2⟩)
  ·exact hl b' hx0 hbB
  ·rw[key] at h1;rw[kv] at h2;by_cases hc:d=t/\d<s.length
   ·rw[if_pos hc,he] at h1;cases h1
   ·rw[if_neg hc] at h1 h2;split at h1
    ·cases h1
    ·rename_i hxt;exact hxt (hown t h1 h2).symm
 generalize hXd:(fun c=>X0 c\/XS (Ea (BZ s [(x,Reg.dead)]) (some d) r) (a.put (some d) v).tmps c)=X;have hX1:∀ c,X c->(X0 c\/XS s a.tmps c):=by
  intro c hc;rw[<- hXd] at hc;exact hc.imp id (hXold c)
 have hX2:∀ c,X c->(X0 c\/XS s a.tmps c)\/w'.heap.size<=c:=fun c hc => .inl (hX1 c hc);have hext:∀ c,¬ (X0 c\/XS s a.tmps c)->c<w.heap.size->w'.heap[c]? = w.heap[c]? := by
  intro c hc _;refine hoth c ?_;rintro rfl;exact hc (.inr hXb)
 refine⟨hdf,by simp only[Aaz,R4,Ea,Ba,Gr];exact hs,?_,hl,hly,?_,?_⟩
 ·exact⟨hos.trans hbel.os,htape.trans hbel.tape,hout.trans hbel.output,by rw[hsize];exact hbel.size,fun c hc=>(hoth c (fun e=>hc (e ▸ hbB))).trans (hbel.block c hc)⟩
 ·intro t;rw[hXd,key,kv];by_cases hc:d=t/\d<s.length
  ·rw[if_pos hc,if_pos hc];obtain⟨rfl,_⟩:=hc;exact hnew X hX1 (fun he=>by rw[<- hXd];exact hnb he)
  ·rw[if_neg hc,if_neg hc];by_cases hxt:x=t
   ·rw[if_pos hxt];trivial
   ·rw[if_neg hxt];have h0:=hreg t;have hne:Ey (A8 s t)=true->∀ c,Bh (a.tmps.getD t Bq)=some c->c ≠ b':=by
     intro h1 c h2 e;subst e;exact hxt (hown t h1 h2).symm
    cases hrt:A8 s t with
    | val y=>rw[hrt] at h0;exact (Rd.world h0 hext).mono hX2
    | box cs =>
     rw[hrt] at h0 hne;obtain⟨c,e1,e2,e3⟩:=h0;exact⟨c,e1,e2,(e3.world hext (hoth c (hne rfl c (by rw[e1];rfl)))).mono hX2⟩
    | own k n cs =>
     rw[hrt] at h0 hne;exact (Gp.world h0 hext (fun c hc _=>hoth c (hne rfl c hc))).mono hX2
    | agn bb k n cs =>
     rw[hrt] at h0 hne;exact (Li.world h0 hext (fun c hc _=>hoth c (hne rfl c hc))).mono hX2
    | bxl d' =>
     rw[hrt] at h0 hne;obtain⟨e1,b,e2,e3,e4,e5⟩:=h0;refine⟨e1,b,e2,e3,by rw[hsize];exact e4,fun i hi => ?_⟩;rw[kv,if_neg]
     ·rw[<- e5 i hi];exact FO (hoth b (hne rfl b (by rw[e2];rfl)))
     ·rintro⟨rfl,_⟩;have:=hks t e1;rw[hrt] at this;cases this
    | mem cs =>
     rw[hrt] at h0;obtain⟨c,off,e1,e2,e3⟩:=h0;refine⟨c,off,e1,fun hn hx=>e2 hn (hX1 c hx),?_⟩;by_cases hnil:cs=[]
     ·subst hnil;exact⟨fun x hx=>(by cases hx),fun i hi=>(by simp at hi)⟩
     ·refine (e3.world hext (fun _=>hoth c ?_)).mono hX2;rintro rfl;exact e2 hnil (.inr hXb)
    | ptr d' off =>
     rw[hrt] at h0;obtain⟨e1,p,e2,e3,e4⟩:=h0;refine⟨e1,p,?_,e3,e4⟩;rw[kv,if_neg]
     ·exact e2
     ·rintro⟨rfl,_⟩;have:=hks t e1;rw[hrt] at this;cases this
    | dup d' =>
     rw[hrt] at h0;obtain⟨e1,e2⟩:=h0;refine⟨e1,?_⟩;rw[kv,if_neg]
     ·exact e2
     ·rintro⟨rfl,_⟩;have:=hks t e1;rw[hrt] at this;cases this
    | sub d' _ _ _ =>
     rw[hrt] at h0;obtain⟨e1,e2⟩:=h0;refine⟨e1,?_⟩;rw[kv,if_neg]
     ·exact e2
     ·rintro⟨rfl,_⟩;have:=hks t e1;rw[hrt] at this;cases this
    | dead=>trivial
 ·intro t t' c h1 h2 h3 h4;rw[key] at h1 h2;rw[kv] at h3 h4;by_cases c1:d=t/\d<s.length <;> by_cases c2:d=t'/\d<s.length
  ·exact c1.1.symm.trans c2.1
  ·rw[if_pos c1] at h1 h3;rw[if_neg c2] at h2 h4;split at h2
   ·cases h2
   ·rename_i hxt;rw[hrb h1] at h3;cases h3;exact absurd (hown t' h2 h4).symm hxt
  ·rw[if_neg c1] at h1 h3;rw[if_pos c2] at h2 h4;split at h1
   ·cases h1
   ·rename_i hxt;rw[hrb h2] at h4;cases h4;exact absurd (hown t h1 h3).symm hxt
  ·rw[if_neg c1] at h1 h3;rw[if_neg c2] at h2 h4;split at h1
   ·cases h1
   ·split at h2
    ·cases h2
    ·exact hinj t t' c h1 h2 h3 h4
theorem Rel.shift{Y X0:Nat->Prop}{roots:List (Nat × Nat)}{w0:Base}{w w':World}{s:Aj}{a:Act}(h:Rel Y X0 roots w0 s a w){x d k n:Nat}{cs:List AV}{r:Reg}{v:Value}{b:Nat}
  (hx:A8 s x = .own k n cs) (hb:Bh (a.tmps.getD x Bq)=some b) (hks:∀ t,(t,d)∈roots->EP (A8 s t)=false)
  (hos:w'.os=w.os) (htape:w'.tape=w.tape) (hout:w'.output=w.output) (hsize:w'.heap.size=w.heap.size) (hoth:∀ c,c ≠ b->w'.heap[c]? = w.heap[c]?) (hrb:Ey r=true->Bh v=some b)
  (hnew:∀ X:Nat->Prop,(∀ c,X c->(X0 c\/XS s a.tmps c))->(Ey r=false->¬ X b)->IR Y X w0.mine roots (a.tmps.setIfInBounds d v) w' d v r) :
  Rel Y X0 roots w0 (Ea (BZ s [(x,Reg.dead)]) (some d) r) (a.put (some d) v) w' :=
 h.shift' (by rw[hx];rfl) hb hks hos htape hout hsize hoth hrb hnew
theorem Rel.pass{Y X0:Nat->Prop}{roots:List (Nat × Nat)}{w0:Base}{w:World}{s:Aj}{a:Act}(h:Rel Y X0 roots w0 s a w){x d:Nat}{r:Reg}{v:Value}(hx:Ey (A8 s x)=true)(hv:Bh v=Bh (a.tmps.getD x Bq))
  (hks:∀ t,(t,d)∈roots->EP (A8 s t)=false) (hnew:∀ X:Nat->Prop,(∀ c,X c->(X0 c\/XS s a.tmps c))->IR Y X w0.mine roots (a.tmps.setIfInBounds d v) w d v r) :
  Rel Y X0 roots w0 (Ea (BZ s [(x,Reg.dead)]) (some d) r) (a.put (some d) v) w:=by
 cases hb:Bh (a.tmps.getD x Bq) with
 | none =>
  rw[hb] at hv;refine DA (ks:=[x]) h (If _ _) (fun t ht => .inr (hks t ht)) (fun _ b hb=>by rw[hv] at hb;cases hb) (fun X h1 _=>hnew X fun c hc => ?_);rcases h1 c hc with h2 | ⟨_,h2⟩
  ·exact h2
  ·rw[hv] at h2;cases h2
 | some b=>exact h.shift' hx hb hks rfl rfl rfl rfl (fun _ _=>rfl) (fun _=>by rw[hv,hb]) (fun X h1 _=>hnew X h1)
theorem Rel.wake{Y X0:Nat->Prop}{roots:List (Nat × Nat)}{w0:Base}{w:World}{s:Aj}{a:Act}(h:Rel Y X0 roots w0 s a w){x:Nat}{y:AV}(hx:A8 s x = .dead)
  (hr:Rd Y (fun b=>X0 b\/XS s a.tmps b) w (a.tmps.getD x Bq) y):Rel Y X0 roots w0 (s.set x (.val y)) a w:=by
 obtain⟨hdf,hs,hbel,hl,hly,hreg,hinj⟩:=h;have hex:∀ t,Ey (A8 (s.set x (.val y)) t)=Ey (A8 s t):=by
  intro t;rw[Du];split
  ·rename_i g;rw[<- g.1,hx];rfl
  ·rfl
 have hXS:XS (s.set x (.val y)) a.tmps=XS s a.tmps:=by
  funext b;unfold XS;simp only[hex]
 refine⟨hdf,by rw[Ba];exact hs,hbel,hl,hly,fun t => ?_,fun t t' b h1 h2 h3 h4=>hinj t t' b (by rw[<- hex];exact h1) (by rw[<- hex];exact h2) h3 h4⟩;rw[hXS,Du];split
 ·rename_i g;rw[<- g.1];exact hr
 ·exact hreg t
theorem Rel.unown{Y X0:Nat->Prop}{roots:List (Nat × Nat)}{w0:Base}{w:World}{s:Aj}{a:Act}(h:Rel Y X0 roots w0 s a w){x:Nat}{r:Reg}(hx:Ey (A8 s x)=true)(he:Ey r=false)
  (hnew:∀ X:Nat->Prop,(∀ c,X c->(X0 c\/XS s a.tmps c)\/w.heap.size<=c)->(∀ b,Bh (a.tmps.getD x Bq)=some b->¬ X b)->IR Y X w0.mine roots a.tmps w x (a.tmps.getD x Bq) r):Rel Y X0 roots w0 (s.set x r) a w:=by
 have hlow:=fun b hb=>(h.exclLow (b:=b) hx hb).1;obtain⟨hdf,hs,hbel,hl,hly,hreg,hinj⟩:=h;have hlt:x<s.length:=by
  rcases Ct x s.length with hlt | hge
  ·exact hlt
  ·simp only[A8,Z,AI hge] at hx;cases hx
 have key:∀ t,A8 (s.set x r) t=if x=t then r else A8 s t:=by
  intro t;rw[Du];by_cases hxt:x=t
  ·rw[if_pos ⟨hxt,hlt⟩,if_pos hxt]
  ·rw[if_neg (fun e=>hxt e.1),if_neg hxt]
 have hXold:∀ c,XS (s.set x r) a.tmps c->XS s a.tmps c:=by
  rintro c ⟨t,h1,h2⟩;rw[key] at h1;split at h1
  ·rw[he] at h1;cases h1
  ·exact⟨t,h1,h2⟩
 have hnb:∀ b,Bh (a.tmps.getD x Bq)=some b->¬ (X0 b\/XS (s.set x r) a.tmps b):=by
  rintro b hb (hx0 | ⟨t,h1,h2⟩)
  ·exact hl b hx0 (hlow b hb)
  ·rw[key] at h1;split at h1
   ·rw[he] at h1;cases h1
   ·rename_i hxt;exact hxt (hinj t x b h1 hx h2 hb).symm
 have hmono:∀ c,(X0 c\/XS (s.set x r) a.tmps c)->(X0 c\/XS s a.tmps c)\/w.heap.size<=c:=fun c hc => .inl (hc.imp id (hXold c));refine⟨hdf,by rw[Ba];exact hs,hbel,hl,hly,fun t => ?_,fun t t' b h1 h2 h3 h4 => ?_⟩
 ·rw[key];by_cases hxt:x=t
  ·subst hxt;rw[if_pos rfl];exact hnew _ hmono hnb
  ·rw[if_neg hxt];have h0:=hreg t;cases hrt:A8 s t with
   | val x=>rw[hrt] at h0;exact Rd.mono h0 hmono
   | box cs=>rw[hrt] at h0;obtain⟨b,e1,e2,e3⟩:=h0;exact⟨b,e1,e2,e3.mono hmono⟩
   | own k n cs=>rw[hrt] at h0;exact Gp.mono h0 hmono
   | agn bb k n cs=>rw[hrt] at h0;exact Li.mono h0 hmono
   | bxl d'=>rw[hrt] at h0;exact h0
   | mem cs=>rw[hrt] at h0;obtain⟨b,off,e1,e2,e3⟩:=h0;exact⟨b,off,e1,fun hne hx=>e2 hne (hx.imp id (hXold b)),e3.mono hmono⟩
   | ptr d off=>rw[hrt] at h0;exact h0
   | dup d=>rw[hrt] at h0;exact h0
   | sub _ _ _ _=>rw[hrt] at h0;exact h0
   | dead=>trivial
 ·rw[key] at h1 h2;split at h1
  ·rw[he] at h1;cases h1
  ·split at h2
   ·rw[he] at h2;cases h2
   ·exact hinj t t' b h1 h2 h3 h4
theorem Rel.freeze{Y X0:Nat->Prop}{roots:List (Nat × Nat)}{w0:Base}{w:World}{s:Aj}{a:Act}(h:Rel Y X0 roots w0 s a w){x k n:Nat}{cs:List AV}(hx:A8 s x = .own k n cs):Rel Y X0 roots w0 (s.set x (.val (.sl n cs))) a w:=by
 refine h.unown (by rw[hx];rfl) rfl fun X h1 h2 => ?_;have h0:=h.reg x;rw[hx] at h0;exact Gp.frozen h0 h1 h2 h.lowY
theorem FX.pt{Y X:Nat->Prop}{w:World}{b off:Nat}{cs:List AV}(hX:cs ≠ []->¬ X b)(h:FX Y X w b off cs):Rd Y X w (.pointer (some ⟨b,off,none⟩)) (.pt cs):=by
 obtain⟨hd,hm⟩:=h;refine .pt b off cs (fun i=>(w.cell? ⟨b,off+i,none⟩).getD Bq) hd hX (fun i hi => ?_) (fun i hi => ?_)
 ·obtain⟨u,h1,_⟩:=hm i hi;rw[h1];rfl
 ·obtain⟨u,h1,h2⟩:=hm i hi;rw[h1];exact h2
theorem Aob{Y X:Nat->Prop}{w:World}{v:Value}{cs:List AV}(h:Rd Y X w v (.pt cs)):∃ b off,v = .pointer (some ⟨b,off,none⟩)/\(cs ≠ []->¬ X b)/\FX Y X w b off cs:=by
 cases h with
 | pt b off _ f hd hX hcell hr=>exact⟨b,off,rfl,hX,hd,fun i hi=>⟨f i,hcell i hi,hr i hi⟩⟩
end Go.Ai
