/- Texts of the proof of RootSigns: part 1 of 13. -/
import Derived.Orders
import Derived.Below
namespace Go.Ai
open BitVec renaming ofInt->T
open Bool renaming and_eq_true->Ad,not_eq_true'->Em
open Decidable renaming decide->B
open Function renaming comp->A2b
open List renaming all_cons->Avr,all_eq_true->BQ,cons_append->HO,contains_eq_mem->It,flatMap_cons->WE,getD_eq_getElem?_getD->Z,getElem?_eq_none->AB,getElem?_set_ne->F9,map_cons->Cw,mem_append->BR,mem_append_left->H7,mem_append_right->Nk,mem_cons_of_mem->AS,mem_cons_self->AZ,mem_map->DS,nil_append->Jt,replicate->Ar,set_comm->iR
open Option renaming map_eq_some_iff->Ah,map_some->A4
open Option.some renaming injEq->Ay
open Prod.mk renaming injEq->Dq
inductive Tag where
 | st (b:Bool)
 | tp (b:Bool)
inductive AV where
 | int (k:IntKind) (n:Int)
 | bool (b:Bool)
 | str (s:ByteArray)
 | agg (cs:List AV)
 | nil
 | sl (n:Nat) (cs:List AV)
 | tup (vs:List AV)
 | undef
 | fresh (k n:Nat) (cs:List AV)
 | frs (b:Tag) (k n:Nat) (cs:List AV)
 | pt (cs:List AV)
 | fnc (f:Nat) (cs:List AV)
def AV.cells:AV->List AV
 | .agg cs=>cs
 | x=>[x]
inductive Reg where
 | val (x:AV)
 | box (cs:List AV)
 | ptr (d off:Nat)
 | mem (cs:List AV)
 | own (k n:Nat) (cs:List AV)
 | agn (b:Tag) (k n:Nat) (cs:List AV)
 | bxl (d:Nat)
 | dup (d:Nat)
 | sub (d k l h:Nat)
 | dead
def Fl:Reg->Bool
 | .ptr _ _=>true
 | .dup _=>true
 | .sub _ _ _ _=>true
 | .bxl _=>true
 | _=>false
def Ge:Reg->Bool
 | .val _=>true
 | .box _=>true
 | .mem _=>true
 | .own _ _ _=>true
 | .agn _ _ _ _=>true
 | _=>false
theorem YB{r:Reg}(h:Ge r=true):Fl r=false:=by cases r <;> first | rfl | cases h
abbrev Ak:=List Reg
def A2(s:Ak)(t:Nat):Reg:=s.getD t .dead
def DQ(s:Ak):Option Nat->Reg->Ak
 | none,_=>s
 | some d,r=>s.set d r
def BS(s:Ak):List (Nat × Reg)->Ak
 | []=>s
 | (t,r)::l=>BS (s.set t r) l
def Q:Nat->List Reg->List Reg
 | 0,s=>s
 | n+1,s => .dead::Q n s
inductive Opd where
 | t (n:Nat)
 | c (x:AV)
def Opd.reg(s:Ak):Opd->Reg
 | .t n=>A2 s n
 | .c x => .val x
def Opd.av(s:Ak)(o:Opd):Option AV :=
 match o.reg s with
 | .val x=>some x
 | _=>none
def Opd.rd:Opd->List Nat
 | .t n=>[n]
 | .c _=>[]
inductive K where
 | mov (x:Opd)
 | pick (c a b:Opd)
 | bin (op:BinOp) (x y:Opd)
 | eqb (neg:Bool) (x y:Opd)
 | un (op:UnOp) (x:Opd)
 | cv (k:IntKind) (x:Opd)
 | new (z:List AV) (kills:List Nat)
 | box (x:Opd) (kills:List Nat)
 | bld (z:List AV) (ps:List (Nat × Nat × Opd))
 | bls (n:Nat) (z:List AV) (ps:List (Nat × Nat × Opd))
 | adr (x d off:Nat)
 | ld (x d n:Nat) (one:Bool)
 | st (x d n:Nat) (v:Opd)
 | fld (x:Opd) (off n:Nat) (one:Bool)
 | ixa (x:Nat) (i:Opd) (k:Nat)
 | six (x i:Opd)
 | ext (x:Opd) (i:Nat)
 | len (x:Opd)
 | mx (xs:List Opd)
 | mn (xs:List Opd)
 | call (f:Nat) (xs:List Opd)
 | cpy (x:Nat)
 | tra (x:Nat)
 | frz (x:Nat)
 | mks (z:List AV) (n:Opd)
 | blo (k n:Nat) (z:List AV) (ps:List (Nat × Nat × Opd))
 | apd (ow:Bool) (x y:Opd) (k B:Nat)
 | sli (x:Opd) (lo hi mx:Option Opd) (k:Nat)
 | ixo (x d:Nat) (i:Opd) (k:Nat)
 | lno (x d:Nat)
 | clo (f:Nat) (xs:List Opd)
 | nlo (k:Nat)
 | brw (f x d:Nat)
 | bdo (a:Opd) (x:Nat) (l:List Nat)
 | cln (f:Nat) (xs:List Opd) (l:List Nat)
 | stl (x v:Nat)
 | fdo (x:Nat)
 | exo (x:Nat)
 | slo (x:Nat) (hi:Opd) (k:Nat)
 | bad
structure IOp where
 dst:Option Nat
 k:K
 g:Option (Nat × Bool):=none
 ks:List Nat:=[]
def S(d:Nat)(k:K):IOp:=⟨some d,k,none,[]⟩
def oN(k:K):IOp:=⟨none,k,none,[]⟩
def h(d:Nat)(k:K)(g:Nat)(b:Bool):IOp:=⟨some d,k,some (g,b),[]⟩
def V(d s:Nat):IOp:=⟨some d,.mov (.t s),none,[]⟩
def n(d f:Nat)(l:List Nat):IOp:=⟨some d,.call f (l.map .t),none,[]⟩
def oB(d:Nat)(b:BinOp)(x y:Nat):IOp:=⟨some d,.bin b (.t x) (.t y),none,[]⟩
inductive ICode where
 | skip
 | region (drawn:Bool) (ops:List IOp)
 | seq (a b:ICode)
 | cond (c:Opd) (a b:ICode)
 | block (id:Nat) (c:ICode)
 | loop (c:ICode)
 | scope (c:ICode)
 | exit (id:Nat)
 | ret
inductive IRes where
 | tmp (t:Nat)
 | cell (t n:Nat) (one:Bool)
structure IFunc where
 params:Nat
 slots:Nat
 res:List IRes
 body:ICode
def Afa(op:BinOp)(x y:Int):Option Bool :=
 match op with
 | .eql=>some (x==y)
 | .neq=>some (x != y)
 | .lss=>some (B (x<y))
 | .leq=>some (B (x<=y))
 | .gtr=>some (B (x>y))
 | .geq=>some (B (x>=y))
 | _=>none
def Lp(op:BinOp)(k:IntKind)(x y:Int):Option Int :=
 match op with
 | .and=>some (k.wrap (T k.bits x &&& T k.bits y).toNat)
 | .or=>some (k.wrap (T k.bits x ||| T k.bits y).toNat)
 | .xor=>some (k.wrap (T k.bits x ^^^ T k.bits y).toNat)
 | _=>none
def ZL(op:BinOp)(k:IntKind)(x y:Int):Option AV :=
 match op with
 | .add=>some (.int k (k.wrap (x+y)))
 | .sub=>some (.int k (k.wrap (x-y)))
 | .mul=>some (.int k (k.wrap (x*y)))
 | .quo=>if y=0 then none else some (.int k (k.wrap (x.tdiv y)))
 | .rem=>if y=0 then none else some (.int k (x.tmod y))
 | .and | .or | .xor=>(Lp op k x y).map (.int k)
 | _=>(Afa op x y).map .bool
def Qv(op:BinOp)(k:IntKind)(x y:Int):Option AV :=
 if y<0 then none
 else match op with
  | .shl=>some (.int k (k.wrap (x*2^(min y.toNat k.bits))))
  | .shr=>some (.int k (x.fdiv (2^(min y.toNat k.bits))))
  | _=>none
def IY:BinOp->Bool
 | .shl | .shr=>true
 | _=>false
def L6(op:BinOp)(x y:AV):Option AV :=
 match x,y with
 | .int k a,.int k' b=>if IY op then Qv op k a b else if k=k' then ZL op k a b else none
 | _,_=>none
def unA(op:UnOp)(x:AV):Option AV :=
 match op,x with
 | .neg,.int k n=>some (.int k (k.wrap (0-n)))
 | .not,.bool b=>some (.bool (!b))
 | _,_=>none
def Xp(k:IntKind):Int->List AV->Option Int
 | m,[]=>some m
 | m,.int k' n::l=>if k=k' then Xp k (if n>m then n else m) l else none
 | _,_=>none
def Xq(k:IntKind):Int->List AV->Option Int
 | m,[]=>some m
 | m,.int k' n::l=>if k=k' then Xq k (if n<m then n else m) l else none
 | _,_=>none
def Bm(cs:List AV)(off n:Nat)(one:Bool):Option AV :=
 if one then cs[off]? else if off+n<=cs.length then some (.agg ((cs.drop off).take n)) else none
def Cu(cs:List AV)(off:Nat)(new:List AV):Option (List AV) :=
 if off+new.length<=cs.length then some (cs.take off++new++cs.drop (off+new.length)) else none
def KC:AV->Bool
 | .int _ _ | .bool _ | .str _ | .nil | .sl _ _=>true
 | _=>false
def Gf(x:AV)(n:Nat):Option (List AV) :=
 match x with
 | .agg cs=>if cs.length=n then some cs else none
 | .tup _=>none
 | .undef=>none
 | .fresh _ _ _=>none
 | .frs _ _ _ _=>none
 | .pt _=>none
 | .fnc _ _=>none
 | x=>if n=1 then some [x] else none
def FL(s:Ak):List AV->List (Nat × Nat × Opd)->Option (List AV)
 | cs,[]=>some cs
 | cs,(off,n,o)::ps =>
  match o.av s with
  | none=>none
  | some x=>match Gf x n with
   | none=>none
   | some ys=>match Cu cs off ys with
    | none=>none
    | some cs'=>FL s cs' ps
def avs(s:Ak):List Opd->Option (List AV)
 | []=>some []
 | o::l=>match o.av s with
  | none=>none
  | some x=>match avs s l with
   | none=>none
   | some xs=>some (x::xs)
abbrev BA:=Nat->List AV->Option AV
def Uk:AV->Bool
 | .int _ _=>true
 | _=>false
def L7:AV->Bool
 | .sl _ cs=>cs.all Uk
 | .int _ _=>true
 | .bool _=>true
 | .str _=>true
 | .undef=>true
 | _=>false
def Gx:AV->Bool
 | .agg cs=>cs.all L7
 | x=>L7 x
def Kn:AV->AV
 | .fresh _ n cs => .sl n cs
 | .frs (.st b) _ n cs => .agg [.bool b,.sl n cs]
 | .frs (.tp b) _ n cs => .tup [.sl n cs,.bool b]
 | x=>x
def KD:AV->Reg
 | .fresh k n cs => .own k n cs
 | .frs b k n cs => .agn b k n cs
 | x => .val x
def P2:Opd->List (Nat × Reg)
 | .t n=>[(n,.dead)]
 | .c _=>[]
def Cp(z:List AV):Nat->List AV
 | 0=>[]
 | n+1=>z++Cp z n
def GD(s:Ak)(d:Nat):Option Opd->Option Nat
 | none=>some d
 | some o=>match o.av s with
  | some (.int _ i)=>if 0<=i then some i.toNat else none
  | _=>none
def B7(F:BA)(s:Ak):K->Option (Reg × List (Nat × Reg))
 | .mov x=>(x.av s).map fun v=>(.val v,[])
 | .pick c a b =>
  match c.av s with
  | some (.bool true)=>(a.av s).map fun v=>(.val v,[])
  | some (.bool false)=>(b.av s).map fun v=>(.val v,[])
  | _=>none
 | .bin op x y =>
  match x.av s,y.av s with
  | some a,some b=>(L6 op a b).map fun v=>(.val v,[])
  | _,_=>none
 | .eqb neg x y =>
  match x.av s,y.av s with
  | some (.bool a),some (.bool b)=>some (.val (.bool (if neg then !(a==b) else a==b)),[])
  | _,_=>none
 | .un op x=>match x.av s with
  | some a=>(unA op a).map fun v=>(.val v,[])
  | none=>none
 | .cv k x=>match x.av s with
  | some (.int _ n)=>some (.val (.int k (k.wrap n)),[])
  | _=>none
 | .new z kills=>some (.box z,kills.map fun t=>(t,.dead))
 | .box x kills=>match x.av s with
  | some (.agg cs)=>some (.box cs,kills.map fun t=>(t,.dead))
  | some x=>if KC x then some (.box [x],kills.map fun t=>(t,.dead)) else none
  | none=>none
 | .bld z ps=>(FL s z ps).map fun cs=>(.val (.agg cs),[])
 | .bls n z ps=>(FL s z ps).map fun cs=>(.val (.sl n cs),[])
 | .adr x d off=>match A2 s x with
  | .box _=>if x=d then some (.ptr d off,[]) else none
  | .ptr d' o=>if d'=d then some (.ptr d (o+off),[]) else none
  | .mem cs=>some (.mem (cs.drop off),[])
  | _=>none
 | .ld x d n one=>match A2 s x with
  | .box cs=>if x=d then (Bm cs 0 n one).map fun v=>(.val v,[]) else none
  | .ptr d' off=>if d'=d then (match A2 s d with
   | .box cs=>(Bm cs off n one).map fun v=>(.val v,[])
   | .own _ _ cs=>(Bm cs off n one).map fun v=>(.val v,[])
   | _=>none) else none
  | .mem cs=>(Bm cs 0 n one).map fun v=>(.val v,[])
  | _=>none
 | .st x d n v=>match v.av s with
  | none=>none
  | some a=>match Gf a n with
   | none=>none
   | some ys=>match A2 s x with
    | .box cs=>if x=d then (Cu cs 0 ys).map fun cs'=>(.dead,[(d,.box cs')]) else none
    | .ptr d' off=>if d'=d then (match A2 s d with
     | .box cs=>(Cu cs off ys).map fun cs'=>(.dead,[(d,.box cs')])
     | .own k m cs=>(Cu cs off ys).map fun cs'=>(.dead,[(d,.own k m cs')])
     | _=>none) else none
    | _=>none
 | .fld x off n one=>match x.av s with
  | some (.agg cs)=>(Bm cs off n one).map fun v=>(.val v,[])
  | _=>none
 | .ixa x i k=>match i.av s with
  | some (.int _ i)=>(match A2 s x with
   | .val (.sl n cs)=>if 0<=i/\i<n then some (.mem (cs.drop (i.toNat*k)),[]) else none
   | _=>none)
  | _=>none
 | .six x i=>match x.av s,i.av s with
  | some (.str b),some (.int _ i)=>(if 0<=i then b[i.toNat]? else none).map fun c=>(.val (.int .u8 c.toNat),[])
  | _,_=>none
 | .ext x i=>match x.av s with
  | some (.tup vs)=>(vs[i]?).map fun v=>(.val v,[])
  | _=>none
 | .len x=>match x.av s with
  | some .nil=>some (.val (.int .i64 0),[])
  | some (.sl n _)=>some (.val (.int .i64 n),[])
  | _=>none
 | .mx xs=>match avs s xs with
  | some (.int k n::l)=>(Xp k n l).map fun m=>(.val (.int k m),[])
  | _=>none
 | .mn xs=>match avs s xs with
  | some (.int k n::l)=>(Xq k n l).map fun m=>(.val (.int k m),[])
  | _=>none
 | .call f xs=>match avs s xs with
  | some vs=>(F f vs).map fun v=>(.val (Kn v),[])
  | none=>none
 | .clo f xs=>match avs s xs with
  | some vs=>(F f vs).map fun v=>(KD v,[])
  | none=>none
 | .brw f x d=>match A2 s x with
  | .dup d'=>if d'=d then (match A2 s d with
   | .own _ n cs=>if cs.all (fun c => !Uk c) then (match F f [.sl n cs] with
    | some y=>if Gx (Kn y) then some (.val (Kn y),[]) else none
    | none=>none) else none
   | _=>none) else none
  | _=>none
 | .cpy x=>match A2 s x with
  | .val v=>some (.val v,[])
  | .own _ _ _=>some (.dup x,[])
  | _=>none
 | .tra x=>match A2 s x with
  | .val v=>some (.val v,[])
  | .own k n cs=>some (.own k n cs,[(x,.dead)])
  | .agn b k n cs=>some (.agn b k n cs,[(x,.dead)])
  | _=>none
 | .frz x=>match A2 s x with
  | .val v=>some (.val v,[])
  | .own _ n cs=>some (.val (.sl n cs),[(x,.val (.sl n cs))])
  | _=>none
 | .mks z n=>match n.av s with
  | some (.int _ m)=>if 0<=m/\m<=1048576 then some (.own z.length m.toNat (Cp z m.toNat),[]) else none
  | _=>none
 | .blo k n z ps=>(FL s z ps).map fun cs=>(.own k n cs,[])
 | .apd ow x y k B=>match y.av s with
  | some .nil=>(match x.reg s with
   | .val .nil=>some (.val .nil,[])
   | .own k' n cs=>if k'=k then some (if ow then .own k n cs else .val (.sl n cs),P2 x) else none
   | _=>none)
  | some (.sl m ys)=>if ys.length=m*k then (match x.reg s with
   | .val .nil=>if m<=B then some (if ow then .own k m ys else .val (.sl m ys),[]) else none
   | .own k' n cs=>if k'=k/\n+m<=B then some (if ow then .own k (n+m) (cs++ys) else .val (.sl (n+m) (cs++ys)),P2 x) else none
   | _=>none) else none
  | _=>none
 | .sli x lo hi mx k=>match x.av s with
  | some .nil=>(match GD s 0 mx,GD s 0 hi,GD s 0 lo with
   | some 0,some 0,some 0=>if mx.isSome->hi.isSome then some (.val .nil,[]) else none
   | _,_,_=>none)
  | some (.sl n cs)=>(match GD s n mx,GD s n hi,GD s 0 lo with
   | some m,some h,some l=>if l<=h/\h<=m/\m<=n/\(mx.isSome->hi.isSome) then some (.val (.sl (h-l) ((cs.drop (l*k)).take ((h-l)*k))),[]) else none
   | _,_,_=>none)
  | _=>none
 | .ixo x d i k=>match i.av s with
  | some (.int _ i)=>(match A2 s x with
   | .val (.sl n cs)=>if 0<=i/\i<n then some (.mem (cs.drop (i.toNat*k)),[]) else none
   | .dup d'=>if d'=d then (match A2 s d with
    | .own k' n _=>if k'=k/\0<=i/\i<n then some (.ptr d (i.toNat*k),[]) else none
    | _=>none) else none
   | _=>none)
  | _=>none
 | .lno x d=>match A2 s x with
  | .val .nil=>some (.val (.int .i64 0),[])
  | .val (.sl n _)=>some (.val (.int .i64 n),[])
  | .dup d'=>if d'=d then (match A2 s d with
   | .own _ n _=>some (.val (.int .i64 n),[])
   | _=>none) else none
  | _=>none
 | .nlo k=>some (.own k 0 [],[])
 | .bdo a x l=>match a.av s with
  | some (.bool b)=>(match A2 s x with
   | .own k n cs=>if l.all (fun t=>Ge (A2 s t)) then some (.agn (.st b) k n cs,[(x,.dead)]) else none
   | _=>none)
  | _=>none
 | .cln f xs l=>match avs s xs with
  | some vs=>if l.all (fun t=>Ge (A2 s t)) then (F f vs).map fun v=>(KD v,[]) else none
  | none=>none
 | .stl x v=>match A2 s x with
  | .box cs=>(match A2 s v with
   | .agn (.st _) _ _ _=>if cs.length=2 then some (.dead,[(x,.bxl v)]) else none
   | _=>none)
  | _=>none
 | .fdo x=>match A2 s x with
  | .agn (.st _) k n cs=>some (.own k n cs,[(x,.dead)])
  | _=>none
 | .exo x=>match A2 s x with
  | .agn (.tp b) k n cs=>some (.own k n cs,[(x,.val (.tup [.sl n [],.bool b]))])
  | _=>none
 | .slo x hi k=>match hi.av s with
  | some (.int _ h)=>(match A2 s x with
   | .own k' n cs=>if k'=k/\0<=h/\h<=n then some (.own k h.toNat (cs.take (h.toNat*k)),[(x,.dead)]) else none
   | _=>none)
  | _=>none
 | .bad=>none
def GE(s:Ak):Option (Nat × Bool)->Option Bool
 | none=>some true
 | some (t,b)=>match A2 s t with
  | .val (.bool c)=>some (c==b)
  | .val .undef=>some false
  | _=>none
def kill(s:Ak)(ks:List Nat):Ak:=BS s (ks.map fun t=>(t,.dead))
def H_(F:BA)(o:IOp)(s:Ak):Option Ak :=
 match GE s o.g with
 | none=>none
 | some false=>some (DQ s o.dst (.val .undef))
 | some true=>match B7 F s o.k with
  | none=>none
  | some (r,l)=>some (DQ (BS s l) o.dst r)
def FM(F:BA)(o:IOp)(s:Ak):Option Ak:=H_ F o (kill s o.ks)
def D_(F:BA):List IOp->Ak->Option Ak
 | [],s=>some s
 | o::l,s=>match FM F o s with
  | none=>none
  | some s'=>D_ F l s'
inductive Ex where
 | norm
 | exit (id:Nat)
 | ret
def Js(s:Ak)(c:Opd):Option Bool :=
 match c.av s with
 | some (.bool b)=>some b
 | _=>none
def Cg(F:BA):Nat->ICode->Ak->Option (Ex × Ak)
 | 0,_,_=>none
 | _+1,.skip,s=>some (.norm,s)
 | _+1,.region _ ops,s=>(D_ F ops s).map fun s'=>(.norm,s')
 | n+1,.seq a b,s=>match Cg F n a s with
  | some (.norm,s')=>Cg F n b s'
  | r=>r
 | n+1,.cond c a b,s=>match Js s c with
  | some true=>Cg F n a s
  | some false=>Cg F n b s
  | none=>none
 | n+1,.block id c,s=>match Cg F n c s with
  | some (.exit i,s')=>if i=id then some (.norm,s') else some (.exit i,s')
  | r=>r
 | n+1,.loop c,s=>match Cg F n c s with
  | some (.norm,s')=>Cg F n (.loop c) s'
  | r=>r
 | n+1,.scope c,s=>Cg F n c s
 | _+1,.exit id,s=>some (.exit id,s)
 | _+1,.ret,s=>some (.ret,s)
def EH(s:Ak):IRes->Option AV
 | .tmp t=>match A2 s t with
  | .val x=>some x
  | .own _ n cs=>some (.sl n cs)
  | _=>none
 | .cell t n one=>match A2 s t with
  | .box cs=>Bm cs 0 n one
  | _=>none
def DJ(s:Ak):List IRes->Option (List AV)
 | []=>some []
 | r::l=>match EH s r with
  | none=>none
  | some x=>match DJ s l with
   | none=>none
   | some xs=>some (x::xs)
def HA(s:Ak):List IRes->Option AV
 | [.tmp t]=>match A2 s t with
  | .own k n cs=>some (.fresh k n cs)
  | .agn b k n cs=>some (.frs b k n cs)
  | _=>none
 | [.tmp t,.tmp u]=>match A2 s t with
  | .own k n cs=>(match A2 s u with
   | .val (.bool b)=>some (.frs (.tp b) k n cs)
   | _=>none)
  | _=>none
 | [.cell t n one]=>match A2 s t with
  | .bxl d=>(match A2 s d with
   | .agn (.st b) k m cs=>if n=2/\one=false then some (.frs (.st b) k m cs) else none
   | _=>none)
  | _=>none
 | _=>none
def H0(s:Ak)(l:List IRes):Option AV :=
 match HA s l with
 | some x=>some x
 | none =>
 match DJ s l with
 | some [x]=>some x
 | some xs=>some (.tup xs)
 | none=>none
def KE:AV->Reg
 | .pt cs => .mem cs
 | x => .val x
def HG(fn:IFunc)(args:List AV):Ak:=args.map KE++Ar (fn.slots-args.length) .dead
def Nr(prog:Nat->Option IFunc):Nat->BA
 | 0,_,_=>none
 | n+1,f,args=>match prog f with
  | none=>none
  | some fn=>if args.length=fn.params then (match Cg (Nr prog n) n fn.body (HG fn args) with
   | some (.exit _,_)=>none
   | some (_,s)=>H0 s fn.res
   | none=>none) else none
abbrev sL{α:Type}(f:List α->List AV)(xs:List α):AV:=.sl xs.length (f xs)
def rg:List IOp -> ICode:=.region false
def ci(n:Int):Opd:=.c (.int .i64 n)
def cb(b:Bool):Opd:=.c (.bool b)
def e(l:List IOp)(b:ICode):ICode:=.seq (.region false l) b
instance(n:Nat):OfNat Opd n:=⟨.t n⟩
def oL(d a b c:Nat):IOp:=⟨some d,.ld a b c false,none,[]⟩
def oE(d a b:Nat):IOp:=⟨some d,.ext (.t a) b,none,[]⟩
def oS(a b c d:Nat):IOp:=⟨none,.st a b c (.t d),none,[]⟩
def oA(d a b c:Nat):IOp:=⟨some d,.ixa a (.t b) c,none,[]⟩
def oI(d:Nat)(b:BinOp)(x:Nat)(n:Int):IOp:=⟨some d,.bin b (.t x) (.c (.int .i64 n)),none,[]⟩
def Me(l:List Opd):List Nat:=l.flatMap Opd.rd
def rdO:Option Opd->List Nat
 | none=>[]
 | some o=>o.rd
def Ul(l:List (Nat × Nat × Opd)):List Nat:=l.flatMap fun p=>p.2.2.rd
def rdK:K->List Nat
 | .mov x=>x.rd
 | .pick c a b=>c.rd++(a.rd++b.rd)
 | .bin _ x y=>x.rd++y.rd
 | .eqb _ x y=>x.rd++y.rd
 | .un _ x=>x.rd
 | .cv _ x=>x.rd
 | .new _ _=>[]
 | .box x _=>x.rd
 | .bld _ ps=>Ul ps
 | .bls _ _ ps=>Ul ps
 | .adr x _ _=>[x]
 | .ld x d _ _=>[x,d]
 | .st x d _ v=>x::d::v.rd
 | .fld x _ _ _=>x.rd
 | .ixa x i _=>x::i.rd
 | .six x i=>x.rd++i.rd
 | .ext x _=>x.rd
 | .len x=>x.rd
 | .mx xs=>Me xs
 | .mn xs=>Me xs
 | .call _ xs=>Me xs
 | .clo _ xs=>Me xs
 | .cpy x=>[x]
 | .tra x=>[x]
 | .frz x=>[x]
 | .mks _ n=>n.rd
 | .blo _ _ _ ps=>Ul ps
 | .apd _ x y _ _=>x.rd++y.rd
 | .sli x lo hi mx _=>x.rd++(rdO lo++(rdO hi++rdO mx))
 | .ixo x d i _=>x::d::i.rd
 | .lno x d=>[x,d]
 | .nlo _=>[]
 | .brw _ x d=>[x,d]
 | .bdo a x l=>x::(a.rd++l)
 | .cln _ xs l=>Me xs++l
 | .stl x v=>[x,v]
 | .fdo x=>[x]
 | .exo x=>[x]
 | .slo x hi _=>x::hi.rd
 | .bad=>[]
def P3:K->List Nat
 | .new _ kills=>kills
 | .box _ kills=>kills
 | .st _ d _ _=>[d]
 | .tra x=>[x]
 | .frz x=>[x]
 | .apd _ x _ _ _=>x.rd
 | .bdo _ x _=>[x]
 | .stl x _=>[x]
 | .fdo x=>[x]
 | .exo x=>[x]
 | .slo x _ _=>[x]
 | _=>[]
def IOp.rd(o:IOp):List Nat:=rdK o.k++(o.g.toList.map (·.1))
def IOp.wr(o:IOp):List Nat:=P3 o.k++(o.dst.toList++o.ks)
def EW(l:List Nat)(s s':Ak):Prop:=∀ t∈l,A2 s t=A2 s' t
theorem EW.left{l m:List Nat}{s s':Ak}(h:EW (l++m) s s'):EW l s s':=fun t ht=>h t (H7 _ ht)
theorem EW.right{l m:List Nat}{s s':Ak}(h:EW (l++m) s s'):EW m s s':=fun t ht=>h t (Nk _ ht)
theorem EW.head{t:Nat}{m:List Nat}{s s':Ak}(h:EW (t::m) s s'):A2 s t=A2 s' t:=h t (AZ ..)
theorem EW.tail{t:Nat}{m:List Nat}{s s':Ak}(h:EW (t::m) s s'):EW m s s':=fun u hu=>h u (AS _ hu)
theorem r{o:Opd}{s s':Ak}(h:EW o.rd s s'):o.av s=o.av s':=by
 cases o with
 | t n=>simp only[Opd.av,Opd.reg,h n (by simp[Opd.rd])]
 | c x=>rfl
theorem Um{o:Opd}{s s':Ak}(h:EW o.rd s s'):o.reg s=o.reg s':=by
 cases o with
 | t n=>simp only[Opd.reg,h n (by simp[Opd.rd])]
 | c x=>rfl
theorem Ns{o:Option Opd}{d:Nat}{s s':Ak}(h:EW (rdO o) s s'):GD s d o=GD s' d o:=by
 cases o with
 | none=>rfl
 | some o=>simp only[GD,r (o:=o) h]
theorem I1{s s':Ak}:∀ {l:List Opd},EW (Me l) s s'->avs s l=avs s' l
 | [],_=>rfl
 | o::l,h=>by
  have h1:EW o.rd s s':=fun t ht=>h t (by simp[Me,ht]);have h2:EW (Me l) s s':=fun t ht=>h t (by simp only[Me,WE,BR];exact .inr ht);simp only[avs,r h1,I1 h2]
theorem JI{s s':Ak}:∀ {ps:List (Nat × Nat × Opd)} {cs:List AV},EW (Ul ps) s s'->FL s cs ps=FL s' cs ps
 | [],_,_=>rfl
 | (off,n,o)::ps,cs,h=>by
  have h1:EW o.rd s s':=fun t ht=>h t (by simp[Ul,ht]);have h2:EW (Ul ps) s s':=fun t ht=>h t (by simp only[Ul,WE,BR];exact .inr ht);have ih:∀ cs':List AV,FL s cs' ps=FL s' cs' ps:=fun cs'=>JI h2;simp only[FL,r h1,ih]
theorem Un{l:List Nat}{s s':Ak}{p:Reg->Bool}(h:EW l s s'):(l.all fun t=>p (A2 s t))=(l.all fun t=>p (A2 s' t)):=by
 induction l with
 | nil=>rfl
 | cons t l ih=>simp only[Avr,h.head,ih h.tail]
theorem iS{F:BA}{k:K}{s s':Ak}(h:EW (rdK k) s s'):B7 F s k=B7 F s' k:=by
 cases k <;> simp only[rdK] at h
 case mov x=>simp only[B7,r h]
 case pick c a b=>simp only[B7,r h.left,r h.right.left,r h.right.right]
 case bin op x y=>simp only[B7,r h.left,r h.right]
 case eqb neg x y=>simp only[B7,r h.left,r h.right]
 case un op x=>simp only[B7,r h]
 case cv k x=>simp only[B7,r h]
 case new z kills=>rfl
 case box x kills=>simp only[B7,r h]
 case bld z ps=>simp only[B7,JI h]
 case bls n z ps=>simp only[B7,JI h]
 case adr x d off=>simp only[B7,h.head]
 case ld x d n one=>simp only[B7,h.head,h.tail.head]
 case st x d n v=>simp only[B7,h.head,h.tail.head,r h.tail.tail]
 case fld x off n one=>simp only[B7,r h]
 case ixa x i k=>simp only[B7,h.head,r h.tail]
 case six x i=>simp only[B7,r h.left,r h.right]
 case ext x i=>simp only[B7,r h]
 case len x=>simp only[B7,r h]
 case mx xs=>simp only[B7,I1 h]
 case mn xs=>simp only[B7,I1 h]
 case call f xs=>simp only[B7,I1 h]
 case clo f xs=>simp only[B7,I1 h]
 case cpy x=>simp only[B7,h.head]
 case tra x=>simp only[B7,h.head]
 case frz x=>simp only[B7,h.head]
 case mks z n=>simp only[B7,r h]
 case blo k n z ps=>simp only[B7,JI h]
 case apd ow x y k B=>simp only[B7,Um h.left,r h.right]
 case sli x lo hi mx k=>simp only[B7,r h.left,Ns h.right.left,Ns h.right.right.left,Ns h.right.right.right]
 case ixo x d i k=>simp only[B7,h.head,h.tail.head,r h.tail.tail]
 case lno x d=>simp only[B7,h.head,h.tail.head]
 case nlo k=>rfl
 case bdo a x l =>
  have hl:(l.all fun t=>Ge (A2 s t))=(l.all fun t=>Ge (A2 s' t)):=Un (p:=Ge) h.tail.right;simp only[B7,h.head,r h.tail.left,hl]
 case cln f xs l =>
  have hl:(l.all fun t=>Ge (A2 s t))=(l.all fun t=>Ge (A2 s' t)):=Un (p:=Ge) h.right;simp only[B7,I1 h.left,hl]
 case stl x v=>simp only[B7,h.head,h.tail.head]
 case fdo x=>simp only[B7,h.head]
 case exo x=>simp only[B7,h.head]
 case slo x hi k=>simp only[B7,h.head,r h.tail]
 case brw f x d=>simp only[B7,h.head,h.tail.head]
 case bad=>rfl
theorem tH{F:BA}{k:K}{s:Ak}{r:Reg}{l:List (Nat × Reg)}(h:B7 F s k=some (r,l)):∀ p∈l,p.1∈P3 k:=by
 cases k
 case new z kills=>simp only[B7,Ay,Dq] at h;obtain⟨_,rfl⟩:=h;simp[P3]
 case box x kills =>
  simp only[B7] at h;split at h
  ·simp only[Ay,Dq] at h;obtain⟨_,rfl⟩:=h;simp[P3]
  ·split at h
   ·simp only[Ay,Dq] at h;obtain⟨_,rfl⟩:=h;simp[P3]
   ·cases h
  ·cases h
 case st x d n v =>
  simp only[B7] at h;split at h
  ·cases h
  ·split at h
   ·cases h
   ·split at h
    ·split at h
     ·simp only[Ah] at h;obtain⟨a,_,h⟩:=h;cases h;simp[P3]
     ·cases h
    ·split at h
     ·split at h
      ·simp only[Ah] at h;obtain⟨a,_,h⟩:=h;cases h;simp[P3]
      ·simp only[Ah] at h;obtain⟨a,_,h⟩:=h;cases h;simp[P3]
      ·cases h
     ·cases h
    ·cases h
 case tra x =>
  simp only[B7] at h;split at h <;> cases h <;> simp[P3]
 case frz x =>
  simp only[B7] at h;split at h <;> cases h <;> simp[P3]
 case bdo a x ls =>
  simp only[B7] at h;repeat' split at h
  all_goals cases h
  simp[P3]
 case stl x v =>
  simp only[B7] at h;repeat' split at h
  all_goals cases h
  simp[P3]
 case fdo x =>
  simp only[B7] at h;split at h <;> cases h;simp[P3]
 case exo x =>
  simp only[B7] at h;split at h <;> cases h;simp[P3]
 case slo x hi k =>
  simp only[B7] at h;repeat' split at h
  all_goals cases h
  simp[P3]
 case apd ow x y k B =>
  have hk:∀ p∈P2 x,p.1∈x.rd:=by cases x <;> simp[P2,Opd.rd]
  simp only[B7] at h;intro p hp;repeat' split at h
  all_goals first
   | (cases h;exact hk p hp)
   | (cases h;cases hp)
   | cases h
 all_goals
  have:l=[]:=by
   revert h;simp only[B7];repeat' split
   all_goals
    intro h;first
     | cases h;rfl
     | (simp only[Ah] at h;obtain⟨_,_,h⟩:=h;cases h;rfl)
     | cases h
  subst this;intro p hp;cases hp
def Xr(F:BA)(o:IOp)(s:Ak):Option (List (Nat × Reg)) :=
 match GE s o.g with
 | none=>none
 | some false=>some (o.dst.toList.map fun d=>(d,.val .undef))
 | some true=>(B7 F s o.k).map fun p=>p.2++o.dst.toList.map fun d=>(d,p.1)
def Uo(F:BA)(o:IOp)(s:Ak):Option (List (Nat × Reg)):=(Xr F o (kill s o.ks)).map fun l=>(o.ks.map fun t=>(t,Reg.dead))++l
theorem Pc(s:Ak)(l m:List (Nat × Reg)):BS s (l++m)=BS (BS s l) m:=by
 induction l generalizing s with
 | nil=>rfl
 | cons p l ih=>obtain⟨t,r⟩:=p;simp only[HO,BS,ih]
theorem ZM(s:Ak)(d:Option Nat)(r:Reg):DQ s d r=BS s (d.toList.map fun d=>(d,r)):=by
 cases d <;> rfl
theorem Xs(F:BA)(o:IOp)(s:Ak):H_ F o s=(Xr F o s).map (BS s):=by
 simp only[H_,Xr];cases GE s o.g with
 | none=>rfl
 | some b =>
  cases b with
  | false=>simp only[A4,ZM]
  | true =>
   cases B7 F s o.k with
   | none=>rfl
   | some p=>obtain⟨r,l⟩:=p;simp only[A4,Pc,ZM]
theorem Up(F:BA)(o:IOp)(s:Ak):FM F o s=(Uo F o s).map (BS s):=by
 simp only[FM,Uo,Xs,Option.map_map];congr 1;funext l;simp only[A2b,Pc,kill]
theorem YC{s:Ak}{t u:Nat}{r:Reg}(h:t ≠ u):A2 (s.set t r) u=A2 s u:=by
 simp only[A2,Z,F9 h]
theorem Dn(s:Ak)(d:Nat)(r:Reg)(t:Nat):A2 (s.set d r) t=if d=t/\d<s.length then r else A2 s t:=by
 simp only[A2,Z,List.getElem?_set];by_cases h:d=t
 ·subst h;by_cases h2:d<s.length
  ·simp[h2]
  ·simp[h2]
 ·simp[h]
theorem SE(k:Nat)(s:Ak)(t:Nat):A2 (s.set k .dead) t=if k=t then .dead else A2 s t:=by
 rw[Dn];by_cases h:k=t
 ·subst h;rw[if_pos rfl];split
  ·rfl
  ·rename_i hn;have:s.length<=k:=by simpa using hn
   simp only[A2,Z,AB this];rfl
 ·rw[if_neg h,if_neg (fun e=>h e.1)]
theorem Fz(ks:List Nat):∀ (s:Ak) (t:Nat),A2 (kill s ks) t=if t∈ks then .dead else A2 s t:=by
 unfold kill;induction ks with
 | nil=>intro s t;simp[BS]
 | cons k ks ih =>
  intro s t;simp only[Cw,BS];rw[ih,SE];by_cases h1:t∈ks
  ·simp[h1]
  ·by_cases h2:k=t
   ·subst h2;simp
   ·have h2':¬ t=k:=fun e=>h2 e.symm;simp[h1,h2,h2']
theorem ZN{l ks:List Nat}{s s':Ak}(h:EW l s s'):EW l (kill s ks) (kill s' ks):=by
 intro t ht;rw[Fz,Fz,h t ht]
theorem YD{g:Option (Nat × Bool)}{s s':Ak}(h:EW (g.toList.map (·.1)) s s'):GE s g=GE s' g:=by
 cases g with
 | none=>rfl
 | some p=>obtain⟨t,b⟩:=p;simp only[GE,h t (by simp)]
theorem Uq{F:BA}{o:IOp}{s s':Ak}(h:EW o.rd s s'):Uo F o s=Uo F o s':=by
 have h':EW o.rd (kill s o.ks) (kill s' o.ks):=ZN h;simp only[Uo,Xr,YD h'.right,iS h'.left]
theorem Ur{F:BA}{o:IOp}{s:Ak}{l:List (Nat × Reg)}(h:Xr F o s=some l):∀ p∈l,p.1∈o.wr:=by
 simp only[Xr] at h;intro p hp;split at h
 ·cases h
 ·cases h;simp only[DS] at hp;obtain⟨d,hd,rfl⟩:=hp;exact Nk _ (H7 _ hd)
 ·simp only[Ah] at h;obtain⟨⟨r,l'⟩,hk,rfl⟩:=h;rcases BR.1 hp with hp | hp
  ·exact H7 _ (tH hk p hp)
  ·simp only[DS] at hp;obtain⟨d,hd,rfl⟩:=hp;exact Nk _ (H7 _ hd)
theorem Xt{F:BA}{o:IOp}{s:Ak}{l:List (Nat × Reg)}(h:Uo F o s=some l):∀ p∈l,p.1∈o.wr:=by
 simp only[Uo,Ah] at h;obtain⟨l,h,rfl⟩:=h;intro p hp;rcases BR.1 hp with hp | hp
 ·simp only[DS] at hp;obtain⟨t,ht,rfl⟩:=hp;simp[IOp.wr,ht]
 ·exact Ur h p hp
theorem Nt{l:List (Nat × Reg)}{u:Nat}:∀ {s:Ak},(∀ p∈l,p.1 ≠ u)->A2 (BS s l) u=A2 s u:=by
 induction l with
 | nil=>intro s _;rfl
 | cons p l ih =>
  intro s h;obtain⟨t,r⟩:=p;simp only[BS];rw[ih (fun q hq=>h q (AS _ hq)),YC (h (t,r) (AZ ..))]
theorem iT{l:List (Nat × Reg)}{t:Nat}{r:Reg}:∀ {s:Ak},(∀ p∈l,p.1 ≠ t)->BS (s.set t r) l=(BS s l).set t r:=by
 induction l with
 | nil=>intro s _;rfl
 | cons p l ih =>
  intro s h;obtain⟨u,q⟩:=p;simp only[BS];rw[iR _ _ (Ne.symm (h (u,q) (AZ ..))),ih (fun p hp=>h p (AS _ hp))]
theorem ZO{l m:List (Nat × Reg)}:∀ {s:Ak},(∀ p∈l,∀ q∈m,p.1 ≠ q.1)->BS (BS s l) m=BS (BS s m) l:=by
 induction l with
 | nil=>intro s _;rfl
 | cons p l ih =>
  intro s h;obtain⟨t,r⟩:=p;simp only[BS];rw[ih (fun p hp q hq=>h p (AS _ hp) q hq),iT (fun q hq=>Ne.symm (h (t,r) (AZ ..) q hq))]
def P4(a b:IOp):Bool:=a.wr.all (fun t => !(b.rd.contains t) && !(b.wr.contains t))&&b.wr.all (fun t => !(a.rd.contains t))
theorem ZP{a b:IOp}(h:P4 a b=true):(∀ t∈a.wr,t ∉ b.rd/\t ∉ b.wr)/\∀ t∈b.wr,t ∉ a.rd:=by
 simp only[P4,Ad,BQ,Em,It,decide_eq_false_iff_not] at h;exact h
theorem iU{F:BA}{a b:IOp}{s s1 s2:Ak}(hi:P4 a b=true)(h1:FM F a s=some s1)(h2:FM F b s1=some s2) :
  ∃ s',FM F b s=some s'/\FM F a s'=some s2:=by
 obtain⟨hab,hba⟩:=ZP hi;rw[Up] at h1 h2;simp only[Ah] at h1 h2;obtain⟨la,ha,rfl⟩:=h1;obtain⟨lb,hb,rfl⟩:=h2;have ka:=Xt ha;have kb:=Xt hb;have e1:Uo F b (BS s la)=Uo F b s:=Uq fun t ht=>Nt fun p hp e=>(hab p.1 (ka p hp)).1 (e ▸ ht);rw[e1] at hb;have e2:Uo F a (BS s lb)=Uo F a s:=Uq fun t ht=>Nt fun p hp e=>hba p.1 (kb p hp) (e ▸ ht);refine⟨BS s lb,by rw[Up,hb];rfl,?_⟩;rw[Up,e2,ha];simp only[A4,Ay];exact (ZO fun p hp q hq e=>(hab p.1 (ka p hp)).2 (e ▸ kb q hq)).symm
theorem YE{F:BA}{o:IOp}{l:List IOp}:∀ {s s2:Ak} {m:List IOp},(∀ p∈m,P4 p o=true)->D_ F (m++o::l) s=some s2 ->
  ∃ s1,FM F o s=some s1/\D_ F (m++l) s1=some s2:=by
 intro s s2 m;induction m generalizing s with
 | nil =>
  intro _ h;simp only[Jt,D_] at h |-;cases h1:FM F o s with
  | none=>rw[h1] at h;cases h
  | some s1=>rw[h1] at h;exact⟨s1,rfl,h⟩
 | cons p m ih =>
  intro hp h;simp only[HO,D_] at h |-;cases h1:FM F p s with
  | none=>rw[h1] at h;cases h
  | some s1 =>
   rw[h1] at h;obtain⟨s3,h3,h4⟩:=ih (fun q hq=>hp q (AS _ hq)) h;obtain⟨s',h5,h6⟩:=iU (hp p (AZ ..)) h1 h3;exact⟨s',h5,by rw[h6];exact h4⟩
end Go.Ai
namespace Go.Ai
open Go.RowKit
open _root_.Array renaming getD_eq_getD_getElem?->CB,getElem?_eq_none->Awd,getElem?_eq_some_iff->E9,getElem?_setIfInBounds->P1,size_setIfInBounds->O0
open Go renaming undef->Bw
open Go.Act renaming put->qX
open Go.RowKit.Below renaming refl->Hw
open Go.World renaming cell?->Uh
open List renaming all_eq_true->BQ,getD_eq_getElem?_getD->Z,getElem?_eq_none->AB,getElem_mem->Ds,length_pos_iff->Aj,length_set->AW,map_cons->Cw,mem_cons->CS,mem_of_mem_drop->EK,not_mem_nil->TG
open Nat renaming add_assoc->D6,lt_of_lt_of_le->EL,lt_or_ge->Ck
open Option renaming map_some->A4
open Option.some renaming injEq->Ay
def Nu(cs:List AV):Prop:=∀ x∈cs,KC x=true
inductive Rd (Y X:Nat->Prop) (w:World):Value->AV->Prop where
 | int (k:IntKind) (n:Int):Rd Y X w (.int k n) (.int k n)
 | bool (b:Bool):Rd Y X w (.bool b) (.bool b)
 | str (s:ByteArray):Rd Y X w (.string s) (.str s)
 | undef:Rd Y X w Bw .undef
 | agg (vs:Array Value) (cs:List AV) (hd:Nu cs) (h:vs.size=cs.length) (hc:∀ (i:Nat) (h1:i<vs.size) (h2:i<cs.length),Rd Y X w vs[i] cs[i]):Rd Y X w (.agg vs) (.agg cs)
 | tup (vs:Array Value) (cs:List AV) (h:vs.size=cs.length) (hc:∀ (i:Nat) (h1:i<vs.size) (h2:i<cs.length),Rd Y X w vs[i] cs[i]):Rd Y X w (.tuple vs) (.tup cs)
 | nil:Rd Y X w (.slice none 0 0) .nil
 | nil0:Rd Y X w (.slice none 0 0) (.sl 0 [])
 | e0 (a:Addr) (c:Nat):Rd Y X w (.slice (some a) 0 c) (.sl 0 [])
 | sl (b off n cap:Nat) (cs:List AV) (f:Nat->Value) (hd:Nu cs) (hn:n<=cap) (hX:cs ≠ []->¬ X b) (hY:(∃ c∈cs,Uk c=true)->¬ Y b) (hcell:∀ i,i<cs.length->w.cell? ⟨b,off+i,none⟩=some (f i))
   (hr:∀ (i:Nat) (h:i<cs.length),Rd Y X w (f i) cs[i]):Rd Y X w (.slice (some ⟨b,off,none⟩) n cap) (.sl n cs)
 | pt (b off:Nat) (cs:List AV) (f:Nat->Value) (hd:Nu cs) (hX:cs ≠ []->¬ X b) (hcell:∀ i,i<cs.length->w.cell? ⟨b,off+i,none⟩=some (f i))
   (hr:∀ (i:Nat) (h:i<cs.length),Rd Y X w (f i) cs[i]):Rd Y X w (.pointer (some ⟨b,off,none⟩)) (.pt cs)
 | fnc (g:Nat) (u:Value) (cs:List AV) (h:Rd Y X w u (.pt cs)):Rd Y X w (.func (.func g) #[] #[u]) (.fnc g cs)
theorem EX{w w':World}{p:Addr}(h:w'.heap[p.block]?=w.heap[p.block]?):w'.cell? p=w.cell? p:=by
 simp only[Uh,h]
theorem JW{w:World}{p:Addr}{v:Value}(h:w.cell? p=some v):p.block<w.heap.size:=by
 rcases Ck p.block w.heap.size with h1 | h1
 ·exact h1
 ·simp[Uh,Awd h1] at h
theorem Rd.world{Y X:Nat->Prop}{w w':World}{v:Value}{x:AV}(h:Rd Y X w v x)(hw:∀ b,¬ X b->b<w.heap.size->w'.heap[b]?=w.heap[b]?):Rd Y X w' v x:=by
 induction h with
 | int k n=>exact .int k n
 | bool b=>exact .bool b
 | str s=>exact .str s
 | undef=>exact .undef
 | agg vs cs hd h hc ih=>exact .agg vs cs hd h ih
 | tup vs cs h hc ih=>exact .tup vs cs h ih
 | nil=>exact .nil
 | nil0=>exact .nil0
 | e0 a c=>exact .e0 a c
 | sl b off n cap cs f hd hn hX hY hcell hr ih =>
  refine .sl b off n cap cs f hd hn hX hY (fun i hi => ?_) ih;have h1:=hcell i hi;rw[EX (hw b (hX (by intro e;subst e;simp at hi)) (JW h1))];exact h1
 | pt b off cs f hd hX hcell hr ih =>
  refine .pt b off cs f hd hX (fun i hi => ?_) ih;have h1:=hcell i hi;rw[EX (hw b (hX (by intro e;subst e;simp at hi)) (JW h1))];exact h1
 | fnc g u cs h ih=>exact .fnc g u cs ih
theorem Rd.mono{Y X X':Nat->Prop}{w:World}{v:Value}{x:AV}(h:Rd Y X w v x)(hX:∀ b,X' b->X b\/w.heap.size<=b):Rd Y X' w v x:=by
 induction h with
 | int k n=>exact .int k n
 | bool b=>exact .bool b
 | str s=>exact .str s
 | undef=>exact .undef
 | agg vs cs hd h hc ih=>exact .agg vs cs hd h ih
 | tup vs cs h hc ih=>exact .tup vs cs h ih
 | nil=>exact .nil
 | nil0=>exact .nil0
 | e0 a c=>exact .e0 a c
 | sl b off n cap cs f hd hn hXb hY hcell hr ih =>
  refine .sl b off n cap cs f hd hn (fun hne hb => ?_) hY hcell ih;rcases hX b hb with h1 | h1
  ·exact hXb hne h1
  ·have h0:0<cs.length:=Aj.2 hne;have:=JW (hcell 0 h0);simp only at this;omega
 | pt b off cs f hd hXb hcell hr ih =>
  refine .pt b off cs f hd (fun hne hb => ?_) hcell ih;rcases hX b hb with h1 | h1
  ·exact hXb hne h1
  ·have h0:0<cs.length:=Aj.2 hne;have:=JW (hcell 0 h0);simp only at this;omega
 | fnc g u cs h ih=>exact .fnc g u cs ih
theorem Rd.lend{Y X Y' X':Nat->Prop}{w:World}{v:Value}{x:AV}(h:Rd Y X w v x)(hX:∀ b,X' b->X b)(hY:∀ b,Y' b->Y b\/X b):Rd Y' X' w v x:=by
 induction h with
 | int k n=>exact .int k n
 | bool b=>exact .bool b
 | str s=>exact .str s
 | undef=>exact .undef
 | agg vs cs hd h hc ih=>exact .agg vs cs hd h ih
 | tup vs cs h hc ih=>exact .tup vs cs h ih
 | nil=>exact .nil
 | nil0=>exact .nil0
 | e0 a c=>exact .e0 a c
 | sl b off n cap cs f hd hn hXb hYb hcell hr ih =>
  refine .sl b off n cap cs f hd hn (fun hne hb=>hXb hne (hX b hb)) (fun hi hb => ?_) hcell ih;rcases hY b hb with h1 | h1
  ·exact hYb hi h1
  ·obtain⟨c,hc,_⟩:=hi;exact hXb (List.ne_nil_of_mem hc) h1
 | pt b off cs f hd hXb hcell hr ih=>exact .pt b off cs f hd (fun hne hb=>hXb hne (hX b hb)) hcell ih
 | fnc g u cs h ih=>exact .fnc g u cs ih
theorem Rd.back1{Y X Y' X':Nat->Prop}{w:World}{v:Value}{x:AV}(h:Rd Y' X' w v x)(hx:L7 x=true)(hX:∀ b,X b->X' b\/Y' b)(hY:∀ b,Y b->Y' b):Rd Y X w v x:=by
 cases h with
 | int k n=>exact .int k n
 | bool b=>exact .bool b
 | str s=>exact .str s
 | undef=>exact .undef
 | agg vs cs hd h hc=>cases hx
 | tup vs cs h hc=>cases hx
 | nil=>cases hx
 | pt _ _ _ _ _ _ _ _=>cases hx
 | fnc _ _ _ _=>cases hx
 | nil0=>exact .nil0
 | e0 a c=>exact .e0 a c
 | sl b off n cap cs f hd hn hXb hYb hcell hr =>
  simp only[L7,BQ] at hx;have hall:∀ c∈cs,¬ Y' b:=fun c hc=>hYb ⟨c,hc,hx c hc⟩;refine .sl b off n cap cs f hd hn (fun hne hb => ?_) (fun ⟨c,hc,_⟩ hb=>hall c hc (hY b hb)) hcell (fun i hi => ?_)
  ·obtain⟨c,hc⟩:=List.exists_mem_of_ne_nil cs hne;rcases hX b hb with h1 | h1
   ·exact hXb hne h1
   ·exact hall c hc h1
  ·have h1:=hx _ (Ds hi);have h2:=hr i hi;generalize cs[i]=c at h1 h2 |-;generalize f i=u at h2 |-;cases c <;> first | (cases h1;done) | (cases h2;exact .int _ _)
theorem Rd.back{Y X Y' X':Nat->Prop}{w:World}{v:Value}{x:AV}(h:Rd Y' X' w v x)(hx:Gx x=true)(hX:∀ b,X b->X' b\/Y' b)(hY:∀ b,Y b->Y' b):Rd Y X w v x:=by
 cases h with
 | agg vs cs hd h hc =>
  simp only[Gx,BQ] at hx;exact .agg vs cs hd h fun i h1 h2=>(hc i h1 h2).back1 (hx _ (Ds h2)) hX hY
 | int k n=>exact .int k n
 | bool b=>exact .bool b
 | str s=>exact .str s
 | undef=>exact .undef
 | tup vs cs h hc=>cases hx
 | nil=>cases hx
 | pt _ _ _ _ _ _ _ _=>cases hx
 | fnc _ _ _ _=>cases hx
 | nil0=>exact .nil0
 | e0 a c=>exact .e0 a c
 | sl b off n cap cs f hd hn hXb hYb hcell hr=>exact Rd.back1 (.sl b off n cap cs f hd hn hXb hYb hcell hr) hx hX hY
theorem iV{Y X:Nat->Prop}{w:World}{u:Value}{b:Bool}{n:Nat}{cs:List AV}(h:Rd Y X w u (.sl n cs)):Rd Y X w (.agg #[.bool b,u]) (.agg [.bool b,.sl n cs]):=by
 refine .agg _ _ (fun x hx => ?_) rfl (fun i h1 h2 => ?_)
 ·simp only[CS,TG,or_false] at hx;rcases hx with rfl | rfl <;> rfl
 ·match i,h2 with
  | 0,_=>exact .bool b
  | 1,_=>exact h
def Gg(Y X:Nat->Prop)(w:World)(b off:Nat)(cs:List AV):Prop :=
 Nu cs/\∀ (i:Nat) (h:i<cs.length),∃ v,w.cell? ⟨b,off+i,none⟩=some v/\Rd Y X w v cs[i]
theorem Gg.drop{Y X:Nat->Prop}{w:World}{b off:Nat}{cs:List AV}(h:Gg Y X w b off cs)(k:Nat):Gg Y X w b (off+k) (cs.drop k):=by
 obtain⟨hd,h⟩:=h;refine⟨fun x hx=>hd x (EK hx),?_⟩;intro i hi;have hi':k+i<cs.length:=by simp at hi;omega
 obtain⟨v,h1,h2⟩:=h (k+i) hi';refine⟨v,by rw[D6];exact h1,?_⟩;simpa using h2
theorem Gg.world{Y X:Nat->Prop}{w w':World}{b off:Nat}{cs:List AV}(h:Gg Y X w b off cs)(hw:∀ c,¬ X c->c<w.heap.size->w'.heap[c]?=w.heap[c]?)
  (hb:b<w.heap.size->w'.heap[b]?=w.heap[b]?):Gg Y X w' b off cs:=by
 obtain⟨hd,h⟩:=h;refine⟨hd,?_⟩;intro i hi;obtain⟨v,h1,h2⟩:=h i hi;exact⟨v,by rw[EX (hb (JW h1))];exact h1,h2.world hw⟩
theorem Gg.mono{Y X X':Nat->Prop}{w:World}{b off:Nat}{cs:List AV}(h:Gg Y X w b off cs)(hX:∀ b,X' b->X b\/w.heap.size<=b):Gg Y X' w b off cs:=by
 obtain⟨hd,h⟩:=h;refine⟨hd,?_⟩;intro i hi;obtain⟨v,h1,h2⟩:=h i hi;exact⟨v,h1,h2.mono hX⟩
def HB:Value->Option Addr
 | .pointer (some p)=>some p
 | .slice (some p) _ _=>some p
 | .agg vs=>match vs.toList with
  | [.bool _,.slice (some p) _ _]=>some p
  | _=>none
 | .tuple vs=>match vs.toList with
  | [.slice (some p) _ _,.bool _]=>some p
  | _=>none
 | _=>none
def Bi(v:Value):Option Nat:=(HB v).map (·.block)
def Ev:Reg->Bool
 | .box _=>true
 | .own _ _ _=>true
 | .agn _ _ _ _=>true
 | .bxl _=>true
 | _=>false
def FN(Y X:Nat->Prop)(w:World)(b off:Nat)(cs:List AV):Prop :=
 Nu cs/\∃ (vs:Array Value) (T:TypeId),w.heap[b]?=some (.cells vs T (0,0))/\off+cs.length<=vs.size/\∀ (i:Nat) (h:i<cs.length),∃ v,vs[off+i]?=some v/\Rd Y X w v cs[i]
theorem FN.mem{Y X:Nat->Prop}{w:World}{b off:Nat}{cs:List AV}(h:FN Y X w b off cs):Gg Y X w b off cs:=by
 obtain⟨hd,vs,T,hb,_,hc⟩:=h;refine⟨hd,?_⟩;intro i hi;obtain⟨v,h1,h2⟩:=hc i hi;exact⟨v,by simp[Uh,hb,h1],h2⟩
theorem FN.lt{Y X:Nat->Prop}{w:World}{b off:Nat}{cs:List AV}(h:FN Y X w b off cs):b<w.heap.size:=by
 obtain⟨_,vs,T,hb,_⟩:=h;exact (E9.1 hb).1
theorem FN.world{Y X:Nat->Prop}{w w':World}{b off:Nat}{cs:List AV}(h:FN Y X w b off cs)(hw:∀ c,¬ X c->c<w.heap.size->w'.heap[c]?=w.heap[c]?)
  (hb:w'.heap[b]?=w.heap[b]?):FN Y X w' b off cs:=by
 obtain⟨hd,vs,T,h1,h2,h3⟩:=h;exact⟨hd,vs,T,by rw[hb];exact h1,h2,fun i hi=>let ⟨v,h4,h5⟩:=h3 i hi; ⟨v,h4,h5.world hw⟩⟩
theorem FN.mono{Y X X':Nat->Prop}{w:World}{b off:Nat}{cs:List AV}(h:FN Y X w b off cs)(hX:∀ b,X' b->X b\/w.heap.size<=b):FN Y X' w b off cs:=by
 obtain⟨hd,vs,T,h1,h2,h3⟩:=h;exact⟨hd,vs,T,h1,h2,fun i hi=>let ⟨v,h4,h5⟩:=h3 i hi; ⟨v,h4,h5.mono hX⟩⟩
def SF(w:World)(b m:Nat):Prop:=∃ (vs:Array Value) (T:TypeId),w.heap[b]?=some (.cells vs T (0,0))/\m<=vs.size
theorem SF.world{w w':World}{b m:Nat}(h:SF w b m)(hb:w'.heap[b]?=w.heap[b]?):SF w' b m:=by
 obtain⟨vs,T,h1,h2⟩:=h;exact⟨vs,T,by rw[hb];exact h1,h2⟩
def FO(Y X:Nat->Prop)(B:Nat)(w:World)(v:Value)(k n:Nat)(cs:List AV):Prop :=
 (v = .slice none 0 0/\n=0/\cs=[]) \/
 ∃ b cap,v = .slice (some ⟨b,0,none⟩) n cap/\n<=cap/\cs.length=n*k/\B<=b/\FN Y X w b 0 cs/\SF w b (cap*k)
theorem FO.world{Y X:Nat->Prop}{B:Nat}{w w':World}{v:Value}{k n:Nat}{cs:List AV}(h:FO Y X B w v k n cs)(hw:∀ c,¬ X c->c<w.heap.size->w'.heap[c]?=w.heap[c]?)
  (hb:∀ b,Bi v=some b->b<w.heap.size->w'.heap[b]?=w.heap[b]?):FO Y X B w' v k n cs:=by
 rcases h with h | ⟨b,cap,e1,e2,e3,e4,e5,e6⟩
 ·exact .inl h
 ·have hbb:w'.heap[b]?=w.heap[b]?:=hb b (by rw[e1];rfl) e5.lt;exact .inr ⟨b,cap,e1,e2,e3,e4,e5.world hw hbb,e6.world hbb⟩
theorem FO.mono{Y X X':Nat->Prop}{B:Nat}{w:World}{v:Value}{k n:Nat}{cs:List AV}(h:FO Y X B w v k n cs)(hX:∀ b,X' b->X b\/w.heap.size<=b):FO Y X' B w v k n cs:=by
 rcases h with h | ⟨b,cap,e1,e2,e3,e4,e5,e6⟩
 ·exact .inl h
 ·exact .inr ⟨b,cap,e1,e2,e3,e4,e5.mono hX,e6⟩
theorem FO.lower{Y X:Nat->Prop}{B B':Nat}{w:World}{v:Value}{k n:Nat}{cs:List AV}(h:FO Y X B w v k n cs)(hB:B'<=B):FO Y X B' w v k n cs:=by
 rcases h with h | ⟨b,cap,e1,e2,e3,e4,e5,e6⟩
 ·exact .inl h
 ·exact .inr ⟨b,cap,e1,e2,e3,by omega,e5,e6⟩
theorem FO.block{Y X:Nat->Prop}{B:Nat}{w:World}{v:Value}{k n:Nat}{cs:List AV}(h:FO Y X B w v k n cs){b:Nat}(hb:Bi v=some b):B<=b/\b<w.heap.size:=by
 rcases h with ⟨rfl,_⟩ | ⟨b',cap,e1,e2,e3,e4,e5,e6⟩
 ·cases hb
 ·rw[e1] at hb;simp only[Bi,HB,A4,Ay] at hb;subst hb;exact⟨e4,e5.lt⟩
theorem FO.frozen{Y X X':Nat->Prop}{B:Nat}{w:World}{v:Value}{k n:Nat}{cs:List AV}(h:FO Y X B w v k n cs)(hX:∀ b,X' b->X b\/w.heap.size<=b)(hb:∀ b,Bi v=some b->¬ X' b)(hY:∀ b,Y b->b<B):Rd Y X' w v (.sl n cs):=by
 rcases h with ⟨rfl,rfl,rfl⟩ | ⟨b,cap,e1,e2,e3,e4,e5,e6⟩
 ·exact .nil0
 have hbb:¬ X' b:=hb b (by rw[e1];rfl);obtain⟨hd,hm⟩:=(e5.mono hX).mem;subst e1;refine .sl b 0 n cap cs (fun i=>(w.cell? ⟨b,0+i,none⟩).getD Bw) hd e2 (fun _=>hbb) (fun _ h=>by have:=hY b h;omega) (fun i hi => ?_) (fun i hi => ?_)
 ·obtain⟨u,h1,_⟩:=hm i hi;rw[h1];rfl
 ·obtain⟨u,h1,h2⟩:=hm i hi;rw[h1];exact h2
theorem ZQ{Y X Y' X':Nat->Prop}{B:Nat}{w:World}{v:Value}{k n:Nat}{cs:List AV}(h:FO Y X B w v k n cs)(hX:∀ b,X' b->X b)(hY:∀ b,Y' b->Y b\/X b)(hb:∀ b,Bi v=some b->¬ X' b)(hi:cs.all (fun c => !Uk c)=true):Rd Y' X' w v (.sl n cs):=by
 rcases h with ⟨rfl,rfl,rfl⟩ | ⟨b,cap,e1,e2,e3,e4,e5,e6⟩
 ·exact .nil0
 have hbb:¬ X' b:=hb b (by rw[e1];rfl);obtain⟨hd,hm⟩:=e5.mem;subst e1;refine .sl b 0 n cap cs (fun i=>(w.cell? ⟨b,0+i,none⟩).getD Bw) hd e2 (fun _=>hbb) (fun ⟨c,hc,h1⟩ _ => ?_) (fun i hi => ?_) (fun i hi => ?_)
 ·have:=BQ.1 hi c hc;rw[h1] at this;cases this
 ·obtain⟨u,h1,_⟩:=hm i hi;rw[h1];rfl
 ·obtain⟨u,h1,h2⟩:=hm i hi;rw[h1];exact h2.lend hX hY
def ZR:Tag->Value->Value
 | .st b,u => .agg #[.bool b,u]
 | .tp b,u => .tuple #[u,.bool b]
def Ju(Y X:Nat->Prop)(B:Nat)(w:World)(v:Value)(b:Tag)(k n:Nat)(cs:List AV):Prop:=∃ u,v=ZR b u/\FO Y X B w u k n cs
theorem F1{Y X:Nat->Prop}{B:Nat}{w:World}{u:Value}{k n:Nat}{cs:List AV}(b:Tag)(h:FO Y X B w u k n cs):Bi (ZR b u)=Bi u:=by
 cases b <;> rcases h with ⟨rfl,_⟩ | ⟨b',cap,rfl,_⟩ <;> rfl
theorem Ju.world{Y X:Nat->Prop}{B:Nat}{w w':World}{v:Value}{b:Tag}{k n:Nat}{cs:List AV}(h:Ju Y X B w v b k n cs)(hw:∀ c,¬ X c->c<w.heap.size->w'.heap[c]?=w.heap[c]?)
  (hb:∀ b,Bi v=some b->b<w.heap.size->w'.heap[b]?=w.heap[b]?):Ju Y X B w' v b k n cs:=by
 obtain⟨u,rfl,h⟩:=h;rw[F1 b h] at hb;exact⟨u,rfl,h.world hw hb⟩
theorem Ju.mono{Y X X':Nat->Prop}{B:Nat}{w:World}{v:Value}{b:Tag}{k n:Nat}{cs:List AV}(h:Ju Y X B w v b k n cs)(hX:∀ b,X' b->X b\/w.heap.size<=b):Ju Y X' B w v b k n cs:=by
 obtain⟨u,e,h⟩:=h;exact⟨u,e,h.mono hX⟩
theorem Ju.lower{Y X:Nat->Prop}{B B':Nat}{w:World}{v:Value}{b:Tag}{k n:Nat}{cs:List AV}(h:Ju Y X B w v b k n cs)(hB:B'<=B):Ju Y X B' w v b k n cs:=by
 obtain⟨u,e,h⟩:=h;exact⟨u,e,h.lower hB⟩
theorem Ju.own{Y X0:Nat->Prop}{Z:Nat->Prop}{B:Nat}{w:World}{v:Value}{b:Tag}{k n:Nat}{cs:List AV}(h:Ju Y (fun c=>X0 c\/Z c) B w v b k n cs)(hZ:∀ c,Bi v=some c->Z c):Ju Y (fun c=>X0 c\/Bi v=some c) B w v b k n cs :=
 h.mono fun c hc => .inl (hc.imp id (hZ c))
theorem Ju.block{Y X:Nat->Prop}{B:Nat}{w:World}{v:Value}{b:Tag}{k n:Nat}{cs:List AV}(h:Ju Y X B w v b k n cs){c:Nat}(hb:Bi v=some c):B<=c/\c<w.heap.size:=by
 obtain⟨u,rfl,h⟩:=h;rw[F1 b h] at hb;exact h.block hb
def SubV(k l h:Nat)(u v:Value):Prop:=(u = .slice none 0 0/\v = .slice none 0 0/\l=0/\h=0) \/
 ∃ b n cap,u = .slice (some ⟨b,0,none⟩) n cap/\l<=h/\h<=n/\n<=cap/\v = .slice (if cap=l then some ⟨b,0,none⟩ else some ⟨b,l*k,none⟩) (h-l) (cap-l)
def Ko(Y X:Nat->Prop)(B:Nat)(roots:List (Nat × Nat))(tm:Array Value)(w:World)(t:Nat)(v:Value):Reg->Prop
 | .val x=>Rd Y X w v x
 | .box cs=>∃ b,v = .pointer (some ⟨b,0,none⟩)/\B<=b/\FN Y X w b 0 cs
 | .ptr d off=>(t,d)∈roots/\∃ p,HB (tm.getD d Bw)=some p/\p.spot=none/\v = .pointer (some ⟨p.block,p.off+off,none⟩)
 | .mem cs=>∃ b off,v = .pointer (some ⟨b,off,none⟩)/\(cs ≠ []->¬ X b)/\Gg Y X w b off cs
 | .own k n cs=>FO Y X B w v k n cs
 | .agn b k n cs=>Ju Y X B w v b k n cs
 | .bxl d=>(t,d)∈roots/\∃ b,v = .pointer (some ⟨b,0,none⟩)/\B<=b/\b<w.heap.size/\∀ i,i<2->w.cell? ⟨b,i,none⟩=(tm.getD d Bw).cells[i]?
 | .dup d=>(t,d)∈roots/\v=tm.getD d Bw
 | .sub d k l h=>(t,d)∈roots/\SubV k l h (tm.getD d Bw) v
 | .dead=>True
def XS(s:Ak)(tm:Array Value)(b:Nat):Prop:=∃ t,Ev (A2 s t)=true/\Bi (tm.getD t Bw)=some b
structure Rel (Y X0:Nat->Prop) (roots:List (Nat × Nat)) (w0:World) (s:Ak) (a:Act) (w:World):Prop where
 dfr:a.defers=[]
 size:a.tmps.size=s.length
 below:Below w0.heap.size w0 w
 low:∀ b,X0 b->b<w0.heap.size
 lowY:∀ b,Y b->b<w0.heap.size
 reg:∀ t,Ko Y (fun b=>X0 b\/XS s a.tmps b) w0.heap.size roots a.tmps w t (a.tmps.getD t Bw) (A2 s t)
 inj:∀ t t' b,Ev (A2 s t)=true->Ev (A2 s t')=true->Bi (a.tmps.getD t Bw)=some b->Bi (a.tmps.getD t' Bw)=some b->t=t'
theorem Below.ext{w w':World}(h:Below w.heap.size w w'):∀ b,b<w.heap.size->w'.heap[b]?=w.heap[b]?:=h.block
theorem L8(tm:Array Value)(d:Nat)(v:Value)(t:Nat):(tm.setIfInBounds d v).getD t Bw=if d=t/\d<tm.size then v else tm.getD t Bw:=by
 simp only[CB,P1];by_cases h:d=t
 ·subst h;by_cases h2:d<tm.size
  ·simp[h2]
  ·simp[h2]
 ·simp[h]
theorem Mf(ks:List Nat):∀ (s:Ak) (t:Nat),A2 (BS s (ks.map fun u=>(u,Reg.dead))) t=A2 s t\/A2 (BS s (ks.map fun u=>(u,Reg.dead))) t = .dead:=by
 induction ks with
 | nil=>exact fun s t => .inl rfl
 | cons k ks ih =>
  intro s t;simp only[Cw,BS];rcases ih (s.set k .dead) t with h | h
  ·rw[h,Dn];split
   ·exact .inr rfl
   ·exact .inl rfl
  ·exact .inr h
theorem JJ(ks:List Nat):∀ (s:Ak) (t:Nat),t∈ks->A2 (BS s (ks.map fun u=>(u,Reg.dead))) t = .dead:=by
 induction ks with
 | nil=>intro s t h;cases h
 | cons k ks ih =>
  intro s t h;simp only[Cw,BS];by_cases hk:t∈ks
  ·exact ih _ t hk
  ·have e:t=k:=by
    cases h with
    | head=>rfl
    | tail _ h=>exact absurd h hk
   subst e;rcases Mf ks (s.set t .dead) t with h1 | h1
   ·rw[h1,Dn];split
    ·rfl
    ·rename_i hn;simp only[A2,Z];have:s.length<=t:=by simp at hn;exact hn
     rw[AB this];rfl
   ·exact h1
theorem F2(l:List (Nat × Reg)):∀ s:Ak,(BS s l).length=s.length:=by
 induction l with
 | nil=>intro s;rfl
 | cons p l ih=>intro s;obtain⟨t,r⟩:=p;simp only[BS,ih,AW]
theorem Dt{Y X0:Nat->Prop}{roots:List (Nat × Nat)}{w0 w w':World}{s:Ak}{a:Act}(h:Rel Y X0 roots w0 s a w)(hw:Below w.heap.size w w')
  {d:Nat} {v:Value} {r:Reg} {ks:List Nat} (hks:∀ t,(t,d)∈roots->t∈ks\/Fl (A2 s t)=false)
  (hfresh:Ev r=true->∀ b,Bi v=some b->w.heap.size<=b)
  (hr:∀ X:Nat->Prop,(∀ b,X b->(X0 b\/XS s a.tmps b)\/(w.heap.size<=b/\Bi v=some b))->(Ev r=false->∀ b,X b->X0 b\/XS s a.tmps b) ->
   Ko Y X w0.heap.size roots (a.tmps.setIfInBounds d v) w' d v r) :
  Rel Y X0 roots w0 (DQ (BS s (ks.map fun u=>(u,Reg.dead))) (some d) r) (a.put (some d) v) w':=by
 obtain⟨hd,hs,hb,hl,hly,hreg,hinj⟩:=h;have hsz:w0.heap.size<=w.heap.size:=hb.size;have key:∀ t,A2 (DQ (BS s (ks.map fun u=>(u,Reg.dead))) (some d) r) t=(if d=t/\d<s.length then r else A2 (BS s (ks.map fun u=>(u,Reg.dead))) t):=by
  intro t;simp only[DQ];rw[Dn,F2]
 have kv:∀ t,(a.put (some d) v).tmps.getD t Bw=if d=t/\d<s.length then v else a.tmps.getD t Bw:=by
  intro t;simp only[qX];rw[L8,hs]
 have hXnew:∀ b,XS (DQ (BS s (ks.map fun u=>(u,Reg.dead))) (some d) r) (a.put (some d) v).tmps b->XS s a.tmps b\/(Ev r=true/\w.heap.size<=b/\Bi v=some b):=by
  rintro b ⟨t,h1,h2⟩;rw[key] at h1;rw[kv] at h2;by_cases hc:d=t/\d<s.length
  ·rw[if_pos hc] at h1 h2;exact .inr ⟨h1,hfresh h1 b h2,h2⟩
  ·rw[if_neg hc] at h1 h2;rcases Mf ks s t with hk | hk
   ·rw[hk] at h1;exact .inl ⟨t,h1,h2⟩
   ·rw[hk] at h1;cases h1
 generalize hXd:(fun b=>X0 b\/XS (DQ (BS s (ks.map fun u=>(u,Reg.dead))) (some d) r) (a.put (some d) v).tmps b)=X;have hX1:∀ b,X b->(X0 b\/XS s a.tmps b)\/w.heap.size<=b:=by
  intro b hXb;rw[<- hXd] at hXb;rcases hXb with h | h
  ·exact .inl (.inl h)
  ·rcases hXnew b h with h | h
   ·exact .inl (.inr h)
   ·exact .inr h.2.1
 have hX1':∀ b,X b->(X0 b\/XS s a.tmps b)\/(w.heap.size<=b/\Bi v=some b):=by
  intro b hXb;rw[<- hXd] at hXb;rcases hXb with h | h
  ·exact .inl (.inl h)
  ·rcases hXnew b h with h | h
   ·exact .inl (.inr h)
   ·exact .inr h.2
 have hX2:Ev r=false->∀ b,X b->X0 b\/XS s a.tmps b:=by
  intro he b hXb;rw[<- hXd] at hXb;rcases hXb with h | h
  ·exact .inl h
  ·rcases hXnew b h with h | h
   ·exact .inr h
   ·rw[he] at h;cases h.1
 have hext:∀ (Y:Nat->Prop) (c:Nat),¬ Y c->c<w.heap.size->w'.heap[c]?=w.heap[c]?:=fun _ c _ hc=>hw.block c hc;refine⟨hd,by simp only[qX,O0,DQ,AW,F2];exact hs,?_,hl,hly,?_,?_⟩
 ·exact hb.trans (hw.mono hsz)
 ·intro t;rw[hXd,key,kv];by_cases hc:d=t/\d<s.length
  ·rw[if_pos hc,if_pos hc];obtain⟨rfl,_⟩:=hc;exact hr X hX1' hX2
  ·rw[if_neg hc,if_neg hc];rcases Mf ks s t with hk | hk
   ·rw[hk];have h0:=hreg t;cases hrt:A2 s t with
    | val x=>rw[hrt] at h0;exact (Rd.mono h0 hX1).world (hext _)
    | box cs =>
     rw[hrt] at h0;obtain⟨b,e1,e2,e3⟩:=h0;exact⟨b,e1,e2,(e3.mono hX1).world (hext _) (hw.block b e3.lt)⟩
    | own k n cs =>
     rw[hrt] at h0;exact (FO.mono h0 hX1).world (hext _) (fun b _ hb=>hw.block b hb)
    | agn bb k n cs =>
     rw[hrt] at h0;exact (Ju.mono h0 hX1).world (hext _) (fun b _ hb=>hw.block b hb)
    | mem cs =>
     rw[hrt] at h0;obtain⟨b,off,e1,e2,e3⟩:=h0;refine⟨b,off,e1,fun hne hXb => ?_,(e3.mono hX1).world (hext _) (fun hb=>hw.block b hb)⟩;rcases hX1 b hXb with h | h
     ·exact e2 hne h
     ·have h0:0<cs.length:=Aj.2 hne;obtain⟨u,hu,_⟩:=e3.2 0 h0;have:=JW hu;simp only at this;omega
    | ptr d' off =>
     rw[hrt] at h0;obtain⟨e1,p,e2,e3,e4⟩:=h0;refine⟨e1,p,?_,e3,e4⟩;rw[kv,if_neg]
     ·exact e2
     ·rintro⟨rfl,hlt⟩;rcases hks t e1 with hh | hh
      ·have:=JJ ks s t hh;rw[hk,hrt] at this;cases this
      ·rw[hrt] at hh;cases hh
    | dup d' =>
     rw[hrt] at h0;obtain⟨e1,e2⟩:=h0;refine⟨e1,?_⟩;rw[kv,if_neg]
     ·exact e2
     ·rintro⟨rfl,hlt⟩;rcases hks t e1 with hh | hh
      ·have:=JJ ks s t hh;rw[hk,hrt] at this;cases this
      ·rw[hrt] at hh;cases hh
    | sub d' _ _ _ =>
     rw[hrt] at h0;obtain⟨e1,e2⟩:=h0;refine⟨e1,?_⟩;rw[kv,if_neg]
     ·exact e2
     ·rintro⟨rfl,hlt⟩;rcases hks t e1 with hh | hh
      ·have:=JJ ks s t hh;rw[hk,hrt] at this;cases this
      ·rw[hrt] at hh;cases hh
    | bxl d' =>
     rw[hrt] at h0;obtain⟨e1,b,e2,e3,e4,e5⟩:=h0;refine⟨e1,b,e2,e3,EL e4 hw.size,fun i hi => ?_⟩;rw[kv,if_neg]
     ·rw[<- e5 i hi];exact EX (hw.block b e4)
     ·rintro⟨rfl,hlt⟩;rcases hks t e1 with hh | hh
      ·have:=JJ ks s t hh;rw[hk,hrt] at this;cases this
      ·rw[hrt] at hh;cases hh
    | dead=>trivial
   ·rw[hk];trivial
 ·intro t t' b h1 h2 h3 h4;rw[key] at h1 h2;rw[kv] at h3 h4;have old:∀ u,(¬ (d=u/\d<s.length))->Ev (A2 (BS s (ks.map fun u=>(u,Reg.dead))) u)=true->Ev (A2 s u)=true:=by
   intro u _ hu;rcases Mf ks s u with hk | hk
   ·rw[hk] at hu;exact hu
   ·rw[hk] at hu;cases hu
  have lt:∀ u,Ev (A2 s u)=true->Bi (a.tmps.getD u Bw)=some b->b<w.heap.size:=by
   intro u hu hv;have h0:=hreg u;cases hrt:A2 s u with
   | box cs =>
    rw[hrt] at h0;obtain⟨b',e1,_,e3⟩:=h0;rw[e1] at hv;simp only[Bi,HB,A4,Ay] at hv;exact hv ▸ e3.lt
   | own k n cs =>
    rw[hrt] at h0;exact (FO.block h0 hv).2
   | agn bb k n cs =>
    rw[hrt] at h0;exact (Ju.block h0 hv).2
   | bxl d' =>
    rw[hrt] at h0;obtain⟨_,b',e1,_,e3,_⟩:=h0;rw[e1] at hv;simp only[Bi,HB,A4,Ay] at hv;exact hv ▸ e3
   | val x=>rw[hrt] at hu;cases hu
   | ptr d off=>rw[hrt] at hu;cases hu
   | mem cs=>rw[hrt] at hu;cases hu
   | dup d=>rw[hrt] at hu;cases hu
   | sub _ _ _ _=>rw[hrt] at hu;cases hu
   | dead=>rw[hrt] at hu;cases hu
  by_cases c1:d=t/\d<s.length <;> by_cases c2:d=t'/\d<s.length
  ·exact c1.1.symm.trans c2.1
  ·rw[if_pos c1] at h1 h3;rw[if_neg c2] at h2 h4;have e2:=hfresh h1 b h3;have:=lt t' (old t' c2 h2) h4;omega
  ·rw[if_neg c1] at h1 h3;rw[if_pos c2] at h2 h4;have e2:=hfresh h2 b h4;have:=lt t (old t c1 h1) h3;omega
  ·rw[if_neg c1] at h1 h3;rw[if_neg c2] at h2 h4;exact hinj t t' b (old t c1 h1) (old t' c2 h2) h3 h4
theorem Awk{s:Ak}{tm:Array Value}{d:Nat}{r r':Reg}(h:A2 s d=r)(he:Ev r=Ev r')(b:Nat):XS (s.set d r') tm b↔XS s tm b:=by
 have key:∀ t,Ev (A2 (s.set d r') t)=Ev (A2 s t):=by
  intro t;rw[Dn];split
  ·rename_i hc;obtain⟨rfl,_⟩:=hc;rw[h,he]
  ·rfl
 constructor
 ·rintro⟨t,h1,h2⟩;exact⟨t,by rw[<- key];exact h1,h2⟩
 ·rintro⟨t,h1,h2⟩;exact⟨t,by rw[key];exact h1,h2⟩
theorem Rel.store{Y X0:Nat->Prop}{roots:List (Nat × Nat)}{w0 w w':World}{s:Ak}{a:Act}(h:Rel Y X0 roots w0 s a w){d:Nat}{r r':Reg}{b:Nat}
  (hd:A2 s d=r) (he:Ev r=true) (he':Ev r'=true) (hv:Bi (a.tmps.getD d Bw)=some b) (hbB:w0.heap.size<=b) (hos:w'.os=w.os) (htape:w'.tape=w.tape) (hout:w'.output=w.output)
  (hsize:w'.heap.size=w.heap.size) (hoth:∀ c,c ≠ b->w'.heap[c]?=w.heap[c]?)
  (hnew:∀ X:Nat->Prop,(∀ c,X c↔(X0 c\/XS s a.tmps c))->Ko Y X w0.heap.size roots a.tmps w' d (a.tmps.getD d Bw) r') :
  Rel Y X0 roots w0 (s.set d r') a w':=by
 obtain⟨hdf,hs,hb,hl,hly,hreg,hinj⟩:=h;have hXb:XS s a.tmps b:=⟨d,by rw[hd];exact he,hv⟩;have hXeq:∀ c,(X0 c\/XS (s.set d r') a.tmps c)↔(X0 c\/XS s a.tmps c):=fun c=>by rw[Awk (r':=r') hd (by rw[he,he'])]
 have hmono:∀ c,(X0 c\/XS (s.set d r') a.tmps c)->(X0 c\/XS s a.tmps c)\/w.heap.size<=c:=fun c hc => .inl ((hXeq c).1 hc);have hext:∀ c,¬ (X0 c\/XS (s.set d r') a.tmps c)->c<w.heap.size->w'.heap[c]?=w.heap[c]?:=by
  intro c hc _;refine hoth c ?_;rintro rfl;exact hc ((hXeq _).2 (.inr hXb))
 have hex:∀ t,Ev (A2 (s.set d r') t)=true->Ev (A2 s t)=true:=by
  intro t ht;rw[Dn] at ht;split at ht
  ·rename_i hc;rw[<- hc.1,hd];exact he
  ·exact ht
 refine⟨hdf,by rw[AW];exact hs,?_,hl,hly,?_,?_⟩
 ·exact⟨hos.trans hb.os,htape.trans hb.tape,hout.trans hb.output,by rw[hsize];exact hb.size,fun k hk=>(hoth k (by omega)).trans (hb.block k hk)⟩
 ·intro t;rw[Dn];split
  ·rename_i hc;obtain⟨rfl,_⟩:=hc;exact hnew _ hXeq
  ·rename_i hc;have h0:=hreg t;have hne:Ev (A2 s t)=true->Bi (a.tmps.getD t Bw) ≠ some b:=by
    intro h1 h2;have:=hinj d t b (by rw[hd];exact he) h1 hv h2;subst this;refine hc ⟨rfl,?_⟩;rcases Ck d s.length with hlt | hge
    ·exact hlt
    ·simp only[A2,Z,AB hge] at hd;subst hd;cases he
   cases hrt:A2 s t with
   | val x=>rw[hrt] at h0;exact (Rd.mono h0 hmono).world hext
   | box cs =>
    rw[hrt] at h0 hne;obtain⟨b',e1,e2,e3⟩:=h0;refine⟨b',e1,e2,(e3.mono hmono).world hext (hoth b' ?_)⟩;rintro rfl;exact hne rfl (by rw[e1];rfl)
   | own k n cs =>
    rw[hrt] at h0 hne;refine (FO.mono h0 hmono).world hext (fun b' hb' _=>hoth b' ?_);rintro rfl;exact hne rfl hb'
   | agn bb k n cs =>
    rw[hrt] at h0 hne;refine (Ju.mono h0 hmono).world hext (fun b' hb' _=>hoth b' ?_);rintro rfl;exact hne rfl hb'
   | bxl d' =>
    rw[hrt] at h0 hne;obtain⟨e1,b',e2,e3,e4,e5⟩:=h0;refine⟨e1,b',e2,e3,by rw[hsize];exact e4,fun i hi => ?_⟩;rw[<- e5 i hi];refine EX (hoth b' ?_);rintro rfl;exact hne rfl (by rw[e2];rfl)
   | mem cs =>
    rw[hrt] at h0;obtain⟨b',off,e1,e2,e3⟩:=h0;refine⟨b',off,e1,fun hne hx=>e2 hne ((hXeq _).1 hx),?_⟩;by_cases hnil:cs=[]
    ·subst hnil;exact⟨fun x hx=>(by cases hx),fun i hi=>(by simp at hi)⟩
    ·refine (e3.mono hmono).world hext (fun _=>hoth b' ?_);rintro rfl;exact e2 hnil (.inr hXb)
   | ptr d' off=>rw[hrt] at h0;exact h0
   | dup d'=>rw[hrt] at h0;exact h0
   | sub _ _ _ _=>rw[hrt] at h0;exact h0
   | dead=>trivial
 ·intro t t' c h1 h2 h3 h4;exact hinj t t' c (hex t h1) (hex t' h2) h3 h4
theorem Rel.kill{Y X0:Nat->Prop}{roots:List (Nat × Nat)}{w0 w:World}{s:Ak}{a:Act}(h:Rel Y X0 roots w0 s a w)(ks:List Nat):Rel Y X0 roots w0 (Go.Ai.kill s ks) a w:=by
 obtain⟨hdf,hs,hb,hl,hly,hreg,hinj⟩:=h;have hXS:∀ b,XS (Go.Ai.kill s ks) a.tmps b->XS s a.tmps b:=by
  rintro b ⟨t,h1,h2⟩;rw[Fz] at h1;split at h1
  ·cases h1
  ·exact⟨t,h1,h2⟩
 have hmono:∀ c,(X0 c\/XS (Go.Ai.kill s ks) a.tmps c)->(X0 c\/XS s a.tmps c)\/w.heap.size<=c:=fun c hc => .inl (hc.imp id (hXS c));refine⟨hdf,by rw[Go.Ai.kill,F2];exact hs,hb,hl,hly,fun t => ?_,fun t t' b h1 h2 h3 h4 => ?_⟩
 ·rw[Fz];split
  ·trivial
  ·have h0:=hreg t;cases hrt:A2 s t with
   | val x=>rw[hrt] at h0;exact Rd.mono h0 hmono
   | box cs=>rw[hrt] at h0;obtain⟨b,e1,e2,e3⟩:=h0;exact⟨b,e1,e2,e3.mono hmono⟩
   | own k n cs=>rw[hrt] at h0;exact FO.mono h0 hmono
   | agn bb k n cs=>rw[hrt] at h0;exact Ju.mono h0 hmono
   | bxl d'=>rw[hrt] at h0;exact h0
   | mem cs=>rw[hrt] at h0;obtain⟨b,off,e1,e2,e3⟩:=h0;exact⟨b,off,e1,fun hne hx=>e2 hne (hx.imp id (hXS b)),e3.mono hmono⟩
   | ptr d off=>rw[hrt] at h0;exact h0
   | dup d=>rw[hrt] at h0;exact h0
   | sub _ _ _ _=>rw[hrt] at h0;exact h0
   | dead=>trivial
 ·rw[Fz] at h1 h2;split at h1
  ·cases h1
  ·split at h2
   ·cases h2
   ·exact hinj t t' b h1 h2 h3 h4
theorem Rel.ownLow{Y X0:Nat->Prop}{roots:List (Nat × Nat)}{w0 w:World}{s:Ak}{a:Act}(h:Rel Y X0 roots w0 s a w){x k n:Nat}{cs:List AV}(hx:A2 s x = .own k n cs) :
  (a.tmps.getD x Bw = .slice none 0 0/\n=0/\cs=[]) \/
  ∃ b cap,a.tmps.getD x Bw = .slice (some ⟨b,0,none⟩) n cap/\n<=cap/\cs.length=n*k/\w0.heap.size<=b/\FN Y (fun b=>X0 b\/XS s a.tmps b) w b 0 cs/\SF w b (cap*k)/\XS s a.tmps b:=by
 have h0:=h.reg x;rw[hx] at h0;rcases h0 with h0 | ⟨b,cap,e1,e2,e3,e4,e5,e6⟩
 ·exact .inl h0
 ·exact .inr ⟨b,cap,e1,e2,e3,e4,e5,e6,x,by rw[hx];rfl,by rw[e1];rfl⟩
theorem Rel.exclLow{Y X0:Nat->Prop}{roots:List (Nat × Nat)}{w0 w:World}{s:Ak}{a:Act}(h:Rel Y X0 roots w0 s a w){x b:Nat}(hx:Ev (A2 s x)=true)(hb:Bi (a.tmps.getD x Bw)=some b):w0.heap.size<=b/\b<w.heap.size:=by
 have h0:=h.reg x;cases hrt:A2 s x with
 | box cs =>
  rw[hrt] at h0;obtain⟨b',e1,e2,e3⟩:=h0;rw[e1] at hb;simp only[Bi,HB,A4,Ay] at hb;exact hb ▸ ⟨e2,e3.lt⟩
 | own k n cs=>rw[hrt] at h0;exact FO.block h0 hb
 | agn bb k n cs=>rw[hrt] at h0;exact Ju.block h0 hb
 | bxl d' =>
  rw[hrt] at h0;obtain⟨_,b',e1,e2,e3,_⟩:=h0;rw[e1] at hb;simp only[Bi,HB,A4,Ay] at hb;exact hb ▸ ⟨e2,e3⟩
 | val x=>rw[hrt] at hx;cases hx
 | ptr d off=>rw[hrt] at hx;cases hx
 | mem cs=>rw[hrt] at hx;cases hx
 | dup d=>rw[hrt] at hx;cases hx
 | sub _ _ _ _=>rw[hrt] at hx;cases hx
 | dead=>rw[hrt] at hx;cases hx
theorem Rel.shift'{Y X0:Nat->Prop}{roots:List (Nat × Nat)}{w0 w w':World}{s:Ak}{a:Act}(h:Rel Y X0 roots w0 s a w){x d:Nat}{r:Reg}{v:Value}{b':Nat}
  (hx:Ev (A2 s x)=true) (hb:Bi (a.tmps.getD x Bw)=some b') (hks:∀ t,(t,d)∈roots->Fl (A2 s t)=false)
  (hos:w'.os=w.os) (htape:w'.tape=w.tape) (hout:w'.output=w.output) (hsize:w'.heap.size=w.heap.size) (hoth:∀ c,c ≠ b'->w'.heap[c]?=w.heap[c]?) (hrb:Ev r=true->Bi v=some b')
  (hnew:∀ X:Nat->Prop,(∀ c,X c->(X0 c\/XS s a.tmps c))->(Ev r=false->¬ X b')->Ko Y X w0.heap.size roots (a.tmps.setIfInBounds d v) w' d v r) :
  Rel Y X0 roots w0 (DQ (BS s [(x,Reg.dead)]) (some d) r) (a.put (some d) v) w':=by
 have hbB:=(h.exclLow hx hb).1;have hXb:XS s a.tmps b':=⟨x,hx,hb⟩;obtain⟨hdf,hs,hbel,hl,hly,hreg,hinj⟩:=h;have hown:∀ t,Ev (A2 s t)=true->Bi (a.tmps.getD t Bw)=some b'->t=x:=fun t h1 h2=>hinj t x b' h1 hx h2 hb;have key:∀ t,A2 (DQ (BS s [(x,Reg.dead)]) (some d) r) t=(if d=t/\d<s.length then r else if x=t then .dead else A2 s t):=by
  intro t;simp only[DQ,BS];rw[Dn,AW,SE]
 have kv:∀ t,(a.put (some d) v).tmps.getD t Bw=if d=t/\d<s.length then v else a.tmps.getD t Bw:=by
  intro t;simp only[qX];rw[L8,hs]
 have hXold:∀ c,XS (DQ (BS s [(x,Reg.dead)]) (some d) r) (a.put (some d) v).tmps c->XS s a.tmps c:=by
  rintro c ⟨t,h1,h2⟩;rw[key] at h1;rw[kv] at h2;by_cases hc:d=t/\d<s.length
  ·rw[if_pos hc] at h1 h2;rw[hrb h1] at h2;cases h2;exact hXb
  ·rw[if_neg hc] at h1 h2;split at h1
   ·cases h1
   ·exact⟨t,h1,h2⟩
 have hnb:Ev r=false->¬ (X0 b'\/XS (DQ (BS s [(x,Reg.dead)]) (some d) r) (a.put (some d) v).tmps b'):=by
  rintro he (hx0 | ⟨t,h1,h2⟩)
  ·have:=hl b' hx0;omega
  ·rw[key] at h1;rw[kv] at h2;by_cases hc:d=t/\d<s.length
   ·rw[if_pos hc,he] at h1;cases h1
   ·rw[if_neg hc] at h1 h2;split at h1
    ·cases h1
    ·rename_i hxt;exact hxt (hown t h1 h2).symm
 generalize hXd:(fun c=>X0 c\/XS (DQ (BS s [(x,Reg.dead)]) (some d) r) (a.put (some d) v).tmps c)=X;have hX1:∀ c,X c->(X0 c\/XS s a.tmps c):=by
  intro c hc;rw[<- hXd] at hc;exact hc.imp id (hXold c)
 have hX2:∀ c,X c->(X0 c\/XS s a.tmps c)\/w'.heap.size<=c:=fun c hc => .inl (hX1 c hc);have hext:∀ c,¬ (X0 c\/XS s a.tmps c)->c<w.heap.size->w'.heap[c]?=w.heap[c]?:=by
  intro c hc _;refine hoth c ?_;rintro rfl;exact hc (.inr hXb)
 refine⟨hdf,by simp only[qX,O0,DQ,AW,F2];exact hs,?_,hl,hly,?_,?_⟩
 ·exact⟨hos.trans hbel.os,htape.trans hbel.tape,hout.trans hbel.output,by rw[hsize];exact hbel.size,fun c hc=>(hoth c (by omega)).trans (hbel.block c hc)⟩
 ·intro t;rw[hXd,key,kv];by_cases hc:d=t/\d<s.length
  ·rw[if_pos hc,if_pos hc];obtain⟨rfl,_⟩:=hc;exact hnew X hX1 (fun he=>by rw[<- hXd];exact hnb he)
  ·rw[if_neg hc,if_neg hc];by_cases hxt:x=t
   ·rw[if_pos hxt];trivial
   ·rw[if_neg hxt];have h0:=hreg t;have hne:Ev (A2 s t)=true->∀ c,Bi (a.tmps.getD t Bw)=some c->c ≠ b':=by
     intro h1 c h2 e;subst e;exact hxt (hown t h1 h2).symm
    cases hrt:A2 s t with
    | val y=>rw[hrt] at h0;exact (Rd.world h0 hext).mono hX2
    | box cs =>
     rw[hrt] at h0 hne;obtain⟨c,e1,e2,e3⟩:=h0;exact⟨c,e1,e2,(e3.world hext (hoth c (hne rfl c (by rw[e1];rfl)))).mono hX2⟩
    | own k n cs =>
     rw[hrt] at h0 hne;exact (FO.world h0 hext (fun c hc _=>hoth c (hne rfl c hc))).mono hX2
    | agn bb k n cs =>
     rw[hrt] at h0 hne;exact (Ju.world h0 hext (fun c hc _=>hoth c (hne rfl c hc))).mono hX2
    | bxl d' =>
     rw[hrt] at h0 hne;obtain⟨e1,b,e2,e3,e4,e5⟩:=h0;refine⟨e1,b,e2,e3,by rw[hsize];exact e4,fun i hi => ?_⟩;rw[kv,if_neg]
     ·rw[<- e5 i hi];exact EX (hoth b (hne rfl b (by rw[e2];rfl)))
     ·rintro⟨rfl,_⟩;have:=hks t e1;rw[hrt] at this;cases this
    | mem cs =>
     rw[hrt] at h0;obtain⟨c,off,e1,e2,e3⟩:=h0;refine⟨c,off,e1,fun hn hx=>e2 hn (hX1 c hx),?_⟩;by_cases hnil:cs=[]
     ·subst hnil;exact⟨fun x hx=>(by cases hx),fun i hi=>(by simp at hi)⟩
     ·refine (e3.world hext (fun _=>hoth c ?_)).mono hX2;rintro rfl;exact e2 hnil (.inr hXb)
    | ptr d' off =>
     rw[hrt] at h0;obtain⟨e1,p,e2,e3,e4⟩:=h0;refine⟨e1,p,?_,e3,e4⟩;rw[kv,if_neg]
     ·exact e2
     ·rintro⟨rfl,_⟩;have:=hks t e1;rw[hrt] at this;cases this
    | dup d' =>
     rw[hrt] at h0;obtain⟨e1,e2⟩:=h0;refine⟨e1,?_⟩;rw[kv,if_neg]
     ·exact e2
     ·rintro⟨rfl,_⟩;have:=hks t e1;rw[hrt] at this;cases this
    | sub d' _ _ _ =>
     rw[hrt] at h0;obtain⟨e1,e2⟩:=h0;refine⟨e1,?_⟩;rw[kv,if_neg]
     ·exact e2
     ·rintro⟨rfl,_⟩;have:=hks t e1;rw[hrt] at this;cases this
    | dead=>trivial
 ·intro t t' c h1 h2 h3 h4;rw[key] at h1 h2;rw[kv] at h3 h4;by_cases c1:d=t/\d<s.length <;> by_cases c2:d=t'/\d<s.length
  ·exact c1.1.symm.trans c2.1
  ·rw[if_pos c1] at h1 h3;rw[if_neg c2] at h2 h4;split at h2
   ·cases h2
   ·rename_i hxt;rw[hrb h1] at h3;cases h3;exact absurd (hown t' h2 h4).symm hxt
  ·rw[if_neg c1] at h1 h3;rw[if_pos c2] at h2 h4;split at h1
   ·cases h1
   ·rename_i hxt;rw[hrb h2] at h4;cases h4;exact absurd (hown t h1 h3).symm hxt
  ·rw[if_neg c1] at h1 h3;rw[if_neg c2] at h2 h4;split at h1
   ·cases h1
   ·split at h2
    ·cases h2
    ·exact hinj t t' c h1 h2 h3 h4
theorem Rel.shift{Y X0:Nat->Prop}{roots:List (Nat × Nat)}{w0 w w':World}{s:Ak}{a:Act}(h:Rel Y X0 roots w0 s a w){x d k n:Nat}{cs:List AV}{r:Reg}{v:Value}{b:Nat}
  (hx:A2 s x = .own k n cs) (hb:Bi (a.tmps.getD x Bw)=some b) (hks:∀ t,(t,d)∈roots->Fl (A2 s t)=false)
  (hos:w'.os=w.os) (htape:w'.tape=w.tape) (hout:w'.output=w.output) (hsize:w'.heap.size=w.heap.size) (hoth:∀ c,c ≠ b->w'.heap[c]?=w.heap[c]?) (hrb:Ev r=true->Bi v=some b)
  (hnew:∀ X:Nat->Prop,(∀ c,X c->(X0 c\/XS s a.tmps c))->(Ev r=false->¬ X b)->Ko Y X w0.heap.size roots (a.tmps.setIfInBounds d v) w' d v r) :
  Rel Y X0 roots w0 (DQ (BS s [(x,Reg.dead)]) (some d) r) (a.put (some d) v) w' :=
 h.shift' (by rw[hx];rfl) hb hks hos htape hout hsize hoth hrb hnew
theorem Rel.pass{Y X0:Nat->Prop}{roots:List (Nat × Nat)}{w0 w:World}{s:Ak}{a:Act}(h:Rel Y X0 roots w0 s a w){x d:Nat}{r:Reg}{v:Value}(hx:Ev (A2 s x)=true)(hv:Bi v=Bi (a.tmps.getD x Bw))
  (hks:∀ t,(t,d)∈roots->Fl (A2 s t)=false) (hnew:∀ X:Nat->Prop,(∀ c,X c->(X0 c\/XS s a.tmps c))->Ko Y X w0.heap.size roots (a.tmps.setIfInBounds d v) w d v r) :
  Rel Y X0 roots w0 (DQ (BS s [(x,Reg.dead)]) (some d) r) (a.put (some d) v) w:=by
 cases hb:Bi (a.tmps.getD x Bw) with
 | none =>
  rw[hb] at hv;refine Dt (ks:=[x]) h (Hw _ _) (fun t ht => .inr (hks t ht)) (fun _ b hb=>by rw[hv] at hb;cases hb) (fun X h1 _=>hnew X fun c hc => ?_);rcases h1 c hc with h2 | ⟨_,h2⟩
  ·exact h2
  ·rw[hv] at h2;cases h2
 | some b=>exact h.shift' hx hb hks rfl rfl rfl rfl (fun _ _=>rfl) (fun _=>by rw[hv,hb]) (fun X h1 _=>hnew X h1)
theorem Rel.wake{Y X0:Nat->Prop}{roots:List (Nat × Nat)}{w0 w:World}{s:Ak}{a:Act}(h:Rel Y X0 roots w0 s a w){x:Nat}{y:AV}(hx:A2 s x = .dead)
  (hr:Rd Y (fun b=>X0 b\/XS s a.tmps b) w (a.tmps.getD x Bw) y):Rel Y X0 roots w0 (s.set x (.val y)) a w:=by
 obtain⟨hdf,hs,hbel,hl,hly,hreg,hinj⟩:=h;have hex:∀ t,Ev (A2 (s.set x (.val y)) t)=Ev (A2 s t):=by
  intro t;rw[Dn];split
  ·rename_i g;rw[<- g.1,hx];rfl
  ·rfl
 have hXS:XS (s.set x (.val y)) a.tmps=XS s a.tmps:=by
  funext b;unfold XS;simp only[hex]
 refine⟨hdf,by rw[AW];exact hs,hbel,hl,hly,fun t => ?_,fun t t' b h1 h2 h3 h4=>hinj t t' b (by rw[<- hex];exact h1) (by rw[<- hex];exact h2) h3 h4⟩;rw[hXS,Dn];split
 ·rename_i g;rw[<- g.1];exact hr
 ·exact hreg t
theorem Rel.unown{Y X0:Nat->Prop}{roots:List (Nat × Nat)}{w0 w:World}{s:Ak}{a:Act}(h:Rel Y X0 roots w0 s a w){x:Nat}{r:Reg}(hx:Ev (A2 s x)=true)(he:Ev r=false)
  (hnew:∀ X:Nat->Prop,(∀ c,X c->(X0 c\/XS s a.tmps c)\/w.heap.size<=c)->(∀ b,Bi (a.tmps.getD x Bw)=some b->¬ X b)->Ko Y X w0.heap.size roots a.tmps w x (a.tmps.getD x Bw) r):Rel Y X0 roots w0 (s.set x r) a w:=by
 have hlow:=fun b hb=>(h.exclLow (b:=b) hx hb).1;obtain⟨hdf,hs,hbel,hl,hly,hreg,hinj⟩:=h;have hlt:x<s.length:=by
  rcases Ck x s.length with hlt | hge
  ·exact hlt
  ·simp only[A2,Z,AB hge] at hx;cases hx
 have key:∀ t,A2 (s.set x r) t=if x=t then r else A2 s t:=by
  intro t;rw[Dn];by_cases hxt:x=t
  ·rw[if_pos ⟨hxt,hlt⟩,if_pos hxt]
  ·rw[if_neg (fun e=>hxt e.1),if_neg hxt]
 have hXold:∀ c,XS (s.set x r) a.tmps c->XS s a.tmps c:=by
  rintro c ⟨t,h1,h2⟩;rw[key] at h1;split at h1
  ·rw[he] at h1;cases h1
  ·exact⟨t,h1,h2⟩
 have hnb:∀ b,Bi (a.tmps.getD x Bw)=some b->¬ (X0 b\/XS (s.set x r) a.tmps b):=by
  rintro b hb (hx0 | ⟨t,h1,h2⟩)
  ·have h1:=hlow b hb;have:=hl b hx0;omega
  ·rw[key] at h1;split at h1
   ·rw[he] at h1;cases h1
   ·rename_i hxt;exact hxt (hinj t x b h1 hx h2 hb).symm
 have hmono:∀ c,(X0 c\/XS (s.set x r) a.tmps c)->(X0 c\/XS s a.tmps c)\/w.heap.size<=c:=fun c hc => .inl (hc.imp id (hXold c));refine⟨hdf,by rw[AW];exact hs,hbel,hl,hly,fun t => ?_,fun t t' b h1 h2 h3 h4 => ?_⟩
 ·rw[key];by_cases hxt:x=t
  ·subst hxt;rw[if_pos rfl];exact hnew _ hmono hnb
  ·rw[if_neg hxt];have h0:=hreg t;cases hrt:A2 s t with
   | val x=>rw[hrt] at h0;exact Rd.mono h0 hmono
   | box cs=>rw[hrt] at h0;obtain⟨b,e1,e2,e3⟩:=h0;exact⟨b,e1,e2,e3.mono hmono⟩
   | own k n cs=>rw[hrt] at h0;exact FO.mono h0 hmono
   | agn bb k n cs=>rw[hrt] at h0;exact Ju.mono h0 hmono
   | bxl d'=>rw[hrt] at h0;exact h0
   | mem cs=>rw[hrt] at h0;obtain⟨b,off,e1,e2,e3⟩:=h0;exact⟨b,off,e1,fun hne hx=>e2 hne (hx.imp id (hXold b)),e3.mono hmono⟩
   | ptr d off=>rw[hrt] at h0;exact h0
   | dup d=>rw[hrt] at h0;exact h0
   | sub _ _ _ _=>rw[hrt] at h0;exact h0
   | dead=>trivial
 ·rw[key] at h1 h2;split at h1
  ·rw[he] at h1;cases h1
  ·split at h2
   ·rw[he] at h2;cases h2
   ·exact hinj t t' b h1 h2 h3 h4
theorem Rel.freeze{Y X0:Nat->Prop}{roots:List (Nat × Nat)}{w0 w:World}{s:Ak}{a:Act}(h:Rel Y X0 roots w0 s a w){x k n:Nat}{cs:List AV}(hx:A2 s x = .own k n cs):Rel Y X0 roots w0 (s.set x (.val (.sl n cs))) a w:=by
 refine h.unown (by rw[hx];rfl) rfl fun X h1 h2 => ?_;have h0:=h.reg x;rw[hx] at h0;exact FO.frozen h0 h1 h2 h.lowY
theorem Gg.pt{Y X:Nat->Prop}{w:World}{b off:Nat}{cs:List AV}(hX:cs ≠ []->¬ X b)(h:Gg Y X w b off cs):Rd Y X w (.pointer (some ⟨b,off,none⟩)) (.pt cs):=by
 obtain⟨hd,hm⟩:=h;refine .pt b off cs (fun i=>(w.cell? ⟨b,off+i,none⟩).getD Bw) hd hX (fun i hi => ?_) (fun i hi => ?_)
 ·obtain⟨u,h1,_⟩:=hm i hi;rw[h1];rfl
 ·obtain⟨u,h1,h2⟩:=hm i hi;rw[h1];exact h2
theorem Rd.ofPt{Y X:Nat->Prop}{w:World}{v:Value}{cs:List AV}(h:Rd Y X w v (.pt cs)):∃ b off,v = .pointer (some ⟨b,off,none⟩)/\(cs ≠ []->¬ X b)/\Gg Y X w b off cs:=by
 cases h with
 | pt b off _ f hd hX hcell hr=>exact⟨b,off,rfl,hX,hd,fun i hi=>⟨f i,hcell i hi,hr i hi⟩⟩
end Go.Ai
