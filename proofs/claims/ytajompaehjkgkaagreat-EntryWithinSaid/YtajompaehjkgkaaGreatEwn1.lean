/- Texts of the proof of EntryWithin: part 1 of 13. -/
import Derived.Orders
import Derived.Below
namespace Go.Ai
open BitVec renaming ofInt->Aj
open Bool renaming and_eq_true->At,not_eq_true'->Fh
open Decidable renaming decide->E
open Function renaming comp->AGe
open List renaming all_cons->ABd,all_eq_true->CG,cons_append->Ks,contains_eq_mem->Lf,flatMap_cons->eG,getD_eq_getElem?_getD->Ad,getElem?_eq_none->Bi,getElem?_set_ne->H5,length->F,map_cons->CW,mem_append->BD,mem_append_left->F6,mem_append_right->Ez,mem_cons_of_mem->Bg,mem_cons_self->Ba,mem_map->DI,nil_append->Hg,replicate->AI,set_comm->zA
open Option renaming map_eq_some_iff->A0,map_some->AY
open Option.some renaming injEq->AS
open Prod.mk renaming injEq->E6
inductive Tag where
 | st (b:Bool)
 | tp (b:Bool)
inductive AV where
 | int (k:IntKind) (n:Int)
 | bool (b:Bool)
 | str (s:ByteArray)
 | agg (cs:List AV)
 | nil
 | sl (n:Nat) (cs:List AV)
 | tup (vs:List AV)
 | undef
 | fresh (k n:Nat) (cs:List AV)
 | frs (b:Tag) (k n:Nat) (cs:List AV)
 | pt (cs:List AV)
 | fnc (f:Nat) (cs:List AV)
def AV.cells:AV->List AV
 | .agg cs=>cs
 | x=>[x]
inductive Reg where
 | val (x:AV)
 | box (cs:List AV)
 | ptr (d off:Nat)
 | mem (cs:List AV)
 | own (k n:Nat) (cs:List AV)
 | agn (b:Tag) (k n:Nat) (cs:List AV)
 | bxl (d:Nat)
 | dup (d:Nat)
 | sub (d k l h:Nat)
 | dead
def Fv:Reg->Bool
 | .ptr _ _=>true
 | .dup _=>true
 | .sub _ _ _ _=>true
 | .bxl _=>true
 | _=>false
def HX:Reg->Bool
 | .val _=>true
 | .box _=>true
 | .mem _=>true
 | .own _ _ _=>true
 | .agn _ _ _ _=>true
 | _=>false
theorem AW{p:Prop}{_:Decidable p}:decide p=false↔¬p:=decide_eq_false_iff_not
theorem AZ{p:Prop}[Decidable p]:(decide p=true)=p:=decide_eq_true_eq
theorem Ar{c:Prop}{_:Decidable c}(h:c){α:Sort _}{t e:α}:ite c t e=t:=if_pos h
theorem Aw{c:Prop}{_:Decidable c}(h:¬c){α:Sort _}{t e:α}:ite c t e=e:=if_neg h
theorem Bw{p:Prop}[Decidable p]:¬p→decide p=false:=decide_eq_false
theorem BP{p:Prop}[Decidable p]:p→decide p=true:=decide_eq_true
theorem C3{α:Type _}[BEq α][LawfulBEq α]{a b:α}:(a==b)=false↔a≠b:=beq_eq_false_iff_ne
theorem BJ{α:Type _}[BEq α][LawfulBEq α]{a b:α}:a==b↔a=b:=beq_iff_eq
theorem lJ{r:Reg}(h:HX r=true):Fv r=false:=by cases r <;> first | rfl | cases h
abbrev Az:=List Reg
def AR(s:Az)(t:Nat):Reg:=s.getD t .dead
def EI(s:Az):Option Nat->Reg->Az
 | none,_=>s
 | some d,r=>s.set d r
def CE(s:Az):List (Nat × Reg)->Az
 | []=>s
 | (t,r)::l=>CE (s.set t r) l
def L:Nat->List Reg->List Reg
 | 0,s=>s
 | n+1,s => .dead::L n s
inductive Opd where
 | t (n:Nat)
 | c (x:AV)
def Opd.reg(s:Az):Opd->Reg
 | .t n=>AR s n
 | .c x => .val x
def Opd.av(s:Az)(o:Opd):Option AV :=
 match o.reg s with
 | .val x=>some x
 | _=>none
def Opd.rd:Opd->List Nat
 | .t n=>[n]
 | .c _=>[]
inductive K where
 | mov (x:Opd)
 | pick (c a b:Opd)
 | bin (op:BinOp) (x y:Opd)
 | eqb (neg:Bool) (x y:Opd)
 | un (op:UnOp) (x:Opd)
 | cv (k:IntKind) (x:Opd)
 | new (z:List AV) (kills:List Nat)
 | box (x:Opd) (kills:List Nat)
 | bld (z:List AV) (ps:List (Nat × Nat × Opd))
 | bls (n:Nat) (z:List AV) (ps:List (Nat × Nat × Opd))
 | adr (x d off:Nat)
 | ld (x d n:Nat) (one:Bool)
 | st (x d n:Nat) (v:Opd)
 | fld (x:Opd) (off n:Nat) (one:Bool)
 | ixa (x:Nat) (i:Opd) (k:Nat)
 | six (x i:Opd)
 | ext (x:Opd) (i:Nat)
 | len (x:Opd)
 | mx (xs:List Opd)
 | mn (xs:List Opd)
 | call (f:Nat) (xs:List Opd)
 | cpy (x:Nat)
 | tra (x:Nat)
 | frz (x:Nat)
 | mks (z:List AV) (n:Opd)
 | blo (k n:Nat) (z:List AV) (ps:List (Nat × Nat × Opd))
 | apd (ow:Bool) (x y:Opd) (k B:Nat)
 | sli (x:Opd) (lo hi mx:Option Opd) (k:Nat)
 | ixo (x d:Nat) (i:Opd) (k:Nat)
 | lno (x d:Nat)
 | clo (f:Nat) (xs:List Opd)
 | nlo (k:Nat)
 | brw (f x d:Nat)
 | bdo (a:Opd) (x:Nat) (l:List Nat)
 | cln (f:Nat) (xs:List Opd) (l:List Nat)
 | stl (x v:Nat)
 | fdo (x:Nat)
 | exo (x:Nat)
 | cpo (x:Nat)
 | sub (x d:Nat) (lo hi:Option Opd) (k:Nat)
 | app (ow:Bool) (x d:Nat) (y:Opd) (k:Nat)
 | apb (ow:Bool) (x y d k:Nat)
 | slo (x:Nat) (hi:Opd) (k:Nat)
 | cao (f k:Nat) (x:Opd) (xs:List Opd)
 | bad
structure IOp where
 dst:Option Nat
 k:K
 g:Option (Nat × Bool):=none
 ks:List Nat:=[]
def o1(d:Nat)(k:K):IOp:=⟨some d,k,none,[]⟩
def n(d:Nat)(k:K)(g:Nat)(b:Bool):IOp:=⟨some d,k,some (g,b),[]⟩
inductive ICode where
 | skip
 | region (drawn:Bool) (ops:List IOp)
 | seq (a b:ICode)
 | cond (c:Opd) (a b:ICode)
 | block (id:Nat) (c:ICode)
 | loop (c:ICode)
 | scope (c:ICode)
 | exit (id:Nat)
 | ret
inductive IRes where
 | tmp (t:Nat)
 | cell (t n:Nat) (one:Bool)
structure IFunc where
 params:Nat
 slots:Nat
 res:List IRes
 body:ICode
section
variable(op:BinOp)
def Aya(x y:Int):Option Bool :=
 match op with
 | .eql=>some (x==y)
 | .neq=>some (x != y)
 | .lss=>some (E (x<y))
 | .leq=>some (E (x<=y))
 | .gtr=>some (E (x>y))
 | .geq=>some (E (x>=y))
 | _=>none
def OR(k:IntKind)(x y:Int):Option Int :=
 match op with
 | .and=>some (k.wrap (Aj k.bits x &&& Aj k.bits y).toNat)
 | .or=>some (k.wrap (Aj k.bits x ||| Aj k.bits y).toNat)
 | .xor=>some (k.wrap (Aj k.bits x ^^^ Aj k.bits y).toNat)
 | _=>none
def rH(k:IntKind)(x y:Int):Option AV :=
 match op with
 | .add=>some (.int k (k.wrap (x+y)))
 | .sub=>some (.int k (k.wrap (x-y)))
 | .mul=>some (.int k (k.wrap (x*y)))
 | .quo=>if y=0 then none else some (.int k (k.wrap (x.tdiv y)))
 | .rem=>if y=0 then none else some (.int k (x.tmod y))
 | .and | .or | .xor=>(OR op k x y).map (.int k)
 | _=>(Aya op x y).map .bool
def UY(k:IntKind)(x y:Int):Option AV :=
 if y<0 then none
 else match op with
  | .shl=>some (.int k (k.wrap (x*2^(min y.toNat k.bits))))
  | .shr=>some (.int k (x.fdiv (2^(min y.toNat k.bits))))
  | _=>none
end
def Mb:BinOp->Bool
 | .shl | .shr=>true
 | _=>false
def Pm(op:BinOp)(x y:AV):Option AV :=
 match x,y with
 | .int k a,.int c b=>if Mb op then UY op k a b else if k=c then rH op k a b else none
 | _,_=>none
def unA(op:UnOp)(x:AV):Option AV :=
 match op,x with
 | .neg,.int k n=>some (.int k (k.wrap (0-n)))
 | .not,.bool b=>some (.bool (!b))
 | _,_=>none
def gC(k:IntKind):Int->List AV->Option Int
 | m,[]=>some m
 | m,.int a n::l=>if k=a then gC k (if n>m then n else m) l else none
 | _,_=>none
def gD(k:IntKind):Int->List AV->Option Int
 | m,[]=>some m
 | m,.int a n::l=>if k=a then gD k (if n<m then n else m) l else none
 | _,_=>none
def BQ(cs:List AV)(off n:Nat)(one:Bool):Option AV :=
 if one then cs[off]? else if off+n<=F cs then some (.agg ((cs.drop off).take n)) else none
def Di(cs:List AV)(off:Nat)(new:List AV):Option (List AV) :=
 if off+F new<=F cs then some (cs.take off++new++cs.drop (off+F new)) else none
def Oo:AV->Bool
 | .int _ _ | .bool _ | .str _ | .nil | .sl _ _=>true
 | _=>false
def HY(x:AV)(n:Nat):Option (List AV) :=
 match x with
 | .agg cs=>if F cs=n then some cs else none
 | .tup _=>none
 | .undef=>none
 | .fresh _ _ _=>none
 | .frs _ _ _ _=>none
 | .pt _=>none
 | .fnc _ _=>none
 | x=>if n=1 then some [x] else none
def HD(s:Az):List AV->List (Nat × Nat × Opd)->Option (List AV)
 | cs,[]=>some cs
 | cs,(off,n,o)::ps =>
  match o.av s with
  | none=>none
  | some x=>match HY x n with
   | none=>none
   | some a=>match Di cs off a with
    | none=>none
    | some b=>HD s b ps
def avs(s:Az):List Opd->Option (List AV)
 | []=>some []
 | o::l=>match o.av s with
  | none=>none
  | some x=>match avs s l with
   | none=>none
   | some xs=>some (x::xs)
abbrev C4:=Nat->List AV->Option AV
def Zm:AV->Bool
 | .int _ _=>true
 | _=>false
def Pn:AV->Bool
 | .sl _ cs=>cs.all Zm
 | .int _ _=>true
 | .bool _=>true
 | .str _=>true
 | .undef=>true
 | _=>false
def Iw:AV->Bool
 | .agg cs=>cs.all Pn
 | x=>Pn x
def N5:AV->AV
 | .fresh _ n cs => .sl n cs
 | .frs (.st b) _ n cs => .agg [.bool b,.sl n cs]
 | .frs (.tp b) _ n cs => .tup [.sl n cs,.bool b]
 | x=>x
def Hi:AV->Reg
 | .fresh k n cs => .own k n cs
 | .frs b k n cs => .agn b k n cs
 | x => .val x
def Uf:Opd->List (Nat × Reg)
 | .t n=>[(n,.dead)]
 | .c _=>[]
def C_(z:List AV):Nat->List AV
 | 0=>[]
 | n+1=>z++C_ z n
def Im(s:Az)(d:Nat):Option Opd->Option Nat
 | none=>some d
 | some o=>match o.av s with
  | some (.int _ i)=>if 0<=i then some i.toNat else none
  | _=>none
def Cj(g:C4)(s:Az):K->Option (Reg × List (Nat × Reg))
 | .mov x=>(x.av s).map fun v=>(.val v,[])
 | .pick c a b =>
  match c.av s with
  | some (.bool true)=>(a.av s).map fun v=>(.val v,[])
  | some (.bool false)=>(b.av s).map fun v=>(.val v,[])
  | _=>none
 | .bin op x y =>
  match x.av s,y.av s with
  | some a,some b=>(Pm op a b).map fun v=>(.val v,[])
  | _,_=>none
 | .eqb neg x y =>
  match x.av s,y.av s with
  | some (.bool a),some (.bool b)=>some (.val (.bool (if neg then !(a==b) else a==b)),[])
  | _,_=>none
 | .un op x=>match x.av s with
  | some a=>(unA op a).map fun v=>(.val v,[])
  | none=>none
 | .cv k x=>match x.av s with
  | some (.int _ n)=>some (.val (.int k (k.wrap n)),[])
  | _=>none
 | .new z kills=>some (.box z,kills.map fun t=>(t,.dead))
 | .box x kills=>match x.av s with
  | some (.agg cs)=>some (.box cs,kills.map fun t=>(t,.dead))
  | some x=>if Oo x then some (.box [x],kills.map fun t=>(t,.dead)) else none
  | none=>none
 | .bld z ps=>(HD s z ps).map fun cs=>(.val (.agg cs),[])
 | .bls n z ps=>(HD s z ps).map fun cs=>(.val (.sl n cs),[])
 | .adr x d off=>match AR s x with
  | .box _=>if x=d then some (.ptr d off,[]) else none
  | .ptr j o=>if j=d then some (.ptr d (o+off),[]) else none
  | .mem cs=>some (.mem (cs.drop off),[])
  | _=>none
 | .ld x d n one=>match AR s x with
  | .box cs=>if x=d then (BQ cs 0 n one).map fun v=>(.val v,[]) else none
  | .ptr j off=>if j=d then (match AR s d with
   | .box cs=>(BQ cs off n one).map fun v=>(.val v,[])
   | .own _ _ cs=>(BQ cs off n one).map fun v=>(.val v,[])
   | _=>none) else none
  | .mem cs=>(BQ cs 0 n one).map fun v=>(.val v,[])
  | _=>none
 | .st x d n v=>match v.av s with
  | none=>none
  | some a=>match HY a n with
   | none=>none
   | some ys=>match AR s x with
    | .box cs=>if x=d then (Di cs 0 ys).map fun q=>(.dead,[(d,.box q)]) else none
    | .ptr j off=>if j=d then (match AR s d with
     | .box cs=>(Di cs off ys).map fun q=>(.dead,[(d,.box q)])
     | .own k m cs=>(Di cs off ys).map fun q=>(.dead,[(d,.own k m q)])
     | _=>none) else none
    | _=>none
 | .fld x off n one=>match x.av s with
  | some (.agg cs)=>(BQ cs off n one).map fun v=>(.val v,[])
  | _=>none
 | .ixa x i k=>match i.av s with
  | some (.int _ i)=>(match AR s x with
   | .val (.sl n cs)=>if 0<=i/\i<n then some (.mem (cs.drop (i.toNat*k)),[]) else none
   | _=>none)
  | _=>none
 | .six x i=>match x.av s,i.av s with
  | some (.str b),some (.int _ i)=>(if 0<=i then b[i.toNat]? else none).map fun c=>(.val (.int .u8 c.toNat),[])
  | _,_=>none
 | .ext x i=>match x.av s with
  | some (.tup vs)=>(vs[i]?).map fun v=>(.val v,[])
  | _=>none
 | .len x=>match x.av s with
  | some .nil=>some (.val (.int .i64 0),[])
  | some (.sl n _)=>some (.val (.int .i64 n),[])
  | _=>none
 | .mx xs=>match avs s xs with
  | some (.int k n::l)=>(gC k n l).map fun m=>(.val (.int k m),[])
  | _=>none
 | .mn xs=>match avs s xs with
  | some (.int k n::l)=>(gD k n l).map fun m=>(.val (.int k m),[])
  | _=>none
 | .call f xs=>match avs s xs with
  | some vs=>(g f vs).map fun v=>(.val (N5 v),[])
  | none=>none
 | .clo f xs=>match avs s xs with
  | some vs=>(g f vs).map fun v=>(Hi v,[])
  | none=>none
 | .brw f x d=>match AR s x with
  | .dup j=>if j=d then (match AR s d with
   | .own _ n cs=>if cs.all (fun c => !Zm c) then (match g f [.sl n cs] with
    | some y=>if Iw (N5 y) then some (.val (N5 y),[]) else none
    | none=>none) else none
   | _=>none) else none
  | _=>none
 | .cpy x=>match AR s x with
  | .val v=>some (.val v,[])
  | .own _ _ _=>some (.dup x,[])
  | _=>none
 | .tra x=>match AR s x with
  | .val v=>some (.val v,[])
  | .own k n cs=>some (.own k n cs,[(x,.dead)])
  | .agn b k n cs=>some (.agn b k n cs,[(x,.dead)])
  | _=>none
 | .frz x=>match AR s x with
  | .val v=>some (.val v,[])
  | .own _ n cs=>some (.val (.sl n cs),[(x,.val (.sl n cs))])
  | _=>none
 | .mks z n=>match n.av s with
  | some (.int _ m)=>if 0<=m/\m<=1048576 then some (.own (F z) m.toNat (C_ z m.toNat),[]) else none
  | _=>none
 | .blo k n z ps=>(HD s z ps).map fun cs=>(.own k n cs,[])
 | .apd ow x y k e=>match y.av s with
  | some .nil=>(match x.reg s with
   | .val .nil=>some (.val .nil,[])
   | .own p n cs=>if p=k then some (if ow then .own k n cs else .val (.sl n cs),Uf x) else none
   | _=>none)
  | some (.sl m ys)=>if F ys=m*k then (match x.reg s with
   | .val .nil=>if m<=e then some (if ow then .own k m ys else .val (.sl m ys),[]) else none
   | .own p n cs=>if p=k/\n+m<=e then some (if ow then .own k (n+m) (cs++ys) else .val (.sl (n+m) (cs++ys)),Uf x) else none
   | _=>none) else none
  | _=>none
 | .sli x lo hi mx k=>match x.av s with
  | some .nil=>(match Im s 0 mx,Im s 0 hi,Im s 0 lo with
   | some 0,some 0,some 0=>if mx.isSome->hi.isSome then some (.val .nil,[]) else none
   | _,_,_=>none)
  | some (.sl n cs)=>(match Im s n mx,Im s n hi,Im s 0 lo with
   | some m,some h,some l=>if l<=h/\h<=m/\m<=n/\(mx.isSome->hi.isSome) then some (.val (.sl (h-l) ((cs.drop (l*k)).take ((h-l)*k))),[]) else none
   | _,_,_=>none)
  | _=>none
 | .ixo x d i k=>match i.av s with
  | some (.int _ i)=>(match AR s x with
   | .val (.sl n cs)=>if 0<=i/\i<n then some (.mem (cs.drop (i.toNat*k)),[]) else none
   | .dup j=>if j=d then (match AR s d with
    | .own p n _=>if p=k/\0<=i/\i<n then some (.ptr d (i.toNat*k),[]) else none
    | _=>none) else none
   | _=>none)
  | _=>none
 | .lno x d=>match AR s x with
  | .val .nil=>some (.val (.int .i64 0),[])
  | .val (.sl n _)=>some (.val (.int .i64 n),[])
  | .dup j=>if j=d then (match AR s d with
   | .own _ n _=>some (.val (.int .i64 n),[])
   | _=>none) else none
  | _=>none
 | .nlo k=>some (.own k 0 [],[])
 | .bdo a x l=>match a.av s with
  | some (.bool b)=>(match AR s x with
   | .own k n cs=>if l.all (fun t=>HX (AR s t)) then some (.agn (.st b) k n cs,[(x,.dead)]) else none
   | _=>none)
  | _=>none
 | .cln f xs l=>match avs s xs with
  | some vs=>if l.all (fun t=>HX (AR s t)) then (g f vs).map fun v=>(Hi v,[]) else none
  | none=>none
 | .stl x v=>match AR s x with
  | .box cs=>(match AR s v with
   | .agn (.st _) _ _ _=>if F cs=2 then some (.dead,[(x,.bxl v)]) else none
   | _=>none)
  | _=>none
 | .fdo x=>match AR s x with
  | .agn (.st _) k n cs=>some (.own k n cs,[(x,.dead)])
  | _=>none
 | .cpo x=>some (.dup x,[])
 | .exo x=>match AR s x with
  | .agn (.tp b) k n cs=>some (.own k n cs,[(x,.val (.tup [.sl n [],.bool b]))])
  | _=>none
 | .sub x d lo hi k=>match AR s x with
  | .dup j=>if j=d then (match AR s d with
   | .own p n _=>(match Im s n hi,Im s 0 lo with
    | some h,some l=>if p=k/\l<=h/\h<=n then some (.sub d k l h,[]) else none
    | _,_=>none)
   | _=>none) else none
  | _=>none
 | .app ow x d y k=>match AR s x with
  | .sub j p l h=>if j=d/\p=k/\l=0 then (match AR s d with
   | .own r n cs=>if r=k/\h<=n then (match y.av s with
    | some (.sl m ys)=>if F ys=m*k/\h+m<=1048576 then some (if ow then .own k (h+m) (cs.take (h*k)++ys) else .val (.sl (h+m) (cs.take (h*k)++ys)),[(d,.dead),(x,.dead)]) else none
    | _=>none) else none
   | _=>none) else none
  | _=>none
 | .apb ow x y d k=>match AR s x with
  | .own u n cs=>(match AR s y with
   | .sub j p l h=>if j=d/\p=k/\u=k then (match AR s d with
    | .own r w q=>if r=k/\h<=w/\n+(h-l)<=1048576 then some (if ow then .own k (n+(h-l)) (cs++(q.drop (l*k)).take ((h-l)*k)) else .val (.sl (n+(h-l)) (cs++(q.drop (l*k)).take ((h-l)*k))),[(x,.dead)]) else none
    | _=>none) else none
   | _=>none)
  | _=>none
 | .slo x hi k=>match hi.av s with
  | some (.int _ h)=>(match AR s x with
   | .own p n cs=>if p=k/\0<=h/\h<=n then some (.own k h.toNat (cs.take (h.toNat*k)),[(x,.dead)]) else none
   | _=>none)
  | _=>none
 | .cao f k x xs=>match avs s xs with
  | some vs=>(match x with
   | .t m=>(match AR s m with
    | .own p n cs=>(g f (.fresh p n cs::vs)).map fun v=>(Hi v,[(m,.dead)])
    | _=>none)
   | .c (.sl 0 [])=>(g f (.fresh k 0 []::vs)).map fun v=>(Hi v,[])
   | _=>none)
  | none=>none
 | .bad=>none
def IR(s:Az):Option (Nat × Bool)->Option Bool
 | none=>some true
 | some (t,b)=>match AR s t with
  | .val (.bool c)=>some (c==b)
  | .val .undef=>some false
  | _=>none
def kill(s:Az)(ks:List Nat):Az:=CE s (ks.map fun t=>(t,.dead))
def KB(a:C4)(o:IOp)(s:Az):Option Az :=
 match IR s o.g with
 | none=>none
 | some false=>some (EI s o.dst (.val .undef))
 | some true=>match Cj a s o.k with
  | none=>none
  | some (r,l)=>some (EI (CE s l) o.dst r)
def HE(a:C4)(o:IOp)(s:Az):Option Az:=KB a o (kill s o.ks)
def Fw(a:C4):List IOp->Az->Option Az
 | [],s=>some s
 | o::l,s=>match HE a o s with
  | none=>none
  | some b=>Fw a l b
inductive Ex where
 | norm
 | exit (id:Nat)
 | ret
def My(s:Az)(c:Opd):Option Bool :=
 match c.av s with
 | some (.bool b)=>some b
 | _=>none
def g(e:C4):Nat->ICode->Az->Option (Ex × Az)
 | 0,_,_=>none
 | _+1,.skip,s=>some (.norm,s)
 | _+1,.region _ ops,s=>(Fw e ops s).map fun d=>(.norm,d)
 | n+1,.seq a b,s=>match g e n a s with
  | some (.norm,d)=>g e n b d
  | r=>r
 | n+1,.cond c a b,s=>match My s c with
  | some true=>g e n a s
  | some false=>g e n b s
  | none=>none
 | n+1,.block id c,s=>match g e n c s with
  | some (.exit i,d)=>if i=id then some (.norm,d) else some (.exit i,d)
  | r=>r
 | n+1,.loop c,s=>match g e n c s with
  | some (.norm,d)=>g e n (.loop c) d
  | r=>r
 | n+1,.scope c,s=>g e n c s
 | _+1,.exit id,s=>some (.exit id,s)
 | _+1,.ret,s=>some (.ret,s)
def Gt(s:Az):IRes->Option AV
 | .tmp t=>match AR s t with
  | .val x=>some x
  | .own _ n cs=>some (.sl n cs)
  | _=>none
 | .cell t n one=>match AR s t with
  | .box cs=>BQ cs 0 n one
  | _=>none
def E'(s:Az):List IRes->Option (List AV)
 | []=>some []
 | r::l=>match Gt s r with
  | none=>none
  | some x=>match E' s l with
   | none=>none
   | some xs=>some (x::xs)
def JT(s:Az):List IRes->Option AV
 | [.tmp t]=>match AR s t with
  | .own k n cs=>some (.fresh k n cs)
  | .agn b k n cs=>some (.frs b k n cs)
  | _=>none
 | [.tmp t,.tmp u]=>match AR s t with
  | .own k n cs=>(match AR s u with
   | .val (.bool b)=>some (.frs (.tp b) k n cs)
   | _=>none)
  | _=>none
 | [.cell t n one]=>match AR s t with
  | .bxl d=>(match AR s d with
   | .agn (.st b) k m cs=>if n=2/\one=false then some (.frs (.st b) k m cs) else none
   | _=>none)
  | _=>none
 | _=>none
def In(s:Az)(l:List IRes):Option AV :=
 match JT s l with
 | some x=>some x
 | none =>
 match E' s l with
 | some [x]=>some x
 | some xs=>some (.tup xs)
 | none=>none
def Oq:AV->Reg
 | .pt cs => .mem cs
 | .fresh k n cs => .own k n cs
 | x => .val x
def I5(fn:IFunc)(a:List AV):Az:=a.map Oq++AI (fn.slots-F a) .dead
def Ru(prog:Nat->Option IFunc):Nat->C4
 | 0,_,_=>none
 | n+1,f,args=>match prog f with
  | none=>none
  | some fn=>if F args=fn.params then (match g (Ru prog n) n fn.body (I5 fn args) with
   | some (.exit _,_)=>none
   | some (_,s)=>In s fn.res
   | none=>none) else none
abbrev G:=List Int
abbrev sL{α:Type}(f:List α->List AV)(xs:List α):AV:=.sl (F xs) (f xs)
instance(n:Nat):OfNat Opd n:=⟨.t n⟩
abbrev xZ0:Ex:=.exit 0
abbrev xZ1:Ex:=.exit 1
abbrev xZ2:Ex:=.exit 2
abbrev xZ3:Ex:=.exit 3
abbrev xZ4:Ex:=.exit 4
abbrev xZ5:Ex:=.exit 5
abbrev xZ6:Ex:=.exit 6
abbrev xZ7:Ex:=.exit 7
abbrev xZ8:Ex:=.exit 8
abbrev xZ9:Ex:=.exit 9
def OS(l:List Opd):List Nat:=l.flatMap Opd.rd
def rdO:Option Opd->List Nat
 | none=>[]
 | some o=>o.rd
def Zn(l:List (Nat × Nat × Opd)):List Nat:=l.flatMap fun p=>p.2.2.rd
def rdK:K->List Nat
 | .mov x=>x.rd
 | .pick c a b=>c.rd++(a.rd++b.rd)
 | .bin _ x y=>x.rd++y.rd
 | .eqb _ x y=>x.rd++y.rd
 | .un _ x=>x.rd
 | .cv _ x=>x.rd
 | .new _ _=>[]
 | .box x _=>x.rd
 | .bld _ ps=>Zn ps
 | .bls _ _ ps=>Zn ps
 | .adr x _ _=>[x]
 | .ld x d _ _=>[x,d]
 | .st x d _ v=>x::d::v.rd
 | .fld x _ _ _=>x.rd
 | .ixa x i _=>x::i.rd
 | .six x i=>x.rd++i.rd
 | .ext x _=>x.rd
 | .len x=>x.rd
 | .mx xs=>OS xs
 | .mn xs=>OS xs
 | .call _ xs=>OS xs
 | .clo _ xs=>OS xs
 | .cpy x=>[x]
 | .tra x=>[x]
 | .frz x=>[x]
 | .mks _ n=>n.rd
 | .blo _ _ _ ps=>Zn ps
 | .apd _ x y _ _=>x.rd++y.rd
 | .sli x lo hi mx _=>x.rd++(rdO lo++(rdO hi++rdO mx))
 | .ixo x d i _=>x::d::i.rd
 | .lno x d=>[x,d]
 | .nlo _=>[]
 | .brw _ x d=>[x,d]
 | .bdo a x l=>x::(a.rd++l)
 | .cln _ xs l=>OS xs++l
 | .stl x v=>[x,v]
 | .fdo x=>[x]
 | .cpo _=>[]
 | .exo x=>[x]
 | .sub x d lo hi _=>x::d::(rdO lo++rdO hi)
 | .app _ x d y _=>x::d::y.rd
 | .apb _ x y d _=>[x,y,d]
 | .slo x hi _=>x::hi.rd
 | .cao _ _ x xs=>x.rd++OS xs
 | .bad=>[]
def Po:K->List Nat
 | .new _ kills=>kills
 | .box _ kills=>kills
 | .st _ d _ _=>[d]
 | .tra x=>[x]
 | .frz x=>[x]
 | .apd _ x _ _ _=>x.rd
 | .bdo _ x _=>[x]
 | .stl x _=>[x]
 | .fdo x=>[x]
 | .exo x=>[x]
 | .app _ x d _ _=>[d,x]
 | .apb _ x _ _ _=>[x]
 | .slo x _ _=>[x]
 | .cao _ _ x _=>x.rd
 | _=>[]
def IOp.rd(o:IOp):List Nat:=rdK o.k++o.g.toList.map (·.1)
def IOp.wr(o:IOp):List Nat:=Po o.k++(o.dst.toList++o.ks)
def GB(l:List Nat)(s a:Az):Prop:=∀ t∈l,AR s t=AR a t
section
variable{l m:List Nat}{s a:Az}
theorem GB.left(h:GB (l++m) s a):GB l s a:=fun t b=>h t (F6 _ b)
theorem GB.right(h:GB (l++m) s a):GB m s a:=fun t b=>h t (Ez _ b)
end
section
variable{t:Nat}{m:List Nat}{s a:Az}
theorem GB.head(h:GB (t::m) s a):AR s t=AR a t:=h t (Ba ..)
theorem GB.tail(h:GB (t::m) s a):GB m s a:=fun u b=>h u (Bg _ b)
end
theorem Co{o:Opd}{s a:Az}(h:GB o.rd s a):o.av s=o.av a:=by
 cases o with
 | t n=>simp only[Opd.av,Opd.reg,h n (by simp[Opd.rd])]
 | c x=>rfl
theorem Zo{o:Opd}{s a:Az}(h:GB o.rd s a):o.reg s=o.reg a:=by
 cases o with
 | t n=>simp only[Opd.reg,h n (by simp[Opd.rd])]
 | c x=>rfl
theorem Mc{o:Option Opd}{d:Nat}{s a:Az}(h:GB (rdO o) s a):Im s d o=Im a d o:=by
 cases o with
 | none=>rfl
 | some o=>simp only[Im,Co (o:=o) h]
theorem IS{s a:Az}:∀ {l:List Opd},GB (OS l) s a->avs s l=avs a l
 | [],_=>rfl
 | o::l,h=>by
  have h1:GB o.rd s a:=fun t b=>h t (by simp[OS,b]);have h2:GB (OS l) s a:=fun t b=>h t (by simp only[OS,eG,BD];exact .inr b);simp only[avs,Co h1,IS h2]
theorem MK{s a:Az}:∀ {ps:List (Nat × Nat × Opd)} {cs:List AV},GB (Zn ps) s a->HD s cs ps=HD a cs ps
 | [],_,_=>rfl
 | (off,n,o)::ps,cs,h=>by
  have h1:GB o.rd s a:=fun t b=>h t (by simp[Zn,b]);have h2:GB (Zn ps) s a:=fun t b=>h t (by simp only[Zn,eG,BD];exact .inr b);have d:∀ c:List AV,HD s c ps=HD a c ps:=fun c=>MK h2;simp only[HD,Co h1,d]
theorem Zp{l:List Nat}{s a:Az}{p:Reg->Bool}(h:GB l s a):(l.all fun t=>p (AR s t))=(l.all fun t=>p (AR a t)):=by
 induction l with
 | nil=>rfl
 | cons t l b=>simp only[ABd,h.head,b h.tail]
theorem zB{g:C4}{k:K}{s j:Az}(h:GB (rdK k) s j):Cj g s k=Cj g j k:=by
 cases k <;> simp only[rdK] at h
 case mov x=>simp only[Cj,Co h]
 case pick c a b=>simp only[Cj,Co h.left,Co h.right.left,Co h.right.right]
 case bin op x y=>simp only[Cj,Co h.left,Co h.right]
 case eqb neg x y=>simp only[Cj,Co h.left,Co h.right]
 case un op x=>simp only[Cj,Co h]
 case cv k x=>simp only[Cj,Co h]
 case new z kills=>rfl
 case box x kills=>simp only[Cj,Co h]
 case bld z ps=>simp only[Cj,MK h]
 case bls n z ps=>simp only[Cj,MK h]
 case adr x d off=>simp only[Cj,h.head]
 case ld x d n one=>simp only[Cj,h.head,h.tail.head]
 case st x d n v=>simp only[Cj,h.head,h.tail.head,Co h.tail.tail]
 case fld x off n one=>simp only[Cj,Co h]
 case ixa x i k=>simp only[Cj,h.head,Co h.tail]
 case six x i=>simp only[Cj,Co h.left,Co h.right]
 case ext x i=>simp only[Cj,Co h]
 case len x=>simp only[Cj,Co h]
 case mx xs=>simp only[Cj,IS h]
 case mn xs=>simp only[Cj,IS h]
 case call f xs=>simp only[Cj,IS h]
 case clo f xs=>simp only[Cj,IS h]
 case cpy x=>simp only[Cj,h.head]
 case tra x=>simp only[Cj,h.head]
 case frz x=>simp only[Cj,h.head]
 case mks z n=>simp only[Cj,Co h]
 case blo k n z ps=>simp only[Cj,MK h]
 case apd ow x y k e=>simp only[Cj,Zo h.left,Co h.right]
 case sli x lo hi mx k=>simp only[Cj,Co h.left,Mc h.right.left,Mc h.right.right.left,Mc h.right.right.right]
 case ixo x d i k=>simp only[Cj,h.head,h.tail.head,Co h.tail.tail]
 case lno x d=>simp only[Cj,h.head,h.tail.head]
 case nlo k=>rfl
 case bdo a x l =>
  have o:(l.all fun t=>HX (AR s t))=(l.all fun t=>HX (AR j t)):=Zp (p:=HX) h.tail.right;simp only[Cj,h.head,Co h.tail.left,o]
 case cln f xs l =>
  have o:(l.all fun t=>HX (AR s t))=(l.all fun t=>HX (AR j t)):=Zp (p:=HX) h.right;simp only[Cj,IS h.left,o]
 case stl x v=>simp only[Cj,h.head,h.tail.head]
 case fdo x=>simp only[Cj,h.head]
 case exo x=>simp only[Cj,h.head]
 case cpo x=>rfl
 case sub x d lo hi k=>simp only[Cj,h.head,h.tail.head,Mc h.tail.tail.left,Mc h.tail.tail.right]
 case app ow x d y k=>simp only[Cj,h.head,h.tail.head,Co h.tail.tail]
 case apb ow x y d k=>simp only[Cj,h.head,h.tail.head,h.tail.tail.head]
 case slo x hi k=>simp only[Cj,h.head,Co h.tail]
 case cao f k x xs =>
  cases x with
  | t m=>simp only[Cj,h.left m (by simp[Opd.rd]),IS h.right]
  | c y =>
   simp only[Cj,IS h.right];cases avs j xs with
   | none=>rfl
   | some vs=>cases y <;> first | rfl | (rename_i n cs;cases n <;> cases cs <;> rfl)
 case brw f x d=>simp only[Cj,h.head,h.tail.head]
 case bad=>rfl
theorem Alq{c:C4}{k:K}{s:Az}{r:Reg}{l:List (Nat × Reg)}(h:Cj c s k=some (r,l)):∀ p∈l,p.1∈Po k:=by
 cases k
 case new z kills=>simp only[Cj,AS,E6] at h;obtain⟨_,rfl⟩:=h;simp[Po]
 case box x kills =>
  simp only[Cj] at h;split at h
  ·simp only[AS,E6] at h;obtain⟨_,rfl⟩:=h;simp[Po]
  ·split at h
   ·simp only[AS,E6] at h;obtain⟨_,rfl⟩:=h;simp[Po]
   ·cases h
  ·cases h
 case st x d n v =>
  simp only[Cj] at h;split at h
  ·cases h
  ·split at h
   ·cases h
   ·split at h
    ·split at h
     ·simp only[A0] at h;obtain⟨a,_,h⟩:=h;cases h;simp[Po]
     ·cases h
    ·split at h
     ·split at h
      ·simp only[A0] at h;obtain⟨a,_,h⟩:=h;cases h;simp[Po]
      ·simp only[A0] at h;obtain⟨a,_,h⟩:=h;cases h;simp[Po]
      ·cases h
     ·cases h
    ·cases h
 case tra x =>
  simp only[Cj] at h;split at h <;> cases h <;> simp[Po]
 case frz x =>
  simp only[Cj] at h;split at h <;> cases h <;> simp[Po]
 case bdo a x ls =>
  simp only[Cj] at h;repeat' split at h
  all_goals cases h
  simp[Po]
 case stl x v =>
  simp only[Cj] at h;repeat' split at h
  all_goals cases h
  simp[Po]
 case fdo x =>
  simp only[Cj] at h;split at h <;> cases h;simp[Po]
 case cpo x =>
  simp only[Cj] at h;cases h;simp[Po]
 case exo x =>
  simp only[Cj] at h;split at h <;> cases h;simp[Po]
 case sub x d lo hi k =>
  simp only[Cj] at h;repeat' split at h
  all_goals cases h
  simp[Po]
 case app ow x d y k =>
  simp only[Cj] at h;repeat' split at h
  all_goals cases h
  all_goals simp[Po]
 case apb ow x y d k =>
  simp only[Cj] at h;repeat' split at h
  all_goals cases h
  all_goals simp[Po]
 case slo x hi k =>
  simp only[Cj] at h;repeat' split at h
  all_goals cases h
  simp[Po]
 case apd ow x y k b =>
  have e:∀ p∈Uf x,p.1∈x.rd:=by cases x <;> simp[Uf,Opd.rd]
  simp only[Cj] at h;intro p hp;repeat' split at h
  all_goals first
   | (cases h;exact e p hp)
   | (cases h;cases hp)
   | cases h
 case cao f k x xs =>
  simp only[Cj] at h;intro p hp;repeat' split at h
  all_goals first
   | (simp only[A0] at h;obtain⟨_,_,h⟩:=h;cases h;first | exact e p hp | (simp at hp;subst hp;simp[Po,Opd.rd]) | cases hp)
   | cases h
 all_goals
  have:l=[]:=by
   revert h;simp only[Cj];repeat' split
   all_goals
    intro h;first
     | cases h;rfl
     | (simp only[A0] at h;obtain⟨_,_,h⟩:=h;cases h;rfl)
     | cases h
  subst this;intro p hp;cases hp
def gF(a:C4)(o:IOp)(s:Az):Option (List (Nat × Reg)) :=
 match IR s o.g with
 | none=>none
 | some false=>some (o.dst.toList.map fun d=>(d,.val .undef))
 | some true=>(Cj a s o.k).map fun p=>p.2++o.dst.toList.map fun d=>(d,p.1)
def Zq(a:C4)(o:IOp)(s:Az):Option (List (Nat × Reg)):=(gF a o (kill s o.ks)).map fun l=>(o.ks.map fun t=>(t,Reg.dead))++l
theorem TG(s:Az)(l m:List (Nat × Reg)):CE s (l++m)=CE (CE s l) m:=by
 induction l generalizing s with
 | nil=>rfl
 | cons p l a=>obtain⟨t,r⟩:=p;simp only[Ks,CE,a]
theorem rI(s:Az)(d:Option Nat)(r:Reg):EI s d r=CE s (d.toList.map fun d=>(d,r)):=by
 cases d <;> rfl
theorem gG(a:C4)(o:IOp)(s:Az):KB a o s=(gF a o s).map (CE s):=by
 simp only[KB,gF];cases IR s o.g with
 | none=>rfl
 | some b =>
  cases b with
  | false=>simp only[AY,rI]
  | true =>
   cases Cj a s o.k with
   | none=>rfl
   | some p=>obtain⟨r,l⟩:=p;simp only[AY,TG,rI]
theorem Zr(a:C4)(o:IOp)(s:Az):HE a o s=(Zq a o s).map (CE s):=by
 simp only[HE,Zq,gG,Option.map_map];congr 1;funext l;simp only[AGe,TG,kill]
theorem lL{s:Az}{t u:Nat}{r:Reg}(h:t ≠ u):AR (s.set t r) u=AR s u:=by
 simp only[AR,Ad,H5 h]
theorem Ef(s:Az)(d:Nat)(r:Reg)(t:Nat):AR (s.set d r) t=if d=t/\d<F s then r else AR s t:=by
 simp only[AR,Ad,List.getElem?_set];by_cases h:d=t
 ·subst h;by_cases h2:d<F s
  ·simp[h2]
  ·simp[h2]
 ·simp[h]
theorem X9(k:Nat)(s:Az)(t:Nat):AR (s.set k .dead) t=if k=t then .dead else AR s t:=by
 rw[Ef];by_cases h:k=t
 ·subst h;rw[Ar rfl];split
  ·rfl
  ·rename_i hn;have:F s<=k:=by simpa using hn
   simp only[AR,Ad,Bi this];rfl
 ·rw[Aw h,Aw (fun e=>h e.1)]
theorem Hw(ks:List Nat):∀ (s:Az) (t:Nat),AR (kill s ks) t=if t∈ks then .dead else AR s t:=by
 unfold kill;induction ks with
 | nil=>intro s t;simp[CE]
 | cons k ks a =>
  intro s t;simp only[CW,CE];rw[a,X9];by_cases h1:t∈ks
  ·simp[h1]
  ·by_cases h2:k=t
   ·subst h2;simp
   ·have b:¬ t=k:=fun e=>h2 e.symm;simp[h1,h2,b]
theorem rJ{l ks:List Nat}{s a:Az}(h:GB l s a):GB l (kill s ks) (kill a ks):=by
 intro t b;rw[Hw,Hw,h t b]
theorem lM{g:Option (Nat × Bool)}{s a:Az}(h:GB (g.toList.map (·.1)) s a):IR s g=IR a g:=by
 cases g with
 | none=>rfl
 | some p=>obtain⟨t,b⟩:=p;simp only[IR,h t (by simp)]
section
variable{a:C4}{o:IOp}
theorem Zs{s b:Az}(h:GB o.rd s b):Zq a o s=Zq a o b:=by
 have c:GB o.rd (kill s o.ks) (kill b o.ks):=rJ h;simp only[Zq,gF,lM c.right,zB c.left]
theorem Zt{s:Az}{l:List (Nat × Reg)}(h:gF a o s=some l):∀ p∈l,p.1∈o.wr:=by
 simp only[gF] at h;intro p hp;split at h
 ·cases h
 ·cases h;simp only[DI] at hp;obtain⟨d,hd,rfl⟩:=hp;exact Ez _ (F6 _ hd)
 ·simp only[A0] at h;obtain⟨⟨r,g⟩,e,rfl⟩:=h;rcases BD.1 hp with hp | hp
  ·exact F6 _ (Alq e p hp)
  ·simp only[DI] at hp;obtain⟨d,hd,rfl⟩:=hp;exact Ez _ (F6 _ hd)
theorem gH{s:Az}{l:List (Nat × Reg)}(h:Zq a o s=some l):∀ p∈l,p.1∈o.wr:=by
 simp only[Zq,A0] at h;obtain⟨l,h,rfl⟩:=h;intro p hp;rcases BD.1 hp with hp | hp
 ·simp only[DI] at hp;obtain⟨t,f,rfl⟩:=hp;simp[IOp.wr,f]
 ·exact Zt h p hp
end
theorem Rv{l:List (Nat × Reg)}{u:Nat}:∀ {s:Az},(∀ p∈l,p.1 ≠ u)->AR (CE s l) u=AR s u:=by
 induction l with
 | nil=>intro s _;rfl
 | cons p l a =>
  intro s h;obtain⟨t,r⟩:=p;simp only[CE];rw[a (fun q b=>h q (Bg _ b)),lL (h (t,r) (Ba ..))]
theorem zC{l:List (Nat × Reg)}{t:Nat}{r:Reg}:∀ {s:Az},(∀ p∈l,p.1 ≠ t)->CE (s.set t r) l=(CE s l).set t r:=by
 induction l with
 | nil=>intro s _;rfl
 | cons p l a =>
  intro s h;obtain⟨u,q⟩:=p;simp only[CE];rw[zA _ _ (Ne.symm (h (u,q) (Ba ..))),a (fun p hp=>h p (Bg _ hp))]
theorem rK{l m:List (Nat × Reg)}:∀ {s:Az},(∀ p∈l,∀ q∈m,p.1 ≠ q.1)->CE (CE s l) m=CE (CE s m) l:=by
 induction l with
 | nil=>intro s _;rfl
 | cons p l b =>
  intro s h;obtain⟨t,r⟩:=p;simp only[CE];rw[b (fun p hp q a=>h p (Bg _ hp) q a),zC (fun q a=>Ne.symm (h (t,r) (Ba ..) q a))]
def Ug(a b:IOp):Bool:=a.wr.all (fun t => !(b.rd.contains t) && !(b.wr.contains t))&&b.wr.all (fun t => !(a.rd.contains t))
theorem rL{a b:IOp}(h:Ug a b=true):(∀ t∈a.wr,t ∉ b.rd/\t ∉ b.wr)/\∀ t∈b.wr,t ∉ a.rd:=by
 simp only[Ug,At,CG,Fh,Lf,AW] at h;exact h
theorem zF{c:C4}{a b:IOp}{s f g:Az}(hi:Ug a b=true)(h1:HE c a s=some f)(h2:HE c b f=some g) :
  ∃ h,HE c b s=some h/\HE c a h=some g:=by
 obtain⟨i,n⟩:=rL hi;rw[Zr] at h1 h2;simp only[A0] at h1 h2;obtain⟨o,j,rfl⟩:=h1;obtain⟨k,hb,rfl⟩:=h2;have l:=gH j;have m:=gH hb;have r:Zq c b (CE s o)=Zq c b s:=Zs fun t d=>Rv fun p hp e=>(i p.1 (l p hp)).1 (e ▸ d);rw[r] at hb;have u:Zq c a (CE s k)=Zq c a s:=Zs fun t d=>Rv fun p hp e=>n p.1 (m p hp) (e ▸ d);refine⟨CE s k,by rw[Zr,hb];rfl,?_⟩;rw[Zr,u,j];simp only[AY,AS];exact (rK fun p hp q v e=>(i p.1 (l p hp)).2 (e ▸ m q v)).symm
theorem lN{a:C4}{o:IOp}{l:List IOp}:∀ {s c:Az} {m:List IOp},(∀ p∈m,Ug p o=true)->Fw a (m++o::l) s=some c ->
  ∃ b,HE a o s=some b/\Fw a (m++l) b=some c:=by
 intro s c m;induction m generalizing s with
 | nil =>
  intro _ h;simp only[Hg,Fw] at h |-;cases h1:HE a o s with
  | none=>rw[h1] at h;cases h
  | some b=>rw[h1] at h;exact⟨b,rfl,h⟩
 | cons p m d =>
  intro hp h;simp only[Ks,Fw] at h |-;cases h1:HE a p s with
  | none=>rw[h1] at h;cases h
  | some b =>
   rw[h1] at h;obtain⟨n,e,f⟩:=d (fun q g=>hp q (Bg _ g)) h;obtain⟨i,j,k⟩:=zF (hp p (Ba ..)) h1 e;exact⟨i,j,by rw[k];exact f⟩
end Go.Ai
namespace Go.Ai
open Go.RowKit
open _root_.Array renaming getD_eq_getD_getElem?->Dq,getElem?_eq_none->ABq,getElem?_eq_some_iff->Gh,getElem?_setIfInBounds->Uc,size_setIfInBounds->SK
open Go renaming undef->BU
open Go.Act renaming put->Aip
open Go.RowKit.Below renaming refl->Jj
open Go.World renaming cell?->Zj
open List renaming all_eq_true->CG,getD_eq_getElem?_getD->Ad,getElem?_eq_none->Bi,getElem_mem->AP,length->F,length_pos_iff->Av,length_set->BH,map_cons->CW,mem_cons->BW,mem_of_mem_drop->E3,not_mem_nil->Y6
open Nat renaming add_assoc->E1,le_trans->B6,lt_irrefl->Y3,lt_of_lt_of_le->Dg,lt_of_not_le->Lc,lt_or_ge->CN
open Option renaming map_some->AY
open Option.some renaming injEq->AS
def Rw(cs:List AV):Prop:=∀ x∈cs,Oo x=true
inductive Rd (Y X:Nat->Prop) (w:World):Value->AV->Prop where
 | int (k:IntKind) (n:Int):Rd Y X w (.int k n) (.int k n)
 | bool (b:Bool):Rd Y X w (.bool b) (.bool b)
 | str (s:ByteArray):Rd Y X w (.string s) (.str s)
 | undef:Rd Y X w BU .undef
 | agg (vs:Array Value) (cs:List AV) (hd:Rw cs) (h:vs.size=cs.length) (hc:∀ (i:Nat) (h1:i<vs.size) (h2:i<cs.length),Rd Y X w vs[i] cs[i]):Rd Y X w (.agg vs) (.agg cs)
 | tup (vs:Array Value) (cs:List AV) (h:vs.size=cs.length) (hc:∀ (i:Nat) (h1:i<vs.size) (h2:i<cs.length),Rd Y X w vs[i] cs[i]):Rd Y X w (.tuple vs) (.tup cs)
 | nil:Rd Y X w (.slice none 0 0) .nil
 | nil0:Rd Y X w (.slice none 0 0) (.sl 0 [])
 | e0 (a:Addr) (c:Nat):Rd Y X w (.slice (some a) 0 c) (.sl 0 [])
 | sl (b off n cap:Nat) (cs:List AV) (f:Nat->Value) (hd:Rw cs) (hn:n<=cap) (hX:cs ≠ []->¬ X b) (hY:(∃ c∈cs,Zm c=true)->¬ Y b) (hcell:∀ i,i<cs.length->w.cell? ⟨b,off+i,none⟩=some (f i))
   (hr:∀ (i:Nat) (h:i<cs.length),Rd Y X w (f i) cs[i]):Rd Y X w (.slice (some ⟨b,off,none⟩) n cap) (.sl n cs)
 | pt (b off:Nat) (cs:List AV) (f:Nat->Value) (hd:Rw cs) (hX:cs ≠ []->¬ X b) (hcell:∀ i,i<cs.length->w.cell? ⟨b,off+i,none⟩=some (f i))
   (hr:∀ (i:Nat) (h:i<cs.length),Rd Y X w (f i) cs[i]):Rd Y X w (.pointer (some ⟨b,off,none⟩)) (.pt cs)
 | fnc (g:Nat) (u:Value) (cs:List AV) (h:Rd Y X w u (.pt cs)):Rd Y X w (.func (.func g) #[] #[u]) (.fnc g cs)
theorem GC{w a:World}{p:Addr}(h:a.heap[p.block]? = w.heap[p.block]?):a.cell? p=w.cell? p:=by
 simp only[Zj,h]
theorem Ni{w:World}{p:Addr}{v:Value}(h:w.cell? p=some v):p.block<w.heap.size:=by
 rcases CN p.block w.heap.size with h1 | h1
 ·exact h1
 ·simp[Zj,ABq h1] at h
theorem Rd.world{Y j:Nat->Prop}{w w':World}{v:Value}{x:AV}(h:Rd Y j w v x)(l:∀ b,¬ j b->b<w.heap.size->w'.heap[b]? = w.heap[b]?):Rd Y j w' v x:=by
 induction h with
 | int k n=>exact .int k n
 | bool b=>exact .bool b
 | str s=>exact .str s
 | undef=>exact .undef
 | agg vs cs hd h hc d=>exact .agg vs cs hd h d
 | tup vs cs h hc d=>exact .tup vs cs h d
 | nil=>exact .nil
 | nil0=>exact .nil0
 | e0 a c=>exact .e0 a c
 | sl b off n cap cs f hd hn hX hY hcell hr d =>
  refine .sl b off n cap cs f hd hn hX hY (fun i hi => ?_) d;have h1:=hcell i hi;rw[GC (l b (hX (by intro e;subst e;simp at hi)) (Ni h1))];exact h1
 | pt b off cs f hd hX hcell hr d =>
  refine .pt b off cs f hd hX (fun i hi => ?_) d;have h1:=hcell i hi;rw[GC (l b (hX (by intro e;subst e;simp at hi)) (Ni h1))];exact h1
 | fnc g u cs h d=>exact .fnc g u cs d
theorem Rd.mono{Y X X':Nat->Prop}{w:World}{v:Value}{x:AV}(h:Rd Y X w v x)(hX:∀ b,X' b->X b\/w.heap.size<=b):Rd Y X' w v x:=by
 induction h with
 | int k n=>exact .int k n
 | bool b=>exact .bool b
 | str s=>exact .str s
 | undef=>exact .undef
 | agg vs cs hd h hc d=>exact .agg vs cs hd h d
 | tup vs cs h hc d=>exact .tup vs cs h d
 | nil=>exact .nil
 | nil0=>exact .nil0
 | e0 a c=>exact .e0 a c
 | sl b off n cap cs f hd hn i hY hcell hr d =>
  refine .sl b off n cap cs f hd hn (fun e hb => ?_) hY hcell d;rcases hX b hb with h1 | h1
  ·exact i e h1
  ·have j:0<F cs:=Av.2 e;have:=Ni (hcell 0 j);simp only at this;omega
 | pt b off cs f hd i hcell hr d =>
  refine .pt b off cs f hd (fun e hb => ?_) hcell d;rcases hX b hb with h1 | h1
  ·exact i e h1
  ·have j:0<F cs:=Av.2 e;have:=Ni (hcell 0 j);simp only at this;omega
 | fnc g u cs h d=>exact .fnc g u cs d
section
variable{Y e d m:Nat->Prop}{w:World}{v:Value}{x:AV}
theorem Rd.lend(h:Rd Y e w v x)(hX:∀ b,m b->e b)(hY:∀ b,d b->Y b\/e b):Rd d m w v x:=by
 induction h with
 | int k n=>exact .int k n
 | bool b=>exact .bool b
 | str s=>exact .str s
 | undef=>exact .undef
 | agg vs cs hd h hc j=>exact .agg vs cs hd h j
 | tup vs cs h hc j=>exact .tup vs cs h j
 | nil=>exact .nil
 | nil0=>exact .nil0
 | e0 a c=>exact .e0 a c
 | sl b off n cap cs f hd hn l p hcell hr j =>
  refine .sl b off n cap cs f hd hn (fun o hb=>l o (hX b hb)) (fun hi hb => ?_) hcell j;rcases hY b hb with h1 | h1
  ·exact p hi h1
  ·obtain⟨c,hc,_⟩:=hi;exact l (List.ne_nil_of_mem hc) h1
 | pt b off cs f hd l hcell hr j=>exact .pt b off cs f hd (fun o hb=>l o (hX b hb)) hcell j
 | fnc g u cs h j=>exact .fnc g u cs j
theorem Rd.back1(h:Rd d m w v x)(hx:Pn x=true)(hX:∀ b,e b->m b\/d b)(hY:∀ b,Y b->d b):Rd Y e w v x:=by
 cases h with
 | int k n=>exact .int k n
 | bool b=>exact .bool b
 | str s=>exact .str s
 | undef=>exact .undef
 | agg vs cs hd h hc=>cases hx
 | tup vs cs h hc=>cases hx
 | nil=>cases hx
 | pt _ _ _ _ _ _ _ _=>cases hx
 | fnc _ _ _ _=>cases hx
 | nil0=>exact .nil0
 | e0 a c=>exact .e0 a c
 | sl b off n cap cs f hd hn l p hcell hr =>
  simp only[Pn,CG] at hx;have q:∀ c∈cs,¬ d b:=fun c hc=>p ⟨c,hc,hx c hc⟩;refine .sl b off n cap cs f hd hn (fun o hb => ?_) (fun ⟨c,hc,_⟩ hb=>q c hc (hY b hb)) hcell (fun i hi => ?_)
  ·obtain⟨c,hc⟩:=List.exists_mem_of_ne_nil cs o;rcases hX b hb with h1 | h1
   ·exact l o h1
   ·exact q c hc h1
  ·have h1:=hx _ (AP hi);have h2:=hr i hi;generalize cs[i]=c at h1 h2 |-;generalize f i=u at h2 |-;cases c <;> first | (cases h1;done) | (cases h2;exact .int _ _)
theorem Rd.back(h:Rd d m w v x)(hx:Iw x=true)(hX:∀ b,e b->m b\/d b)(hY:∀ b,Y b->d b):Rd Y e w v x:=by
 cases h with
 | agg vs cs hd h hc =>
  simp only[Iw,CG] at hx;exact .agg vs cs hd h fun i h1 h2=>(hc i h1 h2).back1 (hx _ (AP h2)) hX hY
 | int k n=>exact .int k n
 | bool b=>exact .bool b
 | str s=>exact .str s
 | undef=>exact .undef
 | tup vs cs h hc=>cases hx
 | nil=>cases hx
 | pt _ _ _ _ _ _ _ _=>cases hx
 | fnc _ _ _ _=>cases hx
 | nil0=>exact .nil0
 | e0 a c=>exact .e0 a c
 | sl b off n cap cs f hd hn l p hcell hr=>exact Rd.back1 (.sl b off n cap cs f hd hn l p hcell hr) hx hX hY
end
theorem zG{Y a:Nat->Prop}{w:World}{u:Value}{b:Bool}{n:Nat}{cs:List AV}(h:Rd Y a w u (.sl n cs)):Rd Y a w (.agg #[.bool b,u]) (.agg [.bool b,.sl n cs]):=by
 refine .agg _ _ (fun x hx => ?_) rfl (fun i h1 h2 => ?_)
 ·simp only[BW,Y6,or_false] at hx;rcases hx with rfl | rfl <;> rfl
 ·match i,h2 with
  | 0,_=>exact .bool b
  | 1,_=>exact h
def GX(Y a:Nat->Prop)(w:World)(b off:Nat)(cs:List AV):Prop :=
 Rw cs/\∀ (i:Nat) (h:i<F cs),∃ v,w.cell? ⟨b,off+i,none⟩=some v/\Rd Y a w v cs[i]
theorem GX.drop{Y X:Nat->Prop}{w:World}{b off:Nat}{cs:List AV}(h:GX Y X w b off cs)(k:Nat):GX Y X w b (off+k) (cs.drop k):=by
 obtain⟨hd,h⟩:=h;refine⟨fun x hx=>hd x (E3 hx),?_⟩;intro i hi;have hi':k+i<F cs:=by simp at hi;omega
 obtain⟨v,h1,h2⟩:=h (k+i) hi';refine⟨v,by rw[E1];exact h1,?_⟩;simpa using h2
theorem GX.world{Y a:Nat->Prop}{w w':World}{b off:Nat}{cs:List AV}(h:GX Y a w b off cs)(d:∀ c,¬ a c->c<w.heap.size->w'.heap[c]? = w.heap[c]?)
  (hb:b<w.heap.size->w'.heap[b]? = w.heap[b]?):GX Y a w' b off cs:=by
 obtain⟨hd,h⟩:=h;refine⟨hd,?_⟩;intro i hi;obtain⟨v,h1,h2⟩:=h i hi;exact⟨v,by rw[GC (hb (Ni h1))];exact h1,h2.world d⟩
theorem GX.mono{Y X X':Nat->Prop}{w:World}{b off:Nat}{cs:List AV}(h:GX Y X w b off cs)(hX:∀ b,X' b->X b\/w.heap.size<=b):GX Y X' w b off cs:=by
 obtain⟨hd,h⟩:=h;refine⟨hd,?_⟩;intro i hi;obtain⟨v,h1,h2⟩:=h i hi;exact⟨v,h1,h2.mono hX⟩
def IB:Value->Option Addr
 | .pointer (some p)=>some p
 | .slice (some p) _ _=>some p
 | .agg vs=>match vs.toList with
  | [.bool _,.slice (some p) _ _]=>some p
  | _=>none
 | .tuple vs=>match vs.toList with
  | [.slice (some p) _ _,.bool _]=>some p
  | _=>none
 | _=>none
def Bp(v:Value):Option Nat:=(IB v).map (·.block)
def E_:Reg->Bool
 | .box _=>true
 | .own _ _ _=>true
 | .agn _ _ _ _=>true
 | .bxl _=>true
 | _=>false
def HF(Y c:Nat->Prop)(w:World)(b off:Nat)(cs:List AV):Prop :=
 Rw cs/\∃ (vs:Array Value) (a:TypeId),w.heap[b]? = some (.cells vs a (0,0))/\off+F cs<=vs.size/\∀ (i:Nat) (h:i<F cs),∃ v,vs[off+i]? = some v/\Rd Y c w v cs[i]
theorem HF.mem{Y c:Nat->Prop}{w:World}{b off:Nat}{cs:List AV}(h:HF Y c w b off cs):GX Y c w b off cs:=by
 obtain⟨hd,vs,a,hb,_,hc⟩:=h;refine⟨hd,?_⟩;intro i hi;obtain⟨v,h1,h2⟩:=hc i hi;exact⟨v,by simp[Zj,hb,h1],h2⟩
theorem HF.lt{Y X:Nat->Prop}{w:World}{b off:Nat}{cs:List AV}(h:HF Y X w b off cs):b<w.heap.size:=by
 obtain⟨_,vs,a,hb,_⟩:=h;exact (Gh.1 hb).1
theorem HF.world{Y e:Nat->Prop}{w w':World}{b off:Nat}{cs:List AV}(h:HF Y e w b off cs)(d:∀ c,¬ e c->c<w.heap.size->w'.heap[c]? = w.heap[c]?)
  (hb:w'.heap[b]? = w.heap[b]?):HF Y e w' b off cs:=by
 obtain⟨hd,vs,a,h1,h2,f⟩:=h;exact⟨hd,vs,a,by rw[hb];exact h1,h2,fun i hi=>let ⟨v,g,j⟩:=f i hi; ⟨v,g,j.world d⟩⟩
theorem HF.mono{Y X X':Nat->Prop}{w:World}{b off:Nat}{cs:List AV}(h:HF Y X w b off cs)(hX:∀ b,X' b->X b\/w.heap.size<=b):HF Y X' w b off cs:=by
 obtain⟨hd,vs,a,h1,h2,c⟩:=h;exact⟨hd,vs,a,h1,h2,fun i hi=>let ⟨v,d,e⟩:=c i hi; ⟨v,d,e.mono hX⟩⟩
def XA(w:World)(b m:Nat):Prop:=∃ (vs:Array Value) (a:TypeId),w.heap[b]? = some (.cells vs a (0,0))/\m<=vs.size
theorem XA.world{w w':World}{b m:Nat}(h:XA w b m)(hb:w'.heap[b]? = w.heap[b]?):XA w' b m:=by
 obtain⟨vs,a,h1,h2⟩:=h;exact⟨vs,a,by rw[hb];exact h1,h2⟩
def GD(Y c a:Nat->Prop)(w:World)(v:Value)(k n:Nat)(cs:List AV):Prop :=
 (v = .slice none 0 0/\n=0/\cs=[]) \/
 ∃ b cap,v = .slice (some ⟨b,0,none⟩) n cap/\n<=cap/\F cs=n*k/\a b/\HF Y c w b 0 cs/\XA w b (cap*k)
theorem GD.world{Y e:Nat->Prop}{a:Nat->Prop}{w w':World}{v:Value}{k n:Nat}{cs:List AV}(h:GD Y e a w v k n cs)(i:∀ c,¬ e c->c<w.heap.size->w'.heap[c]? = w.heap[c]?)
  (hb:∀ b,Bp v=some b->b<w.heap.size->w'.heap[b]? = w.heap[b]?):GD Y e a w' v k n cs:=by
 rcases h with h | ⟨b,cap,d,j,l,m,f,o⟩
 ·exact .inl h
 ·have g:w'.heap[b]? = w.heap[b]? := hb b (by rw[d];rfl) f.lt;exact .inr ⟨b,cap,d,j,l,m,f.world i g,o.world g⟩
theorem GD.mono{Y X X':Nat->Prop}{a:Nat->Prop}{w:World}{v:Value}{k n:Nat}{cs:List AV}(h:GD Y X a w v k n cs)(hX:∀ b,X' b->X b\/w.heap.size<=b):GD Y X' a w v k n cs:=by
 rcases h with h | ⟨b,cap,c,d,e,f,g,i⟩
 ·exact .inl h
 ·exact .inr ⟨b,cap,c,d,e,f,g.mono hX,i⟩
theorem GD.lower{Y c:Nat->Prop}{a d:Nat->Prop}{w:World}{v:Value}{k n:Nat}{cs:List AV}(h:GD Y c a w v k n cs)(e:∀ b,a b->d b):GD Y c d w v k n cs:=by
 rcases h with h | ⟨b,cap,f,g,i,j,l,m⟩
 ·exact .inl h
 ·exact .inr ⟨b,cap,f,g,i,e b j,l,m⟩
theorem GD.block{Y c:Nat->Prop}{a:Nat->Prop}{w:World}{v:Value}{k n:Nat}{cs:List AV}(h:GD Y c a w v k n cs){b:Nat}(hb:Bp v=some b):a b/\b<w.heap.size:=by
 rcases h with ⟨rfl,_⟩ | ⟨g,cap,d,i,j,e,f,l⟩
 ·cases hb
 ·rw[d] at hb;simp only[Bp,IB,AY,AS] at hb;subst hb;exact⟨e,f.lt⟩
theorem GD.frozen{Y c d:Nat->Prop}{a:Nat->Prop}{w:World}{v:Value}{k n:Nat}{cs:List AV}(h:GD Y c a w v k n cs)(hX:∀ b,d b->c b\/w.heap.size<=b)(hb:∀ b,Bp v=some b->¬ d b)(hY:∀ b,Y b->¬ a b):Rd Y d w v (.sl n cs):=by
 rcases h with ⟨rfl,rfl,rfl⟩ | ⟨b,cap,e,g,o,j,l,p⟩
 ·exact .nil0
 have m:¬ d b:=hb b (by rw[e];rfl);obtain⟨hd,f⟩:=(l.mono hX).mem;subst e;refine .sl b 0 n cap cs (fun i=>(w.cell? ⟨b,0+i,none⟩).getD BU) hd g (fun _=>m) (fun _ h=>hY b h j) (fun i hi => ?_) (fun i hi => ?_)
 ·obtain⟨u,h1,_⟩:=f i hi;rw[h1];rfl
 ·obtain⟨u,h1,h2⟩:=f i hi;rw[h1];exact h2
theorem rM{Y e f d:Nat->Prop}{a:Nat->Prop}{w:World}{v:Value}{k n:Nat}{cs:List AV}(h:GD Y e a w v k n cs)(hX:∀ b,d b->e b)(hY:∀ b,f b->Y b\/e b)(hb:∀ b,Bp v=some b->¬ d b)(hi:cs.all (fun c => !Zm c)=true):Rd f d w v (.sl n cs):=by
 rcases h with ⟨rfl,rfl,rfl⟩ | ⟨b,cap,g,l,p,q,m,r⟩
 ·exact .nil0
 have o:¬ d b:=hb b (by rw[g];rfl);obtain⟨hd,j⟩:=m.mem;subst g;refine .sl b 0 n cap cs (fun i=>(w.cell? ⟨b,0+i,none⟩).getD BU) hd l (fun _=>o) (fun ⟨c,hc,h1⟩ _ => ?_) (fun i hi => ?_) (fun i hi => ?_)
 ·have:=CG.1 hi c hc;rw[h1] at this;cases this
 ·obtain⟨u,h1,_⟩:=j i hi;rw[h1];rfl
 ·obtain⟨u,h1,h2⟩:=j i hi;rw[h1];exact h2.lend hX hY
def rN:Tag->Value->Value
 | .st b,u => .agg #[.bool b,u]
 | .tp b,u => .tuple #[u,.bool b]
def M0(Y c a:Nat->Prop)(w:World)(v:Value)(b:Tag)(k n:Nat)(cs:List AV):Prop:=∃ u,v=rN b u/\GD Y c a w u k n cs
theorem Hx{Y c:Nat->Prop}{a:Nat->Prop}{w:World}{u:Value}{k n:Nat}{cs:List AV}(b:Tag)(h:GD Y c a w u k n cs):Bp (rN b u)=Bp u:=by
 cases b <;> rcases h with ⟨rfl,_⟩ | ⟨d,cap,rfl,_⟩ <;> rfl
theorem M0.world{Y e:Nat->Prop}{a:Nat->Prop}{w w':World}{v:Value}{b:Tag}{k n:Nat}{cs:List AV}(h:M0 Y e a w v b k n cs)(d:∀ c,¬ e c->c<w.heap.size->w'.heap[c]? = w.heap[c]?)
  (hb:∀ b,Bp v=some b->b<w.heap.size->w'.heap[b]? = w.heap[b]?):M0 Y e a w' v b k n cs:=by
 obtain⟨u,rfl,h⟩:=h;rw[Hx b h] at hb;exact⟨u,rfl,h.world d hb⟩
theorem M0.mono{Y X X':Nat->Prop}{a:Nat->Prop}{w:World}{v:Value}{b:Tag}{k n:Nat}{cs:List AV}(h:M0 Y X a w v b k n cs)(hX:∀ b,X' b->X b\/w.heap.size<=b):M0 Y X' a w v b k n cs:=by
 obtain⟨u,e,h⟩:=h;exact⟨u,e,h.mono hX⟩
theorem M0.lower{Y c:Nat->Prop}{a d:Nat->Prop}{w:World}{v:Value}{b:Tag}{k n:Nat}{cs:List AV}(h:M0 Y c a w v b k n cs)(f:∀ b,a b->d b):M0 Y c d w v b k n cs:=by
 obtain⟨u,e,h⟩:=h;exact⟨u,e,h.lower f⟩
theorem M0.own{Y X0:Nat->Prop}{e:Nat->Prop}{a:Nat->Prop}{w:World}{v:Value}{b:Tag}{k n:Nat}{cs:List AV}(h:M0 Y (fun c=>X0 c\/e c) a w v b k n cs)(d:∀ c,Bp v=some c->e c):M0 Y (fun c=>X0 c\/Bp v=some c) a w v b k n cs :=
 h.mono fun c hc => .inl (hc.imp id (d c))
theorem M0.block{Y e:Nat->Prop}{a:Nat->Prop}{w:World}{v:Value}{b:Tag}{k n:Nat}{cs:List AV}(h:M0 Y e a w v b k n cs){c:Nat}(hb:Bp v=some c):a c/\c<w.heap.size:=by
 obtain⟨u,rfl,h⟩:=h;rw[Hx b h] at hb;exact h.block hb
def AGh(k l h:Nat)(u v:Value):Prop:=(u = .slice none 0 0/\v = .slice none 0 0/\l=0/\h=0) \/
 ∃ b n cap,u = .slice (some ⟨b,0,none⟩) n cap/\l<=h/\h<=n/\n<=cap/\v = .slice (if cap=l then some ⟨b,0,none⟩ else some ⟨b,l*k,none⟩) (h-l) (cap-l)
def Ke(Y a B:Nat->Prop)(roots:List (Nat × Nat))(c:Array Value)(w:World)(t:Nat)(v:Value):Reg->Prop
 | .val x=>Rd Y a w v x
 | .box cs=>∃ b,v = .pointer (some ⟨b,0,none⟩)/\B b/\HF Y a w b 0 cs
 | .ptr d off=>(t,d)∈roots/\∃ p,IB (c.getD d BU)=some p/\p.spot=none/\v = .pointer (some ⟨p.block,p.off+off,none⟩)
 | .mem cs=>∃ b off,v = .pointer (some ⟨b,off,none⟩)/\(cs ≠ []->¬ a b)/\GX Y a w b off cs
 | .own k n cs=>GD Y a B w v k n cs
 | .agn b k n cs=>M0 Y a B w v b k n cs
 | .bxl d=>(t,d)∈roots/\∃ b,v = .pointer (some ⟨b,0,none⟩)/\B b/\b<w.heap.size/\∀ i,i<2->w.cell? ⟨b,i,none⟩=(c.getD d BU).cells[i]?
 | .dup d=>(t,d)∈roots/\v=c.getD d BU
 | .sub d k l h=>(t,d)∈roots/\AGh k l h (c.getD d BU) v
 | .dead=>True
def XS(s:Az)(a:Array Value)(b:Nat):Prop:=∃ t,E_ (AR s t)=true/\Bp (a.getD t BU)=some b
theorem Ke.monoX{Y c f:Nat->Prop}{a:Nat->Prop}{roots:List (Nat × Nat)}{l:Array Value}{w:World}{t:Nat}{v:Value}{r:Reg}(h:Ke Y c a roots l w t v r)(hX:∀ b,f b->c b):Ke Y f a roots l w t v r:=by
 have e:∀ b,f b->c b\/w.heap.size<=b:=fun b hb => .inl (hX b hb);cases r with
 | val x=>exact Rd.mono h e
 | box cs=>obtain⟨b,g,i,j⟩:=h;exact⟨b,g,i,j.mono e⟩
 | own k n cs=>exact GD.mono h e
 | agn o k n cs=>exact M0.mono h e
 | mem cs=>obtain⟨b,off,g,i,j⟩:=h;exact⟨b,off,g,fun m hx=>i m (hX b hx),j.mono e⟩
 | bxl p=>exact h
 | ptr d off=>exact h
 | dup d=>exact h
 | sub _ _ _ _=>exact h
 | dead=>trivial
structure Base where
 w:World
 own:Nat->Prop
def Base.mine(a:Base)(b:Nat):Prop:=a.w.heap.size<=b\/a.own b
structure Grown (B:Base) (w:World):Prop where
 os:w.os=B.w.os
 tape:w.tape=B.w.tape
 output:w.output=B.w.output
 size:B.w.heap.size<=w.heap.size
 block:∀ b,¬ B.mine b->w.heap[b]? = B.w.heap[b]?
theorem Grown.trans{a:Base}{w c:World}(h:Grown a w)(g:Below w.heap.size w c):Grown a c :=
 ⟨g.os.trans h.os,g.tape.trans h.tape,g.output.trans h.output,B6 h.size g.size,fun b hb=>(g.block b (Dg (Lc fun e=>hb (.inl e)) h.size)).trans (h.block b hb)⟩
theorem Grown.below{a:Base}{w:World}(h:Grown a w)(c:∀ b,¬ a.own b):Below a.w.heap.size a.w w :=
 ⟨h.os,h.tape,h.output,h.size,fun b hb=>h.block b (fun e=>e.elim (fun e=>Y3 _ (Dg hb e)) (c b))⟩
structure Rel (Y X0:Nat->Prop) (roots:List (Nat × Nat)) (w0:Base) (s:Az) (a:Act) (w:World):Prop where
 dfr:a.defers=[]
 size:a.tmps.size=s.length
 below:Grown w0 w
 low:∀ b,X0 b->¬ w0.mine b
 lowY:∀ b,Y b->¬ w0.mine b
 reg:∀ t,Ke Y (fun b=>X0 b\/XS s a.tmps b) w0.mine roots a.tmps w t (a.tmps.getD t BU) (AR s t)
 inj:∀ t t' b,E_ (AR s t)=true->E_ (AR s t')=true->Bp (a.tmps.getD t BU)=some b->Bp (a.tmps.getD t' BU)=some b->t=t'
theorem Below.ext{w a:World}(h:Below w.heap.size w a):∀ b,b<w.heap.size->a.heap[b]? = w.heap[b]? := h.block
theorem Nj(a:Array Value)(d:Nat)(v:Value)(t:Nat):(a.setIfInBounds d v).getD t BU=if d=t/\d<a.size then v else a.getD t BU:=by
 simp only[Dq,Uc];by_cases h:d=t
 ·subst h;by_cases h2:d<a.size
  ·simp[h2]
  ·simp[h2]
 ·simp[h]
theorem Kf(ks:List Nat):∀ (s:Az) (t:Nat),AR (CE s (ks.map fun u=>(u,Reg.dead))) t=AR s t\/AR (CE s (ks.map fun u=>(u,Reg.dead))) t = .dead:=by
 induction ks with
 | nil=>exact fun s t => .inl rfl
 | cons k ks a =>
  intro s t;simp only[CW,CE];rcases a (s.set k .dead) t with h | h
  ·rw[h,Ef];split
   ·exact .inr rfl
   ·exact .inl rfl
  ·exact .inr h
theorem KC(ks:List Nat):∀ (s:Az) (t:Nat),t∈ks->AR (CE s (ks.map fun u=>(u,Reg.dead))) t = .dead:=by
 induction ks with
 | nil=>intro s t h;cases h
 | cons k ks b =>
  intro s t h;simp only[CW,CE];by_cases a:t∈ks
  ·exact b _ t a
  ·have e:t=k:=by
    cases h with
    | head=>rfl
    | tail _ h=>exact absurd h a
   subst e;rcases Kf ks (s.set t .dead) t with h1 | h1
   ·rw[h1,Ef];split
    ·rfl
    ·rename_i hn;simp only[AR,Ad];have:F s<=t:=by simp at hn;exact hn
     rw[Bi this];rfl
   ·exact h1
theorem Hy(l:List (Nat × Reg)):∀ s:Az,F (CE s l)=F s:=by
 induction l with
 | nil=>intro s;rfl
 | cons p l a=>intro s;obtain⟨t,r⟩:=p;simp only[CE,a,BH]
theorem gI{Y c:Nat->Prop}{a:Nat->Prop}{roots:List (Nat × Nat)}{i:Array Value}{w:World}{t:Nat}{v:Value}{r:Reg}{b:Nat}(h:Ke Y c a roots i w t v r)(e:E_ r=true)(hb:Bp v=some b):a b:=by
 cases r with
 | box cs =>
  obtain⟨j,f,g,l⟩:=h;rw[f] at hb;simp only[Bp,IB,AY,AS] at hb;exact hb ▸ g
 | own k n cs=>exact (GD.block h hb).1
 | agn m k n cs=>exact (M0.block h hb).1
 | bxl o =>
  obtain⟨_,j,f,g,l,_⟩:=h;rw[f] at hb;simp only[Bp,IB,AY,AS] at hb;exact hb ▸ g
 | val x=>cases e
 | ptr d off=>cases e
 | mem cs=>cases e
 | dup d=>cases e
 | sub _ _ _ _=>cases e
 | dead=>cases e
theorem Rel.give{Y X0:Nat->Prop}{roots:List (Nat × Nat)}{w0:Base}{w K:World}{s:Az}{a:Act}(h:Rel Y X0 roots w0 s a w){f:Nat->Prop}(L:Grown ⟨w,f⟩ K)
  {d:Nat} {v:Value} {r:Reg} {ks:List Nat} (T:∀ b,f b->∃ x,x∈ks/\E_ (AR s x)=true/\Bp (a.tmps.getD x BU)=some b) (U:∀ t,(t,d)∈roots->t∈ks\/Fv (AR s t)=false)
  (a1:E_ r=true->∀ b,Bp v=some b->w.heap.size<=b\/f b)
  (hr:∀ g:Nat->Prop,(∀ b,g b->(X0 b\/XS s a.tmps b)\/(w.heap.size<=b/\Bp v=some b))->(∀ c,g c->f c->E_ r=true/\Bp v=some c)->(E_ r=false->∀ b,g b->X0 b\/XS s a.tmps b) ->
   Ke Y g w0.mine roots (a.tmps.setIfInBounds d v) K d v r) :
  Rel Y X0 roots w0 (EI (CE s (ks.map fun u=>(u,Reg.dead))) (some d) r) (a.put (some d) v) K:=by
 obtain⟨hd,hs,hb,V,a8,W,a4⟩:=h;have a5:w0.w.heap.size<=w.heap.size:=hb.size;have I:∀ c,c<w.heap.size->¬ f c->K.heap[c]? = w.heap[c]? := fun c hc C=>L.block c (fun e=>e.elim (fun e=>Y3 _ (Dg hc e)) C);have a2:∀ b,f b->XS s a.tmps b:=fun b hb=>let ⟨x,_,h2,o⟩:=T b hb; ⟨x,h2,o⟩
 have D:∀ t,AR (CE s (ks.map fun u=>(u,Reg.dead))) t=AR s t->E_ (AR s t)=true->∀ b,Bp (a.tmps.getD t BU)=some b->¬ f b:=by
  intro t j N b a9 C;obtain⟨x,h1,h2,o⟩:=T b C;have e:=a4 t x b N h2 a9 o;subst e;rw[KC ks s t h1] at j;rw[<- j] at N;cases N
 have X:∀ t,AR (EI (CE s (ks.map fun u=>(u,Reg.dead))) (some d) r) t=(if d=t/\d<F s then r else AR (CE s (ks.map fun u=>(u,Reg.dead))) t):=by
  intro t;simp only[EI];rw[Ef,Hy]
 have G:∀ t,(a.put (some d) v).tmps.getD t BU=if d=t/\d<F s then v else a.tmps.getD t BU:=by
  intro t;simp only[Aip];rw[Nj,hs]
 have a3:∀ b,XS (EI (CE s (ks.map fun u=>(u,Reg.dead))) (some d) r) (a.put (some d) v).tmps b->XS s a.tmps b\/(E_ r=true/\w.heap.size<=b/\Bp v=some b):=by
  rintro b ⟨t,h1,h2⟩;rw[X] at h1;rw[G] at h2;by_cases hc:d=t/\d<F s
  ·rw[Ar hc] at h1 h2;rcases a1 h1 b h2 with o | o
   ·exact .inr ⟨h1,o,h2⟩
   ·exact .inl (a2 b o)
  ·rw[Aw hc] at h1 h2;rcases Kf ks s t with j | j
   ·rw[j] at h1;exact .inl ⟨t,h1,h2⟩
   ·rw[j] at h1;cases h1
 generalize O:(fun b=>X0 b\/XS (EI (CE s (ks.map fun u=>(u,Reg.dead))) (some d) r) (a.put (some d) v).tmps b)=g;have a6:∀ b,g b->(X0 b\/XS s a.tmps b)\/w.heap.size<=b:=by
  intro b E;rw[<- O] at E;rcases E with h | h
  ·exact .inl (.inl h)
  ·rcases a3 b h with h | h
   ·exact .inl (.inr h)
   ·exact .inr h.2.1
 have b0:∀ b,g b->(X0 b\/XS s a.tmps b)\/(w.heap.size<=b/\Bp v=some b):=by
  intro b E;rw[<- O] at E;rcases E with h | h
  ·exact .inl (.inl h)
  ·rcases a3 b h with h | h
   ·exact .inl (.inr h)
   ·exact .inr h.2
 have b1:E_ r=false->∀ b,g b->X0 b\/XS s a.tmps b:=by
  intro N b E;rw[<- O] at E;rcases E with h | h
  ·exact .inl h
  ·rcases a3 b h with h | h
   ·exact .inr h
   ·rw[N] at h;cases h.1
 have b2:∀ c,g c->f c->E_ r=true/\Bp v=some c:=by
  intro c hc C;rw[<- O] at hc;rcases hc with hc | ⟨t,h1,h2⟩
  ·obtain⟨x,_,h2,o⟩:=T c C;exact absurd (gI (W x) h2 o) (V c hc)
  ·rw[X] at h1;rw[G] at h2;by_cases hc:d=t/\d<F s
   ·rw[Ar hc] at h1 h2;exact⟨h1,h2⟩
   ·rw[Aw hc] at h1 h2;rcases Kf ks s t with j | j
    ·rw[j] at h1;exact absurd C (D t j h1 c h2)
    ·rw[j] at h1;cases h1
 have P:∀ c,¬ (g c\/(X0 c\/XS s a.tmps c))->c<w.heap.size->K.heap[c]? = w.heap[c]? := fun c hc V=>I c V fun C=>hc (.inr (.inr (a2 c C)));have Q:∀ c,(g c\/(X0 c\/XS s a.tmps c))->(X0 c\/XS s a.tmps c)\/w.heap.size<=c:=fun c hc=>hc.elim (a6 c) .inl;have R:∀ c,g c->(g c\/(X0 c\/XS s a.tmps c))\/K.heap.size<=c:=fun c hc => .inl (.inl hc);refine⟨hd,by simp only[Aip,SK,EI,BH,Hy];exact hs,?_,V,a8,?_,?_⟩
 ·refine⟨L.os.trans hb.os,L.tape.trans hb.tape,L.output.trans hb.output,B6 a5 L.size,fun c hc => ?_⟩;have S:c<w.heap.size:=Dg (Lc fun e=>hc (.inl e)) a5;refine (I c S fun C => ?_).trans (hb.block c hc);obtain⟨x,_,h2,o⟩:=T c C;exact hc (gI (W x) h2 o)
 ·intro t;rw[O,X,G];by_cases hc:d=t/\d<F s
  ·rw[Ar hc,Ar hc];obtain⟨rfl,_⟩:=hc;exact hr g b0 b2 b1
  ·rw[Aw hc,Aw hc];rcases Kf ks s t with j | j
   ·rw[j];have m:=W t;cases l:AR s t with
    | val x=>rw[l] at m;exact ((Rd.mono m Q).world P).mono R
    | box cs =>
     rw[l] at m;obtain⟨b,q,y,B⟩:=m;exact⟨b,q,y,((B.mono Q).world P (I b B.lt (D t j (by rw[l];rfl) b (by rw[q];rfl)))).mono R⟩
    | own k n cs =>
     rw[l] at m;exact ((GD.mono m Q).world P (fun b h1 hb=>I b hb (D t j (by rw[l];rfl) b h1))).mono R
    | agn bb k n cs =>
     rw[l] at m;exact ((M0.mono m Q).world P (fun b h1 hb=>I b hb (D t j (by rw[l];rfl) b h1))).mono R
    | mem cs =>
     rw[l] at m;obtain⟨b,off,q,y,B⟩:=m;refine⟨b,off,q,fun D E => ?_,?_⟩;rotate_left
     ·by_cases a7:cs=[]
      ·subst a7;exact⟨fun x hx=>(by cases hx),fun i hi=>(by simp at hi)⟩
      ·exact ((B.mono Q).world P (fun hb=>I b hb fun C=>y a7 (.inr (a2 b C)))).mono R
     rcases a6 b E with h | h
     ·exact y D h
     ·have m:0<F cs:=Av.2 D;obtain⟨u,z,_⟩:=B.2 0 m;have:=Ni z;simp only at this;omega
    | ptr Z off =>
     rw[l] at m;obtain⟨q,p,y,B,e4⟩:=m;refine⟨q,p,?_,B,e4⟩;rw[G,Aw]
     ·exact y
     ·rintro⟨rfl,S⟩;rcases U t q with A | A
      ·have:=KC ks s t A;rw[j,l] at this;cases this
      ·rw[l] at A;cases A
    | dup Z =>
     rw[l] at m;obtain⟨q,y⟩:=m;refine⟨q,?_⟩;rw[G,Aw]
     ·exact y
     ·rintro⟨rfl,S⟩;rcases U t q with A | A
      ·have:=KC ks s t A;rw[j,l] at this;cases this
      ·rw[l] at A;cases A
    | sub Z _ _ _ =>
     rw[l] at m;obtain⟨q,y⟩:=m;refine⟨q,?_⟩;rw[G,Aw]
     ·exact y
     ·rintro⟨rfl,S⟩;rcases U t q with A | A
      ·have:=KC ks s t A;rw[j,l] at this;cases this
      ·rw[l] at A;cases A
    | bxl Z =>
     rw[l] at m;obtain⟨q,b,y,B,e4,e5⟩:=m;refine⟨q,b,y,B,Dg e4 L.size,fun i hi => ?_⟩;rw[G,Aw]
     ·rw[<- e5 i hi];exact GC (I b e4 (D t j (by rw[l];rfl) b (by rw[y];rfl)))
     ·rintro⟨rfl,S⟩;rcases U t q with A | A
      ·have:=KC ks s t A;rw[j,l] at this;cases this
      ·rw[l] at A;cases A
    | dead=>trivial
   ·rw[j];trivial
 ·intro t t' b h1 h2 o H;rw[X] at h1 h2;rw[G] at o H;have M:∀ u,(¬ (d=u/\d<F s))->E_ (AR (CE s (ks.map fun u=>(u,Reg.dead))) u)=true->E_ (AR s u)=true:=by
   intro u _ z;rcases Kf ks s u with j | j
   ·rw[j] at z;exact z
   ·rw[j] at z;cases z
  have lt:∀ u,E_ (AR s u)=true->Bp (a.tmps.getD u BU)=some b->b<w.heap.size:=by
   intro u z hv;have m:=W u;cases l:AR s u with
   | box cs =>
    rw[l] at m;obtain⟨b',q,_,B⟩:=m;rw[q] at hv;simp only[Bp,IB,AY,AS] at hv;exact hv ▸ B.lt
   | own k n cs =>
    rw[l] at m;exact (GD.block m hv).2
   | agn bb k n cs =>
    rw[l] at m;exact (M0.block m hv).2
   | bxl Z =>
    rw[l] at m;obtain⟨_,b',q,_,B,_⟩:=m;rw[q] at hv;simp only[Bp,IB,AY,AS] at hv;exact hv ▸ B
   | val x=>rw[l] at z;cases z
   | ptr d off=>rw[l] at z;cases z
   | mem cs=>rw[l] at z;cases z
   | dup d=>rw[l] at z;cases z
   | sub _ _ _ _=>rw[l] at z;cases z
   | dead=>rw[l] at z;cases z
  by_cases c1:d=t/\d<F s <;> by_cases J:d=t'/\d<F s
  ·exact c1.1.symm.trans J.1
  ·rw[Ar c1] at h1 o;rw[Aw J] at h2 H;have:=lt t' (M t' J h2) H;rcases a1 h1 b o with y | y
   ·omega
   ·rcases Kf ks s t' with j | j
    ·exact absurd y (D t' j (M t' J h2) b H)
    ·rw[j] at h2;cases h2
  ·rw[Aw c1] at h1 o;rw[Ar J] at h2 H;have:=lt t (M t c1 h1) o;rcases a1 h2 b H with y | y
   ·omega
   ·rcases Kf ks s t with j | j
    ·exact absurd y (D t j (M t c1 h1) b o)
    ·rw[j] at h1;cases h1
  ·rw[Aw c1] at h1 o;rw[Aw J] at h2 H;exact a4 t t' b (M t c1 h1) (M t' J h2) o H
theorem Alr{w a:World}(h:Below w.heap.size w a):Grown ⟨w,fun _=>False⟩ a :=
 ⟨h.os,h.tape,h.output,h.size,fun b hb=>h.block b (Lc fun e=>hb (.inl e))⟩
theorem Es{Y X0:Nat->Prop}{roots:List (Nat × Nat)}{w0:Base}{w w':World}{s:Az}{a:Act}(h:Rel Y X0 roots w0 s a w)(e:Below w.heap.size w w')
  {d:Nat} {v:Value} {r:Reg} {ks:List Nat} (f:∀ t,(t,d)∈roots->t∈ks\/Fv (AR s t)=false)
  (g:E_ r=true->∀ b,Bp v=some b->w.heap.size<=b)
  (hr:∀ c:Nat->Prop,(∀ b,c b->(X0 b\/XS s a.tmps b)\/(w.heap.size<=b/\Bp v=some b))->(E_ r=false->∀ b,c b->X0 b\/XS s a.tmps b) ->
   Ke Y c w0.mine roots (a.tmps.setIfInBounds d v) w' d v r) :
  Rel Y X0 roots w0 (EI (CE s (ks.map fun u=>(u,Reg.dead))) (some d) r) (a.put (some d) v) w' :=
 h.give (Alr e) (fun _ hb=>False.elim hb) f (fun i b hb => .inl (g i b hb)) fun c h1 _ h2=>hr c h1 h2
theorem ABv{s:Az}{a:Array Value}{d:Nat}{r r':Reg}(h:AR s d=r)(e:E_ r=E_ r')(b:Nat):XS (s.set d r') a b↔XS s a b:=by
 have c:∀ t,E_ (AR (s.set d r') t)=E_ (AR s t):=by
  intro t;rw[Ef];split
  next hc=>obtain⟨rfl,_⟩:=hc;rw[h,e]
  ·rfl
 constructor
 ·rintro⟨t,h1,h2⟩;exact⟨t,by rw[<- c];exact h1,h2⟩
 ·rintro⟨t,h1,h2⟩;exact⟨t,by rw[c];exact h1,h2⟩
theorem Rel.store{Y X0:Nat->Prop}{roots:List (Nat × Nat)}{w0:Base}{w w':World}{s:Az}{a:Act}(h:Rel Y X0 roots w0 s a w){d:Nat}{r r':Reg}{b:Nat}
  (hd:AR s d=r) (u:E_ r=true) (L:E_ r'=true) (hv:Bp (a.tmps.getD d BU)=some b) (M:w0.mine b) (N:w'.os=w.os) (O:w'.tape=w.tape) (P:w'.output=w.output)
  (D:w'.heap.size=w.heap.size) (o:∀ c,c ≠ b->w'.heap[c]? = w.heap[c]?)
  (Q:∀ f:Nat->Prop,(∀ c,f c↔(X0 c\/XS s a.tmps c))->Ke Y f w0.mine roots a.tmps w' d (a.tmps.getD d BU) r') :
  Rel Y X0 roots w0 (s.set d r') a w':=by
 obtain⟨R,hs,hb,S,T,U,E⟩:=h;have G:XS s a.tmps b:=⟨d,by rw[hd];exact u,hv⟩;have A:∀ c,(X0 c\/XS (s.set d r') a.tmps c)↔(X0 c\/XS s a.tmps c):=fun c=>by rw[ABv (r':=r') hd (by rw[u,L])]
 have v:∀ c,(X0 c\/XS (s.set d r') a.tmps c)->(X0 c\/XS s a.tmps c)\/w.heap.size<=c:=fun c hc => .inl ((A c).1 hc);have y:∀ c,¬ (X0 c\/XS (s.set d r') a.tmps c)->c<w.heap.size->w'.heap[c]? = w.heap[c]? := by
  intro c hc _;refine o c ?_;rintro rfl;exact hc ((A _).2 (.inr G))
 have H:∀ t,E_ (AR (s.set d r') t)=true->E_ (AR s t)=true:=by
  intro t B;rw[Ef] at B;split at B
  next hc=>rw[<- hc.1,hd];exact u
  ·exact B
 refine⟨R,by rw[BH];exact hs,?_,S,T,?_,?_⟩
 ·exact⟨N.trans hb.os,O.trans hb.tape,P.trans hb.output,by rw[D];exact hb.size,fun k I=>(o k (fun e=>I (e ▸ M))).trans (hb.block k I)⟩
 ·intro t;rw[Ef];split
  next hc=>obtain⟨rfl,_⟩:=hc;exact Q _ A
  ·rename_i hc;have g:=U t;have l:E_ (AR s t)=true->Bp (a.tmps.getD t BU) ≠ some b:=by
    intro h1 h2;have:=E d t b (by rw[hd];exact u) h1 hv h2;subst this;refine hc ⟨rfl,?_⟩;rcases CN d (F s) with V | W
    ·exact V
    ·simp only[AR,Ad,Bi W] at hd;subst hd;cases u
   cases m:AR s t with
   | val x=>rw[m] at g;exact (Rd.mono g v).world y
   | box cs =>
    rw[m] at g l;obtain⟨j,q,p,z⟩:=g;refine⟨j,q,p,(z.mono v).world y (o j ?_)⟩;rintro rfl;exact l rfl (by rw[q];rfl)
   | own k n cs =>
    rw[m] at g l;refine (GD.mono g v).world y (fun j C _=>o j ?_);rintro rfl;exact l rfl C
   | agn bb k n cs =>
    rw[m] at g l;refine (M0.mono g v).world y (fun j C _=>o j ?_);rintro rfl;exact l rfl C
   | bxl J =>
    rw[m] at g l;obtain⟨q,j,p,z,X,Z⟩:=g;refine⟨q,j,p,z,by rw[D];exact X,fun i hi => ?_⟩;rw[<- Z i hi];refine GC (o j ?_);rintro rfl;exact l rfl (by rw[p];rfl)
   | mem cs =>
    rw[m] at g;obtain⟨j,off,q,p,z⟩:=g;refine⟨j,off,q,fun l hx=>p l ((A _).1 hx),?_⟩;by_cases K:cs=[]
    ·subst K;exact⟨fun x hx=>(by cases hx),fun i hi=>(by simp at hi)⟩
    ·refine (z.mono v).world y (fun _=>o j ?_);rintro rfl;exact p K (.inr G)
   | ptr J off=>rw[m] at g;exact g
   | dup J=>rw[m] at g;exact g
   | sub _ _ _ _=>rw[m] at g;exact g
   | dead=>trivial
 ·intro t t' c h1 h2 h3 h4;exact E t t' c (H t h1) (H t' h2) h3 h4
theorem Rel.kill{Y X0:Nat->Prop}{roots:List (Nat × Nat)}{w0:Base}{w:World}{s:Az}{a:Act}(h:Rel Y X0 roots w0 s a w)(ks:List Nat):Rel Y X0 roots w0 (Go.Ai.kill s ks) a w:=by
 obtain⟨o,hs,hb,p,q,r,u⟩:=h;have m:∀ b,XS (Go.Ai.kill s ks) a.tmps b->XS s a.tmps b:=by
  rintro b ⟨t,h1,h2⟩;rw[Hw] at h1;split at h1
  ·cases h1
  ·exact⟨t,h1,h2⟩
 have g:∀ c,(X0 c\/XS (Go.Ai.kill s ks) a.tmps c)->(X0 c\/XS s a.tmps c)\/w.heap.size<=c:=fun c hc => .inl (hc.imp id (m c));refine⟨o,by rw[Go.Ai.kill,Hy];exact hs,hb,p,q,fun t => ?_,fun t t' b h1 h2 v y => ?_⟩
 ·rw[Hw];split
  ·trivial
  ·have e:=r t;cases f:AR s t with
   | val x=>rw[f] at e;exact Rd.mono e g
   | box cs=>rw[f] at e;obtain⟨b,i,j,l⟩:=e;exact⟨b,i,j,l.mono g⟩
   | own k n cs=>rw[f] at e;exact GD.mono e g
   | agn A k n cs=>rw[f] at e;exact M0.mono e g
   | bxl B=>rw[f] at e;exact e
   | mem cs=>rw[f] at e;obtain⟨b,off,i,j,l⟩:=e;exact⟨b,off,i,fun z hx=>j z (hx.imp id (m b)),l.mono g⟩
   | ptr d off=>rw[f] at e;exact e
   | dup d=>rw[f] at e;exact e
   | sub _ _ _ _=>rw[f] at e;exact e
   | dead=>trivial
 ·rw[Hw] at h1 h2;split at h1
  ·cases h1
  ·split at h2
   ·cases h2
   ·exact u t t' b h1 h2 v y
theorem Rel.ownLow{Y X0:Nat->Prop}{roots:List (Nat × Nat)}{w0:Base}{w:World}{s:Az}{a:Act}(h:Rel Y X0 roots w0 s a w){x k n:Nat}{cs:List AV}(hx:AR s x = .own k n cs) :
  (a.tmps.getD x BU = .slice none 0 0/\n=0/\cs=[]) \/
  ∃ b cap,a.tmps.getD x BU = .slice (some ⟨b,0,none⟩) n cap/\n<=cap/\F cs=n*k/\w0.mine b/\HF Y (fun b=>X0 b\/XS s a.tmps b) w b 0 cs/\XA w b (cap*k)/\XS s a.tmps b:=by
 have c:=h.reg x;rw[hx] at c;rcases c with c | ⟨b,cap,d,e,f,g,i,j⟩
 ·exact .inl c
 ·exact .inr ⟨b,cap,d,e,f,g,i,j,x,by rw[hx];rfl,by rw[d];rfl⟩
theorem Rel.exclLow{Y X0:Nat->Prop}{roots:List (Nat × Nat)}{w0:Base}{w:World}{s:Az}{a:Act}(h:Rel Y X0 roots w0 s a w){x b:Nat}(hx:E_ (AR s x)=true)(hb:Bp (a.tmps.getD x BU)=some b):w0.mine b/\b<w.heap.size:=by
 have e:=h.reg x;cases c:AR s x with
 | box cs =>
  rw[c] at e;obtain⟨j,f,g,i⟩:=e;rw[f] at hb;simp only[Bp,IB,AY,AS] at hb;exact hb ▸ ⟨g,i.lt⟩
 | own k n cs=>rw[c] at e;exact GD.block e hb
 | agn l k n cs=>rw[c] at e;exact M0.block e hb
 | bxl m =>
  rw[c] at e;obtain⟨_,j,f,g,i,_⟩:=e;rw[f] at hb;simp only[Bp,IB,AY,AS] at hb;exact hb ▸ ⟨g,i⟩
 | val x=>rw[c] at hx;cases hx
 | ptr d off=>rw[c] at hx;cases hx
 | mem cs=>rw[c] at hx;cases hx
 | dup d=>rw[c] at hx;cases hx
 | sub _ _ _ _=>rw[c] at hx;cases hx
 | dead=>rw[c] at hx;cases hx
theorem Rel.shift'{Y X0:Nat->Prop}{roots:List (Nat × Nat)}{w0:Base}{w q:World}{s:Az}{a:Act}(h:Rel Y X0 roots w0 s a w){x d:Nat}{r:Reg}{v:Value}{o:Nat}
  (hx:E_ (AR s x)=true) (hb:Bp (a.tmps.getD x BU)=some o) (J:∀ t,(t,d)∈roots->Fv (AR s t)=false)
  (a1:q.os=w.os) (a2:q.tape=w.tape) (a3:q.output=w.output) (U:q.heap.size=w.heap.size) (D:∀ c,c ≠ o->q.heap[c]? = w.heap[c]?) (N:E_ r=true->Bp v=some o)
  (a4:∀ f:Nat->Prop,(∀ c,f c->(X0 c\/XS s a.tmps c))->(E_ r=false->¬ f o)->Ke Y f w0.mine roots (a.tmps.setIfInBounds d v) q d v r) :
  Rel Y X0 roots w0 (EI (CE s [(x,Reg.dead)]) (some d) r) (a.put (some d) v) q:=by
 have V:=(h.exclLow hx hb).1;have O:XS s a.tmps o:=⟨x,hx,hb⟩;obtain⟨a5,hs,G,W,a6,a7,X⟩:=h;have K:∀ t,E_ (AR s t)=true->Bp (a.tmps.getD t BU)=some o->t=x:=fun t h1 h2=>X t x o h1 hx h2 hb;have L:∀ t,AR (EI (CE s [(x,Reg.dead)]) (some d) r) t=(if d=t/\d<F s then r else if x=t then .dead else AR s t):=by
  intro t;simp only[EI,CE];rw[Ef,BH,X9]
 have z:∀ t,(a.put (some d) v).tmps.getD t BU=if d=t/\d<F s then v else a.tmps.getD t BU:=by
  intro t;simp only[Aip];rw[Nj,hs]
 have a8:∀ c,XS (EI (CE s [(x,Reg.dead)]) (some d) r) (a.put (some d) v).tmps c->XS s a.tmps c:=by
  rintro c ⟨t,h1,h2⟩;rw[L] at h1;rw[z] at h2;by_cases hc:d=t/\d<F s
  ·rw[Ar hc] at h1 h2;rw[N h1] at h2;cases h2;exact O
  ·rw[Aw hc] at h1 h2;split at h1
   ·cases h1
   ·exact⟨t,h1,h2⟩
 have a9:E_ r=false->¬ (X0 o\/XS (EI (CE s [(x,Reg.dead)]) (some d) r) (a.put (some d) v).tmps o):=by
  rintro P (b0 | ⟨t,h1,h2⟩)
  ·exact W o b0 V
  ·rw[L] at h1;rw[z] at h2;by_cases hc:d=t/\d<F s
   ·rw[Ar hc,P] at h1;cases h1
   ·rw[Aw hc] at h1 h2;split at h1
    ·cases h1
    next u=>exact u (K t h1 h2).symm
 generalize Q:(fun c=>X0 c\/XS (EI (CE s [(x,Reg.dead)]) (some d) r) (a.put (some d) v).tmps c)=f;have R:∀ c,f c->(X0 c\/XS s a.tmps c):=by
  intro c hc;rw[<- Q] at hc;exact hc.imp id (a8 c)
 have H:∀ c,f c->(X0 c\/XS s a.tmps c)\/q.heap.size<=c:=fun c hc => .inl (R c hc);have I:∀ c,¬ (X0 c\/XS s a.tmps c)->c<w.heap.size->q.heap[c]? = w.heap[c]? := by
  intro c hc _;refine D c ?_;rintro rfl;exact hc (.inr O)
 refine⟨a5,by simp only[Aip,SK,EI,BH,Hy];exact hs,?_,W,a6,?_,?_⟩
 ·exact⟨a1.trans G.os,a2.trans G.tape,a3.trans G.output,by rw[U];exact G.size,fun c hc=>(D c (fun e=>hc (e ▸ V))).trans (G.block c hc)⟩
 ·intro t;rw[Q,L,z];by_cases hc:d=t/\d<F s
  ·rw[Ar hc,Ar hc];obtain⟨rfl,_⟩:=hc;exact a4 f R (fun P=>by rw[<- Q];exact a9 P)
  ·rw[Aw hc,Aw hc];by_cases u:x=t
   ·rw[Ar u];trivial
   ·rw[Aw u];have g:=a7 t;have A:E_ (AR s t)=true->∀ c,Bp (a.tmps.getD t BU)=some c->c ≠ o:=by
     intro h1 c h2 e;subst e;exact u (K t h1 h2).symm
    cases l:AR s t with
    | val y=>rw[l] at g;exact (Rd.world g I).mono H
    | box cs =>
     rw[l] at g A;obtain⟨c,j,m,E⟩:=g;exact⟨c,j,m,(E.world I (D c (A rfl c (by rw[j];rfl)))).mono H⟩
    | own k n cs =>
     rw[l] at g A;exact (GD.world g I (fun c hc _=>D c (A rfl c hc))).mono H
    | agn bb k n cs =>
     rw[l] at g A;exact (M0.world g I (fun c hc _=>D c (A rfl c hc))).mono H
    | bxl S =>
     rw[l] at g A;obtain⟨j,b,m,E,T,e5⟩:=g;refine⟨j,b,m,E,by rw[U];exact T,fun i hi => ?_⟩;rw[z,Aw]
     ·rw[<- e5 i hi];exact GC (D b (A rfl b (by rw[m];rfl)))
     ·rintro⟨rfl,_⟩;have:=J t j;rw[l] at this;cases this
    | mem cs =>
     rw[l] at g;obtain⟨c,off,j,m,E⟩:=g;refine⟨c,off,j,fun hn hx=>m hn (R c hx),?_⟩;by_cases Z:cs=[]
     ·subst Z;exact⟨fun x hx=>(by cases hx),fun i hi=>(by simp at hi)⟩
     ·refine (E.world I (fun _=>D c ?_)).mono H;rintro rfl;exact m Z (.inr O)
    | ptr S off =>
     rw[l] at g;obtain⟨j,p,m,E,T⟩:=g;refine⟨j,p,?_,E,T⟩;rw[z,Aw]
     ·exact m
     ·rintro⟨rfl,_⟩;have:=J t j;rw[l] at this;cases this
    | dup S =>
     rw[l] at g;obtain⟨j,m⟩:=g;refine⟨j,?_⟩;rw[z,Aw]
     ·exact m
     ·rintro⟨rfl,_⟩;have:=J t j;rw[l] at this;cases this
    | sub S _ _ _ =>
     rw[l] at g;obtain⟨j,m⟩:=g;refine⟨j,?_⟩;rw[z,Aw]
     ·exact m
     ·rintro⟨rfl,_⟩;have:=J t j;rw[l] at this;cases this
    | dead=>trivial
 ·intro t t' c h1 h2 B C;rw[L] at h1 h2;rw[z] at B C;by_cases c1:d=t/\d<F s <;> by_cases M:d=t'/\d<F s
  ·exact c1.1.symm.trans M.1
  ·rw[Ar c1] at h1 B;rw[Aw M] at h2 C;split at h2
   ·cases h2
   next u=>rw[N h1] at B;cases B;exact absurd (K t' h2 C).symm u
  ·rw[Aw c1] at h1 B;rw[Ar M] at h2 C;split at h1
   ·cases h1
   next u=>rw[N h2] at C;cases C;exact absurd (K t h1 B).symm u
  ·rw[Aw c1] at h1 B;rw[Aw M] at h2 C;split at h1
   ·cases h1
   ·split at h2
    ·cases h2
    ·exact X t t' c h1 h2 B C
theorem Rel.shift{Y X0:Nat->Prop}{roots:List (Nat × Nat)}{w0:Base}{w f:World}{s:Az}{a:Act}(h:Rel Y X0 roots w0 s a w){x d k n:Nat}{cs:List AV}{r:Reg}{v:Value}{b:Nat}
  (hx:AR s x = .own k n cs) (hb:Bp (a.tmps.getD x BU)=some b) (g:∀ t,(t,d)∈roots->Fv (AR s t)=false)
  (i:f.os=w.os) (j:f.tape=w.tape) (l:f.output=w.output) (m:f.heap.size=w.heap.size) (o:∀ c,c ≠ b->f.heap[c]? = w.heap[c]?) (p:E_ r=true->Bp v=some b)
  (q:∀ e:Nat->Prop,(∀ c,e c->(X0 c\/XS s a.tmps c))->(E_ r=false->¬ e b)->Ke Y e w0.mine roots (a.tmps.setIfInBounds d v) f d v r) :
  Rel Y X0 roots w0 (EI (CE s [(x,Reg.dead)]) (some d) r) (a.put (some d) v) f :=
 h.shift' (by rw[hx];rfl) hb g i j l m o p q
theorem Rel.pass{Y X0:Nat->Prop}{roots:List (Nat × Nat)}{w0:Base}{w:World}{s:Az}{a:Act}(h:Rel Y X0 roots w0 s a w){x d:Nat}{r:Reg}{v:Value}(hx:E_ (AR s x)=true)(hv:Bp v=Bp (a.tmps.getD x BU))
  (f:∀ t,(t,d)∈roots->Fv (AR s t)=false) (g:∀ e:Nat->Prop,(∀ c,e c->(X0 c\/XS s a.tmps c))->Ke Y e w0.mine roots (a.tmps.setIfInBounds d v) w d v r) :
  Rel Y X0 roots w0 (EI (CE s [(x,Reg.dead)]) (some d) r) (a.put (some d) v) w:=by
 cases hb:Bp (a.tmps.getD x BU) with
 | none =>
  rw[hb] at hv;refine Es (ks:=[x]) h (Jj _ _) (fun t i => .inr (f t i)) (fun _ b hb=>by rw[hv] at hb;cases hb) (fun e h1 _=>g e fun c hc => ?_);rcases h1 c hc with h2 | ⟨_,h2⟩
  ·exact h2
  ·rw[hv] at h2;cases h2
 | some b=>exact h.shift' hx hb f rfl rfl rfl rfl (fun _ _=>rfl) (fun _=>by rw[hv,hb]) (fun e h1 _=>g e h1)
theorem Rel.wake{Y X0:Nat->Prop}{roots:List (Nat × Nat)}{w0:Base}{w:World}{s:Az}{a:Act}(h:Rel Y X0 roots w0 s a w){x:Nat}{y:AV}(hx:AR s x = .dead)
  (hr:Rd Y (fun b=>X0 b\/XS s a.tmps b) w (a.tmps.getD x BU) y):Rel Y X0 roots w0 (s.set x (.val y)) a w:=by
 obtain⟨d,hs,e,f,i,j,k⟩:=h;have c:∀ t,E_ (AR (s.set x (.val y)) t)=E_ (AR s t):=by
  intro t;rw[Ef];split
  next g=>rw[<- g.1,hx];rfl
  ·rfl
 have l:XS (s.set x (.val y)) a.tmps=XS s a.tmps:=by
  funext b;unfold XS;simp only[c]
 refine⟨d,by rw[BH];exact hs,e,f,i,fun t => ?_,fun t t' b h1 h2 m n=>k t t' b (by rw[<- c];exact h1) (by rw[<- c];exact h2) m n⟩;rw[l,Ef];split
 next g=>rw[<- g.1];exact hr
 ·exact j t
theorem Rel.unown{Y X0:Nat->Prop}{roots:List (Nat × Nat)}{w0:Base}{w:World}{s:Az}{a:Act}(h:Rel Y X0 roots w0 s a w){x:Nat}{r:Reg}(hx:E_ (AR s x)=true)(m:E_ r=false)
  (B:∀ f:Nat->Prop,(∀ c,f c->(X0 c\/XS s a.tmps c)\/w.heap.size<=c)->(∀ b,Bp (a.tmps.getD x BU)=some b->¬ f b)->Ke Y f w0.mine roots a.tmps w x (a.tmps.getD x BU) r):Rel Y X0 roots w0 (s.set x r) a w:=by
 have C:=fun b hb=>(h.exclLow (b:=b) hx hb).1;obtain⟨D,hs,E,y,G,H,z⟩:=h;have p:x<F s:=by
  rcases CN x (F s) with p | I
  ·exact p
  ·simp only[AR,Ad,Bi I] at hx;cases hx
 have o:∀ t,AR (s.set x r) t=if x=t then r else AR s t:=by
  intro t;rw[Ef];by_cases i:x=t
  ·rw[Ar ⟨i,p⟩,Ar i]
  ·rw[Aw (fun e=>i e.1),Aw i]
 have A:∀ c,XS (s.set x r) a.tmps c->XS s a.tmps c:=by
  rintro c ⟨t,h1,h2⟩;rw[o] at h1;split at h1
  ·rw[m] at h1;cases h1
  ·exact⟨t,h1,h2⟩
 have J:∀ b,Bp (a.tmps.getD x BU)=some b->¬ (X0 b\/XS (s.set x r) a.tmps b):=by
  rintro b hb (K | ⟨t,h1,h2⟩)
  ·exact y b K (C b hb)
  ·rw[o] at h1;split at h1
   ·rw[m] at h1;cases h1
   next i=>exact i (z t x b h1 hx h2 hb).symm
 have l:∀ c,(X0 c\/XS (s.set x r) a.tmps c)->(X0 c\/XS s a.tmps c)\/w.heap.size<=c:=fun c hc => .inl (hc.imp id (A c));refine⟨D,by rw[BH];exact hs,E,y,G,fun t => ?_,fun t t' b h1 h2 L M => ?_⟩
 ·rw[o];by_cases i:x=t
  ·subst i;rw[Ar rfl];exact B _ l J
  ·rw[Aw i];have g:=H t;cases j:AR s t with
   | val x=>rw[j] at g;exact Rd.mono g l
   | box cs=>rw[j] at g;obtain⟨b,q,u,v⟩:=g;exact⟨b,q,u,v.mono l⟩
   | own k n cs=>rw[j] at g;exact GD.mono g l
   | agn O k n cs=>rw[j] at g;exact M0.mono g l
   | bxl P=>rw[j] at g;exact g
   | mem cs=>rw[j] at g;obtain⟨b,off,q,u,v⟩:=g;exact⟨b,off,q,fun N hx=>u N (hx.imp id (A b)),v.mono l⟩
   | ptr d off=>rw[j] at g;exact g
   | dup d=>rw[j] at g;exact g
   | sub _ _ _ _=>rw[j] at g;exact g
   | dead=>trivial
 ·rw[o] at h1 h2;split at h1
  ·rw[m] at h1;cases h1
  ·split at h2
   ·rw[m] at h2;cases h2
   ·exact z t t' b h1 h2 L M
theorem Rel.freeze{Y X0:Nat->Prop}{roots:List (Nat × Nat)}{w0:Base}{w:World}{s:Az}{a:Act}(h:Rel Y X0 roots w0 s a w){x k n:Nat}{cs:List AV}(hx:AR s x = .own k n cs):Rel Y X0 roots w0 (s.set x (.val (.sl n cs))) a w:=by
 refine h.unown (by rw[hx];rfl) rfl fun b h1 h2 => ?_;have c:=h.reg x;rw[hx] at c;exact GD.frozen c h1 h2 h.lowY
section
variable{Y a:Nat->Prop}{w:World}
theorem GX.pt{b off:Nat}{cs:List AV}(hX:cs ≠ []->¬ a b)(h:GX Y a w b off cs):Rd Y a w (.pointer (some ⟨b,off,none⟩)) (.pt cs):=by
 obtain⟨hd,c⟩:=h;refine .pt b off cs (fun i=>(w.cell? ⟨b,off+i,none⟩).getD BU) hd hX (fun i hi => ?_) (fun i hi => ?_)
 ·obtain⟨u,h1,_⟩:=c i hi;rw[h1];rfl
 ·obtain⟨u,h1,h2⟩:=c i hi;rw[h1];exact h2
theorem Ayb{v:Value}{cs:List AV}(h:Rd Y a w v (.pt cs)):∃ b off,v = .pointer (some ⟨b,off,none⟩)/\(cs ≠ []->¬ a b)/\GX Y a w b off cs:=by
 cases h with
 | pt b off _ f hd hX hcell hr=>exact⟨b,off,rfl,hX,hd,fun i hi=>⟨f i,hcell i hi,hr i hi⟩⟩
end
end Go.Ai
