/- Texts of the proof of ContactPlaces: part 1 of 17. -/
import Derived.Orders
import Derived.Below
namespace Go.Ai
open BitVec renaming ofInt->As
open Bool renaming and_eq_true->U,not_eq_true'->BJ,or_eq_true->C7
open Decidable renaming decide->E
open List renaming all_cons->H',all_eq_true->A6,append_assoc->EU,cons_append->LH,contains_eq_mem->Em,flatMap_cons->MP,getD_eq_getElem?_getD->Z,getElem?_eq_none->AS,getElem?_set->A1c,getElem?_set_ne->Do,length->C,length_set->Az,map_cons->BQ,map_nil->RK,mem_append->AF,mem_append_left->EF,mem_append_right->J5,mem_cons->Aw,mem_cons_of_mem->AI,mem_cons_self->A1,mem_filter->H4,mem_map->Dv,nil_append->C',not_mem_nil->AD,replicate->AK,set_comm->qZ
open Nat renaming lt_or_ge->C6
open Ne renaming symm->EG
open Option renaming map_eq_some_iff->S,map_some->Al,toList_some->Auh
open Option.some renaming injEq->Ab
open Prod.mk renaming injEq->BP
inductive Tag where
 | st (b:Bool)
 | tp (b:Bool)
inductive AV where
 | int (k:IntKind) (n:Int)
 | bool (b:Bool)
 | str (s:ByteArray)
 | agg (cs:List AV)
 | nil
 | sl (n:Nat) (cs:List AV)
 | tup (vs:List AV)
 | undef
 | fresh (k n:Nat) (cs:List AV)
 | frs (b:Tag) (k n:Nat) (cs:List AV)
 | pt (cs:List AV)
 | fnc (f:Nat) (cs:List AV)
 | gb (cs:List AV)
 | io (cs:List AV) (y:AV)
def AV.cells:AV->List AV
 | .agg cs=>cs
 | x=>[x]
inductive Reg where
 | val (x:AV)
 | box (cs:List AV)
 | ptr (d off:Nat)
 | mem (cs:List AV)
 | own (k n:Nat) (cs:List AV)
 | agn (b:Tag) (k n:Nat) (cs:List AV)
 | bxl (d:Nat)
 | dup (d:Nat)
 | sub (d k l h:Nat)
 | bxh (cs:List AV) (ls:List (Nat × Nat))
 | agh (cs:List AV) (ls:List (Nat × Nat))
 | bxg (cs:List AV)
 | dead
def BC:Reg->Bool
 | .ptr _ _=>true
 | .dup _=>true
 | .sub _ _ _ _=>true
 | .bxl _=>true
 | .bxh _ ls => !ls.isEmpty
 | .agh _ ls => !ls.isEmpty
 | _=>false
def Gh(r:Reg)(x:Nat):Bool :=
 match r with
 | .ptr d _=>d==x
 | .dup d=>d==x
 | .sub d _ _ _=>d==x
 | .bxl d=>d==x
 | .bxh _ ls=>ls.any fun p=>p.2==x
 | .agh _ ls=>ls.any fun p=>p.2==x
 | _=>false
theorem OA{p:Prop}{_:Decidable p}:decide p=false↔¬p:=decide_eq_false_iff_not
theorem Dm{p:Prop}[Decidable p]:(decide p=true)=p:=decide_eq_true_eq
theorem Af{c:Prop}{_:Decidable c}(h:c){α:Sort _}{t e:α}:ite c t e=t:=if_pos h
theorem Ak{c:Prop}{_:Decidable c}(h:¬c){α:Sort _}{t e:α}:ite c t e=e:=if_neg h
theorem AG{p:Prop}[Decidable p]:¬p→decide p=false:=decide_eq_false
theorem AN{p:Prop}[Decidable p]:p→decide p=true:=decide_eq_true
theorem H8{α:Type _}[BEq α][LawfulBEq α]{a b:α}:(a==b)=false↔a≠b:=beq_eq_false_iff_ne
theorem AW{α:Type _}[BEq α][LawfulBEq α]{a b:α}:a==b↔a=b:=beq_iff_eq
theorem SU{r:Reg}{x:Nat}(h:BC r=false):Gh r x=false:=by
 cases r <;> first | rfl | (cases h;done) | (rename_i ls;cases ls <;> first | rfl | cases h)
def KX(r:Reg)(x:Nat):Bool:=(match r with | .dead=>false | _=>true) && !(Gh r x)
def Ih:Reg->Bool
 | .box _=>true
 | .bxg _=>true
 | _=>false
def Ew:Reg->Bool
 | .val _=>true
 | .box _=>true
 | .mem _=>true
 | .own _ _ _=>true
 | .agn _ _ _ _=>true
 | .bxg _=>true
 | _=>false
theorem iE{r:Reg}(h:Ih r=true):Ew r=true:=by cases r <;> first | rfl | cases h
theorem Qs{r:Reg}(h:Ew r=true):BC r=false:=by cases r <;> first | rfl | cases h
abbrev V:=List Reg
def Ag(s:V)(t:Nat):Reg:=s.getD t .dead
def BD(s:V):Option Nat->Reg->V
 | none,_=>s
 | some d,r=>s.set d r
def AE(s:V):List (Nat × Reg)->V
 | []=>s
 | (t,r)::l=>AE (s.set t r) l
def W:Nat->List Reg->List Reg
 | 0,s=>s
 | n+1,s => .dead::W n s
inductive Opd where
 | t (n:Nat)
 | c (x:AV)
def Opd.reg(s:V):Opd->Reg
 | .t n=>Ag s n
 | .c x => .val x
def Opd.av(s:V)(o:Opd):Option AV :=
 match o.reg s with
 | .val x=>some x
 | _=>none
def Opd.rd:Opd->List Nat
 | .t n=>[n]
 | .c _=>[]
inductive K where
 | mov (x:Opd)
 | pick (c a b:Opd)
 | bin (op:BinOp) (x y:Opd)
 | eqb (neg:Bool) (x y:Opd)
 | eqv (neg:Bool) (n:Nat) (x y:Opd)
 | un (op:UnOp) (x:Opd)
 | cv (k:IntKind) (x:Opd)
 | new (z:List AV) (kills:List Nat)
 | box (x:Opd) (kills:List Nat)
 | bld (z:List AV) (ps:List (Nat × Nat × Opd))
 | bls (n:Nat) (z:List AV) (ps:List (Nat × Nat × Opd))
 | adr (x d off:Nat)
 | ld (x d n:Nat) (one:Bool)
 | st (x d n:Nat) (v:Opd)
 | fld (x:Opd) (off n:Nat) (one:Bool)
 | ixa (x:Nat) (i:Opd) (k:Nat)
 | six (x i:Opd)
 | ext (x:Opd) (i:Nat)
 | len (x:Opd)
 | mx (xs:List Opd)
 | mn (xs:List Opd)
 | call (f:Nat) (xs:List Opd)
 | cpy (x:Nat)
 | tra (x:Nat)
 | frz (x:Nat)
 | mks (z:List AV) (n:Opd)
 | blo (k n:Nat) (z:List AV) (ps:List (Nat × Nat × Opd))
 | apd (ow:Bool) (x y:Opd) (k B:Nat)
 | sli (x:Opd) (lo hi mx:Option Opd) (k:Nat)
 | ixo (x d:Nat) (i:Opd) (k:Nat)
 | lno (x d:Nat)
 | clo (f:Nat) (xs:List Opd)
 | nlo (k:Nat)
 | brw (f x d:Nat)
 | bdo (a:Opd) (x:Nat) (l:List Nat)
 | cln (f:Nat) (xs:List Opd) (l:List Nat)
 | stl (x v:Nat)
 | fdo (x:Nat)
 | exo (x:Nat)
 | slo (x:Nat) (hi:Opd) (k:Nat)
 | cao (f k:Nat) (x:Opd) (xs:List Opd)
 | npt
 | mvp (x d:Nat)
 | mvf (x y:Nat) (us zs:List Nat)
 | ldh (x d:Nat) (fz:Bool) (us:List Nat)
 | sth (x d v:Nat)
 | sts (x d:Nat) (v:Opd)
 | aph (x:Nat) (y:Opd) (k B d:Nat) (us:List Nat)
 | lda (x n:Nat) (us:List Nat)
 | ldz (x n:Nat) (us zs:List Nat)
 | blh (z:List AV) (qs:List (Nat × Nat))
 | sta (x v n:Nat) (us:List Nat)
 | bwh (f:Nat) (xs:List Opd) (us:List Nat)
 | cab (f x d:Nat) (xs:List Opd)
 | mkw (z:List AV) (n:Opd) (l:List Nat)
 | clw (f:Nat) (xs:List Opd) (d:Nat) (l:List Nat)
 | sbn (op:BinOp) (x y:Opd)
 | sln (x:Opd)
 | bad
structure IOp where
 dst:Option Nat
 k:K
 g:Option (Nat × Bool):=none
 ks:List Nat:=[]
def o1(d:Nat)(k:K):IOp:=⟨some d,k,none,[]⟩
def oN(k:K):IOp:=⟨none,k,none,[]⟩
def oG(d:Nat)(k:K)(g:Nat)(b:Bool):IOp:=⟨some d,k,some (g,b),[]⟩
def oM(d s:Nat):IOp:=⟨some d,.mov (.t s),none,[]⟩
def oC(d f:Nat)(l:List Nat):IOp:=⟨some d,.call f (l.map .t),none,[]⟩
def oB(d:Nat)(b:BinOp)(x y:Nat):IOp:=⟨some d,.bin b (.t x) (.t y),none,[]⟩
inductive ICode where
 | skip
 | region (drawn:Bool) (ops:List IOp)
 | seq (a b:ICode)
 | cond (c:Opd) (a b:ICode)
 | block (id:Nat) (c:ICode)
 | loop (c:ICode)
 | scope (c:ICode)
 | exit (id:Nat)
 | ret
inductive IRes where
 | tmp (t:Nat)
 | cell (t n:Nat) (one:Bool)
 | giv
structure IFunc where
 params:Nat
 slots:Nat
 res:List IRes
 body:ICode
section
variable(op:BinOp)
def wY(x y:Int):Option Bool :=
 match op with
 | .eql=>some (x==y)
 | .neq=>some (x != y)
 | .lss=>some (E (x<y))
 | .leq=>some (E (x<=y))
 | .gtr=>some (E (x>y))
 | .geq=>some (E (x>=y))
 | _=>none
def Agr(k:IntKind)(x y:Int):Option Int :=
 match op with
 | .and=>some (k.wrap (As k.bits x &&& As k.bits y).toNat)
 | .or=>some (k.wrap (As k.bits x ||| As k.bits y).toNat)
 | .xor=>some (k.wrap (As k.bits x ^^^ As k.bits y).toNat)
 | _=>none
def U2(k:IntKind)(x y:Int):Option AV :=
 match op with
 | .add=>some (.int k (k.wrap (x+y)))
 | .sub=>some (.int k (k.wrap (x-y)))
 | .mul=>some (.int k (k.wrap (x*y)))
 | .quo=>if y=0 then none else some (.int k (k.wrap (x.tdiv y)))
 | .rem=>if y=0 then none else some (.int k (x.tmod y))
 | .and | .or | .xor=>(Agr op k x y).map (.int k)
 | _=>(wY op x y).map .bool
def TX(k:IntKind)(x y:Int):Option AV :=
 if y<0 then none
 else match op with
  | .shl=>some (.int k (k.wrap (x*2^(min y.toNat k.bits))))
  | .shr=>some (.int k (x.fdiv (2^(min y.toNat k.bits))))
  | _=>none
end
def GT:BinOp->Bool
 | .shl | .shr=>true
 | _=>false
def J7(op:BinOp)(x y:AV):Option AV :=
 match x,y with
 | .int k a,.int c b=>if GT op then TX op k a b else if k=c then U2 op k a b else none
 | _,_=>none
def unA(op:UnOp)(x:AV):Option AV :=
 match op,x with
 | .neg,.int k n=>some (.int k (k.wrap (0-n)))
 | .not,.bool b=>some (.bool (!b))
 | _,_=>none
def B9:List AV->List AV->Option Bool
 | [],[]=>some true
 | .int k a::xs,.int c b::d=>if k=c then (B9 xs d).map (fun r=>a==b&&r) else none
 | _,_=>none
def Zf(k:IntKind):Int->List AV->Option Int
 | m,[]=>some m
 | m,.int a n::l=>if k=a then Zf k (if n>m then n else m) l else none
 | _,_=>none
def Zg(k:IntKind):Int->List AV->Option Int
 | m,[]=>some m
 | m,.int a n::l=>if k=a then Zg k (if n<m then n else m) l else none
 | _,_=>none
def Ae(cs:List AV)(off n:Nat)(one:Bool):Option AV :=
 if one then cs[off]? else if off+n<=C cs then some (.agg ((cs.drop off).take n)) else none
def BE(cs:List AV)(off:Nat)(new:List AV):Option (List AV) :=
 if off+C new<=C cs then some (cs.take off++new++cs.drop (off+C new)) else none
def EM:AV->Bool
 | .int _ _ | .bool _ | .str _ | .nil | .sl _ _=>true
 | _=>false
def Gz(x:AV)(n:Nat):Option (List AV) :=
 match x with
 | .agg cs=>if C cs=n then some cs else none
 | .tup _=>none
 | .undef=>none
 | .fresh _ _ _=>none
 | .frs _ _ _ _=>none
 | .pt _=>none
 | .fnc _ _=>none
 | .gb _=>none
 | .io _ _=>none
 | x=>if n=1 then some [x] else none
def FY(s:V):List AV->List (Nat × Nat × Opd)->Option (List AV)
 | cs,[]=>some cs
 | cs,(off,n,o)::ps =>
  match o.av s with
  | none=>none
  | some x=>match Gz x n with
   | none=>none
   | some a=>match BE cs off a with
    | none=>none
    | some b=>FY s b ps
def avs(s:V):List Opd->Option (List AV)
 | []=>some []
 | o::l=>match o.av s with
  | none=>none
  | some x=>match avs s l with
   | none=>none
   | some xs=>some (x::xs)
abbrev Bf:=Nat->List AV->Option AV
def isI:AV->Bool
 | .int _ _=>true
 | _=>false
def OB:AV->Bool
 | .sl _ cs=>cs.all isI
 | .int _ _=>true
 | .bool _=>true
 | .str _=>true
 | .undef=>true
 | _=>false
def KY:AV->Bool
 | .agg cs=>cs.all OB
 | x=>OB x
def KZ:AV->AV
 | .fresh _ n cs => .sl n cs
 | .frs (.st b) _ n cs => .agg [.bool b,.sl n cs]
 | .frs (.tp b) _ n cs => .tup [.sl n cs,.bool b]
 | .gb cs => .pt cs
 | x=>x
def Fp:AV->Reg
 | .fresh k n cs => .own k n cs
 | .frs b k n cs => .agn b k n cs
 | .gb cs => .box cs
 | x => .val x
def U3:Opd->List (Nat × Reg)
 | .t n=>[(n,.dead)]
 | .c _=>[]
def CE(z:List AV):Nat->List AV
 | 0=>[]
 | n+1=>z++CE z n
def GU(s:V)(d:Nat):Option Opd->Option Nat
 | none=>some d
 | some o=>match o.av s with
  | some (.int _ i)=>if 0<=i then some i.toNat else none
  | _=>none
def Ey:List (Nat × Nat)->Nat->Option Nat
 | [],_=>none
 | (o,u)::ls,i=>if o=i then some u else Ey ls i
def MY(ls:List (Nat × Nat))(i:Nat):List (Nat × Nat):=ls.filter fun p => !(p.1==i)
def Ie(s:V):List (Nat × Nat)->List AV->Option (List AV × List (Nat × Reg))
 | [],cs=>some (cs,[])
 | (o,u)::ls,cs=>match Ag s u with
  | .own _ n es=>(match Ie s ls cs with
   | some (a,l)=>some (a.set o (.sl n es),(u,.val (.sl n es))::l)
   | none=>none)
  | _=>none
def Kj(s:V):List (Nat × Nat)->List AV->Option (List AV)
 | [],cs=>some cs
 | (o,u)::ls,cs=>match Ag s u with
  | .own _ n es=>(Kj s ls cs).map fun a=>a.set o (.sl n es)
  | _=>none
def avH(s:V)(us:List Nat)(o:Opd):Option AV :=
 match o.reg s with
 | .val x=>some x
 | .agh cs ls=>if ls.all (fun p=>us.contains p.2) then (match Kj s ls cs with
  | some a=>if a.all EM then some (.agg a) else none
  | none=>none) else none
 | _=>none
def avsH(s:V)(us:List Nat):List Opd->Option (List AV)
 | []=>some []
 | o::l=>match avH s us o with
  | none=>none
  | some x=>match avsH s us l with
   | none=>none
   | some xs=>some (x::xs)
def RM:AV->Bool
 | .int _ _=>true
 | .bool _=>true
 | _=>false
def Zh(op:BinOp)(a b:ByteArray):Option AV :=
 match op with
 | .add=>if a.size+b.size<=9223372036854775807 then some (.str (a++b)) else none
 | .eql=>some (.bool (a.toList==b.toList))
 | .neq=>some (.bool (!(a.toList==b.toList)))
 | _=>none
def MZ(s:V)(d off:Nat)(fz:Bool)(us:List Nat)(cs:List AV)(ls:List (Nat × Nat)):Option (Reg × List (Nat × Reg)) :=
 if ls.all (fun p=>us.contains p.2) then (if off<C cs then (match (if fz then Ie s (MY ls off) cs else some (cs,[])) with
  | some (a,l)=>(match Ey ls off with
   | some u=>some (.dup u,if fz then l++[(d,.bxh a [(off,u)])] else [])
   | none=>(match a[off]? with
    | some c=>if EM c then some (.val c,if fz then l++[(d,.bxh a [])] else []) else none
    | none=>none))
  | none=>none) else none) else none
def Hs:List Nat->List AV->List AV
 | [],cs=>cs
 | z::zs,cs=>match cs[z]? with
  | some .nil=>Hs zs (cs.set z (.sl 0 []))
  | _=>Hs zs cs
def M'(s:V)(x y:Nat)(us zs:List Nat)(cs:List AV)(ls:List (Nat × Nat)):Option (Reg × List (Nat × Reg)) :=
 if ls.all (fun p=>us.contains p.2) then (match Ie s ls cs with
  | some (a,l)=>if a.all EM then some (.ptr x 0,l++[(y,.box (Hs zs a))]) else none
  | none=>none) else none
def M_(s:V)(x n:Nat)(us zs:List Nat)(cs:List AV)(ls:List (Nat × Nat)):Option (Reg × List (Nat × Reg)) :=
 if ls.all (fun p=>us.contains p.2) then (match Ie s ls cs with
  | some (a,l)=>if C a=n/\a.all EM then some (.val (.agg (Hs zs a)),l++[(x,.box a)]) else none
  | none=>none) else none
section
variable(r:Reg)(m:Nat)(a:List AV)
def aph0(k B:Nat):Option (Reg × List (Nat × Reg)) :=
 match r with
 | .val .nil=>if m<=B then some (.own k m a,[]) else none
 | _=>none
def iG(k B u x d off:Nat)(cs:List AV):Option (Reg × List (Nat × Reg)) :=
 match r with
 | .own b n es=>if b=k/\n+m<=B then some (.own k (n+m) (es++a),[(x,.dead),(d,.bxh (cs.set off .undef) []),(u,.dead)]) else none
 | _=>none
end
def IQ(s:V):List (Nat × Nat)->List AV->Option (List AV)
 | [],cs=>some cs
 | (o,u)::qs,cs=>match Ag s u with
  | .own _ _ _=>if o<C cs/\Ey qs o=none then (IQ s qs cs).map fun a=>a.set o .undef else none
  | _=>none
def A2(F:Bf)(s:V):K->Option (Reg × List (Nat × Reg))
 | .mov x=>(x.av s).map fun v=>(.val v,[])
 | .pick c a b =>
  match c.av s with
  | some (.bool true)=>(a.av s).map fun v=>(.val v,[])
  | some (.bool false)=>(b.av s).map fun v=>(.val v,[])
  | _=>none
 | .bin op x y =>
  match x.av s,y.av s with
  | some a,some b=>(J7 op a b).map fun v=>(.val v,[])
  | _,_=>none
 | .eqb neg x y =>
  match x.av s,y.av s with
  | some (.bool a),some (.bool b)=>some (.val (.bool (if neg then !(a==b) else a==b)),[])
  | _,_=>none
 | .eqv neg n x y =>
  match x.av s,y.av s with
  | some (.agg a),some (.agg b)=>if C a=n then (B9 a b).map fun v=>(.val (.bool (if neg then !v else v)),[]) else none
  | _,_=>none
 | .un op x=>match x.av s with
  | some a=>(unA op a).map fun v=>(.val v,[])
  | none=>none
 | .cv k x=>match x.av s with
  | some (.int _ n)=>some (.val (.int k (k.wrap n)),[])
  | _=>none
 | .new z kills=>some (.box z,kills.map fun t=>(t,.dead))
 | .box x kills=>match x.av s with
  | some (.agg cs)=>some (.box cs,kills.map fun t=>(t,.dead))
  | some x=>if EM x then some (.box [x],kills.map fun t=>(t,.dead)) else none
  | none=>none
 | .bld z ps=>(FY s z ps).map fun cs=>(.val (.agg cs),[])
 | .bls n z ps=>(FY s z ps).map fun cs=>(.val (.sl n cs),[])
 | .adr x d off=>match Ag s x with
  | .box _=>if x=d then some (.ptr d off,[]) else none
  | .ptr e o=>if e=d then some (.ptr d (o+off),[]) else none
  | .mem cs=>some (.mem (cs.drop off),[])
  | .bxh _ _=>if x=d then some (.ptr d off,[]) else none
  | .bxg _=>if x=d then some (.ptr d off,[]) else none
  | _=>none
 | .ld x d n one=>match Ag s x with
  | .box cs=>if x=d then (Ae cs 0 n one).map fun v=>(.val v,[]) else none
  | .ptr e off=>if e=d then (match Ag s d with
   | .box cs=>(Ae cs off n one).map fun v=>(.val v,[])
   | .own _ _ cs=>(Ae cs off n one).map fun v=>(.val v,[])
   | .bxg cs=>(Ae cs off n one).map fun v=>(.val v,[])
   | _=>none) else none
  | .mem cs=>(Ae cs 0 n one).map fun v=>(.val v,[])
  | _=>none
 | .st x d n v=>match v.av s with
  | none=>none
  | some a=>match Gz a n with
   | none=>none
   | some ys=>match Ag s x with
    | .box cs=>if x=d then (BE cs 0 ys).map fun g=>(.dead,[(d,.box g)]) else none
    | .ptr e off=>if e=d then (match Ag s d with
     | .box cs=>(BE cs off ys).map fun g=>(.dead,[(d,.box g)])
     | .own k m cs=>(BE cs off ys).map fun g=>(.dead,[(d,.own k m g)])
     | .bxg cs=>(BE cs off ys).map fun g=>(.dead,[(d,.bxg g)])
     | _=>none) else none
    | _=>none
 | .fld x off n one=>match x.av s with
  | some (.agg cs)=>(Ae cs off n one).map fun v=>(.val v,[])
  | _=>none
 | .ixa x i k=>match i.av s with
  | some (.int _ i)=>(match Ag s x with
   | .val (.sl n cs)=>if 0<=i/\i<n then some (.mem (cs.drop (i.toNat*k)),[]) else none
   | _=>none)
  | _=>none
 | .six x i=>match x.av s,i.av s with
  | some (.str b),some (.int _ i)=>(if 0<=i then b[i.toNat]? else none).map fun c=>(.val (.int .u8 c.toNat),[])
  | _,_=>none
 | .ext x i=>match x.av s with
  | some (.tup vs)=>(vs[i]?).map fun v=>(.val v,[])
  | _=>none
 | .len x=>match x.av s with
  | some .nil=>some (.val (.int .i64 0),[])
  | some (.sl n _)=>some (.val (.int .i64 n),[])
  | _=>none
 | .mx xs=>match avs s xs with
  | some (.int k n::l)=>(Zf k n l).map fun m=>(.val (.int k m),[])
  | _=>none
 | .mn xs=>match avs s xs with
  | some (.int k n::l)=>(Zg k n l).map fun m=>(.val (.int k m),[])
  | _=>none
 | .call f xs=>match avs s xs with
  | some vs=>(F f vs).map fun v=>(.val (KZ v),[])
  | none=>none
 | .clo f xs=>match avs s xs with
  | some vs=>(F f vs).map fun v=>(Fp v,[])
  | none=>none
 | .brw f x d=>match Ag s x with
  | .dup e=>if e=d then (match Ag s d with
   | .own _ n cs=>if cs.all (fun c => !isI c) then (match F f [.sl n cs] with
    | some y=>if KY (KZ y) then some (.val (KZ y),[]) else none
    | none=>none) else none
   | _=>none) else none
  | _=>none
 | .cpy x=>match Ag s x with
  | .val v=>some (.val v,[])
  | .own _ _ _=>some (.dup x,[])
  | _=>none
 | .tra x=>match Ag s x with
  | .val v=>some (.val v,[])
  | .box cs=>some (.box cs,[(x,.dead)])
  | .own k n cs=>some (.own k n cs,[(x,.dead)])
  | .agn b k n cs=>some (.agn b k n cs,[(x,.dead)])
  | _=>none
 | .frz x=>match Ag s x with
  | .val v=>some (.val v,[])
  | .own _ n cs=>some (.val (.sl n cs),[(x,.val (.sl n cs))])
  | _=>none
 | .mks z n=>match n.av s with
  | some (.int _ m)=>if 0<=m/\m<=1048576 then some (.own (C z) m.toNat (CE z m.toNat),[]) else none
  | _=>none
 | .blo k n z ps=>(FY s z ps).map fun cs=>(.own k n cs,[])
 | .apd ow x y k B=>match y.av s with
  | some .nil=>(match x.reg s with
   | .val .nil=>some (.val .nil,[])
   | .own j n cs=>if j=k then some (if ow then .own k n cs else .val (.sl n cs),U3 x) else none
   | _=>none)
  | some (.sl m ys)=>if C ys=m*k then (match x.reg s with
   | .val .nil=>if m<=B then some (if ow then .own k m ys else .val (.sl m ys),[]) else none
   | .own j n cs=>if j=k/\n+m<=B then some (if ow then .own k (n+m) (cs++ys) else .val (.sl (n+m) (cs++ys)),U3 x) else none
   | _=>none) else none
  | _=>none
 | .sli x lo hi mx k=>match x.av s with
  | some .nil=>(match GU s 0 mx,GU s 0 hi,GU s 0 lo with
   | some 0,some 0,some 0=>if mx.isSome->hi.isSome then some (.val .nil,[]) else none
   | _,_,_=>none)
  | some (.sl n cs)=>(match GU s n mx,GU s n hi,GU s 0 lo with
   | some m,some h,some l=>if l<=h/\h<=m/\m<=n/\(mx.isSome->hi.isSome) then some (.val (.sl (h-l) ((cs.drop (l*k)).take ((h-l)*k))),[]) else none
   | _,_,_=>none)
  | _=>none
 | .ixo x d i k=>match i.av s with
  | some (.int _ i)=>(match Ag s x with
   | .val (.sl n cs)=>if 0<=i/\i<n then some (.mem (cs.drop (i.toNat*k)),[]) else none
   | .dup e=>if e=d then (match Ag s d with
    | .own j n _=>if j=k/\0<=i/\i<n then some (.ptr d (i.toNat*k),[]) else none
    | _=>none) else none
   | _=>none)
  | _=>none
 | .lno x d=>match Ag s x with
  | .val .nil=>some (.val (.int .i64 0),[])
  | .val (.sl n _)=>some (.val (.int .i64 n),[])
  | .dup e=>if e=d then (match Ag s d with
   | .own _ n _=>some (.val (.int .i64 n),[])
   | _=>none) else none
  | _=>none
 | .nlo k=>some (.own k 0 [],[])
 | .bdo a x l=>match a.av s with
  | some (.bool b)=>(match Ag s x with
   | .own k n cs=>if l.all (fun t=>Ew (Ag s t)) then some (.agn (.st b) k n cs,[(x,.dead)]) else none
   | _=>none)
  | _=>none
 | .cln f xs l=>match avs s xs with
  | some vs=>if l.all (fun t=>Ew (Ag s t)) then (F f vs).map fun v=>(Fp v,[]) else none
  | none=>none
 | .stl x v=>match Ag s x with
  | .box cs=>(match Ag s v with
   | .agn (.st _) _ _ _=>if C cs=2 then some (.dead,[(x,.bxl v)]) else none
   | _=>none)
  | _=>none
 | .fdo x=>match Ag s x with
  | .agn (.st _) k n cs=>some (.own k n cs,[(x,.dead)])
  | _=>none
 | .exo x=>match Ag s x with
  | .agn (.tp b) k n cs=>some (.own k n cs,[(x,.val (.tup [.sl n [],.bool b]))])
  | _=>none
 | .slo x hi k=>match hi.av s with
  | some (.int _ h)=>(match Ag s x with
   | .own j n cs=>if j=k/\0<=h/\h<=n then some (.own k h.toNat (cs.take (h.toNat*k)),[(x,.dead)]) else none
   | _=>none)
  | _=>none
 | .cao f k x xs=>match avs s xs with
  | some vs=>(match x with
   | .t m=>(match Ag s m with
    | .own j n cs=>(F f (.fresh j n cs::vs)).map fun v=>(Fp v,[(m,.dead)])
    | _=>none)
   | .c (.sl 0 [])=>(F f (.fresh k 0 []::vs)).map fun v=>(Fp v,[])
   | _=>none)
  | none=>none
 | .npt=>some (.dead,[])
 | .mvp x d=>if x=d then (if Ih (Ag s x) then some (.ptr d 0,[]) else none) else match Ag s x with
  | .ptr e o=>if e=d then some (.ptr d o,[]) else none
  | .mem cs=>some (.mem cs,[])
  | _=>none
 | .mvf x y us zs=>if Ih (Ag s x) then (match Ag s y with
  | .box cs=>some (.ptr x 0,[(y,.box (Hs zs cs))])
  | .bxh cs ls=>M' s x y us zs cs ls
  | _=>none) else none
 | .ldh x d fz us=>match Ag s x with
  | .ptr e off=>if e=d then (match Ag s d with
   | .box cs=>(match cs[off]? with
    | some c=>some (.val c,[])
    | none=>none)
   | .bxh cs ls=>MZ s d off fz us cs ls
   | _=>none) else none
  | _=>none
 | .sth x d v=>match Ag s x with
  | .ptr e off=>if e=d then (match Ag s v with
   | .own _ _ _=>(match Ag s d with
    | .box cs=>if off<C cs then some (.dead,[(d,.bxh (cs.set off .undef) [(off,v)])]) else none
    | .bxh cs ls=>if off<C cs then some (.dead,[(d,.bxh (cs.set off .undef) ((off,v)::MY ls off))]) else none
    | _=>none)
   | _=>none) else none
  | _=>none
 | .sts x d v=>match Ag s x,v.av s with
  | .ptr e off,some c=>if e=d/\EM c then (match Ag s d with
   | .bxh cs ls=>if off<C cs then some (.dead,[(d,.bxh (cs.set off c) (MY ls off))]) else none
   | _=>none) else none
  | _,_=>none
 | .aph x y k B d us=>match y.av s with
  | some (.sl m ys)=>if C ys=m*k then (match Ag s d with
   | .box _=>aph0 (Ag s x) m ys k B
   | .bxh _ []=>aph0 (Ag s x) m ys k B
   | .bxh cs [(off,u)]=>(match Ag s x with
    | .dup q=>if q=u/\us.contains u then iG (Ag s u) m ys k B u x d off cs else none
    | _=>none)
   | _=>none) else none
  | _=>none
 | .lda x n us=>match Ag s x with
  | .box cs=>if C cs=n then some (.val (.agg cs),[]) else none
  | .bxh cs ls=>if C cs=n/\ls.all (fun p=>us.contains p.2) then some (.agh cs ls,[]) else none
  | _=>none
 | .ldz x n us zs=>match Ag s x with
  | .box cs=>if C cs=n then some (.val (.agg (Hs zs cs)),[]) else none
  | .bxh cs ls=>M_ s x n us zs cs ls
  | _=>none
 | .blh z qs=>(IQ s qs z).map fun cs=>(.agh cs qs,[])
 | .sta x v n us=>match Ag s x,Ag s v with
  | .box r,.agh cs ls=>if C r=n/\C cs=n/\ls.all (fun p=>us.contains p.2) then some (.dead,[(x,.bxh cs ls)]) else none
  | _,_=>none
 | .bwh f xs us=>match avsH s us xs with
  | some vs=>(match F f vs with
   | some y=>if RM y then some (.val y,[]) else none
   | none=>none)
  | none=>none
 | .cab f x d xs=>match Ag s x with
  | .ptr e 0=>if e=d then (match Ag s d,avs s xs with
   | .box cs,some vs=>(match F f (.gb cs::vs) with
    | some (.io g y)=>some (.val y,[(d,.box g)])
    | _=>none)
   | .bxg cs,some vs=>(match F f (.gb cs::vs) with
    | some (.io g y)=>some (.val y,[(d,.bxg g)])
    | _=>none)
   | _,_=>none) else none
  | _=>none
 | .mkw z n l=>match n.av s with
  | some (.int _ m)=>if l.all (fun t=>Ew (Ag s t)) then (if 0<=m/\m<=1048576 then some (.own (C z) m.toNat (CE z m.toNat),[]) else none) else none
  | _=>none
 | .clw f xs d l=>match avs s xs with
  | some vs=>if l.all (fun t=>KX (Ag s t) d) then (F f vs).map fun v=>(Fp v,[]) else none
  | none=>none
 | .sbn op x y=>match x.av s,y.av s with
  | some (.str a),some (.str b)=>(Zh op a b).map fun v=>(.val v,[])
  | _,_=>none
 | .sln x=>match x.av s with
  | some (.str b)=>some (.val (.int .i64 b.size),[])
  | _=>none
 | .bad=>none
def Eb(s:V):Option (Nat × Bool)->Option Bool
 | none=>some true
 | some (t,b)=>match Ag s t with
  | .val (.bool c)=>some (c==b)
  | .val .undef=>some false
  | _=>none
def kill(s:V)(ks:List Nat):V:=AE s (ks.map fun t=>(t,.dead))
def Gi(F:Bf)(o:IOp)(s:V):Option V :=
 match Eb s o.g with
 | none=>none
 | some false=>some (BD s o.dst (.val .undef))
 | some true=>match A2 F s o.k with
  | none=>none
  | some (r,l)=>some (BD (AE s l) o.dst r)
def Dz(F:Bf)(o:IOp)(s:V):Option V:=Gi F o (kill s o.ks)
def Cx(F:Bf):List IOp->V->Option V
 | [],s=>some s
 | o::l,s=>match Dz F o s with
  | none=>none
  | some s'=>Cx F l s'
inductive Ex where
 | norm
 | exit (id:Nat)
 | ret
def J8(s:V)(c:Opd):Option Bool :=
 match c.av s with
 | some (.bool b)=>some b
 | _=>none
def B1(F:Bf):Nat->ICode->V->Option (Ex × V)
 | 0,_,_=>none
 | _+1,.skip,s=>some (.norm,s)
 | _+1,.region _ ops,s=>(Cx F ops s).map fun s'=>(.norm,s')
 | n+1,.seq a b,s=>match B1 F n a s with
  | some (.norm,s')=>B1 F n b s'
  | r=>r
 | n+1,.cond c a b,s=>match J8 s c with
  | some true=>B1 F n a s
  | some false=>B1 F n b s
  | none=>none
 | n+1,.block id c,s=>match B1 F n c s with
  | some (.exit i,s')=>if i=id then some (.norm,s') else some (.exit i,s')
  | r=>r
 | n+1,.loop c,s=>match B1 F n c s with
  | some (.norm,s')=>B1 F n (.loop c) s'
  | r=>r
 | n+1,.scope c,s=>B1 F n c s
 | _+1,.exit id,s=>some (.exit id,s)
 | _+1,.ret,s=>some (.ret,s)
def DK(s:V):IRes->Option AV
 | .tmp t=>match Ag s t with
  | .val x=>some x
  | .own _ n cs=>some (.sl n cs)
  | _=>none
 | .cell t n one=>match Ag s t with
  | .box cs=>Ae cs 0 n one
  | _=>none
 | .giv=>none
def CB(s:V):List IRes->Option (List AV)
 | []=>some []
 | r::l=>match DK s r with
  | none=>none
  | some x=>match CB s l with
   | none=>none
   | some xs=>some (x::xs)
def G_(s:V):List IRes->Option AV
 | [.tmp t]=>match Ag s t with
  | .box cs=>some (.gb cs)
  | .own k n cs=>some (.fresh k n cs)
  | .agn b k n cs=>some (.frs b k n cs)
  | _=>none
 | [.tmp t,.tmp u]=>match Ag s t with
  | .own k n cs=>(match Ag s u with
   | .val (.bool b)=>some (.frs (.tp b) k n cs)
   | _=>none)
  | _=>none
 | [.cell t n one]=>match Ag s t with
  | .bxl d=>(match Ag s d with
   | .agn (.st b) k m cs=>if n=2/\one=false then some (.frs (.st b) k m cs) else none
   | _=>none)
  | _=>none
 | _=>none
def GV(s:V)(l:List IRes):Option AV :=
 match G_ s l with
 | some x=>some x
 | none =>
 match CB s l with
 | some [x]=>some x
 | some xs=>some (.tup xs)
 | none=>none
def Zi(s:V):IRes->Option AV
 | .tmp t=>(match Ag s t with
  | .val x=>some x
  | _=>none)
 | .cell t n one=>(match Ag s t with
  | .box cs=>Ae cs 0 n one
  | _=>none)
 | .giv=>none
def Ags:Option AV->Option AV
 | some (.io _ _)=>none
 | o=>o
def EY(s:V)(l:List IRes):Option AV :=
 match l with
 | [.giv,r]=>(match Ag s 0,Zi s r with
  | .bxg cs,some y=>some (.io cs y)
  | _,_=>none)
 | l=>Ags (GV s l)
def Agt:List IRes->List IRes
 | .giv::l=>l
 | l=>l
def OC:AV->Reg
 | .pt cs => .mem cs
 | .fresh k n cs => .own k n cs
 | .gb cs => .bxg cs
 | x => .val x
def CX(fn:IFunc)(args:List AV):V:=args.map OC++AK (fn.slots-C args) (.val .undef)
def Ia(prog:Nat->Option IFunc):Nat->Bf
 | 0,_,_=>none
 | n+1,f,args=>match prog f with
  | none=>none
  | some fn=>if C args=fn.params then (match B1 (Ia prog n) n fn.body (CX fn args) with
   | some (.exit _,_)=>none
   | some (_,s)=>EY s fn.res
   | none=>none) else none
abbrev LI:=List Int
abbrev y{α:Type}(f:List α->List AV)(xs:List α):AV:=.sl (C xs) (f xs)
instance(n:Nat):OfNat Opd n:=⟨.t n⟩
abbrev xZ0:Ex:=.exit 0
abbrev xZ1:Ex:=.exit 1
abbrev xZ2:Ex:=.exit 2
abbrev xZ3:Ex:=.exit 3
abbrev xZ4:Ex:=.exit 4
abbrev xZ5:Ex:=.exit 5
abbrev xZ6:Ex:=.exit 6
abbrev xZ7:Ex:=.exit 7
abbrev xZ8:Ex:=.exit 8
abbrev xZ9:Ex:=.exit 9
def Gj(l:List Opd):List Nat:=l.flatMap Opd.rd
def rdO:Option Opd->List Nat
 | none=>[]
 | some o=>o.rd
def U4(l:List (Nat × Nat × Opd)):List Nat:=l.flatMap fun p=>p.2.2.rd
def rdK:K->List Nat
 | .mov x=>x.rd
 | .pick c a b=>c.rd++(a.rd++b.rd)
 | .bin _ x y=>x.rd++y.rd
 | .eqb _ x y=>x.rd++y.rd
 | .eqv _ _ x y=>x.rd++y.rd
 | .un _ x=>x.rd
 | .cv _ x=>x.rd
 | .new _ _=>[]
 | .box x _=>x.rd
 | .bld _ ps=>U4 ps
 | .bls _ _ ps=>U4 ps
 | .adr x _ _=>[x]
 | .ld x d _ _=>[x,d]
 | .st x d _ v=>x::d::v.rd
 | .fld x _ _ _=>x.rd
 | .ixa x i _=>x::i.rd
 | .six x i=>x.rd++i.rd
 | .ext x _=>x.rd
 | .len x=>x.rd
 | .mx xs=>Gj xs
 | .mn xs=>Gj xs
 | .call _ xs=>Gj xs
 | .clo _ xs=>Gj xs
 | .cpy x=>[x]
 | .tra x=>[x]
 | .frz x=>[x]
 | .mks _ n=>n.rd
 | .blo _ _ _ ps=>U4 ps
 | .apd _ x y _ _=>x.rd++y.rd
 | .sli x lo hi mx _=>x.rd++(rdO lo++(rdO hi++rdO mx))
 | .ixo x d i _=>x::d::i.rd
 | .lno x d=>[x,d]
 | .nlo _=>[]
 | .brw _ x d=>[x,d]
 | .bdo a x l=>x::(a.rd++l)
 | .cln _ xs l=>Gj xs++l
 | .stl x v=>[x,v]
 | .fdo x=>[x]
 | .exo x=>[x]
 | .slo x hi _=>x::hi.rd
 | .cao _ _ x xs=>x.rd++Gj xs
 | .npt=>[]
 | .mvp x _=>[x]
 | .mvf x y us _=>x::y::us
 | .ldh x d _ us=>x::d::us
 | .sth x d v=>[x,d,v]
 | .sts x d v=>x::d::v.rd
 | .aph x y _ _ d us=>x::d::(y.rd++us)
 | .lda x _ _=>[x]
 | .ldz x _ us _=>x::us
 | .blh _ qs=>qs.map (·.2)
 | .sta x v _ _=>[x,v]
 | .bwh _ xs us=>Gj xs++us
 | .cab _ x d xs=>x::d::Gj xs
 | .mkw _ n l=>n.rd++l
 | .clw _ xs _ l=>Gj xs++l
 | .sbn _ x y=>x.rd++y.rd
 | .sln x=>x.rd
 | .bad=>[]
def J9:K->List Nat
 | .new _ kills=>kills
 | .box _ kills=>kills
 | .st _ d _ _=>[d]
 | .tra x=>[x]
 | .frz x=>[x]
 | .apd _ x _ _ _=>x.rd
 | .bdo _ x _=>[x]
 | .stl x _=>[x]
 | .fdo x=>[x]
 | .exo x=>[x]
 | .slo x _ _=>[x]
 | .cao _ _ x _=>x.rd
 | .mvf _ y us _=>y::us
 | .ldh _ d fz us=>if fz then d::us else []
 | .sth _ d _=>[d]
 | .sts _ d _=>[d]
 | .aph x _ _ _ d us=>x::d::us
 | .ldz x _ us _=>x::us
 | .sta x _ _ _=>[x]
 | .cab _ _ d _=>[d]
 | _=>[]
def Na:K->List Nat
 | .mkw _ _ l=>l
 | .mvp x d=>if x=d then [d] else []
 | _=>[]
def LK:K->List Nat
 | .mkw _ n _=>n.rd
 | .mvp x d=>if x=d then [] else [x]
 | k=>rdK k
def Nb(o:IOp)(t:Nat):Bool:=(match o.k with | .cab _ _ d _=>d==t | _=>false)&&(!(o.dst==some t)&&(o.g.isNone && !(o.ks.contains t)))
def U5(o:IOp)(t:Nat):Bool:=(match o.k with | .new _ _=>true | _=>false)&&(o.dst==some t&&o.g.isNone)
def IOp.rd(o:IOp):List Nat:=rdK o.k++o.g.toList.map (·.1)
def IOp.wr(o:IOp):List Nat:=J9 o.k++(o.dst.toList++o.ks)
def C4(l:List Nat)(s s':V):Prop:=∀ t∈l,Ag s t=Ag s' t
theorem C4.left{l m:List Nat}{s s':V}(h:C4 (l++m) s s'):C4 l s s':=fun t a=>h t (EF _ a)
theorem C4.right{l m:List Nat}{s s':V}(h:C4 (l++m) s s'):C4 m s s':=fun t a=>h t (J5 _ a)
section
variable{t:Nat}{m:List Nat}{s s':V}
theorem C4.head(h:C4 (t::m) s s'):Ag s t=Ag s' t:=h t (A1 ..)
theorem C4.tail(h:C4 (t::m) s s'):C4 m s s':=fun u hu=>h u (AI _ hu)
end
theorem AL{o:Opd}{s s':V}(h:C4 o.rd s s'):o.av s=o.av s':=by
 cases o with
 | t n=>simp only[Opd.av,Opd.reg,h n (by simp[Opd.rd])]
 | c x=>rfl
theorem Nc{o:Opd}{s s':V}(h:C4 o.rd s s'):o.reg s=o.reg s':=by
 cases o with
 | t n=>simp only[Opd.reg,h n (by simp[Opd.rd])]
 | c x=>rfl
theorem Nd{o:Option Opd}{d:Nat}{s s':V}(h:C4 (rdO o) s s'):GU s d o=GU s' d o:=by
 cases o with
 | none=>rfl
 | some o=>simp only[GU,AL (o:=o) h]
theorem Fg{s s':V}:∀ {l:List Opd},C4 (Gj l) s s'->avs s l=avs s' l
 | [],_=>rfl
 | o::l,h=>by
  have h1:C4 o.rd s s':=fun t a=>h t (by simp[Gj,a]);have h2:C4 (Gj l) s s':=fun t a=>h t (by simp only[Gj,MP,AF];exact .inr a);simp only[avs,AL h1,Fg h2]
theorem Jg{s s':V}:∀ {ps:List (Nat × Nat × Opd)} {cs:List AV},C4 (U4 ps) s s'->FY s cs ps=FY s' cs ps
 | [],_,_=>rfl
 | (off,n,o)::ps,cs,h=>by
  have h1:C4 o.rd s s':=fun t a=>h t (by simp[U4,a]);have h2:C4 (U4 ps) s s':=fun t a=>h t (by simp only[U4,MP,AF];exact .inr a);have c:∀ b:List AV,FY s b ps=FY s' b ps:=fun b=>Jg h2;simp only[FY,AL h1,c]
theorem LL{l:List Nat}{s s':V}{p:Reg->Bool}(h:C4 l s s'):(l.all fun t=>p (Ag s t))=(l.all fun t=>p (Ag s' t)):=by
 induction l with
 | nil=>rfl
 | cons t l a=>simp only[H',h.head,a h.tail]
theorem IR{us:List Nat}{s s':V}(h:C4 us s s'){u:Nat}(hu:us.contains u=true):Ag s u=Ag s' u:=h u (by simpa using hu)
theorem Kk{s s':V}{us:List Nat}(h:C4 us s s'):∀ {ls:List (Nat × Nat)} {cs:List AV},ls.all (fun p=>us.contains p.2)=true->Ie s ls cs=Ie s' ls cs
 | [],_,_=>rfl
 | (o,u)::ls,cs,hl=>by
  simp only[H',U] at hl;have a:∀ cs,Ie s ls cs=Ie s' ls cs:=fun cs=>Kk h hl.2;simp only[Ie,IR h hl.1,a]
theorem SV{s s':V}{us:List Nat}(h:C4 us s s'):∀ {ls:List (Nat × Nat)} {cs:List AV},ls.all (fun p=>us.contains p.2)=true->Kj s ls cs=Kj s' ls cs
 | [],_,_=>rfl
 | (o,u)::ls,cs,hl=>by
  simp only[H',U] at hl;have a:∀ cs,Kj s ls cs=Kj s' ls cs:=fun cs=>SV h hl.2;simp only[Kj,IR h hl.1,a]
theorem rB{s s':V}{us:List Nat}(h:C4 us s s'){o:Opd}(ho:C4 o.rd s s'):avH s us o=avH s' us o:=by
 have:∀ (cs:List AV) (ls:List (Nat × Nat)),ls.all (fun p=>us.contains p.2)=true->Kj s ls cs=Kj s' ls cs:=fun cs ls hl=>SV h hl;unfold avH;rw[Nc ho];split
 ·rfl
 ·split
  next hl=>rw[this _ _ hl]
  ·rfl
 ·rfl
theorem SW{s s':V}{us:List Nat}(hu:C4 us s s'):∀ {l:List Opd},C4 (Gj l) s s'->avsH s us l=avsH s' us l
 | [],_=>rfl
 | o::l,h=>by
  have h1:C4 o.rd s s':=fun t a=>h t (by simp[Gj,a]);have h2:C4 (Gj l) s s':=fun t a=>h t (by simp only[Gj,MP,AF];exact .inr a);simp only[avsH,rB hu h1,SW hu h2]
theorem Zj{ls:List (Nat × Nat)}{i:Nat}{p:Nat × Nat->Bool}(h:ls.all p=true):(MY ls i).all p=true :=
 A6.2 fun x a=>A6.1 h x (H4.1 a).1
theorem iH{s s':V}{d off:Nat}{fz:Bool}{us:List Nat}{cs:List AV}{ls:List (Nat × Nat)}(h:C4 us s s'):MZ s d off fz us cs ls=MZ s' d off fz us cs ls:=by
 unfold MZ;split
 next hl=>rw[Kk h (Zj hl)]
 ·rfl
theorem iI{s s':V}{x y:Nat}{us zs:List Nat}{cs:List AV}{ls:List (Nat × Nat)}(h:C4 us s s'):M' s x y us zs cs ls=M' s' x y us zs cs ls:=by
 unfold M';split
 next hl=>rw[Kk h hl]
 ·rfl
theorem iJ{s s':V}{x n:Nat}{us zs:List Nat}{cs:List AV}{ls:List (Nat × Nat)}(h:C4 us s s'):M_ s x n us zs cs ls=M_ s' x n us zs cs ls:=by
 unfold M_;split
 next hl=>rw[Kk h hl]
 ·rfl
theorem Qu{s s':V}:∀ {qs:List (Nat × Nat)} {cs:List AV},C4 (qs.map (·.2)) s s'->IQ s qs cs=IQ s' qs cs
 | [],_,_=>rfl
 | (o,u)::qs,cs,h=>by
  have a:∀ cs,IQ s qs cs=IQ s' qs cs:=fun cs=>Qu h.tail;simp only[IQ,h.head,a]
theorem rC{F:Bf}{k:K}{s s':V}(h:C4 (rdK k) s s'):A2 F s k=A2 F s' k:=by
 cases k <;> simp only[rdK] at h
 case mov x=>simp only[A2,AL h]
 case pick c a b=>simp only[A2,AL h.left,AL h.right.left,AL h.right.right]
 case bin op x y=>simp only[A2,AL h.left,AL h.right]
 case eqb neg x y=>simp only[A2,AL h.left,AL h.right]
 case eqv neg n x y=>simp only[A2,AL h.left,AL h.right]
 case un op x=>simp only[A2,AL h]
 case cv k x=>simp only[A2,AL h]
 case new z kills=>rfl
 case box x kills=>simp only[A2,AL h]
 case bld z ps=>simp only[A2,Jg h]
 case bls n z ps=>simp only[A2,Jg h]
 case adr x d off=>simp only[A2,h.head]
 case ld x d n one=>simp only[A2,h.head,h.tail.head]
 case st x d n v=>simp only[A2,h.head,h.tail.head,AL h.tail.tail]
 case fld x off n one=>simp only[A2,AL h]
 case ixa x i k=>simp only[A2,h.head,AL h.tail]
 case six x i=>simp only[A2,AL h.left,AL h.right]
 case ext x i=>simp only[A2,AL h]
 case len x=>simp only[A2,AL h]
 case mx xs=>simp only[A2,Fg h]
 case mn xs=>simp only[A2,Fg h]
 case call f xs=>simp only[A2,Fg h]
 case clo f xs=>simp only[A2,Fg h]
 case cpy x=>simp only[A2,h.head]
 case tra x=>simp only[A2,h.head]
 case frz x=>simp only[A2,h.head]
 case mks z n=>simp only[A2,AL h]
 case blo k n z ps=>simp only[A2,Jg h]
 case apd ow x y k B=>simp only[A2,Nc h.left,AL h.right]
 case sli x lo hi mx k=>simp only[A2,AL h.left,Nd h.right.left,Nd h.right.right.left,Nd h.right.right.right]
 case ixo x d i k=>simp only[A2,h.head,h.tail.head,AL h.tail.tail]
 case lno x d=>simp only[A2,h.head,h.tail.head]
 case nlo k=>rfl
 case bdo a x l =>
  have hl:(l.all fun t=>Ew (Ag s t))=(l.all fun t=>Ew (Ag s' t)):=LL (p:=Ew) h.tail.right;simp only[A2,h.head,AL h.tail.left,hl]
 case cln f xs l =>
  have hl:(l.all fun t=>Ew (Ag s t))=(l.all fun t=>Ew (Ag s' t)):=LL (p:=Ew) h.right;simp only[A2,Fg h.left,hl]
 case stl x v=>simp only[A2,h.head,h.tail.head]
 case fdo x=>simp only[A2,h.head]
 case exo x=>simp only[A2,h.head]
 case slo x hi k=>simp only[A2,h.head,AL h.tail]
 case cao f k x xs =>
  cases x with
  | t m=>simp only[A2,h.left m (by simp[Opd.rd]),Fg h.right]
  | c y =>
   simp only[A2,Fg h.right];cases avs s' xs with
   | none=>rfl
   | some vs=>cases y <;> first | rfl | (rename_i n cs;cases n <;> cases cs <;> rfl)
 case brw f x d=>simp only[A2,h.head,h.tail.head]
 case npt=>rfl
 case mvp x d=>simp only[A2,h.head]
 case mvf x y us zs =>
  have e:∀ cs ls,M' s x y us zs cs ls=M' s' x y us zs cs ls:=fun _ _=>iI h.tail.tail;simp only[A2,h.head,h.tail.head,e]
 case ldh x d fz us =>
  have e:∀ off cs ls,MZ s d off fz us cs ls=MZ s' d off fz us cs ls:=fun _ _ _=>iH h.tail.tail;simp only[A2,h.head,h.tail.head,e]
 case sth x d v=>simp only[A2,h.head,h.tail.head,h.tail.tail.head]
 case sts x d v=>simp only[A2,h.head,h.tail.head,AL h.tail.tail]
 case aph x y k B d us =>
  simp only[A2,h.head,h.tail.head,AL h.tail.tail.left];split
  ·split
   ·split <;> try rfl
    split
    ·split
     next hc=>rw[IR h.tail.tail.right hc.2]
     ·rfl
    ·rfl
   ·rfl
  ·rfl
 case lda x n us=>simp only[A2,h.head]
 case ldz x n us zs =>
  have e:∀ cs ls,M_ s x n us zs cs ls=M_ s' x n us zs cs ls:=fun _ _=>iJ h.tail;simp only[A2,h.head,e]
 case blh z qs=>simp only[A2,Qu h]
 case sta x v n us=>simp only[A2,h.head,h.tail.head]
 case bwh f xs us=>simp only[A2,SW h.right h.left]
 case cab f x d xs=>simp only[A2,h.head,h.tail.head,Fg h.tail.tail]
 case mkw z n l =>
  have hl:(l.all fun t=>Ew (Ag s t))=(l.all fun t=>Ew (Ag s' t)):=LL (p:=Ew) h.right;simp only[A2,AL h.left,hl]
 case clw f xs d l =>
  have hl:(l.all fun t=>KX (Ag s t) d)=(l.all fun t=>KX (Ag s' t) d):=LL (p:=fun r=>KX r d) h.right;simp only[A2,Fg h.left,hl]
 case sbn op x y=>simp only[A2,AL h.left,AL h.right]
 case sln x=>simp only[A2,AL h]
 case bad=>rfl
theorem LM{s:V}{us:List Nat}:∀ {ls:List (Nat × Nat)} {cs b:List AV} {l:List (Nat × Reg)},ls.all (fun p=>us.contains p.2)=true->Ie s ls cs=some (b,l)->∀ p∈l,p.1∈us
 | [],_,_,_,_,h=>by cases h;intro p a;cases a
 | (o,u)::ls,cs,b,l,hl,h=>by
  simp only[H',U] at hl;simp only[Ie] at h;split at h
  ·split at h
   ·rename_i hf;cases h;intro p a;rcases Aw.1 a with rfl | a
    ·simpa using hl.1
    ·exact LM hl.2 hf p a
   ·cases h
  ·cases h
theorem Aaw{F:Bf}{k:K}{s:V}{r:Reg}{l:List (Nat × Reg)}(h:A2 F s k=some (r,l)):∀ p∈l,p.1∈J9 k:=by
 cases k
 case new z kills=>simp only[A2,Ab,BP] at h;obtain⟨_,rfl⟩:=h;simp[J9]
 case box x kills =>
  simp only[A2] at h;split at h
  ·simp only[Ab,BP] at h;obtain⟨_,rfl⟩:=h;simp[J9]
  ·split at h
   ·simp only[Ab,BP] at h;obtain⟨_,rfl⟩:=h;simp[J9]
   ·cases h
  ·cases h
 case st x d n v =>
  simp only[A2] at h;split at h
  ·cases h
  ·split at h
   ·cases h
   ·split at h
    ·split at h
     ·simp only[S] at h;obtain⟨a,_,h⟩:=h;cases h;simp[J9]
     ·cases h
    ·split at h
     ·split at h
      ·simp only[S] at h;obtain⟨a,_,h⟩:=h;cases h;simp[J9]
      ·simp only[S] at h;obtain⟨a,_,h⟩:=h;cases h;simp[J9]
      ·simp only[S] at h;obtain⟨a,_,h⟩:=h;cases h;simp[J9]
      ·cases h
     ·cases h
    ·cases h
 case tra x =>
  simp only[A2] at h;split at h <;> cases h <;> simp[J9]
 case frz x =>
  simp only[A2] at h;split at h <;> cases h <;> simp[J9]
 case bdo a x ls =>
  simp only[A2] at h;repeat' split at h
  all_goals cases h
  simp[J9]
 case stl x v =>
  simp only[A2] at h;repeat' split at h
  all_goals cases h
  simp[J9]
 case fdo x =>
  simp only[A2] at h;split at h <;> cases h;simp[J9]
 case exo x =>
  simp only[A2] at h;split at h <;> cases h;simp[J9]
 case slo x hi k =>
  simp only[A2] at h;repeat' split at h
  all_goals cases h
  simp[J9]
 case apd ow x y k B =>
  have c:∀ p∈U3 x,p.1∈x.rd:=by cases x <;> simp[U3,Opd.rd]
  simp only[A2] at h;intro p b;repeat' split at h
  all_goals first
   | (cases h;exact c p b)
   | (cases h;cases b)
   | cases h
 case cao f k x xs =>
  simp only[A2] at h;intro p b;repeat' split at h
  all_goals first
   | (simp only[S] at h;obtain⟨_,_,h⟩:=h;cases h;first | exact c p b | (simp at b;subst b;simp[J9,Opd.rd]) | cases b)
   | cases h
 case ldh x d fz us =>
  simp only[A2] at h;intro p b;repeat' split at h
  all_goals first
   | (cases h;cases b;done)
   | (
    unfold MZ at h;split at h
    ·rename_i hl;split at h
     case isFalse=>cases h
     split at h
     ·rename_i g e hf;have c:∀ p∈e,p.1∈us:=by
       split at hf
       ·exact LM (Zj hl) hf
       ·cases hf;intro p b;cases b
      repeat' split at h
      all_goals first
       | cases h
       | skip
      all_goals first
       | (cases b;done)
       | (
         rename_i i;simp only[AF,Aw,AD,or_false] at b;simp only[J9,i,if_true,Aw];rcases b with b | rfl
         ·exact .inr (c p b)
         ·exact .inl rfl)
     ·cases h
    ·cases h)
   | cases h
 case sth x d v =>
  simp only[A2] at h;repeat' split at h
  all_goals cases h
  all_goals simp[J9]
 case sts x d v =>
  simp only[A2] at h;repeat' split at h
  all_goals cases h
  all_goals simp[J9]
 case aph x y k B d us =>
  simp only[A2] at h;intro p b;repeat' split at h
  all_goals first
   | cases h
   | (
    unfold aph0 at h;repeat' split at h
    all_goals cases h
    all_goals cases b)
   | (
    rename_i hc;unfold iG at h;repeat' split at h
    all_goals cases h
    simp only[Aw,AD,or_false] at b;have:=hc.2;simp only[Em,Dm] at this;rcases b with rfl | rfl | rfl <;> simp[J9,this])
 case mvf x y us zs =>
  simp only[A2] at h;intro p b;split at h
  ·split at h
   ·cases h;simp only[Aw,AD,or_false] at b;rw[b];exact A1
   ·unfold M' at h;split at h
    ·rename_i hl;split at h
     ·rename_i g e hf;split at h <;> cases h;simp only[AF,Aw,AD,or_false] at b;rcases b with b | rfl
      ·exact AI _ (LM hl hf p b)
      ·exact A1
     ·cases h
    ·cases h
   ·cases h
  ·cases h
 case ldz x n us zs =>
  simp only[A2] at h;intro p b;split at h
  ·split at h <;> cases h;cases b
  ·unfold M_ at h;split at h
   ·rename_i hl;split at h
    ·rename_i g e hf;split at h <;> cases h;simp only[AF,Aw,AD,or_false] at b;rcases b with b | rfl
     ·exact AI _ (LM hl hf p b)
     ·exact A1
    ·cases h
   ·cases h
  ·cases h
 case sta x v n us =>
  simp only[A2] at h;repeat' split at h
  all_goals cases h
  all_goals simp[J9]
 case cab f x d xs =>
  simp only[A2] at h;repeat' split at h
  all_goals cases h
  all_goals simp[J9]
 all_goals
  have:l=[]:=by
   revert h;simp only[A2];repeat' split
   all_goals
    intro h;first
     | cases h;rfl
     | (simp only[S] at h;obtain⟨_,_,h⟩:=h;cases h;rfl)
     | cases h
  subst this;intro p b;cases b
def SX(F:Bf)(o:IOp)(s:V):Option (List (Nat × Reg)) :=
 match Eb s o.g with
 | none=>none
 | some false=>some (o.dst.toList.map fun d=>(d,.val .undef))
 | some true=>(A2 F s o.k).map fun p=>p.2++o.dst.toList.map fun d=>(d,p.1)
def RN(F:Bf)(o:IOp)(s:V):Option (List (Nat × Reg)):=(SX F o (kill s o.ks)).map fun l=>(o.ks.map fun t=>(t,Reg.dead))++l
theorem DW(s:V)(l m:List (Nat × Reg)):AE s (l++m)=AE (AE s l) m:=by
 induction l generalizing s with
 | nil=>rfl
 | cons p l a=>obtain⟨t,r⟩:=p;simp only[LH,AE,a]
theorem iK(s:V)(d:Option Nat)(r:Reg):BD s d r=AE s (d.toList.map fun d=>(d,r)):=by
 cases d <;> rfl
theorem Zk(F:Bf)(o:IOp)(s:V):Gi F o s=(SX F o s).map (AE s):=by
 simp only[Gi,SX];cases Eb s o.g with
 | none=>rfl
 | some b =>
  cases b with
  | false=>simp only[Al,iK]
  | true =>
   cases A2 F s o.k with
   | none=>rfl
   | some p=>obtain⟨r,l⟩:=p;simp only[Al,DW,iK]
theorem U6(F:Bf)(o:IOp)(s:V):Dz F o s=(RN F o s).map (AE s):=by
 simp only[Dz,RN,Zk,Option.map_map];congr 1;funext l;simp only[Function.comp,DW,kill]
theorem G0{s:V}{t u:Nat}{r:Reg}(h:t ≠ u):Ag (s.set t r) u=Ag s u:=by
 simp only[Ag,Z,Do h]
theorem Ci(s:V)(d:Nat)(r:Reg)(t:Nat):Ag (s.set d r) t=if d=t/\d<C s then r else Ag s t:=by
 simp only[Ag,Z,A1c];by_cases h:d=t
 ·subst h;by_cases h2:d<C s
  ·simp[h2]
  ·simp[h2]
 ·simp[h]
theorem SY(k:Nat)(s:V)(t:Nat):Ag (s.set k .dead) t=if k=t then .dead else Ag s t:=by
 rw[Ci];by_cases h:k=t
 ·subst h;rw[Af rfl];split
  ·rfl
  ·rename_i hn;have:C s<=k:=by simpa using hn
   simp only[Ag,Z,AS this];rfl
 ·rw[Ak h,Ak (fun e=>h e.1)]
theorem Dx(ks:List Nat):∀ (s:V) (t:Nat),Ag (kill s ks) t=if t∈ks then .dead else Ag s t:=by
 unfold kill;induction ks with
 | nil=>intro s t;simp[AE]
 | cons k ks a =>
  intro s t;simp only[BQ,AE];rw[a,SY];by_cases h1:t∈ks
  ·simp[h1]
  ·by_cases h2:k=t
   ·subst h2;simp
   ·have b:¬ t=k:=fun e=>h2 e.symm;simp[h1,h2,b]
theorem iL{l ks:List Nat}{s s':V}(h:C4 l s s'):C4 l (kill s ks) (kill s' ks):=by
 intro t a;rw[Dx,Dx,h t a]
theorem aN{g:Option (Nat × Bool)}{s s':V}(h:C4 (g.toList.map (·.1)) s s'):Eb s g=Eb s' g:=by
 cases g with
 | none=>rfl
 | some p=>obtain⟨t,b⟩:=p;simp only[Eb,h t (by simp)]
section
variable{F:Bf}{o:IOp}{s:V}{l:List (Nat × Reg)}
theorem U7(h:SX F o s=some l):∀ p∈l,p.1∈o.wr:=by
 simp only[SX] at h;intro p a;split at h
 ·cases h
 ·cases h;simp only[Dv] at a;obtain⟨d,hd,rfl⟩:=a;exact J5 _ (EF _ hd)
 ·simp only[S] at h;obtain⟨⟨r,e⟩,b,rfl⟩:=h;rcases AF.1 a with a | a
  ·exact EF _ (Aaw b p a)
  ·simp only[Dv] at a;obtain⟨d,hd,rfl⟩:=a;exact J5 _ (EF _ hd)
theorem Zl(h:RN F o s=some l):∀ p∈l,p.1∈o.wr:=by
 simp only[RN,S] at h;obtain⟨l,h,rfl⟩:=h;intro p a;rcases AF.1 a with a | a
 ·simp only[Dv] at a;obtain⟨t,c,rfl⟩:=a;simp[IOp.wr,c]
 ·exact U7 h p a
end
theorem Ht{l:List (Nat × Reg)}{u:Nat}:∀ {s:V},(∀ p∈l,p.1 ≠ u)->Ag (AE s l) u=Ag s u:=by
 induction l with
 | nil=>intro s _;rfl
 | cons p l a =>
  intro s h;obtain⟨t,r⟩:=p;simp only[AE];rw[a (fun q b=>h q (AI _ b)),G0 (h (t,r) (A1 ..))]
theorem rD{l:List (Nat × Reg)}{t:Nat}{r:Reg}:∀ {s:V},(∀ p∈l,p.1 ≠ t)->AE (s.set t r) l=(AE s l).set t r:=by
 induction l with
 | nil=>intro s _;rfl
 | cons p l a =>
  intro s h;obtain⟨u,q⟩:=p;simp only[AE];rw[qZ _ _ (EG (h (u,q) (A1 ..))),a (fun p b=>h p (AI _ b))]
theorem iM{l m:List (Nat × Reg)}:∀ {s:V},(∀ p∈l,∀ q∈m,p.1 ≠ q.1)->AE (AE s l) m=AE (AE s m) l:=by
 induction l with
 | nil=>intro s _;rfl
 | cons p l b =>
  intro s h;obtain⟨t,r⟩:=p;simp only[AE];rw[b (fun p c q a=>h p (AI _ c) q a),rD (fun q a=>EG (h (t,r) (A1 ..) q a))]
def PJ(a b:IOp):Bool:=a.wr.all (fun t=>(!((LK b.k++b.g.toList.map (·.1)).contains t)&&(!((Na b.k).contains t) || Nb a t)) && !(b.wr.contains t))&&b.wr.all (fun t => !((LK a.k++a.g.toList.map (·.1)).contains t)&&(!((Na a.k).contains t) || (U5 b t || Nb b t)))
theorem iN{a b:IOp}(h:PJ a b=true):(∀ t∈a.wr,(t ∉ LK b.k++b.g.toList.map (·.1)/\(t∈Na b.k->Nb a t=true))/\t ∉ b.wr)/\∀ t∈b.wr,t ∉ LK a.k++a.g.toList.map (·.1)/\(t∈Na a.k->U5 b t=true\/Nb b t=true):=by
 simp only[PJ,U,A6,BJ,Em,OA,C7] at h;refine⟨fun t c=>⟨⟨(h.1 t c).1.1,fun hs => ?_⟩,(h.1 t c).2⟩,fun t c=>⟨(h.2 t c).1,fun hs => ?_⟩⟩
 ·rcases (h.1 t c).1.2 with h1 | h1
  ·exact absurd hs h1
  ·exact h1
 ·rcases (h.2 t c).2 with h1 | h1
  ·exact absurd hs h1
  ·exact h1
theorem Aax{F:Bf}{k:K}{s s':V}{p:Reg × List (Nat × Reg)}(h:C4 (LK k) s s')(hs:∀ t∈Na k,Ag s' t=Ag s t\/Ih (Ag s' t)=true)(a:A2 F s k=some p):A2 F s' k=some p:=by
 cases k
 case mkw z n l =>
  simp only[A2] at a |-;rw[<- AL (o:=n) h];split at a
  ·split at a
   ·rename_i hl;rw[Af (A6.2 fun t c => ?_)]
    ·exact a
    ·have h1:=A6.1 hl t c;rcases hs t c with e | e
     ·rw[e];exact h1
     ·exact iE e
   ·cases a
  ·cases a
 case mvp x d =>
  simp only[A2] at a |-;by_cases b:x=d
  ·subst b;rw[Af rfl] at a |-;split at a
   ·rename_i f;rcases hs x (by simp[Na]) with e | e
    ·rw[e,Af f];exact a
    ·rw[Af e];exact a
   ·cases a
  ·rw[Ak b] at a |-;rw[<- h x (by simp[LK,b])];exact a
 all_goals
  simp only[LK] at h;rw[<- rC h];exact a
section
variable{F:Bf}{o:IOp}
theorem Zm{s s':V}{l:List (Nat × Reg)}(h:C4 (LK o.k++o.g.toList.map (·.1)) s s')(hs:∀ t∈Na o.k,Ag s' t=Ag s t\/Ih (Ag s' t)=true)(b:RN F o s=some l):RN F o s'=some l:=by
 have B:C4 (LK o.k++o.g.toList.map (·.1)) (kill s o.ks) (kill s' o.ks):=iL h;have H:∀ t∈Na o.k,Ag (kill s' o.ks) t=Ag (kill s o.ks) t\/Ih (Ag (kill s' o.ks) t)=true:=by
  intro t I;rw[Dx,Dx];split
  ·exact .inl rfl
  ·exact hs t I
 simp only[RN,SX,S] at b |-;obtain⟨n,h0,e⟩:=b;refine⟨n,?_,e⟩;rw[<- aN B.right];split at h0
 ·cases h0
 ·exact h0
 ·simp only[S] at h0 |-;obtain⟨p,a,m⟩:=h0;exact⟨p,Aax B.left H a,m⟩
theorem Agu{s:V}{l:List (Nat × Reg)}{t:Nat}(hn:U5 o t=true)(b:RN F o s=some l):Ag (AE s l) t=Ag s t\/Ih (Ag (AE s l) t)=true:=by
 simp only[U5,U,AW] at hn;obtain⟨h1,h2,c⟩:=hn;simp only[RN,SX,S] at b;obtain⟨n,h0,rfl⟩:=b;have v:o.g=none:=by cases w:o.g <;> rw[w] at c <;> first | rfl | cases c
 cases i:o.k <;> rw[i] at h1 <;> first | (cases h1;done) | skip
 rename_i z ks;rw[i,v] at h0;simp only[Eb,A2,Al,Ab] at h0;subst h0;rw[h2,<- EU,DW];simp only[Auh,BQ,RK,AE];rw[Ci];split
 ·exact .inr rfl
 ·rename_i hc;refine .inl ?_;have D:C s<=t:=by
   have hl:∀ (l:List (Nat × Reg)) (s:V),C (AE s l)=C s:=by
    intro l;induction l with
    | nil=>intro s;rfl
    | cons p l j=>intro s;obtain⟨u,r⟩:=p;simp only[AE,j,Az]
   rw[hl] at hc;simpa using hc
  have hl:∀ (l:List (Nat × Reg)) (s:V),C (AE s l)=C s:=by
   intro l;induction l with
   | nil=>intro s;rfl
   | cons p l j=>intro s;obtain⟨u,r⟩:=p;simp only[AE,j,Az]
  simp only[Ag,Z];rw[AS (by rw[hl];exact D),AS D]
theorem Zn{s:V}{l:List (Nat × Reg)}{t:Nat}(hn:Nb o t=true)(b:RN F o s=some l):Ih (Ag s t)=true/\Ih (Ag (AE s l) t)=true:=by
 simp only[Nb,U,BJ,H8,ne_eq,Em,OA] at hn;obtain⟨h1,h2,c,J⟩:=hn;simp only[RN,SX,S] at b;obtain⟨n,h0,rfl⟩:=b;have v:o.g=none:=by cases w:o.g <;> rw[w] at c <;> first | rfl | cases c
 cases i:o.k <;> rw[i] at h1 <;> first | (cases h1;done) | skip
 rename_i f x d xs;simp only[AW] at h1;subst h1;rw[i,v] at h0;simp only[Eb,S] at h0;obtain⟨p,a,rfl⟩:=h0;have K:Ag (kill s o.ks) d=Ag s d:=by rw[Dx,Ak J]
 have E:∀ (r r':Reg) (y:AV),Ag s d=r->Ih r=true->Ih r'=true->p=(.val y,[(d,r')])->Ih (Ag s d)=true/\Ih (Ag (AE s ((o.ks.map fun t=>(t,Reg.dead))++(p.2++o.dst.toList.map fun d=>(d,p.1)))) d)=true:=by
  rintro r r' y A m L rfl;refine⟨by rw[A];exact m,?_⟩;rw[DW,DW];simp only[AE];rw[Ht (fun q G e => ?_)]
  ·rw[Ci];split
   ·exact L
   ·rename_i hc;exfalso;have:d<C s:=by
     rcases C6 d (C s) with g | g
     ·exact g
     ·simp only[Ag,Z,AS g] at A;subst A;cases m
    have hl:∀ (l:List (Nat × Reg)) (s:V),C (AE s l)=C s:=by
     intro l;induction l with
     | nil=>intro s;rfl
     | cons p l j=>intro s;obtain⟨u,r⟩:=p;simp only[AE,j,Az]
    rw[hl] at hc;exact hc ⟨rfl,this⟩
  ·simp only[Dv,Option.mem_toList] at G;obtain⟨u,hu,rfl⟩:=G;simp only at e;subst e;exact h2 hu
 simp only[A2,K] at a;split at a
 ·split at a
  ·split at a
   ·rename_i hr _;split at a
    ·simp only[Ab] at a;exact E _ _ _ hr rfl rfl a.symm
    ·cases a
   ·rename_i hr _;split at a
    ·simp only[Ab] at a;exact E _ _ _ hr rfl rfl a.symm
    ·cases a
   ·cases a
  ·cases a
 ·cases a
end
theorem rE{F:Bf}{a b:IOp}{s k l:V}(hi:PJ a b=true)(h1:Dz F a s=some k)(h2:Dz F b k=some l) :
  ∃ s',Dz F b s=some s'/\Dz F a s'=some l:=by
 obtain⟨f,m⟩:=iN hi;rw[U6] at h1 h2;simp only[S] at h1 h2;obtain⟨la,g,rfl⟩:=h1;obtain⟨h,hb,rfl⟩:=h2;have i:=Zl g;have j:=Zl hb;replace hb:RN F b s=some h:=Zm (s:=AE s la) (fun t d=>Ht fun p c e=>(f p.1 (i p c)).1.1 (e ▸ d)) (fun t d=>by
  by_cases hn:Nb a t=true
  ·exact .inr (Zn hn g).1
  ·exact .inl (Ht fun p c e=>hn (by have:=(f p.1 (i p c)).1.2 (e ▸ d);rw[e] at this;exact this)).symm) hb
 have o:RN F a (AE s h)=some la:=Zm (fun t d=>(Ht fun p c e=>(m p.1 (j p c)).1 (e ▸ d)).symm) (fun t d=>by
  by_cases hn:U5 b t=true
  ·exact Agu hn hb
  ·by_cases n:Nb b t=true
   ·exact .inr (Zn n hb).2
   ·exact .inl (Ht fun p c e=>by
     have:=(m p.1 (j p c)).2 (e ▸ d);rw[e] at this;exact this.elim hn n)) g
 refine⟨AE s h,by rw[U6,hb];rfl,?_⟩;rw[U6,o];simp only[Al,Ab];exact (iM fun p c q r e=>(f p.1 (i p c)).2 (e ▸ j q r)).symm
theorem aO{F:Bf}{o:IOp}{l:List IOp}:∀ {s b:V} {m:List IOp},(∀ p∈m,PJ p o=true)->Cx F (m++o::l) s=some b ->
  ∃ a,Dz F o s=some a/\Cx F (m++l) a=some b:=by
 intro s b m;induction m generalizing s with
 | nil =>
  intro _ h;simp only[C',Cx] at h |-;cases h1:Dz F o s with
  | none=>rw[h1] at h;cases h
  | some a=>rw[h1] at h;exact⟨a,rfl,h⟩
 | cons p m d =>
  intro c h;simp only[LH,Cx] at h |-;cases h1:Dz F p s with
  | none=>rw[h1] at h;cases h
  | some a =>
   rw[h1] at h;obtain⟨k,e,f⟩:=d (fun q g=>c q (AI _ g)) h;obtain⟨s',i,j⟩:=rE (c p (A1 ..)) h1 e;exact⟨s',i,by rw[j];exact f⟩
end Go.Ai
namespace Go.Ai
open Go.RowKit
open _root_.Array renaming getD_eq_getD_getElem?->Av,getElem?_eq_none->Arp,getElem?_eq_some_iff->A8,getElem?_setIfInBounds->IT,size_setIfInBounds->O9
open False renaming elim->Ago
open Go renaming undef->A0
open Go.Act renaming put->aM
open Go.RowKit.Below renaming refl->F2
open Go.World renaming cell?->Qo
open List renaming all_eq_true->A6,any_eq_false->Aay,getD_eq_getElem?_getD->Z,getElem?_eq_none->AS,getElem_mem->Bl,length->C,length_pos_iff->Pu,length_set->Az,map_cons->BQ,mem_cons->Aw,mem_cons_of_mem->AI,mem_cons_self->A1,mem_of_mem_drop->C1,not_mem_nil->AD
open Nat renaming add_assoc->Fs,le_trans->AR,lt_irrefl->MN,lt_of_lt_of_le->Ba,lt_of_not_le->Gd,lt_or_ge->C6
open Option renaming map_some->Al
open Option.some renaming injEq->Ab
def Kd(cs:List AV):Prop:=∀ x∈cs,EM x=true
inductive Rd (Y X:Nat->Prop) (w:World):Value->AV->Prop where
 | int (k:IntKind) (n:Int):Rd Y X w (.int k n) (.int k n)
 | bool (b:Bool):Rd Y X w (.bool b) (.bool b)
 | str (s:ByteArray):Rd Y X w (.string s) (.str s)
 | undef:Rd Y X w A0 .undef
 | agg (vs:Array Value) (cs:List AV) (hd:Kd cs) (h:vs.size=cs.length) (hc:∀ (i:Nat) (h1:i<vs.size) (h2:i<cs.length),Rd Y X w vs[i] cs[i]):Rd Y X w (.agg vs) (.agg cs)
 | tup (vs:Array Value) (cs:List AV) (h:vs.size=cs.length) (hc:∀ (i:Nat) (h1:i<vs.size) (h2:i<cs.length),Rd Y X w vs[i] cs[i]):Rd Y X w (.tuple vs) (.tup cs)
 | nil:Rd Y X w (.slice none 0 0) .nil
 | nil0:Rd Y X w (.slice none 0 0) (.sl 0 [])
 | e0 (a:Addr) (c:Nat):Rd Y X w (.slice (some a) 0 c) (.sl 0 [])
 | sl (b off n cap:Nat) (cs:List AV) (f:Nat->Value) (hd:Kd cs) (hn:n<=cap) (hX:cs ≠ []->¬ X b) (hY:(∃ c∈cs,isI c=true)->¬ Y b) (hcell:∀ i,i<cs.length->w.cell? ⟨b,off+i,none⟩=some (f i))
   (hr:∀ (i:Nat) (h:i<cs.length),Rd Y X w (f i) cs[i]):Rd Y X w (.slice (some ⟨b,off,none⟩) n cap) (.sl n cs)
 | pt (b off:Nat) (cs:List AV) (f:Nat->Value) (hd:Kd cs) (hX:cs ≠ []->¬ X b) (hcell:∀ i,i<cs.length->w.cell? ⟨b,off+i,none⟩=some (f i))
   (hr:∀ (i:Nat) (h:i<cs.length),Rd Y X w (f i) cs[i]):Rd Y X w (.pointer (some ⟨b,off,none⟩)) (.pt cs)
 | fnc (g:Nat) (u:Value) (cs:List AV) (h:Rd Y X w u (.pt cs)):Rd Y X w (.func (.func g) #[] #[u]) (.fnc g cs)
 | io (v:Value) (cs:List AV) (y:AV) (h:Rd Y X w v y):Rd Y X w v (.io cs y)
theorem Ec{w w':World}{p:Addr}(h:w'.heap[p.block]? = w.heap[p.block]?):w'.cell? p=w.cell? p:=by
 simp only[Qo,h]
theorem Jz{w:World}{p:Addr}{v:Value}(h:w.cell? p=some v):p.block<w.heap.size:=by
 rcases C6 p.block w.heap.size with h1 | h1
 ·exact h1
 ·simp[Qo,Arp h1] at h
theorem Rd.world{Y X:Nat->Prop}{w w':World}{v:Value}{x:AV}(h:Rd Y X w v x)(j:∀ b,¬ X b->b<w.heap.size->w'.heap[b]? = w.heap[b]?):Rd Y X w' v x:=by
 induction h with
 | int k n=>exact .int k n
 | bool b=>exact .bool b
 | str s=>exact .str s
 | undef=>exact .undef
 | agg vs cs hd h hc d=>exact .agg vs cs hd h d
 | tup vs cs h hc d=>exact .tup vs cs h d
 | nil=>exact .nil
 | nil0=>exact .nil0
 | e0 a c=>exact .e0 a c
 | sl b off n cap cs f hd hn hX hY hcell hr d =>
  refine .sl b off n cap cs f hd hn hX hY (fun i hi => ?_) d;have h1:=hcell i hi;rw[Ec (j b (hX (by intro e;subst e;simp at hi)) (Jz h1))];exact h1
 | pt b off cs f hd hX hcell hr d =>
  refine .pt b off cs f hd hX (fun i hi => ?_) d;have h1:=hcell i hi;rw[Ec (j b (hX (by intro e;subst e;simp at hi)) (Jz h1))];exact h1
 | fnc g u cs h d=>exact .fnc g u cs d
 | io v cs y h d=>exact .io v cs y d
theorem Rd.mono{Y X X':Nat->Prop}{w:World}{v:Value}{x:AV}(h:Rd Y X w v x)(hX:∀ b,X' b->X b\/w.heap.size<=b):Rd Y X' w v x:=by
 induction h with
 | int k n=>exact .int k n
 | bool b=>exact .bool b
 | str s=>exact .str s
 | undef=>exact .undef
 | agg vs cs hd h hc d=>exact .agg vs cs hd h d
 | tup vs cs h hc d=>exact .tup vs cs h d
 | nil=>exact .nil
 | nil0=>exact .nil0
 | e0 a c=>exact .e0 a c
 | sl b off n cap cs f hd hn i hY hcell hr d =>
  refine .sl b off n cap cs f hd hn (fun e hb => ?_) hY hcell d;rcases hX b hb with h1 | h1
  ·exact i e h1
  ·have h0:0<C cs:=Pu.2 e;have:=Jz (hcell 0 h0);simp only at this;omega
 | pt b off cs f hd i hcell hr d =>
  refine .pt b off cs f hd (fun e hb => ?_) hcell d;rcases hX b hb with h1 | h1
  ·exact i e h1
  ·have h0:0<C cs:=Pu.2 e;have:=Jz (hcell 0 h0);simp only at this;omega
 | fnc g u cs h d=>exact .fnc g u cs d
 | io v cs y h d=>exact .io v cs y d
section
variable{Y X j m:Nat->Prop}{w:World}{v:Value}{x:AV}
theorem Rd.lend(h:Rd Y X w v x)(hX:∀ b,m b->X b)(hY:∀ b,j b->Y b\/X b):Rd j m w v x:=by
 induction h with
 | int k n=>exact .int k n
 | bool b=>exact .bool b
 | str s=>exact .str s
 | undef=>exact .undef
 | agg vs cs hd h hc e=>exact .agg vs cs hd h e
 | tup vs cs h hc e=>exact .tup vs cs h e
 | nil=>exact .nil
 | nil0=>exact .nil0
 | e0 a c=>exact .e0 a c
 | sl b off n cap cs f hd hn l p hcell hr e =>
  refine .sl b off n cap cs f hd hn (fun o hb=>l o (hX b hb)) (fun hi hb => ?_) hcell e;rcases hY b hb with h1 | h1
  ·exact p hi h1
  ·obtain⟨c,hc,_⟩:=hi;exact l (List.ne_nil_of_mem hc) h1
 | pt b off cs f hd l hcell hr e=>exact .pt b off cs f hd (fun o hb=>l o (hX b hb)) hcell e
 | fnc g u cs h e=>exact .fnc g u cs e
 | io v cs y h e=>exact .io v cs y e
theorem Rd.back1(h:Rd j m w v x)(d:OB x=true)(hX:∀ b,X b->m b\/j b)(hY:∀ b,Y b->j b):Rd Y X w v x:=by
 cases h with
 | int k n=>exact .int k n
 | bool b=>exact .bool b
 | str s=>exact .str s
 | undef=>exact .undef
 | agg vs cs hd h hc=>cases d
 | tup vs cs h hc=>cases d
 | nil=>cases d
 | pt _ _ _ _ _ _ _ _=>cases d
 | fnc _ _ _ _=>cases d
 | io _ _ _ _=>cases d
 | nil0=>exact .nil0
 | e0 a c=>exact .e0 a c
 | sl b off n cap cs f hd hn l p hcell hr =>
  simp only[OB,A6] at d;have q:∀ c∈cs,¬ j b:=fun c hc=>p ⟨c,hc,d c hc⟩;refine .sl b off n cap cs f hd hn (fun o hb => ?_) (fun ⟨c,hc,_⟩ hb=>q c hc (hY b hb)) hcell (fun i hi => ?_)
  ·obtain⟨c,hc⟩:=List.exists_mem_of_ne_nil cs o;rcases hX b hb with h1 | h1
   ·exact l o h1
   ·exact q c hc h1
  ·have h1:=d _ (Bl hi);have h2:=hr i hi;generalize cs[i]=c at h1 h2 |-;generalize f i=u at h2 |-;cases c <;> first | (cases h1;done) | (cases h2;exact .int _ _)
theorem Rd.back(h:Rd j m w v x)(d:KY x=true)(hX:∀ b,X b->m b\/j b)(hY:∀ b,Y b->j b):Rd Y X w v x:=by
 cases h with
 | agg vs cs hd h hc =>
  simp only[KY,A6] at d;exact .agg vs cs hd h fun i h1 h2=>(hc i h1 h2).back1 (d _ (Bl h2)) hX hY
 | int k n=>exact .int k n
 | bool b=>exact .bool b
 | str s=>exact .str s
 | undef=>exact .undef
 | tup vs cs h hc=>cases d
 | nil=>cases d
 | pt _ _ _ _ _ _ _ _=>cases d
 | fnc _ _ _ _=>cases d
 | io _ _ _ _=>cases d
 | nil0=>exact .nil0
 | e0 a c=>exact .e0 a c
 | sl b off n cap cs f hd hn l p hcell hr=>exact Rd.back1 (.sl b off n cap cs f hd hn l p hcell hr) d hX hY
end
theorem rF{Y X:Nat->Prop}{w:World}{u:Value}{b:Bool}{n:Nat}{cs:List AV}(h:Rd Y X w u (.sl n cs)):Rd Y X w (.agg #[.bool b,u]) (.agg [.bool b,.sl n cs]):=by
 refine .agg _ _ (fun x a => ?_) rfl (fun i h1 h2 => ?_)
 ·simp only[Aw,AD,or_false] at a;rcases a with rfl | rfl <;> rfl
 ·match i,h2 with
  | 0,_=>exact .bool b
  | 1,_=>exact h
def F8(Y X:Nat->Prop)(w:World)(b off:Nat)(cs:List AV):Prop :=
 Kd cs/\∀ (i:Nat) (h:i<C cs),∃ v,w.cell? ⟨b,off+i,none⟩=some v/\Rd Y X w v cs[i]
theorem F8.drop{Y X:Nat->Prop}{w:World}{b off:Nat}{cs:List AV}(h:F8 Y X w b off cs)(k:Nat):F8 Y X w b (off+k) (cs.drop k):=by
 obtain⟨hd,h⟩:=h;refine⟨fun x a=>hd x (C1 a),?_⟩;intro i hi;have c:k+i<C cs:=by simp at hi;omega
 obtain⟨v,h1,h2⟩:=h (k+i) c;refine⟨v,by rw[Fs];exact h1,?_⟩;simpa using h2
theorem F8.world{Y X:Nat->Prop}{w w':World}{b off:Nat}{cs:List AV}(h:F8 Y X w b off cs)(a:∀ c,¬ X c->c<w.heap.size->w'.heap[c]? = w.heap[c]?)
  (hb:b<w.heap.size->w'.heap[b]? = w.heap[b]?):F8 Y X w' b off cs:=by
 obtain⟨hd,h⟩:=h;refine⟨hd,?_⟩;intro i hi;obtain⟨v,h1,h2⟩:=h i hi;exact⟨v,by rw[Ec (hb (Jz h1))];exact h1,h2.world a⟩
theorem F8.mono{Y X X':Nat->Prop}{w:World}{b off:Nat}{cs:List AV}(h:F8 Y X w b off cs)(hX:∀ b,X' b->X b\/w.heap.size<=b):F8 Y X' w b off cs:=by
 obtain⟨hd,h⟩:=h;refine⟨hd,?_⟩;intro i hi;obtain⟨v,h1,h2⟩:=h i hi;exact⟨v,h1,h2.mono hX⟩
def CN:Value->Option Addr
 | .pointer (some p)=>some p
 | .slice (some p) _ _=>some p
 | .agg vs=>match vs.toList with
  | [.bool _,.slice (some p) _ _]=>some p
  | _=>none
 | .tuple vs=>match vs.toList with
  | [.slice (some p) _ _,.bool _]=>some p
  | _=>none
 | _=>none
def At(v:Value):Option Nat:=(CN v).map (·.block)
def Cd:Reg->Bool
 | .box _=>true
 | .own _ _ _=>true
 | .agn _ _ _ _=>true
 | .bxl _=>true
 | .bxh _ _=>true
 | .bxg _=>true
 | _=>false
def D0(Y X:Nat->Prop)(w:World)(b off:Nat)(cs:List AV):Prop :=
 Kd cs/\∃ (vs:Array Value) (T:TypeId),w.heap[b]? = some (.cells vs T (0,0))/\off+C cs<=vs.size/\∀ (i:Nat) (h:i<C cs),∃ v,vs[off+i]? = some v/\Rd Y X w v cs[i]
section
variable{Y X:Nat->Prop}{w:World}{b off:Nat}{cs:List AV}
theorem D0.mem(h:D0 Y X w b off cs):F8 Y X w b off cs:=by
 obtain⟨hd,vs,T,hb,_,hc⟩:=h;refine⟨hd,?_⟩;intro i hi;obtain⟨v,h1,h2⟩:=hc i hi;exact⟨v,by simp[Qo,hb,h1],h2⟩
theorem D0.lt(h:D0 Y X w b off cs):b<w.heap.size:=by
 obtain⟨_,vs,T,hb,_⟩:=h;exact (A8.1 hb).1
end
theorem D0.world{Y X:Nat->Prop}{w w':World}{b off:Nat}{cs:List AV}(h:D0 Y X w b off cs)(a:∀ c,¬ X c->c<w.heap.size->w'.heap[c]? = w.heap[c]?)
  (hb:w'.heap[b]? = w.heap[b]?):D0 Y X w' b off cs:=by
 obtain⟨hd,vs,T,h1,h2,d⟩:=h;exact⟨hd,vs,T,by rw[hb];exact h1,h2,fun i hi=>let ⟨v,e,f⟩:=d i hi; ⟨v,e,f.world a⟩⟩
theorem D0.mono{Y X X':Nat->Prop}{w:World}{b off:Nat}{cs:List AV}(h:D0 Y X w b off cs)(hX:∀ b,X' b->X b\/w.heap.size<=b):D0 Y X' w b off cs:=by
 obtain⟨hd,vs,T,h1,h2,a⟩:=h;exact⟨hd,vs,T,h1,h2,fun i hi=>let ⟨v,c,d⟩:=a i hi; ⟨v,c,d.mono hX⟩⟩
def SZ(w:World)(b m:Nat):Prop:=∃ (vs:Array Value) (T:TypeId),w.heap[b]? = some (.cells vs T (0,0))/\m<=vs.size
theorem SZ.world{w w':World}{b m:Nat}(h:SZ w b m)(hb:w'.heap[b]? = w.heap[b]?):SZ w' b m:=by
 obtain⟨vs,T,h1,h2⟩:=h;exact⟨vs,T,by rw[hb];exact h1,h2⟩
def Ez(Y X B:Nat->Prop)(w:World)(v:Value)(k n:Nat)(cs:List AV):Prop :=
 (v = .slice none 0 0/\n=0/\cs=[]) \/
 ∃ b cap,v = .slice (some ⟨b,0,none⟩) n cap/\n<=cap/\C cs=n*k/\B b/\D0 Y X w b 0 cs/\SZ w b (cap*k)
theorem Ez.world{Y X:Nat->Prop}{B:Nat->Prop}{w w':World}{v:Value}{k n:Nat}{cs:List AV}(h:Ez Y X B w v k n cs)(f:∀ c,¬ X c->c<w.heap.size->w'.heap[c]? = w.heap[c]?)
  (hb:∀ b,At v=some b->b<w.heap.size->w'.heap[b]? = w.heap[b]?):Ez Y X B w' v k n cs:=by
 rcases h with h | ⟨b,cap,a,g,i,j,d,l⟩
 ·exact .inl h
 ·have e:w'.heap[b]? = w.heap[b]? := hb b (by rw[a];rfl) d.lt;exact .inr ⟨b,cap,a,g,i,j,d.world f e,l.world e⟩
theorem Ez.mono{Y X X':Nat->Prop}{B:Nat->Prop}{w:World}{v:Value}{k n:Nat}{cs:List AV}(h:Ez Y X B w v k n cs)(hX:∀ b,X' b->X b\/w.heap.size<=b):Ez Y X' B w v k n cs:=by
 rcases h with h | ⟨b,cap,a,c,d,e,f,g⟩
 ·exact .inl h
 ·exact .inr ⟨b,cap,a,c,d,e,f.mono hX,g⟩
theorem Ez.lower{Y X:Nat->Prop}{B a:Nat->Prop}{w:World}{v:Value}{k n:Nat}{cs:List AV}(h:Ez Y X B w v k n cs)(c:∀ b,B b->a b):Ez Y X a w v k n cs:=by
 rcases h with h | ⟨b,cap,d,e,f,g,i,j⟩
 ·exact .inl h
 ·exact .inr ⟨b,cap,d,e,f,c b g,i,j⟩
theorem Ez.block{Y X:Nat->Prop}{B:Nat->Prop}{w:World}{v:Value}{k n:Nat}{cs:List AV}(h:Ez Y X B w v k n cs){b:Nat}(hb:At v=some b):B b/\b<w.heap.size:=by
 rcases h with ⟨rfl,_⟩ | ⟨b',cap,a,e,f,c,d,g⟩
 ·cases hb
 ·rw[a] at hb;simp only[At,CN,Al,Ab] at hb;subst hb;exact⟨c,d.lt⟩
theorem Ez.frozen{Y X X':Nat->Prop}{B:Nat->Prop}{w:World}{v:Value}{k n:Nat}{cs:List AV}(h:Ez Y X B w v k n cs)(hX:∀ b,X' b->X b\/w.heap.size<=b)(hb:∀ b,At v=some b->¬ X' b)(hY:∀ b,Y b->¬ B b):Rd Y X' w v (.sl n cs):=by
 rcases h with ⟨rfl,rfl,rfl⟩ | ⟨b,cap,a,d,j,e,f,l⟩
 ·exact .nil0
 have g:¬ X' b:=hb b (by rw[a];rfl);obtain⟨hd,c⟩:=(f.mono hX).mem;subst a;refine .sl b 0 n cap cs (fun i=>(w.cell? ⟨b,0+i,none⟩).getD A0) hd d (fun _=>g) (fun _ h=>hY b h e) (fun i hi => ?_) (fun i hi => ?_)
 ·obtain⟨u,h1,_⟩:=c i hi;rw[h1];rfl
 ·obtain⟨u,h1,h2⟩:=c i hi;rw[h1];exact h2
theorem iO{Y X d a:Nat->Prop}{B:Nat->Prop}{w:World}{v:Value}{k n:Nat}{cs:List AV}(h:Ez Y X B w v k n cs)(hX:∀ b,a b->X b)(hY:∀ b,d b->Y b\/X b)(hb:∀ b,At v=some b->¬ a b)(hi:cs.all (fun c => !isI c)=true):Rd d a w v (.sl n cs):=by
 rcases h with ⟨rfl,rfl,rfl⟩ | ⟨b,cap,e,g,m,o,j,p⟩
 ·exact .nil0
 have l:¬ a b:=hb b (by rw[e];rfl);obtain⟨hd,f⟩:=j.mem;subst e;refine .sl b 0 n cap cs (fun i=>(w.cell? ⟨b,0+i,none⟩).getD A0) hd g (fun _=>l) (fun ⟨c,hc,h1⟩ _ => ?_) (fun i hi => ?_) (fun i hi => ?_)
 ·have:=A6.1 hi c hc;rw[h1] at this;cases this
 ·obtain⟨u,h1,_⟩:=f i hi;rw[h1];rfl
 ·obtain⟨u,h1,h2⟩:=f i hi;rw[h1];exact h2.lend hX hY
def iP:Tag->Value->Value
 | .st b,u => .agg #[.bool b,u]
 | .tp b,u => .tuple #[u,.bool b]
def IS(Y X B:Nat->Prop)(w:World)(v:Value)(b:Tag)(k n:Nat)(cs:List AV):Prop:=∃ u,v=iP b u/\Ez Y X B w u k n cs
theorem Er{Y X:Nat->Prop}{B:Nat->Prop}{w:World}{u:Value}{k n:Nat}{cs:List AV}(b:Tag)(h:Ez Y X B w u k n cs):At (iP b u)=At u:=by
 cases b <;> rcases h with ⟨rfl,_⟩ | ⟨b',cap,rfl,_⟩ <;> rfl
theorem IS.world{Y X:Nat->Prop}{B:Nat->Prop}{w w':World}{v:Value}{b:Tag}{k n:Nat}{cs:List AV}(h:IS Y X B w v b k n cs)(a:∀ c,¬ X c->c<w.heap.size->w'.heap[c]? = w.heap[c]?)
  (hb:∀ b,At v=some b->b<w.heap.size->w'.heap[b]? = w.heap[b]?):IS Y X B w' v b k n cs:=by
 obtain⟨u,rfl,h⟩:=h;rw[Er b h] at hb;exact⟨u,rfl,h.world a hb⟩
theorem IS.mono{Y X X':Nat->Prop}{B:Nat->Prop}{w:World}{v:Value}{b:Tag}{k n:Nat}{cs:List AV}(h:IS Y X B w v b k n cs)(hX:∀ b,X' b->X b\/w.heap.size<=b):IS Y X' B w v b k n cs:=by
 obtain⟨u,e,h⟩:=h;exact⟨u,e,h.mono hX⟩
theorem IS.lower{Y X:Nat->Prop}{B a:Nat->Prop}{w:World}{v:Value}{b:Tag}{k n:Nat}{cs:List AV}(h:IS Y X B w v b k n cs)(c:∀ b,B b->a b):IS Y X a w v b k n cs:=by
 obtain⟨u,e,h⟩:=h;exact⟨u,e,h.lower c⟩
theorem IS.own{Y X0:Nat->Prop}{Z:Nat->Prop}{B:Nat->Prop}{w:World}{v:Value}{b:Tag}{k n:Nat}{cs:List AV}(h:IS Y (fun c=>X0 c\/Z c) B w v b k n cs)(a:∀ c,At v=some c->Z c):IS Y (fun c=>X0 c\/At v=some c) B w v b k n cs :=
 h.mono fun c hc => .inl (hc.imp id (a c))
theorem IS.block{Y X:Nat->Prop}{B:Nat->Prop}{w:World}{v:Value}{b:Tag}{k n:Nat}{cs:List AV}(h:IS Y X B w v b k n cs){c:Nat}(hb:At v=some c):B c/\c<w.heap.size:=by
 obtain⟨u,rfl,h⟩:=h;rw[Er b h] at hb;exact h.block hb
def SubV(k l h:Nat)(u v:Value):Prop:=(u = .slice none 0 0/\v = .slice none 0 0/\l=0/\h=0) \/
 ∃ b n cap,u = .slice (some ⟨b,0,none⟩) n cap/\l<=h/\h<=n/\n<=cap/\v = .slice (if cap=l then some ⟨b,0,none⟩ else some ⟨b,l*k,none⟩) (h-l) (cap-l)
def Jh(Y X:Nat->Prop)(roots:List (Nat × Nat))(tm:Array Value)(w:World)(t:Nat)(vs:Array Value)(cs:List AV)(ls:List (Nat × Nat)):Prop :=
 (∀ p∈ls,(t,p.2)∈roots)/\C cs<=vs.size/\∀ (i:Nat) (h:i<C cs),∃ v,vs[i]? = some v/\v.oneCell'=true/\match Ey ls i with
  | some u=>v=tm.getD u A0
  | none=>cs[i] = .undef\/(EM cs[i]=true/\Rd Y X w v cs[i])
theorem JA:∀ {ls:List (Nat × Nat)} {i u:Nat},Ey ls i=some u->(i,u)∈ls
 | [],_,_,h=>by cases h
 | (o,v)::ls,i,u,h=>by
  simp only[Ey] at h;split at h
  next e=>cases h;subst e;exact A1
  ·exact AI _ (JA h)
theorem Jh.world{Y X:Nat->Prop}{roots:List (Nat × Nat)}{tm:Array Value}{w w':World}{t:Nat}{vs:Array Value}{cs:List AV}{ls:List (Nat × Nat)}(h:Jh Y X roots tm w t vs cs ls)
  (a:∀ c,¬ X c->c<w.heap.size->w'.heap[c]? = w.heap[c]?):Jh Y X roots tm w' t vs cs ls:=by
 refine⟨h.1,h.2.1,fun i hi => ?_⟩;obtain⟨v,h1,h0,h2⟩:=h.2.2 i hi;refine⟨v,h1,h0,?_⟩;split
 next u hu=>simp only[hu] at h2;exact h2
 next hu=>simp only[hu] at h2;exact h2.imp id fun h=>⟨h.1,h.2.world a⟩
theorem Jh.mono{Y X X':Nat->Prop}{roots:List (Nat × Nat)}{tm:Array Value}{w:World}{t:Nat}{vs:Array Value}{cs:List AV}{ls:List (Nat × Nat)}(h:Jh Y X roots tm w t vs cs ls)
  (hX:∀ b,X' b->X b\/w.heap.size<=b):Jh Y X' roots tm w t vs cs ls:=by
 refine⟨h.1,h.2.1,fun i hi => ?_⟩;obtain⟨v,h1,h0,h2⟩:=h.2.2 i hi;refine⟨v,h1,h0,?_⟩;split
 next u hu=>simp only[hu] at h2;exact h2
 next hu=>simp only[hu] at h2;exact h2.imp id fun h=>⟨h.1,h.2.mono hX⟩
theorem Jh.tmps{Y X:Nat->Prop}{roots:List (Nat × Nat)}{tm a:Array Value}{w:World}{t:Nat}{vs:Array Value}{cs:List AV}{ls:List (Nat × Nat)}(h:Jh Y X roots tm w t vs cs ls)
  (b:∀ p∈ls,a.getD p.2 A0=tm.getD p.2 A0):Jh Y X roots a w t vs cs ls:=by
 refine⟨h.1,h.2.1,fun i hi => ?_⟩;obtain⟨v,h1,h0,h2⟩:=h.2.2 i hi;refine⟨v,h1,h0,?_⟩;split
 next u hu=>simp only[hu] at h2;rw[b _ (JA hu)];exact h2
 next hu=>simp only[hu] at h2;exact h2
def F9(Y X B G:Nat->Prop)(roots:List (Nat × Nat))(tm:Array Value)(w:World)(t:Nat)(v:Value):Reg->Prop
 | .val x=>Rd Y X w v x
 | .box cs=>∃ b,v = .pointer (some ⟨b,0,none⟩)/\B b/\D0 Y X w b 0 cs
 | .ptr d off=>(t,d)∈roots/\∃ p,CN (tm.getD d A0)=some p/\p.spot=none/\v = .pointer (some ⟨p.block,p.off+off,none⟩)
 | .mem cs=>∃ b off,v = .pointer (some ⟨b,off,none⟩)/\(cs ≠ []->¬ X b)/\F8 Y X w b off cs
 | .own k n cs=>Ez Y X B w v k n cs
 | .agn b k n cs=>IS Y X B w v b k n cs
 | .bxl d=>(t,d)∈roots/\∃ b,v = .pointer (some ⟨b,0,none⟩)/\B b/\b<w.heap.size/\∀ i,i<2->w.cell? ⟨b,i,none⟩=(tm.getD d A0).cells[i]?
 | .dup d=>(t,d)∈roots/\v=tm.getD d A0
 | .sub d k l h=>(t,d)∈roots/\SubV k l h (tm.getD d A0) v
 | .bxh cs ls=>∃ b vs T,v = .pointer (some ⟨b,0,none⟩)/\B b/\w.heap[b]? = some (.cells vs T (0,0))/\Jh Y X roots tm w t vs cs ls
 | .agh cs ls=>∃ vs,v = .agg vs/\vs.size=C cs/\Jh Y X roots tm w t vs cs ls
 | .bxg cs=>∃ b,v = .pointer (some ⟨b,0,none⟩)/\(B b/\G b)/\D0 Y X w b 0 cs
 | .dead=>True
def XS(s:V)(tm:Array Value)(b:Nat):Prop:=∃ t,Cd (Ag s t)=true/\At (tm.getD t A0)=some b
theorem F9.monoX{Y X g:Nat->Prop}{B G:Nat->Prop}{roots:List (Nat × Nat)}{tm:Array Value}{w:World}{t:Nat}{v:Value}{r:Reg}(h:F9 Y X B G roots tm w t v r)(hX:∀ b,g b->X b):F9 Y g B G roots tm w t v r:=by
 have f:∀ b,g b->X b\/w.heap.size<=b:=fun b hb => .inl (hX b hb);cases r with
 | val x=>exact Rd.mono h f
 | box cs=>obtain⟨b,a,c,e⟩:=h;exact⟨b,a,c,e.mono f⟩
 | own k n cs=>exact Ez.mono h f
 | agn m k n cs=>exact IS.mono h f
 | mem cs=>obtain⟨b,off,a,c,e⟩:=h;exact⟨b,off,a,fun i j=>c i (hX b j),e.mono f⟩
 | bxl o=>exact h
 | ptr d off=>exact h
 | dup d=>exact h
 | sub _ _ _ _=>exact h
 | bxh cs ls=>obtain⟨b,vs,T,a,c,e,l⟩:=h;exact⟨b,vs,T,a,c,e,l.mono f⟩
 | agh cs ls=>obtain⟨vs,a,c,e⟩:=h;exact⟨vs,a,c,e.mono f⟩
 | bxg cs=>obtain⟨b,a,c,e⟩:=h;exact⟨b,a,c,e.mono f⟩
 | dead=>trivial
structure Base where
 w:World
 own:Nat->Prop
def Base.mine(B:Base)(b:Nat):Prop:=B.w.heap.size<=b\/B.own b
structure Grown (B:Base) (w:World):Prop where
 os:w.os=B.w.os
 tape:w.tape=B.w.tape
 output:w.output=B.w.output
 size:B.w.heap.size<=w.heap.size
 block:∀ b,¬ B.mine b->w.heap[b]? = B.w.heap[b]?
theorem Grown.trans{B:Base}{w w':World}(h:Grown B w)(g:Below w.heap.size w w'):Grown B w' :=
 ⟨g.os.trans h.os,g.tape.trans h.tape,g.output.trans h.output,AR h.size g.size,fun b hb=>(g.block b (Ba (Gd fun e=>hb (.inl e)) h.size)).trans (h.block b hb)⟩
theorem Grown.below{B:Base}{w:World}(h:Grown B w)(ho:∀ b,¬ B.own b):Below B.w.heap.size B.w w :=
 ⟨h.os,h.tape,h.output,h.size,fun b hb=>h.block b (fun e=>e.elim (fun e=>MN _ (Ba hb e)) (ho b))⟩
structure Rel (Y X0:Nat->Prop) (roots:List (Nat × Nat)) (w0:Base) (s:V) (a:Act) (w:World):Prop where
 dfr:a.defers=[]
 size:a.tmps.size=s.length
 below:Grown w0 w
 low:∀ b,X0 b->¬ w0.mine b
 lowY:∀ b,Y b->¬ w0.mine b
 reg:∀ t,F9 Y (fun b=>X0 b\/XS s a.tmps b) w0.mine w0.own roots a.tmps w t (a.tmps.getD t A0) (Ag s t)
 inj:∀ t t' b,Cd (Ag s t)=true->Cd (Ag s t')=true->At (a.tmps.getD t A0)=some b->At (a.tmps.getD t' A0)=some b->t=t'
theorem Below.ext{w w':World}(h:Below w.heap.size w w'):∀ b,b<w.heap.size->w'.heap[b]? = w.heap[b]? := h.block
theorem Ii(tm:Array Value)(d:Nat)(v:Value)(t:Nat):(tm.setIfInBounds d v).getD t A0=if d=t/\d<tm.size then v else tm.getD t A0:=by
 simp only[Av,IT];by_cases h:d=t
 ·subst h;by_cases h2:d<tm.size
  ·simp[h2]
  ·simp[h2]
 ·simp[h]
theorem Hi(ks:List Nat):∀ (s:V) (t:Nat),Ag (AE s (ks.map fun u=>(u,Reg.dead))) t=Ag s t\/Ag (AE s (ks.map fun u=>(u,Reg.dead))) t = .dead:=by
 induction ks with
 | nil=>exact fun s t => .inl rfl
 | cons k ks a =>
  intro s t;simp only[BQ,AE];rcases a (s.set k .dead) t with h | h
  ·rw[h,Ci];split
   ·exact .inr rfl
   ·exact .inl rfl
  ·exact .inr h
theorem FA(ks:List Nat):∀ (s:V) (t:Nat),t∈ks->Ag (AE s (ks.map fun u=>(u,Reg.dead))) t = .dead:=by
 induction ks with
 | nil=>intro s t h;cases h
 | cons k ks b =>
  intro s t h;simp only[BQ,AE];by_cases a:t∈ks
  ·exact b _ t a
  ·have e:t=k:=by
    cases h with
    | head=>rfl
    | tail _ h=>exact absurd h a
   subst e;rcases Hi ks (s.set t .dead) t with h1 | h1
   ·rw[h1,Ci];split
    ·rfl
    ·rename_i hn;simp only[Ag,Z];have:C s<=t:=by simp at hn;exact hn
     rw[AS this];rfl
   ·exact h1
theorem GW(l:List (Nat × Reg)):∀ s:V,C (AE s l)=C s:=by
 induction l with
 | nil=>intro s;rfl
 | cons p l a=>intro s;obtain⟨t,r⟩:=p;simp only[AE,a,Az]
theorem Zo{Y X:Nat->Prop}{B G:Nat->Prop}{roots:List (Nat × Nat)}{tm:Array Value}{w:World}{t:Nat}{v:Value}{r:Reg}{b:Nat}(h:F9 Y X B G roots tm w t v r)(a:Cd r=true)(hb:At v=some b):B b:=by
 cases r with
 | box cs =>
  obtain⟨b',c,e,f⟩:=h;rw[c] at hb;simp only[At,CN,Al,Ab] at hb;exact hb ▸ e
 | own k n cs=>exact (Ez.block h hb).1
 | agn g k n cs=>exact (IS.block h hb).1
 | bxl i =>
  obtain⟨_,b',c,e,f,_⟩:=h;rw[c] at hb;simp only[At,CN,Al,Ab] at hb;exact hb ▸ e
 | bxh cs ls =>
  obtain⟨b',vs,T,c,e,_⟩:=h;rw[c] at hb;simp only[At,CN,Al,Ab] at hb;exact hb ▸ e
 | agh cs ls=>cases a
 | bxg cs =>
  obtain⟨b',c,e,f⟩:=h;rw[c] at hb;simp only[At,CN,Al,Ab] at hb;exact hb ▸ e.1
 | val x=>cases a
 | ptr d off=>cases a
 | mem cs=>cases a
 | dup d=>cases a
 | sub _ _ _ _=>cases a
 | dead=>cases a
theorem Nf{w:World}{b:Nat}{o:Obj}(h:w.heap[b]? = some o):b<w.heap.size:=(A8.1 h).1
theorem Rel.give0{Y X0:Nat->Prop}{roots:List (Nat × Nat)}{w0:Base}{w w':World}{s:V}{a:Act}(h:Rel Y X0 roots w0 s a w){O:Nat->Prop}(K:Grown ⟨w,O⟩ w')
  {d:Nat} {v:Value} {r:Reg} {ks:List Nat} (R:∀ b,O b->∃ x,x∈ks/\Cd (Ag s x)=true/\At (a.tmps.getD x A0)=some b) (L:∀ t,(t,d)∈roots->t∈ks\/Gh (Ag s t) d=false)
  (Z:Cd r=true->∀ b,At v=some b->w.heap.size<=b\/O b)
  (hr:∀ X:Nat->Prop,(∀ b,X b->(X0 b\/XS s a.tmps b)\/(w.heap.size<=b/\At v=some b))->(∀ c,X c->O c->Cd r=true/\At v=some c)->(Cd r=false->∀ b,X b->X0 b\/XS s a.tmps b) ->
   F9 Y X w0.mine w0.own roots (a.tmps.setIfInBounds d v) w' d v r) :
  Rel Y X0 roots w0 (BD (AE s (ks.map fun u=>(u,Reg.dead))) (some d) r) (a.put (some d) v) w':=by
 obtain⟨hd,hs,hb,hl,a7,S,a3⟩:=h;have a4:w0.w.heap.size<=w.heap.size:=hb.size;have E:∀ c,c<w.heap.size->¬ O c->w'.heap[c]? = w.heap[c]? := fun c hc ho=>K.block c (fun e=>e.elim (fun e=>MN _ (Ba hc e)) ho);have a1:∀ b,O b->XS s a.tmps b:=fun b hb=>let ⟨x,_,h2,q⟩:=R b hb; ⟨x,h2,q⟩
 have z:∀ t,Ag (AE s (ks.map fun u=>(u,Reg.dead))) t=Ag s t->Cd (Ag s t)=true->∀ b,At (a.tmps.getD t A0)=some b->¬ O b:=by
  intro t g N b a8 ho;obtain⟨x,h1,h2,q⟩:=R b ho;have e:=a3 t x b N h2 a8 q;subst e;rw[FA ks s t h1] at g;rw[<- g] at N;cases N
 have U:∀ t,Ag (BD (AE s (ks.map fun u=>(u,Reg.dead))) (some d) r) t=(if d=t/\d<C s then r else Ag (AE s (ks.map fun u=>(u,Reg.dead))) t):=by
  intro t;simp only[BD];rw[Ci,GW]
 have A:∀ t,(a.put (some d) v).tmps.getD t A0=if d=t/\d<C s then v else a.tmps.getD t A0:=by
  intro t;simp only[aM];rw[Ii,hs]
 have a2:∀ b,XS (BD (AE s (ks.map fun u=>(u,Reg.dead))) (some d) r) (a.put (some d) v).tmps b->XS s a.tmps b\/(Cd r=true/\w.heap.size<=b/\At v=some b):=by
  rintro b ⟨t,h1,h2⟩;rw[U] at h1;rw[A] at h2;by_cases hc:d=t/\d<C s
  ·rw[Af hc] at h1 h2;rcases Z h1 b h2 with q | q
   ·exact .inr ⟨h1,q,h2⟩
   ·exact .inl (a1 b q)
  ·rw[Ak hc] at h1 h2;rcases Hi ks s t with g | g
   ·rw[g] at h1;exact .inl ⟨t,h1,h2⟩
   ·rw[g] at h1;cases h1
 generalize P:(fun b=>X0 b\/XS (BD (AE s (ks.map fun u=>(u,Reg.dead))) (some d) r) (a.put (some d) v).tmps b)=X;have a5:∀ b,X b->(X0 b\/XS s a.tmps b)\/w.heap.size<=b:=by
  intro b B;rw[<- P] at B;rcases B with h | h
  ·exact .inl (.inl h)
  ·rcases a2 b h with h | h
   ·exact .inl (.inr h)
   ·exact .inr h.2.1
 have a9:∀ b,X b->(X0 b\/XS s a.tmps b)\/(w.heap.size<=b/\At v=some b):=by
  intro b B;rw[<- P] at B;rcases B with h | h
  ·exact .inl (.inl h)
  ·rcases a2 b h with h | h
   ·exact .inl (.inr h)
   ·exact .inr h.2
 have b0:Cd r=false->∀ b,X b->X0 b\/XS s a.tmps b:=by
  intro N b B;rw[<- P] at B;rcases B with h | h
  ·exact .inl h
  ·rcases a2 b h with h | h
   ·exact .inr h
   ·rw[N] at h;cases h.1
 have b1:∀ c,X c->O c->Cd r=true/\At v=some c:=by
  intro c hc ho;rw[<- P] at hc;rcases hc with hc | ⟨t,h1,h2⟩
  ·obtain⟨x,_,h2,q⟩:=R c ho;exact absurd (Zo (S x) h2 q) (hl c hc)
  ·rw[U] at h1;rw[A] at h2;by_cases hc:d=t/\d<C s
   ·rw[Af hc] at h1 h2;exact⟨h1,h2⟩
   ·rw[Ak hc] at h1 h2;rcases Hi ks s t with g | g
    ·rw[g] at h1;exact absurd ho (z t g h1 c h2)
    ·rw[g] at h1;cases h1
 have F:∀ c,¬ (X c\/(X0 c\/XS s a.tmps c))->c<w.heap.size->w'.heap[c]? = w.heap[c]? := fun c hc hl=>E c hl fun ho=>hc (.inr (.inr (a1 c ho)));have G:∀ c,(X c\/(X0 c\/XS s a.tmps c))->(X0 c\/XS s a.tmps c)\/w.heap.size<=c:=fun c hc=>hc.elim (a5 c) .inl;have H:∀ c,X c->(X c\/(X0 c\/XS s a.tmps c))\/w'.heap.size<=c:=fun c hc => .inl (.inl hc);refine⟨hd,by simp only[aM,O9,BD,Az,GW];exact hs,?_,hl,a7,?_,?_⟩
 ·refine⟨K.os.trans hb.os,K.tape.trans hb.tape,K.output.trans hb.output,AR a4 K.size,fun c hc => ?_⟩;have J:c<w.heap.size:=Ba (Gd fun e=>hc (.inl e)) a4;refine (E c J fun ho => ?_).trans (hb.block c hc);obtain⟨x,_,h2,q⟩:=R c ho;exact hc (Zo (S x) h2 q)
 ·intro t;rw[P,U,A];by_cases hc:d=t/\d<C s
  ·rw[Af hc,Af hc];obtain⟨rfl,_⟩:=hc;exact hr X a9 b1 b0
  ·rw[Ak hc,Ak hc];rcases Hi ks s t with g | g
   ·rw[g];have h0:=S t;cases f:Ag s t with
    | val x=>rw[f] at h0;exact ((Rd.mono h0 G).world F).mono H
    | box cs =>
     rw[f] at h0;obtain⟨b,j,m,o⟩:=h0;exact⟨b,j,m,((o.mono G).world F (E b o.lt (z t g (by rw[f];rfl) b (by rw[j];rfl)))).mono H⟩
    | own k n cs =>
     rw[f] at h0;exact ((Ez.mono h0 G).world F (fun b h1 hb=>E b hb (z t g (by rw[f];rfl) b h1))).mono H
    | agn bb k n cs =>
     rw[f] at h0;exact ((IS.mono h0 G).world F (fun b h1 hb=>E b hb (z t g (by rw[f];rfl) b h1))).mono H
    | mem cs =>
     rw[f] at h0;obtain⟨b,off,j,m,o⟩:=h0;refine⟨b,off,j,fun z B => ?_,?_⟩;rotate_left
     ·by_cases a6:cs=[]
      ·subst a6;exact⟨fun x hx=>(by cases hx),fun i hi=>(by simp at hi)⟩
      ·exact ((o.mono G).world F (fun hb=>E b hb fun ho=>m a6 (.inr (a1 b ho)))).mono H
     rcases a5 b B with h | h
     ·exact m z h
     ·have h0:0<C cs:=Pu.2 z;obtain⟨u,hu,_⟩:=o.2 0 h0;have:=Jz hu;simp only at this;omega
    | ptr W off =>
     rw[f] at h0;obtain⟨j,p,m,o,D⟩:=h0;refine⟨j,p,?_,o,D⟩;rw[A,Ak]
     ·exact m
     ·rintro⟨rfl,J⟩;rcases L t j with l | l
      ·have:=FA ks s t l;rw[g,f] at this;cases this
      ·rw[f] at l;simp[Gh] at l
    | dup W =>
     rw[f] at h0;obtain⟨j,m⟩:=h0;refine⟨j,?_⟩;rw[A,Ak]
     ·exact m
     ·rintro⟨rfl,J⟩;rcases L t j with l | l
      ·have:=FA ks s t l;rw[g,f] at this;cases this
      ·rw[f] at l;simp[Gh] at l
    | sub W _ _ _ =>
     rw[f] at h0;obtain⟨j,m⟩:=h0;refine⟨j,?_⟩;rw[A,Ak]
     ·exact m
     ·rintro⟨rfl,J⟩;rcases L t j with l | l
      ·have:=FA ks s t l;rw[g,f] at this;cases this
      ·rw[f] at l;simp[Gh] at l
    | bxl W =>
     rw[f] at h0;obtain⟨j,b,m,o,D,e5⟩:=h0;refine⟨j,b,m,o,Ba D K.size,fun i hi => ?_⟩;rw[A,Ak]
     ·rw[<- e5 i hi];exact Ec (E b D (z t g (by rw[f];rfl) b (by rw[m];rfl)))
     ·rintro⟨rfl,J⟩;rcases L t j with l | l
      ·have:=FA ks s t l;rw[g,f] at this;cases this
      ·rw[f] at l;simp[Gh] at l
    | bxh cs ls =>
     rw[f] at h0;obtain⟨b,vs,T,j,m,o,D⟩:=h0;have b2:=E b (Nf o) (z t g (by rw[f];rfl) b (by rw[j];rfl));refine⟨b,vs,T,j,m,by rw[b2];exact o,(((D.mono G).world F).mono H).tmps fun p Q => ?_⟩;rw[A,Ak];rintro⟨rfl,J⟩;rcases L t (D.1 p Q) with l | l
     ·have:=FA ks s t l;rw[g,f] at this;cases this
     ·rw[f] at l;simp only[Gh,Aay] at l;exact l p Q (by simp)
    | agh cs ls =>
     rw[f] at h0;obtain⟨vs,j,m,D⟩:=h0;refine⟨vs,j,m,(((D.mono G).world F).mono H).tmps fun p Q => ?_⟩;rw[A,Ak];rintro⟨rfl,J⟩;rcases L t (D.1 p Q) with l | l
     ·have:=FA ks s t l;rw[g,f] at this;cases this
     ·rw[f] at l;simp only[Gh,Aay] at l;exact l p Q (by simp)
    | bxg cs =>
     rw[f] at h0;obtain⟨b,j,m,o⟩:=h0;exact⟨b,j,m,((o.mono G).world F (E b o.lt (z t g (by rw[f];rfl) b (by rw[j];rfl)))).mono H⟩
    | dead=>trivial
   ·rw[g];trivial
 ·intro t t' b h1 h2 q I;rw[U] at h1 h2;rw[A] at q I;have M:∀ u,(¬ (d=u/\d<C s))->Cd (Ag (AE s (ks.map fun u=>(u,Reg.dead))) u)=true->Cd (Ag s u)=true:=by
   intro u _ hu;rcases Hi ks s u with g | g
   ·rw[g] at hu;exact hu
   ·rw[g] at hu;cases hu
  have lt:∀ u,Cd (Ag s u)=true->At (a.tmps.getD u A0)=some b->b<w.heap.size:=by
   intro u hu y;have h0:=S u;cases f:Ag s u with
   | box cs =>
    rw[f] at h0;obtain⟨b',j,_,o⟩:=h0;rw[j] at y;simp only[At,CN,Al,Ab] at y;exact y ▸ o.lt
   | own k n cs =>
    rw[f] at h0;exact (Ez.block h0 y).2
   | agn bb k n cs =>
    rw[f] at h0;exact (IS.block h0 y).2
   | bxl W =>
    rw[f] at h0;obtain⟨_,b',j,_,o,_⟩:=h0;rw[j] at y;simp only[At,CN,Al,Ab] at y;exact y ▸ o
   | bxh cs ls =>
    rw[f] at h0;obtain⟨b',vs,T,j,_,o,_⟩:=h0;rw[j] at y;simp only[At,CN,Al,Ab] at y;exact y ▸ Nf o
   | agh _ _=>rw[f] at hu;cases hu
   | bxg cs =>
    rw[f] at h0;obtain⟨b',j,_,o⟩:=h0;rw[j] at y;simp only[At,CN,Al,Ab] at y;exact y ▸ o.lt
   | val x=>rw[f] at hu;cases hu
   | ptr d off=>rw[f] at hu;cases hu
   | mem cs=>rw[f] at hu;cases hu
   | dup d=>rw[f] at hu;cases hu
   | sub _ _ _ _=>rw[f] at hu;cases hu
   | dead=>rw[f] at hu;cases hu
  by_cases c1:d=t/\d<C s <;> by_cases c2:d=t'/\d<C s
  ·exact c1.1.symm.trans c2.1
  ·rw[Af c1] at h1 q;rw[Ak c2] at h2 I;have:=lt t' (M t' c2 h2) I;rcases Z h1 b q with m | m
   ·omega
   ·rcases Hi ks s t' with g | g
    ·exact absurd m (z t' g (M t' c2 h2) b I)
    ·rw[g] at h2;cases h2
  ·rw[Ak c1] at h1 q;rw[Af c2] at h2 I;have:=lt t (M t c1 h1) q;rcases Z h2 b I with m | m
   ·omega
   ·rcases Hi ks s t with g | g
    ·exact absurd m (z t g (M t c1 h1) b q)
    ·rw[g] at h1;cases h1
  ·rw[Ak c1] at h1 q;rw[Ak c2] at h2 I;exact a3 t t' b (M t c1 h1) (M t' c2 h2) q I
theorem Rel.give{Y X0:Nat->Prop}{roots:List (Nat × Nat)}{w0:Base}{w w':World}{s:V}{a:Act}(h:Rel Y X0 roots w0 s a w){O:Nat->Prop}(e:Grown ⟨w,O⟩ w')
  {d:Nat} {v:Value} {r:Reg} {ks:List Nat} (f:∀ b,O b->∃ x,x∈ks/\Cd (Ag s x)=true/\At (a.tmps.getD x A0)=some b) (g:∀ t,(t,d)∈roots->t∈ks\/BC (Ag s t)=false)
  (i:Cd r=true->∀ b,At v=some b->w.heap.size<=b\/O b)
  (hr:∀ X:Nat->Prop,(∀ b,X b->(X0 b\/XS s a.tmps b)\/(w.heap.size<=b/\At v=some b))->(∀ c,X c->O c->Cd r=true/\At v=some c)->(Cd r=false->∀ b,X b->X0 b\/XS s a.tmps b) ->
   F9 Y X w0.mine w0.own roots (a.tmps.setIfInBounds d v) w' d v r) :
  Rel Y X0 roots w0 (BD (AE s (ks.map fun u=>(u,Reg.dead))) (some d) r) (a.put (some d) v) w':=by
 exact h.give0 e f (fun t j=>(g t j).imp id SU) i hr
theorem Zp{w w':World}(h:Below w.heap.size w w'):Grown ⟨w,fun _=>False⟩ w' :=
 ⟨h.os,h.tape,h.output,h.size,fun b hb=>h.block b (Gd fun e=>hb (.inl e))⟩
theorem IB{Y X0:Nat->Prop}{roots:List (Nat × Nat)}{w0:Base}{w w':World}{s:V}{a:Act}(h:Rel Y X0 roots w0 s a w)(c:Below w.heap.size w w')
  {d:Nat} {v:Value} {r:Reg} {ks:List Nat} (e:∀ t,(t,d)∈roots->t∈ks\/Gh (Ag s t) d=false)
  (f:Cd r=true->∀ b,At v=some b->w.heap.size<=b)
  (hr:∀ X:Nat->Prop,(∀ b,X b->(X0 b\/XS s a.tmps b)\/(w.heap.size<=b/\At v=some b))->(Cd r=false->∀ b,X b->X0 b\/XS s a.tmps b) ->
   F9 Y X w0.mine w0.own roots (a.tmps.setIfInBounds d v) w' d v r) :
  Rel Y X0 roots w0 (BD (AE s (ks.map fun u=>(u,Reg.dead))) (some d) r) (a.put (some d) v) w' :=
 h.give0 (Zp c) (fun _ hb=>Ago hb) e (fun g b hb => .inl (f g b hb)) fun X h1 _ h2=>hr X h1 h2
theorem BK{Y X0:Nat->Prop}{roots:List (Nat × Nat)}{w0:Base}{w w':World}{s:V}{a:Act}(h:Rel Y X0 roots w0 s a w)(c:Below w.heap.size w w')
  {d:Nat} {v:Value} {r:Reg} {ks:List Nat} (e:∀ t,(t,d)∈roots->t∈ks\/BC (Ag s t)=false)
  (f:Cd r=true->∀ b,At v=some b->w.heap.size<=b)
  (hr:∀ X:Nat->Prop,(∀ b,X b->(X0 b\/XS s a.tmps b)\/(w.heap.size<=b/\At v=some b))->(Cd r=false->∀ b,X b->X0 b\/XS s a.tmps b) ->
   F9 Y X w0.mine w0.own roots (a.tmps.setIfInBounds d v) w' d v r) :
  Rel Y X0 roots w0 (BD (AE s (ks.map fun u=>(u,Reg.dead))) (some d) r) (a.put (some d) v) w' :=
 h.give (Zp c) (fun _ hb=>Ago hb) e (fun g b hb => .inl (f g b hb)) fun X h1 _ h2=>hr X h1 h2
theorem wZ{s:V}{tm:Array Value}{d:Nat}{r r':Reg}(h:Ag s d=r)(c:Cd r=Cd r')(b:Nat):XS (s.set d r') tm b↔XS s tm b:=by
 have a:∀ t,Cd (Ag (s.set d r') t)=Cd (Ag s t):=by
  intro t;rw[Ci];split
  next hc=>obtain⟨rfl,_⟩:=hc;rw[h,c]
  ·rfl
 constructor
 ·rintro⟨t,h1,h2⟩;exact⟨t,by rw[<- a];exact h1,h2⟩
 ·rintro⟨t,h1,h2⟩;exact⟨t,by rw[a];exact h1,h2⟩
theorem Rel.store{Y X0:Nat->Prop}{roots:List (Nat × Nat)}{w0:Base}{w w':World}{s:V}{a:Act}(h:Rel Y X0 roots w0 s a w){d:Nat}{r r':Reg}{b:Nat}
  (hd:Ag s d=r) (u:Cd r=true) (L:Cd r'=true) (D:At (a.tmps.getD d A0)=some b) (M:w0.mine b) (N:w'.os=w.os) (O:w'.tape=w.tape) (P:w'.output=w.output)
  (E:w'.heap.size=w.heap.size) (m:∀ c,c ≠ b->w'.heap[c]? = w.heap[c]?)
  (Q:∀ X:Nat->Prop,(∀ c,X c↔(X0 c\/XS s a.tmps c))->F9 Y X w0.mine w0.own roots a.tmps w' d (a.tmps.getD d A0) r') :
  Rel Y X0 roots w0 (s.set d r') a w':=by
 obtain⟨R,hs,hb,hl,S,U,F⟩:=h;have G:XS s a.tmps b:=⟨d,by rw[hd];exact u,D⟩;have y:∀ c,(X0 c\/XS (s.set d r') a.tmps c)↔(X0 c\/XS s a.tmps c):=fun c=>by rw[wZ (r':=r') hd (by rw[u,L])]
 have p:∀ c,(X0 c\/XS (s.set d r') a.tmps c)->(X0 c\/XS s a.tmps c)\/w.heap.size<=c:=fun c hc => .inl ((y c).1 hc);have q:∀ c,¬ (X0 c\/XS (s.set d r') a.tmps c)->c<w.heap.size->w'.heap[c]? = w.heap[c]? := by
  intro c hc _;refine m c ?_;rintro rfl;exact hc ((y _).2 (.inr G))
 have H:∀ t,Cd (Ag (s.set d r') t)=true->Cd (Ag s t)=true:=by
  intro t z;rw[Ci] at z;split at z
  next hc=>rw[<- hc.1,hd];exact u
  ·exact z
 refine⟨R,by rw[Az];exact hs,?_,hl,S,?_,?_⟩
 ·exact⟨N.trans hb.os,O.trans hb.tape,P.trans hb.output,by rw[E];exact hb.size,fun k I=>(m k (fun e=>I (e ▸ M))).trans (hb.block k I)⟩
 ·intro t;rw[Ci];split
  next hc=>obtain⟨rfl,_⟩:=hc;exact Q _ y
  ·rename_i hc;have h0:=U t;have f:Cd (Ag s t)=true->At (a.tmps.getD t A0) ≠ some b:=by
    intro h1 h2;have:=F d t b (by rw[hd];exact u) h1 D h2;subst this;refine hc ⟨rfl,?_⟩;rcases C6 d (C s) with W | a1
    ·exact W
    ·simp only[Ag,Z,AS a1] at hd;subst hd;cases u
   cases l:Ag s t with
   | val x=>rw[l] at h0;exact (Rd.mono h0 p).world q
   | box cs =>
    rw[l] at h0 f;obtain⟨b',g,j,o⟩:=h0;refine⟨b',g,j,(o.mono p).world q (m b' ?_)⟩;rintro rfl;exact f rfl (by rw[g];rfl)
   | own k n cs =>
    rw[l] at h0 f;refine (Ez.mono h0 p).world q (fun b' A _=>m b' ?_);rintro rfl;exact f rfl A
   | agn bb k n cs =>
    rw[l] at h0 f;refine (IS.mono h0 p).world q (fun b' A _=>m b' ?_);rintro rfl;exact f rfl A
   | bxl J =>
    rw[l] at h0 f;obtain⟨g,b',j,o,v,e5⟩:=h0;refine⟨g,b',j,o,by rw[E];exact v,fun i hi => ?_⟩;rw[<- e5 i hi];refine Ec (m b' ?_);rintro rfl;exact f rfl (by rw[j];rfl)
   | mem cs =>
    rw[l] at h0;obtain⟨b',off,g,j,o⟩:=h0;refine⟨b',off,g,fun f B=>j f ((y _).1 B),?_⟩;by_cases K:cs=[]
    ·subst K;exact⟨fun x B=>(by cases B),fun i hi=>(by simp at hi)⟩
    ·refine (o.mono p).world q (fun _=>m b' ?_);rintro rfl;exact j K (.inr G)
   | ptr J off=>rw[l] at h0;exact h0
   | dup J=>rw[l] at h0;exact h0
   | sub _ _ _ _=>rw[l] at h0;exact h0
   | bxh cs ls =>
    rw[l] at h0 f;obtain⟨b',vs,T,g,j,o,v⟩:=h0;refine⟨b',vs,T,g,j,?_,(v.mono p).world q⟩;rw[m b' (fun e=>f rfl (by rw[g,<- e];rfl))];exact o
   | agh cs ls =>
    rw[l] at h0;obtain⟨vs,g,j,v⟩:=h0;exact⟨vs,g,j,(v.mono p).world q⟩
   | bxg cs =>
    rw[l] at h0 f;obtain⟨b',g,j,o⟩:=h0;refine⟨b',g,j,(o.mono p).world q (m b' ?_)⟩;rintro rfl;exact f rfl (by rw[g];rfl)
   | dead=>trivial
 ·intro t t' c h1 h2 h3 h4;exact F t t' c (H t h1) (H t' h2) h3 h4
theorem Rel.turn{Y X0:Nat->Prop}{roots:List (Nat × Nat)}{w0:Base}{w w':World}{s:V}{a:Act}(h:Rel Y X0 roots w0 s a w){d:Nat}{r r':Reg}{b:Nat}
  (hd:Ag s d=r) (z:Cd r=true) (M:Cd r'=true) (G:At (a.tmps.getD d A0)=some b) (N:w0.mine b) (v:Grown ⟨w,fun c=>c=b⟩ w')
  (O:∀ X:Nat->Prop,(∀ c,X c↔(X0 c\/XS s a.tmps c))->F9 Y X w0.mine w0.own roots a.tmps w' d (a.tmps.getD d A0) r') :
  Rel Y X0 roots w0 (s.set d r') a w':=by
 obtain⟨P,hs,hb,hl,Q,R,H⟩:=h;have I:XS s a.tmps b:=⟨d,by rw[hd];exact z,G⟩;have A:∀ c,(X0 c\/XS (s.set d r') a.tmps c)↔(X0 c\/XS s a.tmps c):=fun c=>by rw[wZ (r':=r') hd (by rw[z,M])]
 have q:∀ c,(X0 c\/XS (s.set d r') a.tmps c)->(X0 c\/XS s a.tmps c)\/w.heap.size<=c:=fun c hc => .inl ((A c).1 hc);have o:∀ c,c<w.heap.size->c ≠ b->w'.heap[c]? = w.heap[c]? := fun c hc f=>v.block c (fun e=>e.elim (fun e=>MN _ (Ba hc e)) f);have u:∀ c,¬ (X0 c\/XS (s.set d r') a.tmps c)->c<w.heap.size->w'.heap[c]? = w.heap[c]? := by
  intro c hc p;refine o c p ?_;rintro rfl;exact hc ((A _).2 (.inr I))
 have J:∀ t,Cd (Ag (s.set d r') t)=true->Cd (Ag s t)=true:=by
  intro t B;rw[Ci] at B;split at B
  next hc=>rw[<- hc.1,hd];exact z
  ·exact B
 refine⟨P,by rw[Az];exact hs,?_,hl,Q,?_,?_⟩
 ·exact⟨v.os.trans hb.os,v.tape.trans hb.tape,v.output.trans hb.output,AR hb.size v.size,fun k D=>(o k (Ba (Gd fun e=>D (.inl e)) hb.size) (fun e=>D (e ▸ N))).trans (hb.block k D)⟩
 ·intro t;rw[Ci];split
  next hc=>obtain⟨rfl,_⟩:=hc;exact O _ A
  ·rename_i hc;have h0:=R t;have f:Cd (Ag s t)=true->At (a.tmps.getD t A0) ≠ some b:=by
    intro h1 h2;have:=H d t b (by rw[hd];exact z) h1 G h2;subst this;refine hc ⟨rfl,?_⟩;rcases C6 d (C s) with p | S
    ·exact p
    ·simp only[Ag,Z,AS S] at hd;subst hd;cases z
   cases l:Ag s t with
   | val x=>rw[l] at h0;exact (Rd.mono h0 q).world u
   | box cs =>
    rw[l] at h0 f;obtain⟨b',g,j,m⟩:=h0;refine⟨b',g,j,(m.mono q).world u (o b' m.lt ?_)⟩;rintro rfl;exact f rfl (by rw[g];rfl)
   | own k n cs =>
    rw[l] at h0 f;refine (Ez.mono h0 q).world u (fun b' E p=>o b' p ?_);rintro rfl;exact f rfl E
   | agn bb k n cs =>
    rw[l] at h0 f;refine (IS.mono h0 q).world u (fun b' E p=>o b' p ?_);rintro rfl;exact f rfl E
   | bxl K =>
    rw[l] at h0 f;obtain⟨g,b',j,m,y,U⟩:=h0;refine⟨g,b',j,m,Ba y v.size,fun i hi => ?_⟩;rw[<- U i hi];refine Ec (o b' y ?_);rintro rfl;exact f rfl (by rw[j];rfl)
   | mem cs =>
    rw[l] at h0;obtain⟨b',off,g,j,m⟩:=h0;refine⟨b',off,g,fun f F=>j f ((A _).1 F),?_⟩;by_cases L:cs=[]
    ·subst L;exact⟨fun x F=>(by cases F),fun i hi=>(by simp at hi)⟩
    ·refine (m.mono q).world u (fun p=>o b' p ?_);rintro rfl;exact j L (.inr I)
   | ptr K off=>rw[l] at h0;exact h0
   | dup K=>rw[l] at h0;exact h0
   | sub _ _ _ _=>rw[l] at h0;exact h0
   | bxh cs ls =>
    rw[l] at h0 f;obtain⟨b',vs,T,g,j,m,y⟩:=h0;refine⟨b',vs,T,g,j,?_,(y.mono q).world u⟩;rw[o b' (Nf m) (fun e=>f rfl (by rw[g,<- e];rfl))];exact m
   | agh cs ls =>
    rw[l] at h0;obtain⟨vs,g,j,y⟩:=h0;exact⟨vs,g,j,(y.mono q).world u⟩
   | bxg cs =>
    rw[l] at h0 f;obtain⟨b',g,j,m⟩:=h0;refine⟨b',g,j,(m.mono q).world u (o b' m.lt ?_)⟩;rintro rfl;exact f rfl (by rw[g];rfl)
   | dead=>trivial
 ·intro t t' c h1 h2 W h4;exact H t t' c (J t h1) (J t' h2) W h4
theorem Rel.kill{Y X0:Nat->Prop}{roots:List (Nat × Nat)}{w0:Base}{w:World}{s:V}{a:Act}(h:Rel Y X0 roots w0 s a w)(ks:List Nat):Rel Y X0 roots w0 (Go.Ai.kill s ks) a w:=by
 obtain⟨o,hs,hb,hl,p,q,r⟩:=h;have m:∀ b,XS (Go.Ai.kill s ks) a.tmps b->XS s a.tmps b:=by
  rintro b ⟨t,h1,h2⟩;rw[Dx] at h1;split at h1
  ·cases h1
  ·exact⟨t,h1,h2⟩
 have i:∀ c,(X0 c\/XS (Go.Ai.kill s ks) a.tmps c)->(X0 c\/XS s a.tmps c)\/w.heap.size<=c:=fun c hc => .inl (hc.imp id (m c));refine⟨o,by rw[Go.Ai.kill,GW];exact hs,hb,hl,p,fun t => ?_,fun t t' b h1 h2 u v => ?_⟩
 ·rw[Dx];split
  ·trivial
  ·have h0:=q t;cases e:Ag s t with
   | val x=>rw[e] at h0;exact Rd.mono h0 i
   | box cs=>rw[e] at h0;obtain⟨b,f,g,j⟩:=h0;exact⟨b,f,g,j.mono i⟩
   | own k n cs=>rw[e] at h0;exact Ez.mono h0 i
   | agn A k n cs=>rw[e] at h0;exact IS.mono h0 i
   | bxl B=>rw[e] at h0;exact h0
   | mem cs=>rw[e] at h0;obtain⟨b,off,f,g,j⟩:=h0;exact⟨b,off,f,fun y z=>g y (z.imp id (m b)),j.mono i⟩
   | ptr d off=>rw[e] at h0;exact h0
   | dup d=>rw[e] at h0;exact h0
   | sub _ _ _ _=>rw[e] at h0;exact h0
   | bxh cs ls=>rw[e] at h0;obtain⟨b,vs,T,f,g,j,l⟩:=h0;exact⟨b,vs,T,f,g,j,l.mono i⟩
   | agh cs ls=>rw[e] at h0;obtain⟨vs,f,g,l⟩:=h0;exact⟨vs,f,g,l.mono i⟩
   | bxg cs=>rw[e] at h0;obtain⟨b,f,g,j⟩:=h0;exact⟨b,f,g,j.mono i⟩
   | dead=>trivial
 ·rw[Dx] at h1 h2;split at h1
  ·cases h1
  ·split at h2
   ·cases h2
   ·exact r t t' b h1 h2 u v
theorem Rel.ownLow{Y X0:Nat->Prop}{roots:List (Nat × Nat)}{w0:Base}{w:World}{s:V}{a:Act}(h:Rel Y X0 roots w0 s a w){x k n:Nat}{cs:List AV}(c:Ag s x = .own k n cs) :
  (a.tmps.getD x A0 = .slice none 0 0/\n=0/\cs=[]) \/
  ∃ b cap,a.tmps.getD x A0 = .slice (some ⟨b,0,none⟩) n cap/\n<=cap/\C cs=n*k/\w0.mine b/\D0 Y (fun b=>X0 b\/XS s a.tmps b) w b 0 cs/\SZ w b (cap*k)/\XS s a.tmps b:=by
 have h0:=h.reg x;rw[c] at h0;rcases h0 with h0 | ⟨b,cap,d,e,f,g,i,j⟩
 ·exact .inl h0
 ·exact .inr ⟨b,cap,d,e,f,g,i,j,x,by rw[c];rfl,by rw[d];rfl⟩
theorem Rel.exclLow{Y X0:Nat->Prop}{roots:List (Nat × Nat)}{w0:Base}{w:World}{s:V}{a:Act}(h:Rel Y X0 roots w0 s a w){x b:Nat}(c:Cd (Ag s x)=true)(hb:At (a.tmps.getD x A0)=some b):w0.mine b/\b<w.heap.size:=by
 have h0:=h.reg x;cases e:Ag s x with
 | box cs =>
  rw[e] at h0;obtain⟨b',f,g,i⟩:=h0;rw[f] at hb;simp only[At,CN,Al,Ab] at hb;exact hb ▸ ⟨g,i.lt⟩
 | own k n cs=>rw[e] at h0;exact Ez.block h0 hb
 | agn j k n cs=>rw[e] at h0;exact IS.block h0 hb
 | bxl l =>
  rw[e] at h0;obtain⟨_,b',f,g,i,_⟩:=h0;rw[f] at hb;simp only[At,CN,Al,Ab] at hb;exact hb ▸ ⟨g,i⟩
 | bxh cs ls =>
  rw[e] at h0;obtain⟨b',vs,T,f,g,i,_⟩:=h0;rw[f] at hb;simp only[At,CN,Al,Ab] at hb;exact hb ▸ ⟨g,Nf i⟩
 | agh _ _=>rw[e] at c;cases c
 | bxg cs =>
  rw[e] at h0;obtain⟨b',f,g,i⟩:=h0;rw[f] at hb;simp only[At,CN,Al,Ab] at hb;exact hb ▸ ⟨g.1,i.lt⟩
 | val x=>rw[e] at c;cases c
 | ptr d off=>rw[e] at c;cases c
 | mem cs=>rw[e] at c;cases c
 | dup d=>rw[e] at c;cases c
 | sub _ _ _ _=>rw[e] at c;cases c
 | dead=>rw[e] at c;cases c
theorem Rel.shift'{Y X0:Nat->Prop}{roots:List (Nat × Nat)}{w0:Base}{w w':World}{s:V}{a:Act}(h:Rel Y X0 roots w0 s a w){x d:Nat}{r:Reg}{v:Value}{b':Nat}
  (F:Cd (Ag s x)=true) (hb:At (a.tmps.getD x A0)=some b') (G:∀ t,(t,d)∈roots->BC (Ag s t)=false)
  (Z:w'.os=w.os) (a1:w'.tape=w.tape) (a2:w'.output=w.output) (R:w'.heap.size=w.heap.size) (q:∀ c,c ≠ b'->w'.heap[c]? = w.heap[c]?) (L:Cd r=true->At v=some b')
  (a3:∀ X:Nat->Prop,(∀ c,X c->(X0 c\/XS s a.tmps c))->(Cd r=false->¬ X b')->F9 Y X w0.mine w0.own roots (a.tmps.setIfInBounds d v) w' d v r) :
  Rel Y X0 roots w0 (BD (AE s [(x,Reg.dead)]) (some d) r) (a.put (some d) v) w':=by
 have S:=(h.exclLow F hb).1;have M:XS s a.tmps b':=⟨x,F,hb⟩;obtain⟨a4,hs,H,hl,a5,a6,U⟩:=h;have J:∀ t,Cd (Ag s t)=true->At (a.tmps.getD t A0)=some b'->t=x:=fun t h1 h2=>U t x b' h1 F h2 hb;have K:∀ t,Ag (BD (AE s [(x,Reg.dead)]) (some d) r) t=(if d=t/\d<C s then r else if x=t then .dead else Ag s t):=by
  intro t;simp only[BD,AE];rw[Ci,Az,SY]
 have o:∀ t,(a.put (some d) v).tmps.getD t A0=if d=t/\d<C s then v else a.tmps.getD t A0:=by
  intro t;simp only[aM];rw[Ii,hs]
 have a7:∀ c,XS (BD (AE s [(x,Reg.dead)]) (some d) r) (a.put (some d) v).tmps c->XS s a.tmps c:=by
  rintro c ⟨t,h1,h2⟩;rw[K] at h1;rw[o] at h2;by_cases hc:d=t/\d<C s
  ·rw[Af hc] at h1 h2;rw[L h1] at h2;cases h2;exact M
  ·rw[Ak hc] at h1 h2;split at h1
   ·cases h1
   ·exact⟨t,h1,h2⟩
 have a8:Cd r=false->¬ (X0 b'\/XS (BD (AE s [(x,Reg.dead)]) (some d) r) (a.put (some d) v).tmps b'):=by
  rintro N (a9 | ⟨t,h1,h2⟩)
  ·exact hl b' a9 S
  ·rw[K] at h1;rw[o] at h2;by_cases hc:d=t/\d<C s
   ·rw[Af hc,N] at h1;cases h1
   ·rw[Ak hc] at h1 h2;split at h1
    ·cases h1
    next u=>exact u (J t h1 h2).symm
 generalize O:(fun c=>X0 c\/XS (BD (AE s [(x,Reg.dead)]) (some d) r) (a.put (some d) v).tmps c)=X;have P:∀ c,X c->(X0 c\/XS s a.tmps c):=by
  intro c hc;rw[<- O] at hc;exact hc.imp id (a7 c)
 have A:∀ c,X c->(X0 c\/XS s a.tmps c)\/w'.heap.size<=c:=fun c hc => .inl (P c hc);have B:∀ c,¬ (X0 c\/XS s a.tmps c)->c<w.heap.size->w'.heap[c]? = w.heap[c]? := by
  intro c hc _;refine q c ?_;rintro rfl;exact hc (.inr M)
 refine⟨a4,by simp only[aM,O9,BD,Az,GW];exact hs,?_,hl,a5,?_,?_⟩
 ·exact⟨Z.trans H.os,a1.trans H.tape,a2.trans H.output,by rw[R];exact H.size,fun c hc=>(q c (fun e=>hc (e ▸ S))).trans (H.block c hc)⟩
 ·intro t;rw[O,K,o];by_cases hc:d=t/\d<C s
  ·rw[Af hc,Af hc];obtain⟨rfl,_⟩:=hc;exact a3 X P (fun N=>by rw[<- O];exact a8 N)
  ·rw[Ak hc,Ak hc];by_cases u:x=t
   ·rw[Af u];trivial
   ·rw[Ak u];have h0:=a6 t;have l:Cd (Ag s t)=true->∀ c,At (a.tmps.getD t A0)=some c->c ≠ b':=by
     intro h1 c h2 e;subst e;exact u (J t h1 h2).symm
    cases j:Ag s t with
    | val y=>rw[j] at h0;exact (Rd.world h0 B).mono A
    | box cs =>
     rw[j] at h0 l;obtain⟨c,f,g,m⟩:=h0;exact⟨c,f,g,(m.world B (q c (l rfl c (by rw[f];rfl)))).mono A⟩
    | own k n cs =>
     rw[j] at h0 l;exact (Ez.world h0 B (fun c hc _=>q c (l rfl c hc))).mono A
    | agn bb k n cs =>
     rw[j] at h0 l;exact (IS.world h0 B (fun c hc _=>q c (l rfl c hc))).mono A
    | bxl Q =>
     rw[j] at h0 l;obtain⟨f,b,g,m,z,e5⟩:=h0;refine⟨f,b,g,m,by rw[R];exact z,fun i hi => ?_⟩;rw[o,Ak]
     ·rw[<- e5 i hi];exact Ec (q b (l rfl b (by rw[g];rfl)))
     ·rintro⟨rfl,_⟩;have:=G t f;rw[j] at this;cases this
    | mem cs =>
     rw[j] at h0;obtain⟨c,off,f,g,m⟩:=h0;refine⟨c,off,f,fun hn F=>g hn (P c F),?_⟩;by_cases W:cs=[]
     ·subst W;exact⟨fun x F=>(by cases F),fun i hi=>(by simp at hi)⟩
     ·refine (m.world B (fun _=>q c ?_)).mono A;rintro rfl;exact g W (.inr M)
    | ptr Q off =>
     rw[j] at h0;obtain⟨f,p,g,m,z⟩:=h0;refine⟨f,p,?_,m,z⟩;rw[o,Ak]
     ·exact g
     ·rintro⟨rfl,_⟩;have:=G t f;rw[j] at this;cases this
    | dup Q =>
     rw[j] at h0;obtain⟨f,g⟩:=h0;refine⟨f,?_⟩;rw[o,Ak]
     ·exact g
     ·rintro⟨rfl,_⟩;have:=G t f;rw[j] at this;cases this
    | sub Q _ _ _ =>
     rw[j] at h0;obtain⟨f,g⟩:=h0;refine⟨f,?_⟩;rw[o,Ak]
     ·exact g
     ·rintro⟨rfl,_⟩;have:=G t f;rw[j] at this;cases this
    | bxh cs ls =>
     rw[j] at h0 l;obtain⟨b,vs,T,f,g,m,z⟩:=h0;refine⟨b,vs,T,f,g,by rw[q b (l rfl b (by rw[f];rfl))];exact m,((z.world B).mono A).tmps fun p I => ?_⟩;rw[o,Ak];rintro⟨rfl,_⟩;have:=G t (z.1 p I);rw[j] at this;cases ls with
     | nil=>cases I
     | cons _ _=>cases this
    | agh cs ls =>
     rw[j] at h0;obtain⟨vs,f,g,z⟩:=h0;refine⟨vs,f,g,((z.world B).mono A).tmps fun p I => ?_⟩;rw[o,Ak];rintro⟨rfl,_⟩;have:=G t (z.1 p I);rw[j] at this;cases ls with
     | nil=>cases I
     | cons _ _=>cases this
    | bxg cs =>
     rw[j] at h0 l;obtain⟨c,f,g,m⟩:=h0;exact⟨c,f,g,(m.world B (q c (l rfl c (by rw[f];rfl)))).mono A⟩
    | dead=>trivial
 ·intro t t' c h1 h2 D E;rw[K] at h1 h2;rw[o] at D E;by_cases c1:d=t/\d<C s <;> by_cases c2:d=t'/\d<C s
  ·exact c1.1.symm.trans c2.1
  ·rw[Af c1] at h1 D;rw[Ak c2] at h2 E;split at h2
   ·cases h2
   next u=>rw[L h1] at D;cases D;exact absurd (J t' h2 E).symm u
  ·rw[Ak c1] at h1 D;rw[Af c2] at h2 E;split at h1
   ·cases h1
   next u=>rw[L h2] at E;cases E;exact absurd (J t h1 D).symm u
  ·rw[Ak c1] at h1 D;rw[Ak c2] at h2 E;split at h1
   ·cases h1
   ·split at h2
    ·cases h2
    ·exact U t t' c h1 h2 D E
theorem Rel.shift{Y X0:Nat->Prop}{roots:List (Nat × Nat)}{w0:Base}{w w':World}{s:V}{a:Act}(h:Rel Y X0 roots w0 s a w){x d k n:Nat}{cs:List AV}{r:Reg}{v:Value}{b:Nat}
  (e:Ag s x = .own k n cs) (hb:At (a.tmps.getD x A0)=some b) (f:∀ t,(t,d)∈roots->BC (Ag s t)=false)
  (g:w'.os=w.os) (i:w'.tape=w.tape) (j:w'.output=w.output) (l:w'.heap.size=w.heap.size) (m:∀ c,c ≠ b->w'.heap[c]? = w.heap[c]?) (o:Cd r=true->At v=some b)
  (p:∀ X:Nat->Prop,(∀ c,X c->(X0 c\/XS s a.tmps c))->(Cd r=false->¬ X b)->F9 Y X w0.mine w0.own roots (a.tmps.setIfInBounds d v) w' d v r) :
  Rel Y X0 roots w0 (BD (AE s [(x,Reg.dead)]) (some d) r) (a.put (some d) v) w' :=
 h.shift' (by rw[e];rfl) hb f g i j l m o p
theorem Rel.pass{Y X0:Nat->Prop}{roots:List (Nat × Nat)}{w0:Base}{w:World}{s:V}{a:Act}(h:Rel Y X0 roots w0 s a w){x d:Nat}{r:Reg}{v:Value}(i:Cd (Ag s x)=true)(e:At v=At (a.tmps.getD x A0))
  (f:∀ t,(t,d)∈roots->BC (Ag s t)=false) (g:∀ X:Nat->Prop,(∀ c,X c->(X0 c\/XS s a.tmps c))->F9 Y X w0.mine w0.own roots (a.tmps.setIfInBounds d v) w d v r) :
  Rel Y X0 roots w0 (BD (AE s [(x,Reg.dead)]) (some d) r) (a.put (some d) v) w:=by
 cases hb:At (a.tmps.getD x A0) with
 | none =>
  rw[hb] at e;refine BK (ks:=[x]) h (F2 _ _) (fun t j => .inr (f t j)) (fun _ b hb=>by rw[e] at hb;cases hb) (fun X h1 _=>g X fun c hc => ?_);rcases h1 c hc with h2 | ⟨_,h2⟩
  ·exact h2
  ·rw[e] at h2;cases h2
 | some b=>exact h.shift' i hb f rfl rfl rfl rfl (fun _ _=>rfl) (fun _=>by rw[e,hb]) (fun X h1 _=>g X h1)
theorem Rel.wake{Y X0:Nat->Prop}{roots:List (Nat × Nat)}{w0:Base}{w:World}{s:V}{a:Act}(h:Rel Y X0 roots w0 s a w){x:Nat}{y:AV}(d:Ag s x = .dead)
  (hr:Rd Y (fun b=>X0 b\/XS s a.tmps b) w (a.tmps.getD x A0) y):Rel Y X0 roots w0 (s.set x (.val y)) a w:=by
 obtain⟨e,hs,f,hl,i,j,k⟩:=h;have c:∀ t,Cd (Ag (s.set x (.val y)) t)=Cd (Ag s t):=by
  intro t;rw[Ci];split
  next g=>rw[<- g.1,d];rfl
  ·rfl
 have l:XS (s.set x (.val y)) a.tmps=XS s a.tmps:=by
  funext b;unfold XS;simp only[c]
 refine⟨e,by rw[Az];exact hs,f,hl,i,fun t => ?_,fun t t' b h1 h2 m n=>k t t' b (by rw[<- c];exact h1) (by rw[<- c];exact h2) m n⟩;rw[l,Ci];split
 next g=>rw[<- g.1];exact hr
 ·exact j t
theorem Rel.unown{Y X0:Nat->Prop}{roots:List (Nat × Nat)}{w0:Base}{w:World}{s:V}{a:Act}(h:Rel Y X0 roots w0 s a w){x:Nat}{r:Reg}(o:Cd (Ag s x)=true)(p:Cd r=false)
  (A:∀ X:Nat->Prop,(∀ c,X c->(X0 c\/XS s a.tmps c)\/w.heap.size<=c)->(∀ b,At (a.tmps.getD x A0)=some b->¬ X b)->F9 Y X w0.mine w0.own roots a.tmps w x (a.tmps.getD x A0) r):Rel Y X0 roots w0 (s.set x r) a w:=by
 have B:=fun b hb=>(h.exclLow (b:=b) o hb).1;obtain⟨D,hs,E,hl,F,G,y⟩:=h;have u:x<C s:=by
  rcases C6 x (C s) with u | H
  ·exact u
  ·simp only[Ag,Z,AS H] at o;cases o
 have q:∀ t,Ag (s.set x r) t=if x=t then r else Ag s t:=by
  intro t;rw[Ci];by_cases g:x=t
  ·rw[Af ⟨g,u⟩,Af g]
  ·rw[Ak (fun e=>g e.1),Ak g]
 have z:∀ c,XS (s.set x r) a.tmps c->XS s a.tmps c:=by
  rintro c ⟨t,h1,h2⟩;rw[q] at h1;split at h1
  ·rw[p] at h1;cases h1
  ·exact⟨t,h1,h2⟩
 have I:∀ b,At (a.tmps.getD x A0)=some b->¬ (X0 b\/XS (s.set x r) a.tmps b):=by
  rintro b hb (J | ⟨t,h1,h2⟩)
  ·exact hl b J (B b hb)
  ·rw[q] at h1;split at h1
   ·rw[p] at h1;cases h1
   next g=>exact g (y t x b h1 o h2 hb).symm
 have i:∀ c,(X0 c\/XS (s.set x r) a.tmps c)->(X0 c\/XS s a.tmps c)\/w.heap.size<=c:=fun c hc => .inl (hc.imp id (z c));refine⟨D,by rw[Az];exact hs,E,hl,F,fun t => ?_,fun t t' b h1 h2 K L => ?_⟩
 ·rw[q];by_cases g:x=t
  ·subst g;rw[Af rfl];exact A _ i I
  ·rw[Ak g];have h0:=G t;cases f:Ag s t with
   | val x=>rw[f] at h0;exact Rd.mono h0 i
   | box cs=>rw[f] at h0;obtain⟨b,j,l,m⟩:=h0;exact⟨b,j,l,m.mono i⟩
   | own k n cs=>rw[f] at h0;exact Ez.mono h0 i
   | agn N k n cs=>rw[f] at h0;exact IS.mono h0 i
   | bxl O=>rw[f] at h0;exact h0
   | mem cs=>rw[f] at h0;obtain⟨b,off,j,l,m⟩:=h0;exact⟨b,off,j,fun M o=>l M (o.imp id (z b)),m.mono i⟩
   | ptr d off=>rw[f] at h0;exact h0
   | dup d=>rw[f] at h0;exact h0
   | sub _ _ _ _=>rw[f] at h0;exact h0
   | bxh cs ls=>rw[f] at h0;obtain⟨b,vs,T,j,l,m,v⟩:=h0;exact⟨b,vs,T,j,l,m,v.mono i⟩
   | agh cs ls=>rw[f] at h0;obtain⟨vs,j,l,v⟩:=h0;exact⟨vs,j,l,v.mono i⟩
   | bxg cs=>rw[f] at h0;obtain⟨b,j,l,m⟩:=h0;exact⟨b,j,l,m.mono i⟩
   | dead=>trivial
 ·rw[q] at h1 h2;split at h1
  ·rw[p] at h1;cases h1
  ·split at h2
   ·rw[p] at h2;cases h2
   ·exact y t t' b h1 h2 K L
theorem Rel.freeze{Y X0:Nat->Prop}{roots:List (Nat × Nat)}{w0:Base}{w:World}{s:V}{a:Act}(h:Rel Y X0 roots w0 s a w){x k n:Nat}{cs:List AV}(b:Ag s x = .own k n cs):Rel Y X0 roots w0 (s.set x (.val (.sl n cs))) a w:=by
 refine h.unown (by rw[b];rfl) rfl fun X h1 h2 => ?_;have h0:=h.reg x;rw[b] at h0;exact Ez.frozen h0 h1 h2 h.lowY
section
variable{Y X:Nat->Prop}{w:World}
theorem F8.pt{b off:Nat}{cs:List AV}(hX:cs ≠ []->¬ X b)(h:F8 Y X w b off cs):Rd Y X w (.pointer (some ⟨b,off,none⟩)) (.pt cs):=by
 obtain⟨hd,a⟩:=h;refine .pt b off cs (fun i=>(w.cell? ⟨b,off+i,none⟩).getD A0) hd hX (fun i hi => ?_) (fun i hi => ?_)
 ·obtain⟨u,h1,_⟩:=a i hi;rw[h1];rfl
 ·obtain⟨u,h1,h2⟩:=a i hi;rw[h1];exact h2
theorem Agv{v:Value}{cs:List AV}(h:Rd Y X w v (.pt cs)):∃ b off,v = .pointer (some ⟨b,off,none⟩)/\(cs ≠ []->¬ X b)/\F8 Y X w b off cs:=by
 cases h with
 | pt b off _ f hd hX hcell hr=>exact⟨b,off,rfl,hX,hd,fun i hi=>⟨f i,hcell i hi,hr i hi⟩⟩
end
end Go.Ai
