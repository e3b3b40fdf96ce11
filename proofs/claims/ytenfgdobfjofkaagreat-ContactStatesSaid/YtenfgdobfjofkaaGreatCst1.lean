/- Texts of the proof of ContactStates: part 1 of 18. -/
import Derived.Orders
import Derived.Below
namespace Go.Ai
open BitVec renaming ofInt->AT
open Bool renaming and_eq_true->U,not_eq_true'->Bl,or_eq_true->CD
open Decidable renaming decide->G
open List renaming all_cons->F7,all_eq_true->AKf,append_assoc->Ci,append_nil->Df,cons_append->HZ,contains_eq_mem->CX,flatMap_cons->OI,getD_eq_getElem?_getD->Z,getElem?_eq_none->AX,getElem?_set->AJj,getElem?_set_ne->DX,length->C,length_set->AU,map_cons->Bg,map_nil->C1,mem_append->AK,mem_append_left->B9,mem_append_right->BT,mem_cons->Aw,mem_cons_of_mem->AJ,mem_cons_self->AKh,mem_filter->Gj,mem_map->Cb,nil_append->Dg,not_mem_nil->A3,range->AZ,replicate->BP
open Nat renaming beq->AKi,lt_or_ge->CH
open Ne renaming symm->CW
open Option renaming map_eq_some_iff->S,map_some->Am,toList_some->ACa
open Option.some renaming injEq->Ac
open Prod.mk renaming injEq->Cc
inductive Tag where
 | st (b:Bool)
 | tp (b:Bool)
inductive AV where
 | int (k:IntKind) (n:Int)
 | bool (b:Bool)
 | str (s:ByteArray)
 | agg (cs:List AV)
 | nil
 | sl (n:Nat) (cs:List AV)
 | tup (vs:List AV)
 | undef
 | fresh (k n:Nat) (cs:List AV)
 | frs (b:Tag) (k n:Nat) (cs:List AV)
 | pt (cs:List AV)
 | fnc (f:Nat) (cs:List AV)
 | gb (cs:List AV)
 | io (cs:List AV) (y:AV)
 | frh (cs:List AV)
def AV.cells:AV->List AV
 | .agg cs=>cs
 | x=>[x]
inductive Reg where
 | val (x:AV)
 | box (cs:List AV)
 | ptr (d off:Nat)
 | mem (cs:List AV)
 | own (k n:Nat) (cs:List AV)
 | agn (b:Tag) (k n:Nat) (cs:List AV)
 | bxl (d:Nat)
 | dup (d:Nat)
 | sub (d k l h:Nat)
 | bxh (cs:List AV) (ls:List (Nat × Nat))
 | agh (cs:List AV) (ls:List (Nat × Nat))
 | bxg (cs:List AV)
 | mp (ks:List AV)
 | agf (cs:List AV) (us:List (Nat × AV))
 | bxf (cs:List AV) (us:List (Nat × AV))
 | dead
def BF:Reg->Bool
 | .ptr _ _=>true
 | .dup _=>true
 | .sub _ _ _ _=>true
 | .bxl _=>true
 | .bxh _ ls => !ls.isEmpty
 | .agh _ ls => !ls.isEmpty
 | .agf _ us => !us.isEmpty
 | .bxf _ us => !us.isEmpty
 | _=>false
def FC(r:Reg)(x:Nat):Bool :=
 match r with
 | .ptr d _=>d==x
 | .dup d=>d==x
 | .sub d _ _ _=>d==x
 | .bxl d=>d==x
 | .bxh _ ls=>ls.any fun p=>p.2==x
 | .agh _ ls=>ls.any fun p=>p.2==x
 | .agf _ us=>us.any fun p=>p.1==x
 | .bxf _ us=>us.any fun p=>p.1==x
 | _=>false
theorem J6{p:Prop}{_:Decidable p}:decide p=false↔¬p:=decide_eq_false_iff_not
theorem DI{p:Prop}[Decidable p]:(decide p=true)=p:=decide_eq_true_eq
theorem Ae{c:Prop}{_:Decidable c}(h:c){α:Sort _}{t e:α}:ite c t e=t:=if_pos h
theorem Al{c:Prop}{_:Decidable c}(h:¬c){α:Sort _}{t e:α}:ite c t e=e:=if_neg h
theorem As{p:Prop}[Decidable p]:¬p→decide p=false:=decide_eq_false
theorem o{p:Prop}[Decidable p]:p→decide p=true:=decide_eq_true
theorem z{α:Type _}[BEq α][LawfulBEq α]{a b:α}:(a==b)=false↔a≠b:=beq_eq_false_iff_ne
theorem AM{α:Type _}[BEq α][LawfulBEq α]{a b:α}:a==b↔a=b:=beq_iff_eq
theorem OQ{r:Reg}{x:Nat}(h:BF r=false):FC r x=false:=by
 cases r <;> first | rfl | (cases h;done) | (rename_i ls;cases ls <;> first | rfl | cases h)
def MJ(r:Reg)(x:Nat):Bool:=(match r with | .dead=>false | _=>true) && !(FC r x)
def Ir:Reg->Bool
 | .box _=>true
 | .bxg _=>true
 | _=>false
def Ale:Reg->Bool
 | .bxh _ _=>true
 | _=>false
def DV:Reg->Bool
 | .val _=>true
 | .box _=>true
 | .mem _=>true
 | .own _ _ _=>true
 | .agn _ _ _ _=>true
 | .bxg _=>true
 | .mp _=>true
 | _=>false
theorem vZ{r:Reg}(h:Ir r=true):DV r=true:=by cases r <;> first | rfl | cases h
theorem NA{r:Reg}(h:DV r=true):BF r=false:=by cases r <;> first | rfl | cases h
abbrev H:=List Reg
def Ag(s:H)(t:Nat):Reg:=s.getD t .dead
def BD(s:H):Option Nat->Reg->H
 | none,_=>s
 | some d,r=>s.set d r
def A5(s:H):List (Nat × Reg)->H
 | []=>s
 | (t,r)::l=>A5 (s.set t r) l
def V:Nat->List Reg->List Reg
 | 0,s=>s
 | n+1,s => .dead::V n s
inductive Opd where
 | t (n:Nat)
 | c (x:AV)
def Opd.reg(s:H):Opd->Reg
 | .t n=>Ag s n
 | .c x => .val x
def Opd.av(s:H)(o:Opd):Option AV :=
 match o.reg s with
 | .val x=>some x
 | _=>none
def Opd.rd:Opd->List Nat
 | .t n=>[n]
 | .c _=>[]
inductive K where
 | mov (x:Opd)
 | pick (c a b:Opd)
 | bin (op:BinOp) (x y:Opd)
 | eqb (neg:Bool) (x y:Opd)
 | eqv (neg:Bool) (n:Nat) (x y:Opd)
 | un (op:UnOp) (x:Opd)
 | cv (k:IntKind) (x:Opd)
 | new (z:List AV) (kills:List Nat)
 | box (x:Opd) (kills:List Nat)
 | bld (z:List AV) (ps:List (Nat × Nat × Opd))
 | bls (n:Nat) (z:List AV) (ps:List (Nat × Nat × Opd))
 | adr (x d off:Nat)
 | ld (x d n:Nat) (one:Bool)
 | st (x d n:Nat) (v:Opd)
 | ixa (x:Nat) (i:Opd) (k:Nat)
 | six (x i:Opd)
 | ext (x:Opd) (i:Nat)
 | len (x:Opd)
 | mx (xs:List Opd)
 | mn (xs:List Opd)
 | call (f:Nat) (xs:List Opd)
 | cpy (x:Nat)
 | tra (x:Nat)
 | frz (x:Nat)
 | mks (z:List AV) (n:Opd)
 | blo (k n:Nat) (z:List AV) (ps:List (Nat × Nat × Opd))
 | apd (ow:Bool) (x y:Opd) (k B:Nat)
 | sli (x:Opd) (lo hi mx:Option Opd) (k:Nat)
 | ixo (x d:Nat) (i:Opd) (k:Nat)
 | lno (x d:Nat)
 | clo (f:Nat) (xs:List Opd)
 | nlo (k:Nat)
 | bdo (a:Opd) (x:Nat) (l:List Nat)
 | stl (x v:Nat)
 | cpo (x:Nat)
 | npt
 | mvp (x d:Nat)
 | mvf (x y:Nat) (us zs:List Nat)
 | ldh (x d:Nat) (fz:Bool) (us:List Nat)
 | sth (x d v:Nat)
 | sts (x d:Nat) (v:Opd)
 | aph (x:Nat) (y:Opd) (k B d:Nat) (us:List Nat)
 | lda (x n:Nat) (us:List Nat)
 | ldz (x n:Nat) (us zs:List Nat)
 | blh (z:List AV) (qs:List (Nat × Nat))
 | sta (x v n:Nat) (us:List Nat)
 | bwh (f:Nat) (xs:List Opd) (us:List Nat)
 | cab (f x d:Nat) (xs:List Opd)
 | mkw (z:List AV) (n:Opd) (l:List Nat)
 | clw (f:Nat) (xs:List Opd) (d:Nat) (l:List Nat)
 | sbn (op:BinOp) (x y:Opd)
 | sln (x:Opd)
 | apn (y:Opd) (k B:Nat) (l:List Nat)
 | mkm
 | mlk (sk:Bool) (x d:Nat) (k:Opd)
 | mup (sk:Bool) (x d:Nat) (k:Opd)
 | blm (u:Nat) (k:IntKind)
 | bom (x:Nat) (us:List Nat)
 | lok (f x d u:Nat) (xs:List Opd)
 | cpf (f:Nat) (xs:List Opd) (us:List Nat)
 | ldf (x d y c:Nat) (hi:Int) (n:Nat) (us kp:List Nat)
 | bad
structure IOp where
 dst:Option Nat
 k:K
 g:Option (Nat × Bool):=none
 ks:List Nat:=[]
def o1(d:Nat)(k:K):IOp:=⟨some d,k,none,[]⟩
def oM(d s:Nat):IOp:=⟨some d,.mov (.t s),none,[]⟩
def oC(d f:Nat)(l:List Nat):IOp:=⟨some d,.call f (l.map .t),none,[]⟩
inductive ICode where
 | skip
 | region (drawn:Bool) (ops:List IOp)
 | seq (a b:ICode)
 | cond (c:Opd) (a b:ICode)
 | block (id:Nat) (c:ICode)
 | loop (c:ICode)
 | scope (c:ICode)
 | exit (id:Nat)
 | ret
inductive IRes where
 | tmp (t:Nat)
 | cell (t n:Nat) (one:Bool)
 | giv
structure IFunc where
 params:Nat
 slots:Nat
 res:List IRes
 body:ICode
section
variable(op:BinOp)
def Alf(x y:Int):Option Bool :=
 match op with
 | .eql=>some (x==y)
 | .neq=>some (x != y)
 | .lss=>some (G (x<y))
 | .leq=>some (G (x<=y))
 | .gtr=>some (G (x>y))
 | .geq=>some (G (x>=y))
 | _=>none
def Avu(k:IntKind)(x y:Int):Option Int :=
 match op with
 | .and=>some (k.wrap (AT k.bits x &&& AT k.bits y).toNat)
 | .or=>some (k.wrap (AT k.bits x ||| AT k.bits y).toNat)
 | .xor=>some (k.wrap (AT k.bits x ^^^ AT k.bits y).toNat)
 | _=>none
def XR(k:IntKind)(x y:Int):Option AV :=
 match op with
 | .add=>some (.int k (k.wrap (x+y)))
 | .sub=>some (.int k (k.wrap (x-y)))
 | .mul=>some (.int k (k.wrap (x*y)))
 | .quo=>if y=0 then none else some (.int k (k.wrap (x.tdiv y)))
 | .rem=>if y=0 then none else some (.int k (x.tmod y))
 | .and | .or | .xor=>(Avu op k x y).map (.int k)
 | _=>(Alf op x y).map .bool
def Xo(k:IntKind)(x y:Int):Option AV :=
 if y<0 then none
 else match op with
  | .shl=>some (.int k (k.wrap (x*2^(min y.toNat k.bits))))
  | .shr=>some (.int k (x.fdiv (2^(min y.toNat k.bits))))
  | _=>none
end
def H':BinOp->Bool
 | .shl | .shr=>true
 | _=>false
def KN(op:BinOp)(x y:AV):Option AV :=
 match x,y with
 | .int k a,.int c b=>if H' op then Xo op k a b else if k=c then XR op k a b else none
 | _,_=>none
def unA(op:UnOp)(x:AV):Option AV :=
 match op,x with
 | .neg,.int k n=>some (.int k (k.wrap (0-n)))
 | .not,.bool b=>some (.bool (!b))
 | _,_=>none
def Bt:List AV->List AV->Option Bool
 | [],[]=>some true
 | .int k a::xs,.int c b::d=>if k=c then (Bt xs d).map (fun r=>a==b&&r) else none
 | _,_=>none
def kM(k:IntKind):Int->List AV->Option Int
 | m,[]=>some m
 | m,.int a n::l=>if k=a then kM k (if n>m then n else m) l else none
 | _,_=>none
def kN(k:IntKind):Int->List AV->Option Int
 | m,[]=>some m
 | m,.int a n::l=>if k=a then kN k (if n<m then n else m) l else none
 | _,_=>none
def Ad(cs:List AV)(off n:Nat)(one:Bool):Option AV :=
 if one then cs[off]? else if off+n<=C cs then some (.agg ((cs.drop off).take n)) else none
def Cg(cs:List AV)(off:Nat)(new:List AV):Option (List AV) :=
 if off+C new<=C cs then some (cs.take off++new++cs.drop (off+C new)) else none
def EK:AV->Bool
 | .int _ _ | .bool _ | .str _ | .nil | .sl _ _=>true
 | _=>false
def H2(x:AV)(n:Nat):Option (List AV) :=
 match x with
 | .agg cs=>if C cs=n then some cs else none
 | .tup _=>none
 | .undef=>none
 | .fresh _ _ _=>none
 | .frs _ _ _ _=>none
 | .pt _=>none
 | .fnc _ _=>none
 | .gb _=>none
 | .io _ _=>none
 | .frh _=>none
 | x=>if n=1 then some [x] else none
def GW(s:H):List AV->List (Nat × Nat × Opd)->Option (List AV)
 | cs,[]=>some cs
 | cs,(off,n,o)::ps =>
  match o.av s with
  | none=>none
  | some x=>match H2 x n with
   | none=>none
   | some a=>match Cg cs off a with
    | none=>none
    | some b=>GW s b ps
def avs(s:H):List Opd->Option (List AV)
 | []=>some []
 | o::l=>match o.av s with
  | none=>none
  | some x=>match avs s l with
   | none=>none
   | some xs=>some (x::xs)
abbrev Bh:=Nat->List AV->Option AV
def R9:AV->Bool
 | .int _ _=>true
 | _=>false
def Q4:AV->Bool
 | .sl _ cs=>cs.all R9
 | .int _ _=>true
 | .bool _=>true
 | .str _=>true
 | .undef=>true
 | _=>false
def ML:AV->Bool
 | .agg cs=>cs.all Q4
 | x=>Q4 x
def noMem:AV->Bool
 | .int _ _ | .bool _ | .str _ | .nil | .undef=>true
 | _=>false
def G':AV->AV
 | .fresh _ n es => .sl n es
 | x=>x
def O5:AV->AV
 | .fresh _ n cs => .sl n cs
 | .frs (.st b) _ n cs => .agg [.bool b,.sl n cs]
 | .frs (.tp b) _ n cs => .tup [.sl n cs,.bool b]
 | .gb cs => .pt cs
 | .frh cs => .agg (cs.map G')
 | x=>x
def Gl:AV->Reg
 | .fresh k n cs => .own k n cs
 | .frs b k n cs => .agn b k n cs
 | .gb cs => .box cs
 | .frh _ => .dead
 | x => .val x
def XT:Opd->List (Nat × Reg)
 | .t n=>[(n,.dead)]
 | .c _=>[]
def Gp(z:List AV):Nat->List AV
 | 0=>[]
 | n+1=>z++Gp z n
def H_(s:H)(d:Nat):Option Opd->Option Nat
 | none=>some d
 | some o=>match o.av s with
  | some (.int _ i)=>if 0<=i then some i.toNat else none
  | _=>none
def Ed:List (Nat × Nat)->Nat->Option Nat
 | [],_=>none
 | (o,u)::ls,i=>if o=i then some u else Ed ls i
def OS(ls:List (Nat × Nat))(i:Nat):List (Nat × Nat):=ls.filter fun p => !(p.1==i)
def Jp(s:H):List (Nat × Nat)->List AV->Option (List AV × List (Nat × Reg))
 | [],cs=>some (cs,[])
 | (o,u)::ls,cs=>match Ag s u with
  | .own _ n es=>(match Jp s ls cs with
   | some (a,l)=>some (a.set o (.sl n es),(u,.val (.sl n es))::l)
   | none=>none)
  | _=>none
def L9(s:H):List (Nat × Nat)->List AV->Option (List AV)
 | [],cs=>some cs
 | (o,u)::ls,cs=>match Ag s u with
  | .own _ n es=>(L9 s ls cs).map fun a=>a.set o (.sl n es)
  | _=>none
def avH(s:H)(us:List Nat)(o:Opd):Option AV :=
 match o.reg s with
 | .val x=>some x
 | .agh cs ls=>if ls.all (fun p=>us.contains p.2) then (match L9 s ls cs with
  | some a=>if a.all EK then some (.agg a) else none
  | none=>none) else none
 | _=>none
def avsH(s:H)(us:List Nat):List Opd->Option (List AV)
 | []=>some []
 | o::l=>match avH s us o with
  | none=>none
  | some x=>match avsH s us l with
   | none=>none
   | some xs=>some (x::xs)
def U9:AV->Bool
 | .int _ _=>true
 | .bool _=>true
 | _=>false
def kO(op:BinOp)(a b:ByteArray):Option AV :=
 match op with
 | .add=>if a.size+b.size<=9223372036854775807 then some (.str (a++b)) else none
 | .eql=>some (.bool (a.toList==b.toList))
 | .neq=>some (.bool (!(a.toList==b.toList)))
 | _=>none
def IK(s:H)(d off:Nat)(fz:Bool)(us:List Nat)(cs:List AV)(ls:List (Nat × Nat)):Option (Reg × List (Nat × Reg)) :=
 if ls.all (fun p=>us.contains p.2) then (if off<C cs then (match (if fz then Jp s (OS ls off) cs else some (cs,[])) with
  | some (a,l)=>(match Ed ls off with
   | some u=>some (.dup u,if fz then l++[(d,.bxh a [(off,u)])] else [])
   | none=>(match a[off]? with
    | some c=>if EK c then some (.val c,if fz then l++[(d,.bxh a [])] else []) else none
    | none=>none))
  | none=>none) else none) else none
def Ia:List Nat->List AV->List AV
 | [],cs=>cs
 | z::zs,cs=>match cs[z]? with
  | some .nil=>Ia zs (cs.set z (.sl 0 []))
  | _=>Ia zs cs
def OT(s:H)(x y:Nat)(us zs:List Nat)(cs:List AV)(ls:List (Nat × Nat)):Option (Reg × List (Nat × Reg)) :=
 if ls.all (fun p=>us.contains p.2) then (match Jp s ls cs with
  | some (a,l)=>if a.all EK then some (.ptr x 0,l++[(y,.box (Ia zs a))]) else none
  | none=>none) else none
def OU(s:H)(x n:Nat)(us zs:List Nat)(cs:List AV)(ls:List (Nat × Nat)):Option (Reg × List (Nat × Reg)) :=
 if ls.all (fun p=>us.contains p.2) then (match Jp s ls cs with
  | some (a,l)=>if C a=n/\a.all EK then some (.val (.agg (Ia zs a)),l++[(x,.box a)]) else none
  | none=>none) else none
section
variable(r:Reg)(m:Nat)(a:List AV)
def aph0(k B:Nat):Option (Reg × List (Nat × Reg)) :=
 match r with
 | .val .nil=>if m<=B then some (.own k m a,[]) else none
 | _=>none
def wA(k B u x d off:Nat)(cs:List AV):Option (Reg × List (Nat × Reg)) :=
 match r with
 | .own b n es=>if b=k/\n+m<=B then some (.own k (n+m) (es++a),[(x,.dead),(d,.bxh (cs.set off .undef) []),(u,.dead)]) else none
 | _=>none
end
def kP:Reg->Reg
 | .val x=>if noMem x then .val x else .dead
 | .box cs=>if cs.all noMem then .box cs else .dead
 | _ => .dead
def Is(n:Nat)(ks:List Nat):List (Nat × Reg):=((AZ n).filter fun t => !(ks.contains t)).map fun t=>(t,.dead)
def UA:Reg->Bool
 | .val x=>noMem x
 | .box cs=>cs.all noMem
 | _=>false
def XU(s:H):List Nat->Option (List (Nat × AV))
 | []=>some []
 | u::us=>match Ag s u with
  | .val x=>(XU s us).map ((u,x)::·)
  | _=>none
def RG(s:H)(ls:List (Nat × Nat))(cs:List AV)(i:Nat):AV:=match Ed ls i with
 | some u=>(match Ag s u with
  | .own k n es => .fresh k n es
  | _ => .undef)
 | none=>cs.getD i .undef
def XV:AV->Bool
 | .fresh _ _ _=>true
 | .int _ _ | .bool _ | .str _ | .nil=>true
 | _=>false
def CC:AV->Bool
 | .fresh _ _ es=>es.all noMem
 | _=>true
def nP:List (Nat × Nat)->Bool
 | []=>true
 | p::l => !(l.any fun q=>q.2==p.2)&&nP l
def XW(s:H)(ls:List (Nat × Nat))(cs:List AV):Option AV :=
 if ((AZ (C cs)).map (RG s ls cs)).all XV&&nP ls then some (.frh ((AZ (C cs)).map (RG s ls cs))) else none
def XX:AV->AV->Option Bool
 | .int k a,.int c b=>if k=c then some (a==b) else none
 | .str a,.str b=>some (a==b)
 | _,_=>none
def Se(sk:Bool):AV->Bool
 | .int _ _ => !sk
 | .str _=>sk
 | _=>false
def FT:List AV->AV->Option Bool
 | [],_=>some false
 | k::ks,x=>match XX x k with
  | some true=>some true
  | some false=>FT ks x
  | none=>none
def Avv:List (List UInt8):=[[115,111,117,116,104],[101,97,115,116],[110,111,114,116,104],[119,101,115,116],[119,49],[119,50],[119,51],[112,49],[112,50],[97,49],[102,49],[102,50],[122,49],[122,50],[115,49],[108,49],[108,50],[114,49],[100,49],[107,49]]
def Kp(f:Nat)(nm:ByteArray):Bool:=AKi f 125&&Avv.any fun l=>nm==⟨l.toArray⟩
def Aez:Reg->Bool
 | .own _ _ _=>true
 | .mp _=>true
 | _=>false
def J_(s:H):List (Nat × Nat)->List AV->Option (List AV)
 | [],cs=>some cs
 | (o,u)::qs,cs=>if Aez (Ag s u)=true/\o<C cs/\Ed qs o=none then (J_ s qs cs).map fun a=>a.set o .undef else none
def A8(F:Bh)(s:H):K->Option (Reg × List (Nat × Reg))
 | .mov x=>(x.av s).map fun v=>(.val v,[])
 | .pick c a b =>
  match c.av s with
  | some (.bool true)=>(a.av s).map fun v=>(.val v,[])
  | some (.bool false)=>(b.av s).map fun v=>(.val v,[])
  | _=>none
 | .bin op x y =>
  match x.av s,y.av s with
  | some a,some b=>(KN op a b).map fun v=>(.val v,[])
  | _,_=>none
 | .eqb neg x y =>
  match x.av s,y.av s with
  | some (.bool a),some (.bool b)=>some (.val (.bool (if neg then !(a==b) else a==b)),[])
  | _,_=>none
 | .eqv neg n x y =>
  match x.av s,y.av s with
  | some (.agg a),some (.agg b)=>if C a=n then (Bt a b).map fun v=>(.val (.bool (if neg then !v else v)),[]) else none
  | _,_=>none
 | .un op x=>match x.av s with
  | some a=>(unA op a).map fun v=>(.val v,[])
  | none=>none
 | .cv k x=>match x.av s with
  | some (.int _ n)=>some (.val (.int k (k.wrap n)),[])
  | _=>none
 | .new z kills=>some (.box z,kills.map fun t=>(t,.dead))
 | .box x kills=>match x.av s with
  | some (.agg cs)=>some (.box cs,kills.map fun t=>(t,.dead))
  | some x=>if EK x then some (.box [x],kills.map fun t=>(t,.dead)) else none
  | none=>none
 | .bld z ps=>(GW s z ps).map fun cs=>(.val (.agg cs),[])
 | .bls n z ps=>(GW s z ps).map fun cs=>(.val (.sl n cs),[])
 | .adr x d off=>match Ag s x with
  | .box _=>if x=d then some (.ptr d off,[]) else none
  | .ptr e o=>if e=d then some (.ptr d (o+off),[]) else none
  | .mem cs=>some (.mem (cs.drop off),[])
  | .bxh _ _=>if x=d then some (.ptr d off,[]) else none
  | .bxf _ _=>if x=d then some (.ptr d off,[]) else none
  | .bxg _=>if x=d then some (.ptr d off,[]) else none
  | _=>none
 | .ld x d n one=>match Ag s x with
  | .box cs=>if x=d then (Ad cs 0 n one).map fun v=>(.val v,[]) else none
  | .ptr e off=>if e=d then (match Ag s d with
   | .box cs=>(Ad cs off n one).map fun v=>(.val v,[])
   | .own _ _ cs=>(Ad cs off n one).map fun v=>(.val v,[])
   | .bxg cs=>(Ad cs off n one).map fun v=>(.val v,[])
   | _=>none) else none
  | .mem cs=>(Ad cs 0 n one).map fun v=>(.val v,[])
  | _=>none
 | .st x d n v=>match v.av s with
  | none=>none
  | some a=>match H2 a n with
   | none=>none
   | some ys=>match Ag s x with
    | .box cs=>if x=d then (Cg cs 0 ys).map fun g=>(.dead,[(d,.box g)]) else none
    | .ptr e off=>if e=d then (match Ag s d with
     | .box cs=>(Cg cs off ys).map fun g=>(.dead,[(d,.box g)])
     | .own k m cs=>(Cg cs off ys).map fun g=>(.dead,[(d,.own k m g)])
     | .bxg cs=>(Cg cs off ys).map fun g=>(.dead,[(d,.bxg g)])
     | _=>none) else none
    | _=>none
 | .ixa x i k=>match i.av s with
  | some (.int _ i)=>(match Ag s x with
   | .val (.sl n cs)=>if 0<=i/\i<n then some (.mem (cs.drop (i.toNat*k)),[]) else none
   | _=>none)
  | _=>none
 | .six x i=>match x.av s,i.av s with
  | some (.str b),some (.int _ i)=>(if 0<=i then b[i.toNat]? else none).map fun c=>(.val (.int .u8 c.toNat),[])
  | _,_=>none
 | .ext x i=>match x.av s with
  | some (.tup vs)=>(vs[i]?).map fun v=>(.val v,[])
  | _=>none
 | .len x=>match x.av s with
  | some .nil=>some (.val (.int .i64 0),[])
  | some (.sl n _)=>some (.val (.int .i64 n),[])
  | _=>none
 | .mx xs=>match avs s xs with
  | some (.int k n::l)=>(kM k n l).map fun m=>(.val (.int k m),[])
  | _=>none
 | .mn xs=>match avs s xs with
  | some (.int k n::l)=>(kN k n l).map fun m=>(.val (.int k m),[])
  | _=>none
 | .call f xs=>match avs s xs with
  | some vs=>(F f vs).map fun v=>(.val (O5 v),[])
  | none=>none
 | .clo f xs=>match avs s xs with
  | some vs=>(F f vs).map fun v=>(Gl v,[])
  | none=>none
 | .cpy x=>match Ag s x with
  | .val v=>some (.val v,[])
  | .own _ _ _=>some (.dup x,[])
  | _=>none
 | .tra x=>match Ag s x with
  | .val v=>some (.val v,[])
  | .box cs=>some (.box cs,[(x,.dead)])
  | .own k n cs=>some (.own k n cs,[(x,.dead)])
  | .agn b k n cs=>some (.agn b k n cs,[(x,.dead)])
  | .mp ks=>some (.mp ks,[(x,.dead)])
  | _=>none
 | .frz x=>match Ag s x with
  | .val v=>some (.val v,[])
  | .own _ n cs=>some (.val (.sl n cs),[(x,.val (.sl n cs))])
  | _=>none
 | .mks z n=>match n.av s with
  | some (.int _ m)=>if 0<=m/\m<=1048576 then some (.own (C z) m.toNat (Gp z m.toNat),[]) else none
  | _=>none
 | .blo k n z ps=>(GW s z ps).map fun cs=>(.own k n cs,[])
 | .apd ow x y k B=>match y.av s with
  | some .nil=>(match x.reg s with
   | .val .nil=>some (.val .nil,[])
   | .own j n cs=>if j=k then some (if ow then .own k n cs else .val (.sl n cs),XT x) else none
   | _=>none)
  | some (.sl m ys)=>if C ys=m*k then (match x.reg s with
   | .val .nil=>if m<=B then some (if ow then .own k m ys else .val (.sl m ys),[]) else none
   | .own j n cs=>if j=k/\n+m<=B then some (if ow then .own k (n+m) (cs++ys) else .val (.sl (n+m) (cs++ys)),XT x) else none
   | _=>none) else none
  | _=>none
 | .sli x lo hi mx k=>match x.av s with
  | some .nil=>(match H_ s 0 mx,H_ s 0 hi,H_ s 0 lo with
   | some 0,some 0,some 0=>if mx.isSome->hi.isSome then some (.val .nil,[]) else none
   | _,_,_=>none)
  | some (.sl n cs)=>(match H_ s n mx,H_ s n hi,H_ s 0 lo with
   | some m,some h,some l=>if l<=h/\h<=m/\m<=n/\(mx.isSome->hi.isSome) then some (.val (.sl (h-l) ((cs.drop (l*k)).take ((h-l)*k))),[]) else none
   | _,_,_=>none)
  | _=>none
 | .ixo x d i k=>match i.av s with
  | some (.int _ i)=>(match Ag s x with
   | .val (.sl n cs)=>if 0<=i/\i<n then some (.mem (cs.drop (i.toNat*k)),[]) else none
   | .dup e=>if e=d then (match Ag s d with
    | .own j n _=>if j=k/\0<=i/\i<n then some (.ptr d (i.toNat*k),[]) else none
    | _=>none) else none
   | .own j n _=>if x=d/\j=k/\0<=i/\i<n then some (.ptr d (i.toNat*k),[]) else none
   | _=>none)
  | _=>none
 | .lno x d=>match Ag s x with
  | .val .nil=>some (.val (.int .i64 0),[])
  | .val (.sl n _)=>some (.val (.int .i64 n),[])
  | .dup e=>if e=d then (match Ag s d with
   | .own _ n _=>some (.val (.int .i64 n),[])
   | _=>none) else none
  | .own _ n _=>some (.val (.int .i64 n),[])
  | _=>none
 | .nlo k=>some (.own k 0 [],[])
 | .bdo a x l=>match a.av s with
  | some (.bool b)=>(match Ag s x with
   | .own k n cs=>if l.all (fun t=>DV (Ag s t)) then some (.agn (.st b) k n cs,[(x,.dead)]) else none
   | _=>none)
  | _=>none
 | .stl x v=>match Ag s x with
  | .box cs=>(match Ag s v with
   | .agn (.st _) _ _ _=>if C cs=2 then some (.dead,[(x,.bxl v)]) else none
   | _=>none)
  | _=>none
 | .cpo x=>some (.dup x,[])
 | .npt=>some (.dead,[])
 | .mvp x d=>if x=d then (if Ir (Ag s x) || Ale (Ag s x) then some (.ptr d 0,[]) else none) else match Ag s x with
  | .ptr e o=>if e=d then some (.ptr d o,[]) else none
  | .mem cs=>some (.mem cs,[])
  | _=>none
 | .mvf x y us zs=>if Ir (Ag s x) then (match Ag s y with
  | .box cs=>some (.ptr x 0,[(y,.box (Ia zs cs))])
  | .bxh cs ls=>OT s x y us zs cs ls
  | _=>none) else none
 | .ldh x d fz us=>match Ag s x with
  | .ptr e off=>if e=d then (match Ag s d with
   | .box cs=>(match cs[off]? with
    | some c=>some (.val c,[])
    | none=>none)
   | .bxh cs ls=>IK s d off fz us cs ls
   | .bxf cs _=>(match cs[off]? with
    | some c=>if XV c then some (.val (G' c),[]) else none
    | none=>none)
   | _=>none) else none
  | _=>none
 | .sth x d v=>match Ag s x with
  | .ptr e off=>if e=d then (match Ag s v with
   | .own _ _ _=>(match Ag s d with
    | .box cs=>if off<C cs then some (.dead,[(d,.bxh (cs.set off .undef) [(off,v)])]) else none
    | .bxh cs ls=>if off<C cs then some (.dead,[(d,.bxh (cs.set off .undef) ((off,v)::OS ls off))]) else none
    | _=>none)
   | _=>none) else none
  | _=>none
 | .sts x d v=>match Ag s x,v.av s with
  | .ptr e off,some c=>if e=d/\EK c then (match Ag s d with
   | .bxh cs ls=>if off<C cs then some (.dead,[(d,.bxh (cs.set off c) (OS ls off))]) else none
   | .bxf cs us=>if off<C cs/\noMem c=true then some (.dead,[(d,.bxf (cs.set off c) us)]) else none
   | _=>none) else none
  | _,_=>none
 | .aph x y k B d us=>match y.av s with
  | some (.sl m ys)=>if C ys=m*k then (match Ag s d with
   | .box _=>aph0 (Ag s x) m ys k B
   | .bxh _ []=>aph0 (Ag s x) m ys k B
   | .bxh cs [(off,u)]=>(match Ag s x with
    | .dup r=>if r=u/\us.contains u then wA (Ag s u) m ys k B u x d off cs else none
    | _=>none)
   | _=>none) else none
  | _=>none
 | .lda x n us=>match Ag s x with
  | .box cs=>if C cs=n then some (.val (.agg cs),[]) else none
  | .bxh cs ls=>if C cs=n/\ls.all (fun p=>us.contains p.2) then some (.agh cs ls,[]) else none
  | _=>none
 | .ldz x n us zs=>match Ag s x with
  | .box cs=>if C cs=n then some (.val (.agg (Ia zs cs)),[]) else none
  | .bxh cs ls=>OU s x n us zs cs ls
  | .bxf cs _=>if C cs=n/\cs.all XV=true then some (.val (.agg (Ia zs (cs.map G'))),[]) else none
  | _=>none
 | .blh z qs=>(J_ s qs z).map fun cs=>(.agh cs qs,[])
 | .sta x v n us=>match Ag s x,Ag s v with
  | .box w,.agh cs ls=>if C w=n/\C cs=n/\ls.all (fun p=>us.contains p.2) then some (.dead,[(x,.bxh cs ls)]) else none
  | .box w,.agf cs q=>if C w=n/\C cs=n/\q.all (fun p=>us.contains p.1) then some (.dead,[(x,.bxf cs q)]) else none
  | _,_=>none
 | .bwh f xs us=>match avsH s us xs with
  | some vs=>(match F f vs with
   | some y=>if U9 y then some (.val y,[]) else none
   | none=>none)
  | none=>none
 | .cab f x d xs=>match Ag s x with
  | .ptr e 0=>if e=d then (match Ag s d,avs s xs with
   | .box cs,some vs=>(match F f (.gb cs::vs) with
    | some (.io g y)=>some (.val y,[(d,.box g)])
    | _=>none)
   | .bxg cs,some vs=>(match F f (.gb cs::vs) with
    | some (.io g y)=>some (.val y,[(d,.bxg g)])
    | _=>none)
   | _,_=>none) else none
  | _=>none
 | .mkw z n l=>match n.av s with
  | some (.int _ m)=>if l.all (fun t=>DV (Ag s t)) then (if 0<=m/\m<=1048576 then some (.own (C z) m.toNat (Gp z m.toNat),[]) else none) else none
  | _=>none
 | .clw f xs d l=>match avs s xs with
  | some vs=>if l.all (fun t=>MJ (Ag s t) d) then (F f vs).map fun v=>(Gl v,[]) else none
  | none=>none
 | .sbn op x y=>match x.av s,y.av s with
  | some (.str a),some (.str b)=>(kO op a b).map fun v=>(.val v,[])
  | _,_=>none
 | .sln x=>match x.av s with
  | some (.str b)=>some (.val (.int .i64 b.size),[])
  | _=>none
 | .apn y k B l=>match y.av s with
  | some (.sl m ys)=>if l.all (fun t=>DV (Ag s t))=true/\C ys=m*k/\m<=B then some (.own k m ys,[]) else none
  | _=>none
 | .mkm=>some (.mp [],[])
 | .mlk sk x d k=>match Ag s x,k.av s with
  | .dup e,some c=>if e=d/\Se sk c=true then (match Ag s d with
   | .mp ks=>(FT ks c).map fun b=>(.val (.bool b),[])
   | _=>none) else none
  | _,_=>none
 | .mup sk x d k=>match Ag s x,k.av s with
  | .dup e,some c=>if e=d/\Se sk c=true then (match Ag s d with
   | .mp ks=>(match FT ks c with
    | some false=>some (.dead,[(d,.mp (ks++[c]))])
    | _=>none)
   | _=>none) else none
  | _,_=>none
 | .blm u k=>match Ag s u with
  | .mp _=>some (.agh [.undef,.int k 0] [(0,u)],[])
  | _=>none
 | .bom x us=>match Ag s x with
  | .agh cs ls=>if ls.all (fun p=>us.contains p.2) then some (.bxh cs ls,[]) else none
  | _=>none
 | .lok f x d u xs=>match Ag s x,avs s xs with
  | .ptr e off,some [.str nm,.bool true,.bool true]=>if e=d/\off=0/\Kp f nm=true then (match Ag s d,Ag s u with
   | .bxh [_,.int .i64 0] [(0,r)],.mp ks=>if r=u then (match FT ks (.str nm) with
    | some false=>some (.dead,[(u,.mp (ks++[.str nm]))])
    | _=>none) else none
   | _,_=>none) else none
  | _,_=>none
 | .cpf f xs us=>match avs s xs,XU s us with
  | some vs,some l=>(match F f vs with
   | some (.frh cs)=>some (.agf cs l,[])
   | _=>none)
  | _,_=>none
 | .ldf x d y c hi n us kp=>match Ag s x with
  | .ptr e off=>if e=d then (match Ag s d with
   | .bxf cs q=>(match Ag s c,cs[off]? with
    | .val (.sl _ (.int _ c0::_)),some v=>if c0.emod 20<=hi then (match v with
     | .fresh k m es=>if n=C s/\y<n/\cs.all XV=true/\q.all (fun p=>us.contains p.1)=true/\kp.all (fun t=>UA (Ag s t))=true/\cs.all CC=true then some (.own k m es,Is n (d::(kp++q.map (·.1)))++q.map (fun p=>(p.1,.val p.2))++[(d,.bxh ((cs.map G').set off .undef) [(off,y)])]) else none
     | _=>none) else (if XV v&&q.all (fun p=>us.contains p.1) then some (.val (G' v),[]) else none)
    | _,_=>none)
   | .bxh cs ls=>IK s d off false us cs ls
   | _=>none) else none
  | _=>none
 | .bad=>none
def EF(s:H):Option (Nat × Bool)->Option Bool
 | none=>some true
 | some (t,b)=>match Ag s t with
  | .val (.bool c)=>some (c==b)
  | .val .undef=>some false
  | _=>none
def kill(s:H)(ks:List Nat):H:=A5 s (ks.map fun t=>(t,.dead))
def Hh(F:Bh)(o:IOp)(s:H):Option H :=
 match EF s o.g with
 | none=>none
 | some false=>some (BD s o.dst (.val .undef))
 | some true=>match A8 F s o.k with
  | none=>none
  | some (r,l)=>some (BD (A5 s l) o.dst r)
def Ee(F:Bh)(o:IOp)(s:H):Option H:=Hh F o (kill s o.ks)
def CY(F:Bh):List IOp->H->Option H
 | [],s=>some s
 | o::l,s=>match Ee F o s with
  | none=>none
  | some s'=>CY F l s'
inductive Ex where
 | norm
 | exit (id:Nat)
 | ret
def KO(s:H)(c:Opd):Option Bool :=
 match c.av s with
 | some (.bool b)=>some b
 | _=>none
def BJ(F:Bh):Nat->ICode->H->Option (Ex × H)
 | 0,_,_=>none
 | _+1,.skip,s=>some (.norm,s)
 | _+1,.region _ ops,s=>(CY F ops s).map fun s'=>(.norm,s')
 | n+1,.seq a b,s=>match BJ F n a s with
  | some (.norm,s')=>BJ F n b s'
  | r=>r
 | n+1,.cond c a b,s=>match KO s c with
  | some true=>BJ F n a s
  | some false=>BJ F n b s
  | none=>none
 | n+1,.block id c,s=>match BJ F n c s with
  | some (.exit i,s')=>if i=id then some (.norm,s') else some (.exit i,s')
  | r=>r
 | n+1,.loop c,s=>match BJ F n c s with
  | some (.norm,s')=>BJ F n (.loop c) s'
  | r=>r
 | n+1,.scope c,s=>BJ F n c s
 | _+1,.exit id,s=>some (.exit id,s)
 | _+1,.ret,s=>some (.ret,s)
def DA(s:H):IRes->Option AV
 | .tmp t=>match Ag s t with
  | .val x=>some x
  | .own _ n cs=>some (.sl n cs)
  | _=>none
 | .cell t n one=>match Ag s t with
  | .box cs=>Ad cs 0 n one
  | _=>none
 | .giv=>none
def CF(s:H):List IRes->Option (List AV)
 | []=>some []
 | r::l=>match DA s r with
  | none=>none
  | some x=>match CF s l with
   | none=>none
   | some xs=>some (x::xs)
def Ii(s:H):List IRes->Option AV
 | [.tmp t]=>match Ag s t with
  | .box cs=>some (.gb cs)
  | .own k n cs=>some (.fresh k n cs)
  | .agn b k n cs=>some (.frs b k n cs)
  | _=>none
 | [.tmp t,.tmp u]=>match Ag s t with
  | .own k n cs=>(match Ag s u with
   | .val (.bool b)=>some (.frs (.tp b) k n cs)
   | _=>none)
  | _=>none
 | [.cell t n one]=>match Ag s t with
  | .bxl d=>(match Ag s d with
   | .agn (.st b) k m cs=>if n=2/\one=false then some (.frs (.st b) k m cs) else none
   | _=>none)
  | .bxh cs ls=>if n=C cs/\one=false then XW s ls cs else none
  | _=>none
 | _=>none
def Ib(s:H)(l:List IRes):Option AV :=
 match Ii s l with
 | some x=>some x
 | none =>
 match CF s l with
 | some [x]=>some x
 | some xs=>some (.tup xs)
 | none=>none
def kQ(s:H):IRes->Option AV
 | .tmp t=>(match Ag s t with
  | .val x=>some x
  | _=>none)
 | .cell t n one=>(match Ag s t with
  | .box cs=>Ad cs 0 n one
  | _=>none)
 | .giv=>none
def Avw:Option AV->Option AV
 | some (.io _ _)=>none
 | o=>o
def FU(s:H)(l:List IRes):Option AV :=
 match l with
 | [.giv,r]=>(match Ag s 0,kQ s r with
  | .bxg cs,some y=>some (.io cs y)
  | _,_=>none)
 | l=>Avw (Ib s l)
def Avx:List IRes->List IRes
 | .giv::l=>l
 | l=>l
def Q5:AV->Reg
 | .pt cs => .mem cs
 | .fresh k n cs => .own k n cs
 | .gb cs => .bxg cs
 | x => .val x
def CL(fn:IFunc)(args:List AV):H:=args.map Q5++BP (fn.slots-C args) (.val .undef)
def Jm(prog:Nat->Option IFunc):Nat->Bh
 | 0,_,_=>none
 | n+1,f,args=>match prog f with
  | none=>none
  | some fn=>if C args=fn.params then (match BJ (Jm prog n) n fn.body (CL fn args) with
   | some (.exit _,_)=>none
   | some (_,s)=>FU s fn.res
   | none=>none) else none
abbrev LI:=List Int
abbrev y{α:Type}(f:List α->List AV)(xs:List α):AV:=.sl (C xs) (f xs)
instance(n:Nat):OfNat Opd n:=⟨.t n⟩
abbrev xZ0:Ex:=.exit 0
abbrev xZ1:Ex:=.exit 1
abbrev xZ2:Ex:=.exit 2
abbrev xZ3:Ex:=.exit 3
abbrev xZ4:Ex:=.exit 4
abbrev xZ5:Ex:=.exit 5
abbrev xZ6:Ex:=.exit 6
abbrev xZ7:Ex:=.exit 7
abbrev xZ8:Ex:=.exit 8
abbrev xZ9:Ex:=.exit 9
def G6(l:List Opd):List Nat:=l.flatMap Opd.rd
def rdO:Option Opd->List Nat
 | none=>[]
 | some o=>o.rd
def XY(l:List (Nat × Nat × Opd)):List Nat:=l.flatMap fun p=>p.2.2.rd
def rdK:K->List Nat
 | .mov x=>x.rd
 | .pick c a b=>c.rd++(a.rd++b.rd)
 | .bin _ x y=>x.rd++y.rd
 | .eqb _ x y=>x.rd++y.rd
 | .eqv _ _ x y=>x.rd++y.rd
 | .un _ x=>x.rd
 | .cv _ x=>x.rd
 | .new _ _=>[]
 | .box x _=>x.rd
 | .bld _ ps=>XY ps
 | .bls _ _ ps=>XY ps
 | .adr x _ _=>[x]
 | .ld x d _ _=>[x,d]
 | .st x d _ v=>x::d::v.rd
 | .ixa x i _=>x::i.rd
 | .six x i=>x.rd++i.rd
 | .ext x _=>x.rd
 | .len x=>x.rd
 | .mx xs=>G6 xs
 | .mn xs=>G6 xs
 | .call _ xs=>G6 xs
 | .clo _ xs=>G6 xs
 | .cpy x=>[x]
 | .tra x=>[x]
 | .frz x=>[x]
 | .mks _ n=>n.rd
 | .blo _ _ _ ps=>XY ps
 | .apd _ x y _ _=>x.rd++y.rd
 | .sli x lo hi mx _=>x.rd++(rdO lo++(rdO hi++rdO mx))
 | .ixo x d i _=>x::d::i.rd
 | .lno x d=>[x,d]
 | .nlo _=>[]
 | .bdo a x l=>x::(a.rd++l)
 | .stl x v=>[x,v]
 | .cpo _=>[]
 | .npt=>[]
 | .mvp x _=>[x]
 | .mvf x y us _=>x::y::us
 | .ldh x d _ us=>x::d::us
 | .sth x d v=>[x,d,v]
 | .sts x d v=>x::d::v.rd
 | .aph x y _ _ d us=>x::d::(y.rd++us)
 | .lda x _ _=>[x]
 | .ldz x _ us _=>x::us
 | .blh _ qs=>qs.map (·.2)
 | .sta x v _ _=>[x,v]
 | .bwh _ xs us=>G6 xs++us
 | .cab _ x d xs=>x::d::G6 xs
 | .mkw _ n l=>n.rd++l
 | .clw _ xs _ l=>G6 xs++l
 | .sbn _ x y=>x.rd++y.rd
 | .sln x=>x.rd
 | .apn y _ _ l=>y.rd++l
 | .mkm=>[]
 | .mlk _ x d k=>x::d::k.rd
 | .mup _ x d k=>x::d::k.rd
 | .blm u _=>[u]
 | .bom x _=>[x]
 | .lok _ x d u xs=>x::d::u::G6 xs
 | .cpf _ xs us=>G6 xs++us
 | .ldf x d _ c _ _ us kp=>x::d::c::(us++kp)
 | .bad=>[]
def Jn:K->List Nat
 | .new _ kills=>kills
 | .box _ kills=>kills
 | .st _ d _ _=>[d]
 | .tra x=>[x]
 | .frz x=>[x]
 | .apd _ x _ _ _=>x.rd
 | .bdo _ x _=>[x]
 | .stl x _=>[x]
 | .mvf _ y us _=>y::us
 | .ldh _ d fz us=>if fz then d::us else []
 | .sth _ d _=>[d]
 | .sts _ d _=>[d]
 | .aph x _ _ _ d us=>x::d::us
 | .ldz x _ us _=>x::us
 | .sta x _ _ _=>[x]
 | .cab _ _ d _=>[d]
 | .mup _ _ d _=>[d]
 | .lok _ _ _ u _=>[u]
 | .ldf _ d _ _ _ n us _=>d::(us++AZ n)
 | _=>[]
def OV:K->List Nat
 | .mkw _ _ l=>l
 | .mvp x d=>if x=d then [d] else []
 | _=>[]
def Mr:K->List Nat
 | .mkw _ n _=>n.rd
 | .mvp x d=>if x=d then [] else [x]
 | .adr x d _=>if x=d then [] else [x]
 | k=>rdK k
def H3:Reg->Bool
 | .box _=>true
 | .bxg _=>true
 | .bxh _ _=>true
 | .bxf _ _=>true
 | _=>false
theorem wB{r:Reg}(h:Ir r=true):H3 r=true:=by cases r <;> first | rfl | cases h
def OW:K->List Nat
 | .adr x d _=>if x=d then [d] else []
 | _=>[]
section
variable(o:IOp)(t:Nat)
def NB:Bool:=(match o.k with | .cab _ _ d _=>d==t | _=>false)&&(!(o.dst==some t)&&(o.g.isNone && !(o.ks.contains t)))
def LA:Bool:=NB o t || ((match o.k with | .sth _ d _=>d==t | _=>false)&&(o.dst.isNone&&(o.g.isNone && !(o.ks.contains t))))
def XZ:Bool:=(match o.k with | .new _ _=>true | _=>false)&&(o.dst==some t&&o.g.isNone)
end
def IOp.rd(o:IOp):List Nat:=rdK o.k++o.g.toList.map (·.1)
def IOp.wr(o:IOp):List Nat:=Jn o.k++(o.dst.toList++o.ks)
def CZ(l:List Nat)(s s':H):Prop:=∀ t∈l,Ag s t=Ag s' t
theorem CZ.left{l m:List Nat}{s s':H}(h:CZ (l++m) s s'):CZ l s s':=fun t a=>h t (B9 _ a)
theorem CZ.right{l m:List Nat}{s s':H}(h:CZ (l++m) s s'):CZ m s s':=fun t a=>h t (BT _ a)
section
variable{t:Nat}{m:List Nat}{s s':H}
theorem CZ.head(h:CZ (t::m) s s'):Ag s t=Ag s' t:=h t (AKh ..)
theorem CZ.tail(h:CZ (t::m) s s'):CZ m s s':=fun u hu=>h u (AJ _ hu)
end
theorem AW{o:Opd}{s s':H}(h:CZ o.rd s s'):o.av s=o.av s':=by
 cases o with
 | t n=>simp only[Opd.av,Opd.reg,h n (by simp[Opd.rd])]
 | c x=>rfl
theorem OX{o:Opd}{s s':H}(h:CZ o.rd s s'):o.reg s=o.reg s':=by
 cases o with
 | t n=>simp only[Opd.reg,h n (by simp[Opd.rd])]
 | c x=>rfl
theorem OY{o:Option Opd}{d:Nat}{s s':H}(h:CZ (rdO o) s s'):H_ s d o=H_ s' d o:=by
 cases o with
 | none=>rfl
 | some o=>simp only[H_,AW (o:=o) h]
theorem Ff{s s':H}:∀ {l:List Opd},CZ (G6 l) s s'->avs s l=avs s' l
 | [],_=>rfl
 | o::l,h=>by
  have h1:CZ o.rd s s':=fun t a=>h t (by simp[G6,a]);have h2:CZ (G6 l) s s':=fun t a=>h t (by simp only[G6,OI,AK];exact .inr a);simp only[avs,AW h1,Ff h2]
theorem Kv{s s':H}:∀ {ps:List (Nat × Nat × Opd)} {cs:List AV},CZ (XY ps) s s'->GW s cs ps=GW s' cs ps
 | [],_,_=>rfl
 | (off,n,o)::ps,cs,h=>by
  have h1:CZ o.rd s s':=fun t a=>h t (by simp[XY,a]);have h2:CZ (XY ps) s s':=fun t a=>h t (by simp only[XY,OI,AK];exact .inr a);have c:∀ b:List AV,GW s b ps=GW s' b ps:=fun b=>Kv h2;simp only[GW,AW h1,c]
theorem Jr{l:List Nat}{s s':H}{p:Reg->Bool}(h:CZ l s s'):(l.all fun t=>p (Ag s t))=(l.all fun t=>p (Ag s' t)):=by
 induction l with
 | nil=>rfl
 | cons t l a=>simp only[F7,h.head,a h.tail]
theorem Ka{us:List Nat}{s s':H}(h:CZ us s s'){u:Nat}(hu:us.contains u=true):Ag s u=Ag s' u:=h u (by simpa using hu)
theorem LB{s s':H}{us:List Nat}(h:CZ us s s'):∀ {ls:List (Nat × Nat)} {cs:List AV},ls.all (fun p=>us.contains p.2)=true->Jp s ls cs=Jp s' ls cs
 | [],_,_=>rfl
 | (o,u)::ls,cs,hl=>by
  simp only[F7,U] at hl;have a:∀ cs,Jp s ls cs=Jp s' ls cs:=fun cs=>LB h hl.2;simp only[Jp,Ka h hl.1,a]
theorem V_{s s':H}{us:List Nat}(h:CZ us s s'):∀ {ls:List (Nat × Nat)} {cs:List AV},ls.all (fun p=>us.contains p.2)=true->L9 s ls cs=L9 s' ls cs
 | [],_,_=>rfl
 | (o,u)::ls,cs,hl=>by
  simp only[F7,U] at hl;have a:∀ cs,L9 s ls cs=L9 s' ls cs:=fun cs=>V_ h hl.2;simp only[L9,Ka h hl.1,a]
theorem Afa{s s':H}{us:List Nat}(h:CZ us s s'){o:Opd}(ho:CZ o.rd s s'):avH s us o=avH s' us o:=by
 have:∀ (cs:List AV) (ls:List (Nat × Nat)),ls.all (fun p=>us.contains p.2)=true->L9 s ls cs=L9 s' ls cs:=fun cs ls hl=>V_ h hl;unfold avH;rw[OX ho];split
 ·rfl
 ·split
  next hl=>rw[this _ _ hl]
  ·rfl
 ·rfl
theorem Wa{s s':H}{us:List Nat}(hu:CZ us s s'):∀ {l:List Opd},CZ (G6 l) s s'->avsH s us l=avsH s' us l
 | [],_=>rfl
 | o::l,h=>by
  have h1:CZ o.rd s s':=fun t a=>h t (by simp[G6,a]);have h2:CZ (G6 l) s s':=fun t a=>h t (by simp only[G6,OI,AK];exact .inr a);simp only[avsH,Afa hu h1,Wa hu h2]
theorem kS{ls:List (Nat × Nat)}{i:Nat}{p:Nat × Nat->Bool}(h:ls.all p=true):(OS ls i).all p=true :=
 AKf.2 fun x a=>AKf.1 h x (Gj.1 a).1
theorem Wb{s s':H}{d off:Nat}{fz:Bool}{us:List Nat}{cs:List AV}{ls:List (Nat × Nat)}(h:CZ us s s'):IK s d off fz us cs ls=IK s' d off fz us cs ls:=by
 unfold IK;split
 next hl=>rw[LB h (kS hl)]
 ·rfl
theorem wC{s s':H}{x y:Nat}{us zs:List Nat}{cs:List AV}{ls:List (Nat × Nat)}(h:CZ us s s'):OT s x y us zs cs ls=OT s' x y us zs cs ls:=by
 unfold OT;split
 next hl=>rw[LB h hl]
 ·rfl
theorem wD{s s':H}{x n:Nat}{us zs:List Nat}{cs:List AV}{ls:List (Nat × Nat)}(h:CZ us s s'):OU s x n us zs cs ls=OU s' x n us zs cs ls:=by
 unfold OU;split
 next hl=>rw[LB h hl]
 ·rfl
theorem Tc{s s':H}:∀ {qs:List (Nat × Nat)} {cs:List AV},CZ (qs.map (·.2)) s s'->J_ s qs cs=J_ s' qs cs
 | [],_,_=>rfl
 | (o,u)::qs,cs,h=>by
  have a:∀ cs,J_ s qs cs=J_ s' qs cs:=fun cs=>Tc h.tail;simp only[J_,h.head,a]
theorem X_{s s':H}:∀ {us:List Nat},CZ us s s'->XU s us=XU s' us
 | [],_=>rfl
 | u::us,h=>by simp only[XU,h.head,X_ h.tail]
theorem Fz:∀ (l:List (Nat × Reg)) (s:H),C (A5 s l)=C s
 | [],_=>rfl
 | (t,r)::l,s=>by rw[A5,Fz l,AU]
theorem Afb{F:Bh}{k:K}{s s':H}(hl:C s=C s')(h:CZ (rdK k) s s'):A8 F s k=A8 F s' k:=by
 cases k <;> simp only[rdK] at h
 case mov x=>simp only[A8,AW h]
 case pick c a b=>simp only[A8,AW h.left,AW h.right.left,AW h.right.right]
 case bin op x y=>simp only[A8,AW h.left,AW h.right]
 case eqb neg x y=>simp only[A8,AW h.left,AW h.right]
 case eqv neg n x y=>simp only[A8,AW h.left,AW h.right]
 case un op x=>simp only[A8,AW h]
 case cv k x=>simp only[A8,AW h]
 case new z kills=>rfl
 case box x kills=>simp only[A8,AW h]
 case bld z ps=>simp only[A8,Kv h]
 case bls n z ps=>simp only[A8,Kv h]
 case adr x d off=>simp only[A8,h.head]
 case ld x d n one=>simp only[A8,h.head,h.tail.head]
 case st x d n v=>simp only[A8,h.head,h.tail.head,AW h.tail.tail]
 case ixa x i k=>simp only[A8,h.head,AW h.tail]
 case six x i=>simp only[A8,AW h.left,AW h.right]
 case ext x i=>simp only[A8,AW h]
 case len x=>simp only[A8,AW h]
 case mx xs=>simp only[A8,Ff h]
 case mn xs=>simp only[A8,Ff h]
 case call f xs=>simp only[A8,Ff h]
 case clo f xs=>simp only[A8,Ff h]
 case cpy x=>simp only[A8,h.head]
 case tra x=>simp only[A8,h.head]
 case frz x=>simp only[A8,h.head]
 case mks z n=>simp only[A8,AW h]
 case blo k n z ps=>simp only[A8,Kv h]
 case apd ow x y k B=>simp only[A8,OX h.left,AW h.right]
 case sli x lo hi mx k=>simp only[A8,AW h.left,OY h.right.left,OY h.right.right.left,OY h.right.right.right]
 case ixo x d i k=>simp only[A8,h.head,h.tail.head,AW h.tail.tail]
 case lno x d=>simp only[A8,h.head,h.tail.head]
 case nlo k=>rfl
 case bdo a x l =>
  have hl:(l.all fun t=>DV (Ag s t))=(l.all fun t=>DV (Ag s' t)):=Jr (p:=DV) h.tail.right;simp only[A8,h.head,AW h.tail.left,hl]
 case stl x v=>simp only[A8,h.head,h.tail.head]
 case cpo x=>rfl
 case npt=>rfl
 case mvp x d=>simp only[A8,h.head]
 case mvf x y us zs =>
  have e:∀ cs ls,OT s x y us zs cs ls=OT s' x y us zs cs ls:=fun _ _=>wC h.tail.tail;simp only[A8,h.head,h.tail.head,e]
 case ldh x d fz us =>
  have e:∀ off cs ls,IK s d off fz us cs ls=IK s' d off fz us cs ls:=fun _ _ _=>Wb h.tail.tail;simp only[A8,h.head,h.tail.head,e]
 case sth x d v=>simp only[A8,h.head,h.tail.head,h.tail.tail.head]
 case sts x d v=>simp only[A8,h.head,h.tail.head,AW h.tail.tail]
 case aph x y k B d us =>
  simp only[A8,h.head,h.tail.head,AW h.tail.tail.left];split
  ·split
   ·split <;> try rfl
    split
    ·split
     next hc=>rw[Ka h.tail.tail.right hc.2]
     ·rfl
    ·rfl
   ·rfl
  ·rfl
 case lda x n us=>simp only[A8,h.head]
 case ldz x n us zs =>
  have e:∀ cs ls,OU s x n us zs cs ls=OU s' x n us zs cs ls:=fun _ _=>wD h.tail;simp only[A8,h.head,e]
 case blh z qs=>simp only[A8,Tc h]
 case sta x v n us=>simp only[A8,h.head,h.tail.head]
 case bwh f xs us=>simp only[A8,Wa h.right h.left]
 case cab f x d xs=>simp only[A8,h.head,h.tail.head,Ff h.tail.tail]
 case mkw z n l =>
  have hl:(l.all fun t=>DV (Ag s t))=(l.all fun t=>DV (Ag s' t)):=Jr (p:=DV) h.right;simp only[A8,AW h.left,hl]
 case clw f xs d l =>
  have hl:(l.all fun t=>MJ (Ag s t) d)=(l.all fun t=>MJ (Ag s' t) d):=Jr (p:=fun r=>MJ r d) h.right;simp only[A8,Ff h.left,hl]
 case sbn op x y=>simp only[A8,AW h.left,AW h.right]
 case sln x=>simp only[A8,AW h]
 case apn y k B l =>
  have hl:(l.all fun t=>DV (Ag s t))=(l.all fun t=>DV (Ag s' t)):=Jr (p:=DV) h.right;simp only[A8,AW h.left,hl]
 case mkm=>rfl
 case mlk sk x d k=>simp only[A8,h.head,h.tail.head,AW h.tail.tail]
 case mup sk x d k=>simp only[A8,h.head,h.tail.head,AW h.tail.tail]
 case blm u k=>simp only[A8,h.head]
 case bom x us=>simp only[A8,h.head]
 case lok f x d u xs=>simp only[A8,h.head,h.tail.head,h.tail.tail.head,Ff h.tail.tail.tail]
 case cpf f xs us=>simp only[A8,Ff h.left,X_ h.right]
 case ldf x d y c hi n us kp =>
  have e:∀ off cs ls,IK s d off false us cs ls=IK s' d off false us cs ls:=fun _ _ _=>Wb h.tail.tail.tail.left;have g:(kp.all fun t=>UA (Ag s t))=(kp.all fun t=>UA (Ag s' t)):=Jr (p:=UA) h.tail.tail.tail.right;simp only[A8,h.head,h.tail.head,h.tail.tail.head,e,g,hl]
 case bad=>rfl
theorem NC{s:H}{us:List Nat}:∀ {ls:List (Nat × Nat)} {cs b:List AV} {l:List (Nat × Reg)},ls.all (fun p=>us.contains p.2)=true->Jp s ls cs=some (b,l)->∀ p∈l,p.1∈us
 | [],_,_,_,_,h=>by cases h;intro p a;cases a
 | (o,u)::ls,cs,b,l,hl,h=>by
  simp only[F7,U] at hl;simp only[Jp] at h;split at h
  ·split at h
   ·rename_i hf;cases h;intro p a;rcases Aw.1 a with rfl | a
    ·simpa using hl.1
    ·exact NC hl.2 hf p a
   ·cases h
  ·cases h
theorem App{F:Bh}{k:K}{s:H}{r:Reg}{l:List (Nat × Reg)}(h:A8 F s k=some (r,l)):∀ p∈l,p.1∈Jn k:=by
 cases k
 case new z kills=>simp only[A8,Ac,Cc] at h;obtain⟨_,rfl⟩:=h;simp[Jn]
 case box x kills =>
  simp only[A8] at h;split at h
  ·simp only[Ac,Cc] at h;obtain⟨_,rfl⟩:=h;simp[Jn]
  ·split at h
   ·simp only[Ac,Cc] at h;obtain⟨_,rfl⟩:=h;simp[Jn]
   ·cases h
  ·cases h
 case st x d n v =>
  simp only[A8] at h;split at h
  ·cases h
  ·split at h
   ·cases h
   ·split at h
    ·split at h
     ·simp only[S] at h;obtain⟨a,_,h⟩:=h;cases h;simp[Jn]
     ·cases h
    ·split at h
     ·split at h
      ·simp only[S] at h;obtain⟨a,_,h⟩:=h;cases h;simp[Jn]
      ·simp only[S] at h;obtain⟨a,_,h⟩:=h;cases h;simp[Jn]
      ·simp only[S] at h;obtain⟨a,_,h⟩:=h;cases h;simp[Jn]
      ·cases h
     ·cases h
    ·cases h
 case tra x =>
  simp only[A8] at h;split at h <;> cases h <;> simp[Jn]
 case frz x =>
  simp only[A8] at h;split at h <;> cases h <;> simp[Jn]
 case bdo a x ls =>
  simp only[A8] at h;repeat' split at h
  all_goals cases h
  simp[Jn]
 case stl x v =>
  simp only[A8] at h;repeat' split at h
  all_goals cases h
  simp[Jn]
 case cpo x =>
  simp only[A8] at h;cases h;simp[Jn]
 case apd ow x y k B =>
  have e:∀ p∈XT x,p.1∈x.rd:=by cases x <;> simp[XT,Opd.rd]
  simp only[A8] at h;intro p b;repeat' split at h
  all_goals first
   | (cases h;exact e p b)
   | (cases h;cases b)
   | cases h
 case ldh x d fz us =>
  simp only[A8] at h;intro p b;repeat' split at h
  all_goals first
   | (cases h;cases b;done)
   | (
    unfold IK at h;split at h
    ·rename_i hl;split at h
     case isFalse=>cases h
     split at h
     ·rename_i i g hf;have e:∀ p∈g,p.1∈us:=by
       split at hf
       ·exact NC (kS hl) hf
       ·cases hf;intro p b;cases b
      repeat' split at h
      all_goals first
       | cases h
       | skip
      all_goals first
       | (cases b;done)
       | (
         rename_i j;simp only[AK,Aw,A3,or_false] at b;simp only[Jn,j,if_true,Aw];rcases b with b | rfl
         ·exact .inr (e p b)
         ·exact .inl rfl)
     ·cases h
    ·cases h)
   | cases h
 case sth x d v =>
  simp only[A8] at h;repeat' split at h
  all_goals cases h
  all_goals simp[Jn]
 case sts x d v =>
  simp only[A8] at h;repeat' split at h
  all_goals cases h
  all_goals simp[Jn]
 case aph x y k B d us =>
  simp only[A8] at h;intro p b;repeat' split at h
  all_goals first
   | cases h
   | (
    unfold aph0 at h;repeat' split at h
    all_goals cases h
    all_goals cases b)
   | (
    rename_i hc;unfold wA at h;repeat' split at h
    all_goals cases h
    simp only[Aw,A3,or_false] at b;have:=hc.2;simp only[CX,DI] at this;rcases b with rfl | rfl | rfl <;> simp[Jn,this])
 case mvf x y us zs =>
  simp only[A8] at h;intro p b;split at h
  ·split at h
   ·cases h;simp only[Aw,A3,or_false] at b;rw[b];exact AKh
   ·unfold OT at h;split at h
    ·rename_i hl;split at h
     ·rename_i i g hf;split at h <;> cases h;simp only[AK,Aw,A3,or_false] at b;rcases b with b | rfl
      ·exact AJ _ (NC hl hf p b)
      ·exact AKh
     ·cases h
    ·cases h
   ·cases h
  ·cases h
 case ldz x n us zs =>
  simp only[A8] at h;intro p b;split at h
  ·split at h <;> cases h;cases b
  rotate_left
  ·split at h <;> cases h;cases b
  ·cases h
  ·unfold OU at h;split at h
   ·rename_i hl;split at h
    ·rename_i i g hf;split at h <;> cases h;simp only[AK,Aw,A3,or_false] at b;rcases b with b | rfl
     ·exact AJ _ (NC hl hf p b)
     ·exact AKh
    ·cases h
   ·cases h
 case sta x v n us =>
  simp only[A8] at h;repeat' split at h
  all_goals cases h
  all_goals simp[Jn]
 case cab f x d xs =>
  simp only[A8] at h;repeat' split at h
  all_goals cases h
  all_goals simp[Jn]
 case mup sk x d k =>
  simp only[A8] at h;repeat' split at h
  all_goals cases h
  all_goals simp[Jn]
 case lok f x d u xs =>
  simp only[A8] at h;repeat' split at h
  all_goals cases h
  all_goals simp[Jn]
 case ldf x d y c hi n us kp =>
  simp only[A8] at h;intro p b;split at h
  case h_2=>cases h
  split at h
  case isFalse=>cases h
  split at h
  ·split at h
   case h_2=>cases h
   split at h
   ·split at h
    case h_2=>cases h
    split at h
    case isFalse=>cases h
    rename_i hc;cases h;simp only[AK,Aw,A3,or_false,Is,Cb,Gj] at b;rcases b with (⟨t,m,rfl⟩ | ⟨q,o,rfl⟩) | rfl
    ·simp only[Jn,Aw,AK];exact .inr (.inr m.1)
    ·have:=AKf.1 hc.2.2.2.1 q o;simp only[Jn,Aw,AK];exact .inr (.inl (by simpa using this))
    ·simp[Jn]
   ·split at h <;> cases h;cases b
  ·unfold IK at h;repeat' split at h
   all_goals first
    | (cases h;cases b;done)
    | (cases h;done)
    | (rename_i hf;cases hf)
  ·cases h
 all_goals
  have:l=[]:=by
   revert h;simp only[A8];repeat' split
   all_goals
    intro h;first
     | cases h;rfl
     | (simp only[S] at h;obtain⟨_,_,h⟩:=h;cases h;rfl)
     | cases h
  subst this;intro p b;cases b
def Td(F:Bh)(o:IOp)(s:H):Option (List (Nat × Reg)) :=
 match EF s o.g with
 | none=>none
 | some false=>some (o.dst.toList.map fun d=>(d,.val .undef))
 | some true=>(A8 F s o.k).map fun p=>p.2++o.dst.toList.map fun d=>(d,p.1)
def Sf(F:Bh)(o:IOp)(s:H):Option (List (Nat × Reg)):=(Td F o (kill s o.ks)).map fun l=>(o.ks.map fun t=>(t,Reg.dead))++l
theorem Do(s:H)(l m:List (Nat × Reg)):A5 s (l++m)=A5 (A5 s l) m:=by
 induction l generalizing s with
 | nil=>rfl
 | cons p l a=>obtain⟨t,r⟩:=p;simp only[HZ,A5,a]
theorem wE(s:H)(d:Option Nat)(r:Reg):BD s d r=A5 s (d.toList.map fun d=>(d,r)):=by
 cases d <;> rfl
theorem kU(F:Bh)(o:IOp)(s:H):Hh F o s=(Td F o s).map (A5 s):=by
 simp only[Hh,Td];cases EF s o.g with
 | none=>rfl
 | some b =>
  cases b with
  | false=>simp only[Am,wE]
  | true =>
   cases A8 F s o.k with
   | none=>rfl
   | some p=>obtain⟨r,l⟩:=p;simp only[Am,Do,wE]
theorem Ya(F:Bh)(o:IOp)(s:H):Ee F o s=(Sf F o s).map (A5 s):=by
 simp only[Ee,Sf,kU,Option.map_map];congr 1;funext l;simp only[Function.comp,Do,kill]
theorem EL{s:H}{t u:Nat}{r:Reg}(h:t ≠ u):Ag (s.set t r) u=Ag s u:=by
 simp only[Ag,Z,DX h]
theorem Cf(s:H)(d:Nat)(r:Reg)(t:Nat):Ag (s.set d r) t=if d=t/\d<C s then r else Ag s t:=by
 simp only[Ag,Z,AJj];by_cases h:d=t
 ·subst h;by_cases h2:d<C s
  ·simp[h2]
  ·simp[h2]
 ·simp[h]
theorem Wc(k:Nat)(s:H)(t:Nat):Ag (s.set k .dead) t=if k=t then .dead else Ag s t:=by
 rw[Cf];by_cases h:k=t
 ·subst h;rw[Ae rfl];split
  ·rfl
  ·rename_i hn;have:C s<=k:=by simpa using hn
   simp only[Ag,Z,AX this];rfl
 ·rw[Al h,Al (fun e=>h e.1)]
theorem C_(ks:List Nat):∀ (s:H) (t:Nat),Ag (kill s ks) t=if t∈ks then .dead else Ag s t:=by
 unfold kill;induction ks with
 | nil=>intro s t;simp[A5]
 | cons k ks a =>
  intro s t;simp only[Bg,A5];rw[a,Wc];by_cases h1:t∈ks
  ·simp[h1]
  ·by_cases h2:k=t
   ·subst h2;simp
   ·have b:¬ t=k:=fun e=>h2 e.symm;simp[h1,h2,b]
theorem wF{l ks:List Nat}{s s':H}(h:CZ l s s'):CZ l (kill s ks) (kill s' ks):=by
 intro t a;rw[C_,C_,h t a]
theorem nQ{g:Option (Nat × Bool)}{s s':H}(h:CZ (g.toList.map (·.1)) s s'):EF s g=EF s' g:=by
 cases g with
 | none=>rfl
 | some p=>obtain⟨t,b⟩:=p;simp only[EF,h t (by simp)]
section
variable{F:Bh}{o:IOp}{s:H}{l:List (Nat × Reg)}
theorem Yb(h:Td F o s=some l):∀ p∈l,p.1∈o.wr:=by
 simp only[Td] at h;intro p a;split at h
 ·cases h
 ·cases h;simp only[Cb] at a;obtain⟨d,hd,rfl⟩:=a;exact BT _ (B9 _ hd)
 ·simp only[S] at h;obtain⟨⟨r,e⟩,b,rfl⟩:=h;rcases AK.1 a with a | a
  ·exact B9 _ (App b p a)
  ·simp only[Cb] at a;obtain⟨d,hd,rfl⟩:=a;exact BT _ (B9 _ hd)
theorem kV(h:Sf F o s=some l):∀ p∈l,p.1∈o.wr:=by
 simp only[Sf,S] at h;obtain⟨l,h,rfl⟩:=h;intro p a;rcases AK.1 a with a | a
 ·simp only[Cb] at a;obtain⟨t,c,rfl⟩:=a;simp[IOp.wr,c]
 ·exact Yb h p a
end
theorem G1{l:List (Nat × Reg)}{u:Nat}:∀ {s:H},(∀ p∈l,p.1 ≠ u)->Ag (A5 s l) u=Ag s u:=by
 induction l with
 | nil=>intro s _;rfl
 | cons p l a =>
  intro s h;obtain⟨t,r⟩:=p;simp only[A5];rw[a (fun q b=>h q (AJ _ b)),EL (h (t,r) (AKh ..))]
theorem Afc{l:List (Nat × Reg)}{t:Nat}{r:Reg}:∀ {s:H},(∀ p∈l,p.1 ≠ t)->A5 (s.set t r) l=(A5 s l).set t r:=by
 induction l with
 | nil=>intro s _;rfl
 | cons p l a =>
  intro s h;obtain⟨u,q⟩:=p;simp only[A5];rw[List.set_comm _ _ (CW (h (u,q) (AKh ..))),a (fun p b=>h p (AJ _ b))]
theorem wG{l m:List (Nat × Reg)}:∀ {s:H},(∀ p∈l,∀ q∈m,p.1 ≠ q.1)->A5 (A5 s l) m=A5 (A5 s m) l:=by
 induction l with
 | nil=>intro s _;rfl
 | cons p l b =>
  intro s h;obtain⟨t,r⟩:=p;simp only[A5];rw[b (fun p c q a=>h p (AJ _ c) q a),Afc (fun q a=>CW (h (t,r) (AKh ..) q a))]
def Sg(a b:IOp):Bool:=a.wr.all (fun t=>(!((Mr b.k++b.g.toList.map (·.1)).contains t)&&(!((OV b.k).contains t) || NB a t)&&(!((OW b.k).contains t) || LA a t)) && !(b.wr.contains t))&&b.wr.all (fun t => !((Mr a.k++a.g.toList.map (·.1)).contains t)&&(!((OV a.k).contains t) || (XZ b t || NB b t))&&(!((OW a.k).contains t) || LA b t))
theorem wH{a b:IOp}(h:Sg a b=true):(∀ t∈a.wr,(t ∉ Mr b.k++b.g.toList.map (·.1)/\(t∈OV b.k->NB a t=true)/\(t∈OW b.k->LA a t=true))/\t ∉ b.wr) /\
  ∀ t∈b.wr,t ∉ Mr a.k++a.g.toList.map (·.1)/\(t∈OV a.k->XZ b t=true\/NB b t=true)/\(t∈OW a.k->LA b t=true):=by
 simp only[Sg,U,AKf,Bl,CX,J6,CD] at h;refine⟨fun t c=>⟨⟨(h.1 t c).1.1.1,fun hs => ?_,fun hs => ?_⟩,(h.1 t c).2⟩,fun t c=>⟨(h.2 t c).1.1,fun hs => ?_,fun hs => ?_⟩⟩
 ·exact (h.1 t c).1.1.2.resolve_left fun h1=>h1 hs
 ·exact (h.1 t c).1.2.resolve_left fun h1=>h1 hs
 ·exact (h.2 t c).1.2.resolve_left fun h1=>h1 hs
 ·exact (h.2 t c).2.resolve_left fun h1=>h1 hs
section
variable{F:Bh}
theorem Apq{k:K}{s s':H}{p:Reg × List (Nat × Reg)}(hl:C s=C s')(h:CZ (Mr k) s s')(hs:∀ t∈OV k,Ag s' t=Ag s t\/Ir (Ag s' t)=true)(J:∀ t∈OW k,Ag s' t=Ag s t\/(H3 (Ag s t)=true/\H3 (Ag s' t)=true))(b:A8 F s k=some p):A8 F s' k=some p:=by
 cases k
 case mkw z n l =>
  simp only[A8] at b |-;rw[<- AW (o:=n) h];split at b
  ·split at b
   ·rename_i hl;rw[Ae (AKf.2 fun t w => ?_)]
    ·exact b
    ·have h1:=AKf.1 hl t w;rcases hs t w with e | e
     ·rw[e];exact h1
     ·exact vZ e
   ·cases b
  ·cases b
 case mvp x d =>
  simp only[A8] at b |-;by_cases A:x=d
  ·subst A;rw[Ae rfl] at b |-;split at b
   ·rename_i R;rcases hs x (by simp[OV]) with e | e
    ·rw[e,Ae R];exact b
    ·rw[Ae (by rw[e];rfl)];exact b
   ·cases b
  ·rw[Al A] at b |-;rw[<- h x (by simp[Mr,A])];exact b
 case adr x d off =>
  by_cases A:x=d
  ·subst A;rcases J x (by simp[OW]) with e | ⟨j,i⟩
   ·simp only[A8,e] at b |-;exact b
   ·have h1:∀ {s:H},H3 (Ag s x)=true->A8 F s (.adr x x off)=some (.ptr x off,[]):=fun {s} N=>by
     simp only[A8];cases hr:Ag s x <;> rw[hr] at N <;> first | (cases N;done) | simp only[if_true]
    rw[h1 j] at b;rw[h1 i];exact b
  ·simp only[A8,h x (by simp[Mr,A])] at b |-;exact b
 all_goals
  simp only[Mr] at h;rw[<- Afb hl h];exact b
theorem kW{o:IOp}{s s':H}{l:List (Nat × Reg)}(hl:C s=C s')(h:CZ (Mr o.k++o.g.toList.map (·.1)) s s')(hs:∀ t∈OV o.k,Ag s' t=Ag s t\/Ir (Ag s' t)=true)(J:∀ t∈OW o.k,Ag s' t=Ag s t\/(H3 (Ag s t)=true/\H3 (Ag s' t)=true))(c:Sf F o s=some l):Sf F o s'=some l:=by
 have O:CZ (Mr o.k++o.g.toList.map (·.1)) (kill s o.ks) (kill s' o.ks):=wF h;have T:∀ t∈OV o.k,Ag (kill s' o.ks) t=Ag (kill s o.ks) t\/Ir (Ag (kill s' o.ks) t)=true:=by
  intro t w;rw[C_,C_];split
  ·exact .inl rfl
  ·exact hs t w
 have V:∀ t∈OW o.k,Ag (kill s' o.ks) t=Ag (kill s o.ks) t\/(H3 (Ag (kill s o.ks) t)=true/\H3 (Ag (kill s' o.ks) t)=true):=by
  intro t w;rw[C_,C_];split
  ·exact .inl rfl
  ·exact J t w
 simp only[Sf,Td,S] at c |-;obtain⟨I,h0,e⟩:=c;refine⟨I,?_,e⟩;rw[<- nQ O.right];split at h0
 ·cases h0
 ·exact h0
 ·simp only[S] at h0 |-;obtain⟨p,a,i⟩:=h0;exact⟨p,Apq (by unfold kill;rw[Fz,Fz,hl]) O.left T V a,i⟩
theorem Avy{o:IOp}{s:H}{l:List (Nat × Reg)}{t:Nat}(hn:XZ o t=true)(c:Sf F o s=some l):Ag (A5 s l) t=Ag s t\/Ir (Ag (A5 s l) t)=true:=by
 simp only[XZ,U,AM] at hn;obtain⟨h1,h2,m⟩:=hn;simp only[Sf,Td,S] at c;obtain⟨I,h0,rfl⟩:=c;have B:o.g=none:=by cases D:o.g <;> rw[D] at m <;> first | rfl | cases m
 cases b:o.k <;> rw[b] at h1 <;> first | (cases h1;done) | skip
 rename_i z ks;rw[b,B] at h0;simp only[EF,A8,Am,Ac] at h0;subst h0;rw[h2,<- Ci,Do];simp only[ACa,Bg,C1,A5];rw[Cf];split
 ·exact .inr rfl
 ·rename_i hc;refine .inl ?_;have P:C s<=t:=by
   have hl:∀ (l:List (Nat × Reg)) (s:H),C (A5 s l)=C s:=by
    intro l;induction l with
    | nil=>intro s;rfl
    | cons p l E=>intro s;obtain⟨u,r⟩:=p;simp only[A5,E,AU]
   rw[hl] at hc;simpa using hc
  have hl:∀ (l:List (Nat × Reg)) (s:H),C (A5 s l)=C s:=by
   intro l;induction l with
   | nil=>intro s;rfl
   | cons p l E=>intro s;obtain⟨u,r⟩:=p;simp only[A5,E,AU]
  simp only[Ag,Z];rw[AX (by rw[hl];exact P),AX P]
theorem Q6{o:IOp}{s:H}{l:List (Nat × Reg)}{t:Nat}(hn:NB o t=true)(c:Sf F o s=some l):Ir (Ag s t)=true/\Ir (Ag (A5 s l) t)=true:=by
 simp only[NB,U,Bl,z,ne_eq,CX,J6] at hn;obtain⟨h1,h2,m,L⟩:=hn;simp only[Sf,Td,S] at c;obtain⟨I,h0,rfl⟩:=c;have B:o.g=none:=by cases D:o.g <;> rw[D] at m <;> first | rfl | cases m
 cases b:o.k <;> rw[b] at h1 <;> first | (cases h1;done) | skip
 rename_i f x d xs;simp only[AM] at h1;subst h1;rw[b,B] at h0;simp only[EF,S] at h0;obtain⟨p,a,rfl⟩:=h0;have M:Ag (kill s o.ks) d=Ag s d:=by rw[C_,Al L]
 have G:∀ (r r':Reg) (y:AV),Ag s d=r->Ir r=true->Ir r'=true->p=(.val y,[(d,r')])->Ir (Ag s d)=true/\Ir (Ag (A5 s ((o.ks.map fun t=>(t,Reg.dead))++(p.2++o.dst.toList.map fun d=>(d,p.1)))) d)=true:=by
  rintro r r' y j i W rfl;refine⟨by rw[j];exact i,?_⟩;rw[Do,Do];simp only[A5];rw[G1 (fun q Q e => ?_)]
  ·rw[Cf];split
   ·exact W
   ·rename_i hc;exfalso;have:d<C s:=by
     rcases CH d (C s) with g | g
     ·exact g
     ·simp only[Ag,Z,AX g] at j;subst j;cases i
    have hl:∀ (l:List (Nat × Reg)) (s:H),C (A5 s l)=C s:=by
     intro l;induction l with
     | nil=>intro s;rfl
     | cons p l E=>intro s;obtain⟨u,r⟩:=p;simp only[A5,E,AU]
    rw[hl] at hc;exact hc ⟨rfl,this⟩
  ·simp only[Cb,Option.mem_toList] at Q;obtain⟨u,hu,rfl⟩:=Q;simp only at e;subst e;exact h2 hu
 simp only[A8,M] at a;split at a
 ·split at a
  ·split at a
   ·rename_i hr _;split at a
    ·simp only[Ac] at a;exact G _ _ _ hr rfl rfl a.symm
    ·cases a
   ·rename_i hr _;split at a
    ·simp only[Ac] at a;exact G _ _ _ hr rfl rfl a.symm
    ·cases a
   ·cases a
  ·cases a
 ·cases a
theorem Sh{o:IOp}{s:H}{l:List (Nat × Reg)}{t:Nat}(hn:LA o t=true)(c:Sf F o s=some l):H3 (Ag s t)=true/\H3 (Ag (A5 s l) t)=true:=by
 simp only[LA,CD] at hn;rcases hn with hn | hn
 ·exact⟨wB (Q6 hn c).1,wB (Q6 hn c).2⟩
 simp only[U,Bl,CX,J6] at hn;obtain⟨h1,h2,m,L⟩:=hn;simp only[Sf,Td,S] at c;obtain⟨I,h0,rfl⟩:=c;have B:o.g=none:=by cases D:o.g <;> rw[D] at m <;> first | rfl | cases m
 have X:o.dst=none:=by cases hd:o.dst <;> rw[hd] at h2 <;> first | rfl | cases h2
 cases b:o.k <;> rw[b] at h1 <;> first | (cases h1;done) | skip
 rename_i x d v;simp only[AM] at h1;subst h1;rw[b,B,X] at h0;simp only[EF,S] at h0;obtain⟨p,a,rfl⟩:=h0;have M:Ag (kill s o.ks) d=Ag s d:=by rw[C_,Al L]
 have Y:∀ {r:Reg},Ag s d=r->r ≠ .dead->d<C s:=fun {r} e a1=>by
  rcases CH d (C s) with g | g
  ·exact g
  ·simp only[Ag,Z,AX g] at e;exact absurd e.symm a1
 have G:∀ (r:Reg) (cs:List AV) (ls:List (Nat × Nat)),Ag s d=r->H3 r=true->p=(.dead,[(d,.bxh cs ls)])->H3 (Ag s d)=true/\H3 (Ag (A5 s ((o.ks.map fun t=>(t,Reg.dead))++(p.2++([]:List Nat).map fun d=>(d,p.1)))) d)=true:=by
  rintro r cs ls j i rfl;refine⟨by rw[j];exact i,?_⟩;rw[Do];simp only[A5,C1,Df];rw[Cf,Ae ⟨rfl,by rw[Fz];exact Y j (by rintro rfl;cases i)⟩];rfl
 simp only[A8,M] at a;split at a
 ·split at a
  ·split at a
   ·split at a
    ·rename_i hr;split at a
     ·cases a;exact G _ _ _ hr rfl rfl
     ·cases a
    ·rename_i hr;split at a
     ·cases a;exact G _ _ _ hr rfl rfl
     ·cases a
    ·cases a
   ·cases a
  ·cases a
 ·cases a
end
theorem Afd{F:Bh}{a b:IOp}{s k l:H}(hi:Sg a b=true)(h1:Ee F a s=some k)(h2:Ee F b k=some l) :
  ∃ s',Ee F b s=some s'/\Ee F a s'=some l:=by
 obtain⟨g,i⟩:=wH hi;rw[Ya] at h1 h2;simp only[S] at h1 h2;obtain⟨la,f,rfl⟩:=h1;obtain⟨j,hb,rfl⟩:=h2;have h:=kV f;have kb:=kV hb;replace hb:Sf F b s=some j:=kW (s:=A5 s la) (Fz ..) (fun t d=>G1 fun p c e=>(g p.1 (h p c)).1.1 (e ▸ d)) (fun t d=>by
  by_cases hn:NB a t=true
  ·exact .inr (Q6 hn f).1
  ·exact .inl (G1 fun p c e=>hn (by have:=(g p.1 (h p c)).1.2.1 (e ▸ d);rw[e] at this;exact this)).symm) (fun t d=>by
  by_cases hn:LA a t=true
  ·exact .inr ⟨(Sh hn f).2,(Sh hn f).1⟩
  ·exact .inl (G1 fun p c e=>hn (by have:=(g p.1 (h p c)).1.2.2 (e ▸ d);rw[e] at this;exact this)).symm) hb
 have n:Sf F a (A5 s j)=some la:=kW (Fz ..).symm (fun t d=>(G1 fun p c e=>(i p.1 (kb p c)).1 (e ▸ d)).symm) (fun t d=>by
  by_cases hn:XZ b t=true
  ·exact Avy hn hb
  ·by_cases m:NB b t=true
   ·exact .inr (Q6 m hb).2
   ·exact .inl (G1 fun p c e=>by
     have:=(i p.1 (kb p c)).2.1 (e ▸ d);rw[e] at this;exact this.elim hn m)) (fun t d=>by
  by_cases hn:LA b t=true
  ·exact .inr (Sh hn hb)
  ·exact .inl (G1 fun p c e=>by
     have:=(i p.1 (kb p c)).2.2 (e ▸ d);rw[e] at this;exact hn this)) f
 refine⟨A5 s j,by rw[Ya,hb];rfl,?_⟩;rw[Ya,n];simp only[Am,Ac];exact (wG fun p c q o e=>(g p.1 (h p c)).2 (e ▸ kb q o)).symm
theorem nR{F:Bh}{o:IOp}{l:List IOp}:∀ {s b:H} {m:List IOp},(∀ p∈m,Sg p o=true)->CY F (m++o::l) s=some b ->
  ∃ a,Ee F o s=some a/\CY F (m++l) a=some b:=by
 intro s b m;induction m generalizing s with
 | nil =>
  intro _ h;simp only[Dg,CY] at h |-;cases h1:Ee F o s with
  | none=>rw[h1] at h;cases h
  | some a=>rw[h1] at h;exact⟨a,rfl,h⟩
 | cons p m d =>
  intro c h;simp only[HZ,CY] at h |-;cases h1:Ee F p s with
  | none=>rw[h1] at h;cases h
  | some a =>
   rw[h1] at h;obtain⟨k,e,f⟩:=d (fun q g=>c q (AJ _ g)) h;obtain⟨s',i,j⟩:=Afd (c p (AKh ..)) h1 e;exact⟨s',i,by rw[j];exact f⟩
end Go.Ai
namespace Go.Ai
open Go.RowKit
open _root_.Array renaming getD_eq_getD_getElem?->A4,getElem?_eq_none->A8n,getElem?_eq_some_iff->AR,getElem?_setIfInBounds->Kc,size_setIfInBounds->Ku
open Bool renaming false_eq_true->AC
open False renaming elim->Avr
open Go renaming undef->A9
open Go.Act renaming put->nO
open Go.RowKit.Below renaming refl->DZ
open Go.World renaming cell?->SZ
open List renaming all_eq_true->AKf,any_eq_false->FB,getD_eq_getElem?_getD->Z,getElem?_eq_none->AX,getElem_mem->AF,length->C,length_pos_iff->RA,length_set->AU,map_cons->Bg,mem_cons->Aw,mem_cons_of_mem->AJ,mem_cons_self->AKh,mem_of_mem_drop->Cv,not_mem_nil->A3
open Nat renaming add_assoc->DC,le_trans->AA,lt_irrefl->Kt,lt_of_lt_of_le->Bf,lt_of_not_le->Hd,lt_or_ge->CH
open Option renaming map_some->Am
open Option.some renaming injEq->Ac
def OK(cs:List AV):Prop:=∀ x∈cs,EK x=true
inductive Rd (Y X:Nat->Prop) (w:World):Value->AV->Prop where
 | int (k:IntKind) (n:Int):Rd Y X w (.int k n) (.int k n)
 | bool (b:Bool):Rd Y X w (.bool b) (.bool b)
 | str (s:ByteArray):Rd Y X w (.string s) (.str s)
 | undef:Rd Y X w A9 .undef
 | agg (vs:Array Value) (cs:List AV) (hd:OK cs) (h:vs.size=cs.length) (hc:∀ (i:Nat) (h1:i<vs.size) (h2:i<cs.length),Rd Y X w vs[i] cs[i]):Rd Y X w (.agg vs) (.agg cs)
 | tup (vs:Array Value) (cs:List AV) (h:vs.size=cs.length) (hc:∀ (i:Nat) (h1:i<vs.size) (h2:i<cs.length),Rd Y X w vs[i] cs[i]):Rd Y X w (.tuple vs) (.tup cs)
 | nil:Rd Y X w (.slice none 0 0) .nil
 | nil0:Rd Y X w (.slice none 0 0) (.sl 0 [])
 | e0 (a:Addr) (c:Nat):Rd Y X w (.slice (some a) 0 c) (.sl 0 [])
 | sl (b off n cap:Nat) (cs:List AV) (f:Nat->Value) (hd:OK cs) (hn:n<=cap) (hX:cs ≠ []->¬ X b) (hY:(∃ c∈cs,R9 c=true)->¬ Y b) (hcell:∀ i,i<cs.length->w.cell? ⟨b,off+i,none⟩=some (f i))
   (hr:∀ (i:Nat) (h:i<cs.length),Rd Y X w (f i) cs[i]):Rd Y X w (.slice (some ⟨b,off,none⟩) n cap) (.sl n cs)
 | pt (b off:Nat) (cs:List AV) (f:Nat->Value) (hd:OK cs) (hX:cs ≠ []->¬ X b) (hcell:∀ i,i<cs.length->w.cell? ⟨b,off+i,none⟩=some (f i))
   (hr:∀ (i:Nat) (h:i<cs.length),Rd Y X w (f i) cs[i]):Rd Y X w (.pointer (some ⟨b,off,none⟩)) (.pt cs)
 | fnc (g:Nat) (u:Value) (cs:List AV) (h:Rd Y X w u (.pt cs)):Rd Y X w (.func (.func g) #[] #[u]) (.fnc g cs)
 | io (v:Value) (cs:List AV) (y:AV) (h:Rd Y X w v y):Rd Y X w v (.io cs y)
theorem EW{w w':World}{p:Addr}(h:w'.heap[p.block]? = w.heap[p.block]?):w'.cell? p=w.cell? p:=by
 simp only[SZ,h]
theorem KF{w:World}{p:Addr}{v:Value}(h:w.cell? p=some v):p.block<w.heap.size:=by
 rcases CH p.block w.heap.size with h1 | h1
 ·exact h1
 ·simp[SZ,A8n h1] at h
theorem Rd.world{Y X:Nat->Prop}{w w':World}{v:Value}{x:AV}(h:Rd Y X w v x)(j:∀ b,¬ X b->b<w.heap.size->w'.heap[b]? = w.heap[b]?):Rd Y X w' v x:=by
 induction h with
 | int k n=>exact .int k n
 | bool b=>exact .bool b
 | str s=>exact .str s
 | undef=>exact .undef
 | agg vs cs hd h hc d=>exact .agg vs cs hd h d
 | tup vs cs h hc d=>exact .tup vs cs h d
 | nil=>exact .nil
 | nil0=>exact .nil0
 | e0 a c=>exact .e0 a c
 | sl b off n cap cs f hd hn hX hY hcell hr d =>
  refine .sl b off n cap cs f hd hn hX hY (fun i hi => ?_) d;have h1:=hcell i hi;rw[EW (j b (hX (by intro e;subst e;simp at hi)) (KF h1))];exact h1
 | pt b off cs f hd hX hcell hr d =>
  refine .pt b off cs f hd hX (fun i hi => ?_) d;have h1:=hcell i hi;rw[EW (j b (hX (by intro e;subst e;simp at hi)) (KF h1))];exact h1
 | fnc g u cs h d=>exact .fnc g u cs d
 | io v cs y h d=>exact .io v cs y d
theorem Rd.mono{Y X X':Nat->Prop}{w:World}{v:Value}{x:AV}(h:Rd Y X w v x)(hX:∀ b,X' b->X b\/w.heap.size<=b):Rd Y X' w v x:=by
 induction h with
 | int k n=>exact .int k n
 | bool b=>exact .bool b
 | str s=>exact .str s
 | undef=>exact .undef
 | agg vs cs hd h hc d=>exact .agg vs cs hd h d
 | tup vs cs h hc d=>exact .tup vs cs h d
 | nil=>exact .nil
 | nil0=>exact .nil0
 | e0 a c=>exact .e0 a c
 | sl b off n cap cs f hd hn i hY hcell hr d =>
  refine .sl b off n cap cs f hd hn (fun e hb => ?_) hY hcell d;rcases hX b hb with h1 | h1
  ·exact i e h1
  ·have h0:0<C cs:=RA.2 e;have:=KF (hcell 0 h0);simp only at this;omega
 | pt b off cs f hd i hcell hr d =>
  refine .pt b off cs f hd (fun e hb => ?_) hcell d;rcases hX b hb with h1 | h1
  ·exact i e h1
  ·have h0:0<C cs:=RA.2 e;have:=KF (hcell 0 h0);simp only at this;omega
 | fnc g u cs h d=>exact .fnc g u cs d
 | io v cs y h d=>exact .io v cs y d
section
variable{Y X e g:Nat->Prop}{w:World}{v:Value}{x:AV}
theorem Rd.back1(h:Rd e g w v x)(d:Q4 x=true)(hX:∀ b,X b->g b\/e b)(hY:∀ b,Y b->e b):Rd Y X w v x:=by
 cases h with
 | int k n=>exact .int k n
 | bool b=>exact .bool b
 | str s=>exact .str s
 | undef=>exact .undef
 | agg vs cs hd h hc=>cases d
 | tup vs cs h hc=>cases d
 | nil=>cases d
 | pt _ _ _ _ _ _ _ _=>cases d
 | fnc _ _ _ _=>cases d
 | io _ _ _ _=>cases d
 | nil0=>exact .nil0
 | e0 a c=>exact .e0 a c
 | sl b off n cap cs f hd hn j l hcell hr =>
  simp only[Q4,AKf] at d;have m:∀ c∈cs,¬ e b:=fun c hc=>l ⟨c,hc,d c hc⟩;refine .sl b off n cap cs f hd hn (fun o hb => ?_) (fun ⟨c,hc,_⟩ hb=>m c hc (hY b hb)) hcell (fun i hi => ?_)
  ·obtain⟨c,hc⟩:=List.exists_mem_of_ne_nil cs o;rcases hX b hb with h1 | h1
   ·exact j o h1
   ·exact m c hc h1
  ·have h1:=d _ (AF hi);have h2:=hr i hi;generalize cs[i]=c at h1 h2 |-;generalize f i=u at h2 |-;cases c <;> first | (cases h1;done) | (cases h2;exact .int _ _)
theorem AKe(h:Rd e g w v x)(d:ML x=true)(hX:∀ b,X b->g b\/e b)(hY:∀ b,Y b->e b):Rd Y X w v x:=by
 cases h with
 | agg vs cs hd h hc =>
  simp only[ML,AKf] at d;exact .agg vs cs hd h fun i h1 h2=>(hc i h1 h2).back1 (d _ (AF h2)) hX hY
 | int k n=>exact .int k n
 | bool b=>exact .bool b
 | str s=>exact .str s
 | undef=>exact .undef
 | tup vs cs h hc=>cases d
 | nil=>cases d
 | pt _ _ _ _ _ _ _ _=>cases d
 | fnc _ _ _ _=>cases d
 | io _ _ _ _=>cases d
 | nil0=>exact .nil0
 | e0 a c=>exact .e0 a c
 | sl b off n cap cs f hd hn j l hcell hr=>exact Rd.back1 (.sl b off n cap cs f hd hn j l hcell hr) d hX hY
end
theorem Afe{Y X:Nat->Prop}{w:World}{u:Value}{b:Bool}{n:Nat}{cs:List AV}(h:Rd Y X w u (.sl n cs)):Rd Y X w (.agg #[.bool b,u]) (.agg [.bool b,.sl n cs]):=by
 refine .agg _ _ (fun x a => ?_) rfl (fun i h1 h2 => ?_)
 ·simp only[Aw,A3,or_false] at a;rcases a with rfl | rfl <;> rfl
 ·match i,h2 with
  | 0,_=>exact .bool b
  | 1,_=>exact h
def Gq(Y X:Nat->Prop)(w:World)(b off:Nat)(cs:List AV):Prop :=
 OK cs/\∀ (i:Nat) (h:i<C cs),∃ v,w.cell? ⟨b,off+i,none⟩=some v/\Rd Y X w v cs[i]
theorem Gq.drop{Y X:Nat->Prop}{w:World}{b off:Nat}{cs:List AV}(h:Gq Y X w b off cs)(k:Nat):Gq Y X w b (off+k) (cs.drop k):=by
 obtain⟨hd,h⟩:=h;refine⟨fun x a=>hd x (Cv a),?_⟩;intro i hi;have c:k+i<C cs:=by simp at hi;omega
 obtain⟨v,h1,h2⟩:=h (k+i) c;refine⟨v,by rw[DC];exact h1,?_⟩;simpa using h2
theorem Gq.world{Y X:Nat->Prop}{w w':World}{b off:Nat}{cs:List AV}(h:Gq Y X w b off cs)(a:∀ c,¬ X c->c<w.heap.size->w'.heap[c]? = w.heap[c]?)
  (hb:b<w.heap.size->w'.heap[b]? = w.heap[b]?):Gq Y X w' b off cs:=by
 obtain⟨hd,h⟩:=h;refine⟨hd,?_⟩;intro i hi;obtain⟨v,h1,h2⟩:=h i hi;exact⟨v,by rw[EW (hb (KF h1))];exact h1,h2.world a⟩
theorem Gq.mono{Y X X':Nat->Prop}{w:World}{b off:Nat}{cs:List AV}(h:Gq Y X w b off cs)(hX:∀ b,X' b->X b\/w.heap.size<=b):Gq Y X' w b off cs:=by
 obtain⟨hd,h⟩:=h;refine⟨hd,?_⟩;intro i hi;obtain⟨v,h1,h2⟩:=h i hi;exact⟨v,h1,h2.mono hX⟩
def C6:Value->Option Addr
 | .pointer (some p)=>some p
 | .slice (some p) _ _=>some p
 | .map (some r)=>some ⟨r,0,none⟩
 | .agg vs=>match vs.toList with
  | [.bool _,.slice (some p) _ _]=>some p
  | _=>none
 | .tuple vs=>match vs.toList with
  | [.slice (some p) _ _,.bool _]=>some p
  | _=>none
 | _=>none
def Ax(v:Value):Option Nat:=(C6 v).map (·.block)
def Cm:Reg->Bool
 | .box _=>true
 | .own _ _ _=>true
 | .agn _ _ _ _=>true
 | .bxl _=>true
 | .bxh _ _=>true
 | .bxg _=>true
 | .mp _=>true
 | .bxf _ _=>true
 | _=>false
def Ef(Y X:Nat->Prop)(w:World)(b off:Nat)(cs:List AV):Prop :=
 OK cs/\∃ (vs:Array Value) (T:TypeId),w.heap[b]? = some (.cells vs T (0,0))/\off+C cs<=vs.size/\∀ (i:Nat) (h:i<C cs),∃ v,vs[off+i]? = some v/\Rd Y X w v cs[i]
section
variable{Y X:Nat->Prop}{w:World}{b off:Nat}{cs:List AV}
theorem Ef.mem(h:Ef Y X w b off cs):Gq Y X w b off cs:=by
 obtain⟨hd,vs,T,hb,_,hc⟩:=h;refine⟨hd,?_⟩;intro i hi;obtain⟨v,h1,h2⟩:=hc i hi;exact⟨v,by simp[SZ,hb,h1],h2⟩
theorem Ef.lt(h:Ef Y X w b off cs):b<w.heap.size:=by
 obtain⟨_,vs,T,hb,_⟩:=h;exact (AR.1 hb).1
end
theorem Ef.world{Y X:Nat->Prop}{w w':World}{b off:Nat}{cs:List AV}(h:Ef Y X w b off cs)(a:∀ c,¬ X c->c<w.heap.size->w'.heap[c]? = w.heap[c]?)
  (hb:w'.heap[b]? = w.heap[b]?):Ef Y X w' b off cs:=by
 obtain⟨hd,vs,T,h1,h2,d⟩:=h;exact⟨hd,vs,T,by rw[hb];exact h1,h2,fun i hi=>let ⟨v,e,f⟩:=d i hi; ⟨v,e,f.world a⟩⟩
theorem Ef.mono{Y X X':Nat->Prop}{w:World}{b off:Nat}{cs:List AV}(h:Ef Y X w b off cs)(hX:∀ b,X' b->X b\/w.heap.size<=b):Ef Y X' w b off cs:=by
 obtain⟨hd,vs,T,h1,h2,a⟩:=h;exact⟨hd,vs,T,h1,h2,fun i hi=>let ⟨v,c,d⟩:=a i hi; ⟨v,c,d.mono hX⟩⟩
def Wd(w:World)(b m:Nat):Prop:=∃ (vs:Array Value) (T:TypeId),w.heap[b]? = some (.cells vs T (0,0))/\m<=vs.size
theorem Wd.world{w w':World}{b m:Nat}(h:Wd w b m)(hb:w'.heap[b]? = w.heap[b]?):Wd w' b m:=by
 obtain⟨vs,T,h1,h2⟩:=h;exact⟨vs,T,by rw[hb];exact h1,h2⟩
def EG(Y X B:Nat->Prop)(w:World)(v:Value)(k n:Nat)(cs:List AV):Prop :=
 (v = .slice none 0 0/\n=0/\cs=[]) \/
 ∃ b cap,v = .slice (some ⟨b,0,none⟩) n cap/\n<=cap/\C cs=n*k/\B b/\Ef Y X w b 0 cs/\Wd w b (cap*k)
theorem EG.world{Y X:Nat->Prop}{B:Nat->Prop}{w w':World}{v:Value}{k n:Nat}{cs:List AV}(h:EG Y X B w v k n cs)(f:∀ c,¬ X c->c<w.heap.size->w'.heap[c]? = w.heap[c]?)
  (hb:∀ b,Ax v=some b->b<w.heap.size->w'.heap[b]? = w.heap[b]?):EG Y X B w' v k n cs:=by
 rcases h with h | ⟨b,cap,a,g,i,j,d,l⟩
 ·exact .inl h
 ·have e:w'.heap[b]? = w.heap[b]? := hb b (by rw[a];rfl) d.lt;exact .inr ⟨b,cap,a,g,i,j,d.world f e,l.world e⟩
theorem EG.mono{Y X X':Nat->Prop}{B:Nat->Prop}{w:World}{v:Value}{k n:Nat}{cs:List AV}(h:EG Y X B w v k n cs)(hX:∀ b,X' b->X b\/w.heap.size<=b):EG Y X' B w v k n cs:=by
 rcases h with h | ⟨b,cap,a,c,d,e,f,g⟩
 ·exact .inl h
 ·exact .inr ⟨b,cap,a,c,d,e,f.mono hX,g⟩
theorem EG.lower{Y X:Nat->Prop}{B a:Nat->Prop}{w:World}{v:Value}{k n:Nat}{cs:List AV}(h:EG Y X B w v k n cs)(c:∀ b,B b->a b):EG Y X a w v k n cs:=by
 rcases h with h | ⟨b,cap,d,e,f,g,i,j⟩
 ·exact .inl h
 ·exact .inr ⟨b,cap,d,e,f,c b g,i,j⟩
theorem EG.block{Y X:Nat->Prop}{B:Nat->Prop}{w:World}{v:Value}{k n:Nat}{cs:List AV}(h:EG Y X B w v k n cs){b:Nat}(hb:Ax v=some b):B b/\b<w.heap.size:=by
 rcases h with ⟨rfl,_⟩ | ⟨b',cap,a,e,f,c,d,g⟩
 ·cases hb
 ·rw[a] at hb;simp only[Ax,C6,Am,Ac] at hb;subst hb;exact⟨c,d.lt⟩
theorem EG.frozen{Y X X':Nat->Prop}{B:Nat->Prop}{w:World}{v:Value}{k n:Nat}{cs:List AV}(h:EG Y X B w v k n cs)(hX:∀ b,X' b->X b\/w.heap.size<=b)(hb:∀ b,Ax v=some b->¬ X' b)(hY:∀ b,Y b->¬ B b):Rd Y X' w v (.sl n cs):=by
 rcases h with ⟨rfl,rfl,rfl⟩ | ⟨b,cap,a,d,j,e,f,l⟩
 ·exact .nil0
 have g:¬ X' b:=hb b (by rw[a];rfl);obtain⟨hd,c⟩:=(f.mono hX).mem;subst a;refine .sl b 0 n cap cs (fun i=>(w.cell? ⟨b,0+i,none⟩).getD A9) hd d (fun _=>g) (fun _ h=>hY b h e) (fun i hi => ?_) (fun i hi => ?_)
 ·obtain⟨u,h1,_⟩:=c i hi;rw[h1];rfl
 ·obtain⟨u,h1,h2⟩:=c i hi;rw[h1];exact h2
def wJ:Tag->Value->Value
 | .st b,u => .agg #[.bool b,u]
 | .tp b,u => .tuple #[u,.bool b]
def Kb(Y X B:Nat->Prop)(w:World)(v:Value)(b:Tag)(k n:Nat)(cs:List AV):Prop:=∃ u,v=wJ b u/\EG Y X B w u k n cs
theorem Fg{Y X:Nat->Prop}{B:Nat->Prop}{w:World}{u:Value}{k n:Nat}{cs:List AV}(b:Tag)(h:EG Y X B w u k n cs):Ax (wJ b u)=Ax u:=by
 cases b <;> rcases h with ⟨rfl,_⟩ | ⟨b',cap,rfl,_⟩ <;> rfl
theorem Kb.world{Y X:Nat->Prop}{B:Nat->Prop}{w w':World}{v:Value}{b:Tag}{k n:Nat}{cs:List AV}(h:Kb Y X B w v b k n cs)(a:∀ c,¬ X c->c<w.heap.size->w'.heap[c]? = w.heap[c]?)
  (hb:∀ b,Ax v=some b->b<w.heap.size->w'.heap[b]? = w.heap[b]?):Kb Y X B w' v b k n cs:=by
 obtain⟨u,rfl,h⟩:=h;rw[Fg b h] at hb;exact⟨u,rfl,h.world a hb⟩
theorem Kb.mono{Y X X':Nat->Prop}{B:Nat->Prop}{w:World}{v:Value}{b:Tag}{k n:Nat}{cs:List AV}(h:Kb Y X B w v b k n cs)(hX:∀ b,X' b->X b\/w.heap.size<=b):Kb Y X' B w v b k n cs:=by
 obtain⟨u,e,h⟩:=h;exact⟨u,e,h.mono hX⟩
theorem Kb.lower{Y X:Nat->Prop}{B a:Nat->Prop}{w:World}{v:Value}{b:Tag}{k n:Nat}{cs:List AV}(h:Kb Y X B w v b k n cs)(c:∀ b,B b->a b):Kb Y X a w v b k n cs:=by
 obtain⟨u,e,h⟩:=h;exact⟨u,e,h.lower c⟩
theorem Kb.own{Y X0:Nat->Prop}{Z:Nat->Prop}{B:Nat->Prop}{w:World}{v:Value}{b:Tag}{k n:Nat}{cs:List AV}(h:Kb Y (fun c=>X0 c\/Z c) B w v b k n cs)(a:∀ c,Ax v=some c->Z c):Kb Y (fun c=>X0 c\/Ax v=some c) B w v b k n cs :=
 h.mono fun c hc => .inl (hc.imp id (a c))
theorem Kb.block{Y X:Nat->Prop}{B:Nat->Prop}{w:World}{v:Value}{b:Tag}{k n:Nat}{cs:List AV}(h:Kb Y X B w v b k n cs){c:Nat}(hb:Ax v=some c):B c/\c<w.heap.size:=by
 obtain⟨u,rfl,h⟩:=h;rw[Fg b h] at hb;exact h.block hb
def SubV(k l h:Nat)(u v:Value):Prop:=(u = .slice none 0 0/\v = .slice none 0 0/\l=0/\h=0) \/
 ∃ b n cap,u = .slice (some ⟨b,0,none⟩) n cap/\l<=h/\h<=n/\n<=cap/\v = .slice (if cap=l then some ⟨b,0,none⟩ else some ⟨b,l*k,none⟩) (h-l) (cap-l)
def Kw(Y X:Nat->Prop)(roots:List (Nat × Nat))(tm:Array Value)(w:World)(t:Nat)(vs:Array Value)(cs:List AV)(ls:List (Nat × Nat)):Prop :=
 (∀ p∈ls,(t,p.2)∈roots)/\C cs<=vs.size/\∀ (i:Nat) (h:i<C cs),∃ v,vs[i]? = some v/\v.oneCell'=true/\match Ed ls i with
  | some u=>v=tm.getD u A9
  | none=>cs[i] = .undef\/(EK cs[i]=true/\Rd Y X w v cs[i])
theorem Ic:∀ {ls:List (Nat × Nat)} {i u:Nat},Ed ls i=some u->(i,u)∈ls
 | [],_,_,h=>by cases h
 | (o,v)::ls,i,u,h=>by
  simp only[Ed] at h;split at h
  next e=>cases h;subst e;exact AKh
  ·exact AJ _ (Ic h)
theorem Kw.world{Y X:Nat->Prop}{roots:List (Nat × Nat)}{tm:Array Value}{w w':World}{t:Nat}{vs:Array Value}{cs:List AV}{ls:List (Nat × Nat)}(h:Kw Y X roots tm w t vs cs ls)
  (a:∀ c,¬ X c->c<w.heap.size->w'.heap[c]? = w.heap[c]?):Kw Y X roots tm w' t vs cs ls:=by
 refine⟨h.1,h.2.1,fun i hi => ?_⟩;obtain⟨v,h1,h0,h2⟩:=h.2.2 i hi;refine⟨v,h1,h0,?_⟩;split
 next u hu=>simp only[hu] at h2;exact h2
 next hu=>simp only[hu] at h2;exact h2.imp id fun h=>⟨h.1,h.2.world a⟩
theorem Kw.mono{Y X X':Nat->Prop}{roots:List (Nat × Nat)}{tm:Array Value}{w:World}{t:Nat}{vs:Array Value}{cs:List AV}{ls:List (Nat × Nat)}(h:Kw Y X roots tm w t vs cs ls)
  (hX:∀ b,X' b->X b\/w.heap.size<=b):Kw Y X' roots tm w t vs cs ls:=by
 refine⟨h.1,h.2.1,fun i hi => ?_⟩;obtain⟨v,h1,h0,h2⟩:=h.2.2 i hi;refine⟨v,h1,h0,?_⟩;split
 next u hu=>simp only[hu] at h2;exact h2
 next hu=>simp only[hu] at h2;exact h2.imp id fun h=>⟨h.1,h.2.mono hX⟩
theorem Kw.tmps{Y X:Nat->Prop}{roots:List (Nat × Nat)}{tm a:Array Value}{w:World}{t:Nat}{vs:Array Value}{cs:List AV}{ls:List (Nat × Nat)}(h:Kw Y X roots tm w t vs cs ls)
  (b:∀ p∈ls,a.getD p.2 A9=tm.getD p.2 A9):Kw Y X roots a w t vs cs ls:=by
 refine⟨h.1,h.2.1,fun i hi => ?_⟩;obtain⟨v,h1,h0,h2⟩:=h.2.2 i hi;refine⟨v,h1,h0,?_⟩;split
 next u hu=>simp only[hu] at h2;rw[b _ (Ic hu)];exact h2
 next hu=>simp only[hu] at h2;exact h2
theorem Rd.noMem{Y X a b:Nat->Prop}{w w':World}{v:Value}{c:AV}(h:Rd Y X w v c)(hc:Go.Ai.noMem c=true):Rd a b w' v c:=by
 cases h <;> first | exact .int _ _ | exact .bool _ | exact .str _ | exact .undef | exact .nil | cases hc
def Nst(vs:Array Value)(n b:Nat):Prop:=∃ i v,i<n/\vs[i]? = some v/\Ax v=some b
def Te(Y X B:Nat->Prop)(w:World)(v:Value):AV->Prop
 | .fresh k n es=>EG Y X B w v k n es/\∀ b,Ax v=some b->¬ X b
 | c=>noMem c=true/\Ax v=none/\Rd Y X w v c
def Tf(Y X B:Nat->Prop)(roots:List (Nat × Nat))(tm:Array Value)(w:World)(t:Nat)(vs:Array Value)(cs:List AV)(us:List (Nat × AV)):Prop :=
 (∀ p∈us,(t,p.1)∈roots/\Rd Y (fun b=>X b\/Nst vs (C cs) b) w (tm.getD p.1 A9) p.2)/\C cs<=vs.size /\
 (∀ (i:Nat) (h:i<C cs),∃ v,vs[i]? = some v/\v.oneCell'=true/\Te Y X B w v cs[i]) /\
 ∀ i j v u b,i<C cs->j<C cs->vs[i]? = some v->vs[j]? = some u->Ax v=some b->Ax u=some b->i=j
theorem Te.world{Y X B:Nat->Prop}{w w':World}{v:Value}{c:AV}(h:Te Y X B w v c)(a:∀ c,¬ X c->c<w.heap.size->w'.heap[c]? = w.heap[c]?):Te Y X B w' v c:=by
 cases c <;> first
  | (obtain⟨h1,d⟩:=h;exact⟨h1.world a fun b hb hs=>a b (d b hb) hs,d⟩)
  | exact⟨h.1,h.2.1,h.2.2.noMem h.1⟩
theorem Te.mono{Y X X' B:Nat->Prop}{w:World}{v:Value}{c:AV}(h:Te Y X B w v c)(hX:∀ b,X' b->X b\/w.heap.size<=b):Te Y X' B w v c:=by
 cases c <;> first
  | (
   obtain⟨h1,a⟩:=h;exact⟨h1.mono hX,fun b hb d=>(hX b d).elim (a b hb) fun e=>Kt _ (Bf (EG.block h1 hb).2 e)⟩)
  | exact⟨h.1,h.2.1,h.2.2.noMem h.1⟩
theorem Te.lower{Y X B a:Nat->Prop}{w:World}{v:Value}{c:AV}(h:Te Y X B w v c)(d:∀ b,B b->a b):Te Y X a w v c:=by
 cases c <;> first
  | (obtain⟨h1,e⟩:=h;exact⟨h1.lower d,e⟩)
  | exact h
theorem Te.frz{Y X B:Nat->Prop}{w:World}{v:Value}{c:AV}(h:Te Y X B w v c)(hY:∀ b,Y b->¬ B b)(hc:XV c=true):Rd Y X w v (G' c)/\EK (G' c)=true:=by
 cases c <;> simp only[XV,AC] at hc
 case fresh k n es=>exact⟨EG.frozen h.1 (fun b hb => .inl hb) h.2 hY,rfl⟩
 all_goals exact⟨h.2.2,rfl⟩
theorem Tf.world{Y X B:Nat->Prop}{roots:List (Nat × Nat)}{tm:Array Value}{w w':World}{t:Nat}{vs:Array Value}{cs:List AV}{us:List (Nat × AV)}(h:Tf Y X B roots tm w t vs cs us)
  (a:∀ c,¬ X c->c<w.heap.size->w'.heap[c]? = w.heap[c]?):Tf Y X B roots tm w' t vs cs us :=
 ⟨fun p d=>⟨(h.1 p d).1,(h.1 p d).2.world fun b hb=>a b fun e=>hb (.inl e)⟩,h.2.1,fun i hi=>let ⟨v,f,g,j⟩:=h.2.2.1 i hi; ⟨v,f,g,j.world a⟩,h.2.2.2⟩
theorem Tf.mono{Y X X' B:Nat->Prop}{roots:List (Nat × Nat)}{tm:Array Value}{w:World}{t:Nat}{vs:Array Value}{cs:List AV}{us:List (Nat × AV)}(h:Tf Y X B roots tm w t vs cs us)
  (hX:∀ b,X' b->X b\/w.heap.size<=b):Tf Y X' B roots tm w t vs cs us :=
 ⟨fun p a=>⟨(h.1 p a).1,(h.1 p a).2.mono fun b hb=>hb.elim (fun e=>(hX b e).imp .inl id) fun e => .inl (.inr e)⟩,h.2.1,fun i hi=>let ⟨v,c,d,f⟩:=h.2.2.1 i hi; ⟨v,c,d,f.mono hX⟩,h.2.2.2⟩
theorem Tf.tmps{Y X B:Nat->Prop}{roots:List (Nat × Nat)}{tm b:Array Value}{w:World}{t:Nat}{vs:Array Value}{cs:List AV}{us:List (Nat × AV)}(h:Tf Y X B roots tm w t vs cs us)
  (c:∀ p∈us,b.getD p.1 A9=tm.getD p.1 A9):Tf Y X B roots b w t vs cs us :=
 ⟨fun p a=>⟨(h.1 p a).1,by rw[c p a];exact (h.1 p a).2⟩,h.2⟩
def RI:AV->Value
 | .int k n => .int k n
 | .str s => .string s
 | _=>A9
def nS(ms:Array MapEntry)(ks:List AV):Prop:=ms.toList.map (fun e=>(e.key,e.val))=ks.map fun k=>(RI k,.bool true)
def FN(Y X B G:Nat->Prop)(roots:List (Nat × Nat))(tm:Array Value)(w:World)(t:Nat)(v:Value):Reg->Prop
 | .val x=>Rd Y X w v x
 | .box cs=>∃ b,v = .pointer (some ⟨b,0,none⟩)/\B b/\Ef Y X w b 0 cs
 | .ptr d off=>(t,d)∈roots/\∃ p,C6 (tm.getD d A9)=some p/\p.spot=none/\v = .pointer (some ⟨p.block,p.off+off,none⟩)
 | .mem cs=>∃ b off,v = .pointer (some ⟨b,off,none⟩)/\(cs ≠ []->¬ X b)/\Gq Y X w b off cs
 | .own k n cs=>EG Y X B w v k n cs
 | .agn b k n cs=>Kb Y X B w v b k n cs
 | .bxl d=>(t,d)∈roots/\∃ b,v = .pointer (some ⟨b,0,none⟩)/\B b/\b<w.heap.size/\∀ i,i<2->w.cell? ⟨b,i,none⟩=(tm.getD d A9).cells[i]?
 | .dup d=>(t,d)∈roots/\v=tm.getD d A9
 | .sub d k l h=>(t,d)∈roots/\SubV k l h (tm.getD d A9) v
 | .bxh cs ls=>∃ b vs T,v = .pointer (some ⟨b,0,none⟩)/\B b/\w.heap[b]? = some (.cells vs T (0,0))/\Kw Y X roots tm w t vs cs ls
 | .agh cs ls=>∃ vs,v = .agg vs/\vs.size=C cs/\Kw Y X roots tm w t vs cs ls
 | .bxg cs=>∃ b,v = .pointer (some ⟨b,0,none⟩)/\(B b/\G b)/\Ef Y X w b 0 cs
 | .mp ks=>∃ b ms a,v = .map (some b)/\B b/\w.heap[b]? = some (.map ms a)/\nS ms ks
 | .agf cs us=>∃ vs,v = .agg vs/\vs.size=C cs/\Tf Y X B roots tm w t vs cs us
 | .bxf cs us=>∃ b vs T,v = .pointer (some ⟨b,0,none⟩)/\B b/\w.heap[b]? = some (.cells vs T (0,0))/\Tf Y X B roots tm w t vs cs us
 | .dead=>True
def XS(s:H)(tm:Array Value)(b:Nat):Prop:=∃ t,Cm (Ag s t)=true/\Ax (tm.getD t A9)=some b
theorem FN.monoX{Y X i:Nat->Prop}{B G:Nat->Prop}{roots:List (Nat × Nat)}{tm:Array Value}{w:World}{t:Nat}{v:Value}{r:Reg}(h:FN Y X B G roots tm w t v r)(hX:∀ b,i b->X b):FN Y i B G roots tm w t v r:=by
 have f:∀ b,i b->X b\/w.heap.size<=b:=fun b hb => .inl (hX b hb);cases r with
 | val x=>exact Rd.mono h f
 | box cs=>obtain⟨b,a,c,e⟩:=h;exact⟨b,a,c,e.mono f⟩
 | own k n cs=>exact EG.mono h f
 | agn o k n cs=>exact Kb.mono h f
 | mem cs=>obtain⟨b,off,a,c,e⟩:=h;exact⟨b,off,a,fun j l=>c j (hX b l),e.mono f⟩
 | bxl p=>exact h
 | ptr d off=>exact h
 | dup d=>exact h
 | sub _ _ _ _=>exact h
 | bxh cs ls=>obtain⟨b,vs,T,a,c,e,g⟩:=h;exact⟨b,vs,T,a,c,e,g.mono f⟩
 | agh cs ls=>obtain⟨vs,a,c,e⟩:=h;exact⟨vs,a,c,e.mono f⟩
 | bxg cs=>obtain⟨b,a,c,e⟩:=h;exact⟨b,a,c,e.mono f⟩
 | mp ks=>obtain⟨b,ms,m,a,c,e,g⟩:=h;exact⟨b,ms,m,a,c,e,g⟩
 | agf cs us=>obtain⟨vs,a,c,e⟩:=h;exact⟨vs,a,c,e.mono f⟩
 | bxf cs us=>obtain⟨b,vs,T,a,c,e,g⟩:=h;exact⟨b,vs,T,a,c,e,g.mono f⟩
 | dead=>trivial
structure Base where
 w:World
 own:Nat->Prop
def Base.mine(B:Base)(b:Nat):Prop:=B.w.heap.size<=b\/B.own b
structure Grown (B:Base) (w:World):Prop where
 os:w.os=B.w.os
 tape:w.tape=B.w.tape
 output:w.output=B.w.output
 size:B.w.heap.size<=w.heap.size
 block:∀ b,¬ B.mine b->w.heap[b]? = B.w.heap[b]?
theorem Grown.trans{B:Base}{w w':World}(h:Grown B w)(g:Below w.heap.size w w'):Grown B w' :=
 ⟨g.os.trans h.os,g.tape.trans h.tape,g.output.trans h.output,AA h.size g.size,fun b hb=>(g.block b (Bf (Hd fun e=>hb (.inl e)) h.size)).trans (h.block b hb)⟩
theorem Grown.below{B:Base}{w:World}(h:Grown B w)(ho:∀ b,¬ B.own b):Below B.w.heap.size B.w w :=
 ⟨h.os,h.tape,h.output,h.size,fun b hb=>h.block b (fun e=>e.elim (fun e=>Kt _ (Bf hb e)) (ho b))⟩
structure Rel (Y X0:Nat->Prop) (roots:List (Nat × Nat)) (w0:Base) (s:H) (a:Act) (w:World):Prop where
 dfr:a.defers=[]
 size:a.tmps.size=s.length
 below:Grown w0 w
 low:∀ b,X0 b->¬ w0.mine b
 lowY:∀ b,Y b->¬ w0.mine b
 reg:∀ t,FN Y (fun b=>X0 b\/XS s a.tmps b) w0.mine w0.own roots a.tmps w t (a.tmps.getD t A9) (Ag s t)
 inj:∀ t t' b,Cm (Ag s t)=true->Cm (Ag s t')=true->Ax (a.tmps.getD t A9)=some b->Ax (a.tmps.getD t' A9)=some b->t=t'
theorem Below.ext{w w':World}(h:Below w.heap.size w w'):∀ b,b<w.heap.size->w'.heap[b]? = w.heap[b]? := h.block
theorem FP(tm:Array Value)(d:Nat)(v:Value)(t:Nat):(tm.setIfInBounds d v).getD t A9=if d=t/\d<tm.size then v else tm.getD t A9:=by
 simp only[A4,Kc];by_cases h:d=t
 ·subst h;by_cases h2:d<tm.size
  ·simp[h2]
  ·simp[h2]
 ·simp[h]
theorem It(ks:List Nat):∀ (s:H) (t:Nat),Ag (A5 s (ks.map fun u=>(u,Reg.dead))) t=Ag s t\/Ag (A5 s (ks.map fun u=>(u,Reg.dead))) t = .dead:=by
 induction ks with
 | nil=>exact fun s t => .inl rfl
 | cons k ks a =>
  intro s t;simp only[Bg,A5];rcases a (s.set k .dead) t with h | h
  ·rw[h,Cf];split
   ·exact .inr rfl
   ·exact .inl rfl
  ·exact .inr h
theorem Fs(ks:List Nat):∀ (s:H) (t:Nat),t∈ks->Ag (A5 s (ks.map fun u=>(u,Reg.dead))) t = .dead:=by
 induction ks with
 | nil=>intro s t h;cases h
 | cons k ks b =>
  intro s t h;simp only[Bg,A5];by_cases a:t∈ks
  ·exact b _ t a
  ·have e:t=k:=by
    cases h with
    | head=>rfl
    | tail _ h=>exact absurd h a
   subst e;rcases It ks (s.set t .dead) t with h1 | h1
   ·rw[h1,Cf];split
    ·rfl
    ·rename_i hn;simp only[Ag,Z];have:C s<=t:=by simp at hn;exact hn
     rw[AX this];rfl
   ·exact h1
theorem Ie(l:List (Nat × Reg)):∀ s:H,C (A5 s l)=C s:=by
 induction l with
 | nil=>intro s;rfl
 | cons p l a=>intro s;obtain⟨t,r⟩:=p;simp only[A5,a,AU]
theorem kX{Y X:Nat->Prop}{B G:Nat->Prop}{roots:List (Nat × Nat)}{tm:Array Value}{w:World}{t:Nat}{v:Value}{r:Reg}{b:Nat}(h:FN Y X B G roots tm w t v r)(e:Cm r=true)(hb:Ax v=some b):B b:=by
 cases r with
 | box cs =>
  obtain⟨b',a,c,f⟩:=h;rw[a] at hb;simp only[Ax,C6,Am,Ac] at hb;exact hb ▸ c
 | own k n cs=>exact (EG.block h hb).1
 | agn g k n cs=>exact (Kb.block h hb).1
 | bxl i =>
  obtain⟨_,b',a,c,f,_⟩:=h;rw[a] at hb;simp only[Ax,C6,Am,Ac] at hb;exact hb ▸ c
 | bxh cs ls =>
  obtain⟨b',vs,T,a,c,_⟩:=h;rw[a] at hb;simp only[Ax,C6,Am,Ac] at hb;exact hb ▸ c
 | agh cs ls=>cases e
 | bxg cs =>
  obtain⟨b',a,c,f⟩:=h;rw[a] at hb;simp only[Ax,C6,Am,Ac] at hb;exact hb ▸ c.1
 | mp ks =>
  obtain⟨b',ms,j,a,c,_⟩:=h;rw[a] at hb;simp only[Ax,C6,Am,Ac] at hb;exact hb ▸ c
 | agf cs us=>cases e
 | bxf cs us =>
  obtain⟨b',vs,T,a,c,_⟩:=h;rw[a] at hb;simp only[Ax,C6,Am,Ac] at hb;exact hb ▸ c
 | val x=>cases e
 | ptr d off=>cases e
 | mem cs=>cases e
 | dup d=>cases e
 | sub _ _ _ _=>cases e
 | dead=>cases e
theorem Fj{w:World}{b:Nat}{o:Obj}(h:w.heap[b]? = some o):b<w.heap.size:=(AR.1 h).1
theorem Rel.give0{Y X0:Nat->Prop}{roots:List (Nat × Nat)}{w0:Base}{w w':World}{s:H}{a:Act}(h:Rel Y X0 roots w0 s a w){O:Nat->Prop}(N:Grown ⟨w,O⟩ w')
  {d:Nat} {v:Value} {r:Reg} {ks:List Nat} (U:∀ b,O b->∃ x,x∈ks/\Cm (Ag s x)=true/\Ax (a.tmps.getD x A9)=some b) (L:∀ t,(t,d)∈roots->t∈ks\/FC (Ag s t) d=false)
  (a1:Cm r=true->∀ b,Ax v=some b->w.heap.size<=b\/O b)
  (hr:∀ X:Nat->Prop,(∀ b,X b->(X0 b\/XS s a.tmps b)\/(w.heap.size<=b/\Ax v=some b))->(∀ c,X c->O c->Cm r=true/\Ax v=some c)->(Cm r=false->∀ b,X b->X0 b\/XS s a.tmps b) ->
   FN Y X w0.mine w0.own roots (a.tmps.setIfInBounds d v) w' d v r) :
  Rel Y X0 roots w0 (BD (A5 s (ks.map fun u=>(u,Reg.dead))) (some d) r) (a.put (some d) v) w':=by
 obtain⟨hd,hs,hb,hl,a8,V,a4⟩:=h;have a5:w0.w.heap.size<=w.heap.size:=hb.size;have D:∀ c,c<w.heap.size->¬ O c->w'.heap[c]? = w.heap[c]? := fun c hc ho=>N.block c (fun e=>e.elim (fun e=>Kt _ (Bf hc e)) ho);have a2:∀ b,O b->XS s a.tmps b:=fun b hb=>let ⟨x,_,h2,q⟩:=U b hb; ⟨x,h2,q⟩
 have A:∀ t,Ag (A5 s (ks.map fun u=>(u,Reg.dead))) t=Ag s t->Cm (Ag s t)=true->∀ b,Ax (a.tmps.getD t A9)=some b->¬ O b:=by
  intro t j Q b a9 ho;obtain⟨x,h1,h2,q⟩:=U b ho;have e:=a4 t x b Q h2 a9 q;subst e;rw[Fs ks s t h1] at j;rw[<- j] at Q;cases Q
 have W:∀ t,Ag (BD (A5 s (ks.map fun u=>(u,Reg.dead))) (some d) r) t=(if d=t/\d<C s then r else Ag (A5 s (ks.map fun u=>(u,Reg.dead))) t):=by
  intro t;simp only[BD];rw[Cf,Ie]
 have B:∀ t,(a.put (some d) v).tmps.getD t A9=if d=t/\d<C s then v else a.tmps.getD t A9:=by
  intro t;simp only[nO];rw[FP,hs]
 have a3:∀ b,XS (BD (A5 s (ks.map fun u=>(u,Reg.dead))) (some d) r) (a.put (some d) v).tmps b->XS s a.tmps b\/(Cm r=true/\w.heap.size<=b/\Ax v=some b):=by
  rintro b ⟨t,h1,h2⟩;rw[W] at h1;rw[B] at h2;by_cases hc:d=t/\d<C s
  ·rw[Ae hc] at h1 h2;rcases a1 h1 b h2 with q | q
   ·exact .inr ⟨h1,q,h2⟩
   ·exact .inl (a2 b q)
  ·rw[Al hc] at h1 h2;rcases It ks s t with j | j
   ·rw[j] at h1;exact .inl ⟨t,h1,h2⟩
   ·rw[j] at h1;cases h1
 generalize R:(fun b=>X0 b\/XS (BD (A5 s (ks.map fun u=>(u,Reg.dead))) (some d) r) (a.put (some d) v).tmps b)=X;have a6:∀ b,X b->(X0 b\/XS s a.tmps b)\/w.heap.size<=b:=by
  intro b F;rw[<- R] at F;rcases F with h | h
  ·exact .inl (.inl h)
  ·rcases a3 b h with h | h
   ·exact .inl (.inr h)
   ·exact .inr h.2.1
 have b0:∀ b,X b->(X0 b\/XS s a.tmps b)\/(w.heap.size<=b/\Ax v=some b):=by
  intro b F;rw[<- R] at F;rcases F with h | h
  ·exact .inl (.inl h)
  ·rcases a3 b h with h | h
   ·exact .inl (.inr h)
   ·exact .inr h.2
 have b1:Cm r=false->∀ b,X b->X0 b\/XS s a.tmps b:=by
  intro Q b F;rw[<- R] at F;rcases F with h | h
  ·exact .inl h
  ·rcases a3 b h with h | h
   ·exact .inr h
   ·rw[Q] at h;cases h.1
 have b2:∀ c,X c->O c->Cm r=true/\Ax v=some c:=by
  intro c hc ho;rw[<- R] at hc;rcases hc with hc | ⟨t,h1,h2⟩
  ·obtain⟨x,_,h2,q⟩:=U c ho;exact absurd (kX (V x) h2 q) (hl c hc)
  ·rw[W] at h1;rw[B] at h2;by_cases hc:d=t/\d<C s
   ·rw[Ae hc] at h1 h2;exact⟨h1,h2⟩
   ·rw[Al hc] at h1 h2;rcases It ks s t with j | j
    ·rw[j] at h1;exact absurd ho (A t j h1 c h2)
    ·rw[j] at h1;cases h1
 have G:∀ c,¬ (X c\/(X0 c\/XS s a.tmps c))->c<w.heap.size->w'.heap[c]? = w.heap[c]? := fun c hc hl=>D c hl fun ho=>hc (.inr (.inr (a2 c ho)));have I:∀ c,(X c\/(X0 c\/XS s a.tmps c))->(X0 c\/XS s a.tmps c)\/w.heap.size<=c:=fun c hc=>hc.elim (a6 c) .inl;have J:∀ c,X c->(X c\/(X0 c\/XS s a.tmps c))\/w'.heap.size<=c:=fun c hc => .inl (.inl hc);refine⟨hd,by simp only[nO,Ku,BD,AU,Ie];exact hs,?_,hl,a8,?_,?_⟩
 ·refine⟨N.os.trans hb.os,N.tape.trans hb.tape,N.output.trans hb.output,AA a5 N.size,fun c hc => ?_⟩;have K:c<w.heap.size:=Bf (Hd fun e=>hc (.inl e)) a5;refine (D c K fun ho => ?_).trans (hb.block c hc);obtain⟨x,_,h2,q⟩:=U c ho;exact hc (kX (V x) h2 q)
 ·intro t;rw[R,W,B];by_cases hc:d=t/\d<C s
  ·rw[Ae hc,Ae hc];obtain⟨rfl,_⟩:=hc;exact hr X b0 b2 b1
  ·rw[Al hc,Al hc];rcases It ks s t with j | j
   ·rw[j];have h0:=V t;cases f:Ag s t with
    | val x=>rw[f] at h0;exact ((Rd.mono h0 I).world G).mono J
    | box cs =>
     rw[f] at h0;obtain⟨b,g,o,m⟩:=h0;exact⟨b,g,o,((m.mono I).world G (D b m.lt (A t j (by rw[f];rfl) b (by rw[g];rfl)))).mono J⟩
    | own k n cs =>
     rw[f] at h0;exact ((EG.mono h0 I).world G (fun b h1 hb=>D b hb (A t j (by rw[f];rfl) b h1))).mono J
    | agn bb k n cs =>
     rw[f] at h0;exact ((Kb.mono h0 I).world G (fun b h1 hb=>D b hb (A t j (by rw[f];rfl) b h1))).mono J
    | mem cs =>
     rw[f] at h0;obtain⟨b,off,g,o,m⟩:=h0;refine⟨b,off,g,fun A F => ?_,?_⟩;rotate_left
     ·by_cases a7:cs=[]
      ·subst a7;exact⟨fun x hx=>(by cases hx),fun i hi=>(by simp at hi)⟩
      ·exact ((m.mono I).world G (fun hb=>D b hb fun ho=>o a7 (.inr (a2 b ho)))).mono J
     rcases a6 b F with h | h
     ·exact o A h
     ·have h0:0<C cs:=RA.2 A;obtain⟨u,hu,_⟩:=m.2 0 h0;have:=KF hu;simp only at this;omega
    | ptr Z off =>
     rw[f] at h0;obtain⟨g,p,o,m,z⟩:=h0;refine⟨g,p,?_,m,z⟩;rw[B,Al]
     ·exact o
     ·rintro⟨rfl,K⟩;rcases L t g with l | l
      ·have:=Fs ks s t l;rw[j,f] at this;cases this
      ·rw[f] at l;simp[FC] at l
    | dup Z =>
     rw[f] at h0;obtain⟨g,o⟩:=h0;refine⟨g,?_⟩;rw[B,Al]
     ·exact o
     ·rintro⟨rfl,K⟩;rcases L t g with l | l
      ·have:=Fs ks s t l;rw[j,f] at this;cases this
      ·rw[f] at l;simp[FC] at l
    | sub Z _ _ _ =>
     rw[f] at h0;obtain⟨g,o⟩:=h0;refine⟨g,?_⟩;rw[B,Al]
     ·exact o
     ·rintro⟨rfl,K⟩;rcases L t g with l | l
      ·have:=Fs ks s t l;rw[j,f] at this;cases this
      ·rw[f] at l;simp[FC] at l
    | bxl Z =>
     rw[f] at h0;obtain⟨g,b,o,m,z,e5⟩:=h0;refine⟨g,b,o,m,Bf z N.size,fun i hi => ?_⟩;rw[B,Al]
     ·rw[<- e5 i hi];exact EW (D b z (A t j (by rw[f];rfl) b (by rw[o];rfl)))
     ·rintro⟨rfl,K⟩;rcases L t g with l | l
      ·have:=Fs ks s t l;rw[j,f] at this;cases this
      ·rw[f] at l;simp[FC] at l
    | bxh cs ls =>
     rw[f] at h0;obtain⟨b,vs,T,g,o,m,z⟩:=h0;have S:=D b (Fj m) (A t j (by rw[f];rfl) b (by rw[g];rfl));refine⟨b,vs,T,g,o,by rw[S];exact m,(((z.mono I).world G).mono J).tmps fun p E => ?_⟩;rw[B,Al];rintro⟨rfl,K⟩;rcases L t (z.1 p E) with l | l
     ·have:=Fs ks s t l;rw[j,f] at this;cases this
     ·rw[f] at l;simp only[FC,FB] at l;exact l p E (by simp)
    | agh cs ls =>
     rw[f] at h0;obtain⟨vs,g,o,z⟩:=h0;refine⟨vs,g,o,(((z.mono I).world G).mono J).tmps fun p E => ?_⟩;rw[B,Al];rintro⟨rfl,K⟩;rcases L t (z.1 p E) with l | l
     ·have:=Fs ks s t l;rw[j,f] at this;cases this
     ·rw[f] at l;simp only[FC,FB] at l;exact l p E (by simp)
    | bxg cs =>
     rw[f] at h0;obtain⟨b,g,o,m⟩:=h0;exact⟨b,g,o,((m.mono I).world G (D b m.lt (A t j (by rw[f];rfl) b (by rw[g];rfl)))).mono J⟩
    | mp ks =>
     rw[f] at h0;obtain⟨b,ms,kk,g,o,m,z⟩:=h0;have S:=D b (Fj m) (A t j (by rw[f];rfl) b (by rw[g];rfl));refine⟨b,ms,kk,g,o,by rw[S];exact m,z⟩
    | agf cs us =>
     rw[f] at h0;obtain⟨vs,g,o,z⟩:=h0;refine⟨vs,g,o,(((z.mono I).world G).mono J).tmps fun p E => ?_⟩;rw[B,Al];rintro⟨rfl,K⟩;rcases L t (z.1 p E).1 with l | l
     ·have:=Fs ks s t l;rw[j,f] at this;cases this
     ·rw[f] at l;simp only[FC,FB] at l;exact l p E (by simp)
    | bxf cs us =>
     rw[f] at h0;obtain⟨b,vs,T,g,o,m,z⟩:=h0;have S:=D b (Fj m) (A t j (by rw[f];rfl) b (by rw[g];rfl));refine⟨b,vs,T,g,o,by rw[S];exact m,(((z.mono I).world G).mono J).tmps fun p E => ?_⟩;rw[B,Al];rintro⟨rfl,K⟩;rcases L t (z.1 p E).1 with l | l
     ·have:=Fs ks s t l;rw[j,f] at this;cases this
     ·rw[f] at l;simp only[FC,FB] at l;exact l p E (by simp)
    | dead=>trivial
   ·rw[j];trivial
 ·intro t t' b h1 h2 q M;rw[W] at h1 h2;rw[B] at q M;have P:∀ u,(¬ (d=u/\d<C s))->Cm (Ag (A5 s (ks.map fun u=>(u,Reg.dead))) u)=true->Cm (Ag s u)=true:=by
   intro u _ hu;rcases It ks s u with j | j
   ·rw[j] at hu;exact hu
   ·rw[j] at hu;cases hu
  have lt:∀ u,Cm (Ag s u)=true->Ax (a.tmps.getD u A9)=some b->b<w.heap.size:=by
   intro u hu y;have h0:=V u;cases f:Ag s u with
   | box cs =>
    rw[f] at h0;obtain⟨b',g,_,m⟩:=h0;rw[g] at y;simp only[Ax,C6,Am,Ac] at y;exact y ▸ m.lt
   | own k n cs =>
    rw[f] at h0;exact (EG.block h0 y).2
   | agn bb k n cs =>
    rw[f] at h0;exact (Kb.block h0 y).2
   | bxl Z =>
    rw[f] at h0;obtain⟨_,b',g,_,m,_⟩:=h0;rw[g] at y;simp only[Ax,C6,Am,Ac] at y;exact y ▸ m
   | bxh cs ls =>
    rw[f] at h0;obtain⟨b',vs,T,g,_,m,_⟩:=h0;rw[g] at y;simp only[Ax,C6,Am,Ac] at y;exact y ▸ Fj m
   | agh _ _=>rw[f] at hu;cases hu
   | bxg cs =>
    rw[f] at h0;obtain⟨b',g,_,m⟩:=h0;rw[g] at y;simp only[Ax,C6,Am,Ac] at y;exact y ▸ m.lt
   | mp ks =>
    rw[f] at h0;obtain⟨b',ms,kk,g,_,m,_⟩:=h0;rw[g] at y;simp only[Ax,C6,Am,Ac] at y;exact y ▸ Fj m
   | agf _ _=>rw[f] at hu;cases hu
   | bxf cs us =>
    rw[f] at h0;obtain⟨b',vs,T,g,_,m,_⟩:=h0;rw[g] at y;simp only[Ax,C6,Am,Ac] at y;exact y ▸ Fj m
   | val x=>rw[f] at hu;cases hu
   | ptr d off=>rw[f] at hu;cases hu
   | mem cs=>rw[f] at hu;cases hu
   | dup d=>rw[f] at hu;cases hu
   | sub _ _ _ _=>rw[f] at hu;cases hu
   | dead=>rw[f] at hu;cases hu
  by_cases c1:d=t/\d<C s <;> by_cases c2:d=t'/\d<C s
  ·exact c1.1.symm.trans c2.1
  ·rw[Ae c1] at h1 q;rw[Al c2] at h2 M;have:=lt t' (P t' c2 h2) M;rcases a1 h1 b q with o | o
   ·omega
   ·rcases It ks s t' with j | j
    ·exact absurd o (A t' j (P t' c2 h2) b M)
    ·rw[j] at h2;cases h2
  ·rw[Al c1] at h1 q;rw[Ae c2] at h2 M;have:=lt t (P t c1 h1) q;rcases a1 h2 b M with o | o
   ·omega
   ·rcases It ks s t with j | j
    ·exact absurd o (A t j (P t c1 h1) b q)
    ·rw[j] at h1;cases h1
  ·rw[Al c1] at h1 q;rw[Al c2] at h2 M;exact a4 t t' b (P t c1 h1) (P t' c2 h2) q M
theorem Rel.give{Y X0:Nat->Prop}{roots:List (Nat × Nat)}{w0:Base}{w w':World}{s:H}{a:Act}(h:Rel Y X0 roots w0 s a w){O:Nat->Prop}(e:Grown ⟨w,O⟩ w')
  {d:Nat} {v:Value} {r:Reg} {ks:List Nat} (f:∀ b,O b->∃ x,x∈ks/\Cm (Ag s x)=true/\Ax (a.tmps.getD x A9)=some b) (g:∀ t,(t,d)∈roots->t∈ks\/BF (Ag s t)=false)
  (i:Cm r=true->∀ b,Ax v=some b->w.heap.size<=b\/O b)
  (hr:∀ X:Nat->Prop,(∀ b,X b->(X0 b\/XS s a.tmps b)\/(w.heap.size<=b/\Ax v=some b))->(∀ c,X c->O c->Cm r=true/\Ax v=some c)->(Cm r=false->∀ b,X b->X0 b\/XS s a.tmps b) ->
   FN Y X w0.mine w0.own roots (a.tmps.setIfInBounds d v) w' d v r) :
  Rel Y X0 roots w0 (BD (A5 s (ks.map fun u=>(u,Reg.dead))) (some d) r) (a.put (some d) v) w':=by
 exact h.give0 e f (fun t j=>(g t j).imp id OQ) i hr
theorem kY{w w':World}(h:Below w.heap.size w w'):Grown ⟨w,fun _=>False⟩ w' :=
 ⟨h.os,h.tape,h.output,h.size,fun b hb=>h.block b (Hd fun e=>hb (.inl e))⟩
theorem G2{Y X0:Nat->Prop}{roots:List (Nat × Nat)}{w0:Base}{w w':World}{s:H}{a:Act}(h:Rel Y X0 roots w0 s a w)(c:Below w.heap.size w w')
  {d:Nat} {v:Value} {r:Reg} {ks:List Nat} (e:∀ t,(t,d)∈roots->t∈ks\/FC (Ag s t) d=false)
  (f:Cm r=true->∀ b,Ax v=some b->w.heap.size<=b)
  (hr:∀ X:Nat->Prop,(∀ b,X b->(X0 b\/XS s a.tmps b)\/(w.heap.size<=b/\Ax v=some b))->(Cm r=false->∀ b,X b->X0 b\/XS s a.tmps b) ->
   FN Y X w0.mine w0.own roots (a.tmps.setIfInBounds d v) w' d v r) :
  Rel Y X0 roots w0 (BD (A5 s (ks.map fun u=>(u,Reg.dead))) (some d) r) (a.put (some d) v) w' :=
 h.give0 (kY c) (fun _ hb=>Avr hb) e (fun g b hb => .inl (f g b hb)) fun X h1 _ h2=>hr X h1 h2
theorem BB{Y X0:Nat->Prop}{roots:List (Nat × Nat)}{w0:Base}{w w':World}{s:H}{a:Act}(h:Rel Y X0 roots w0 s a w)(c:Below w.heap.size w w')
  {d:Nat} {v:Value} {r:Reg} {ks:List Nat} (e:∀ t,(t,d)∈roots->t∈ks\/BF (Ag s t)=false)
  (f:Cm r=true->∀ b,Ax v=some b->w.heap.size<=b)
  (hr:∀ X:Nat->Prop,(∀ b,X b->(X0 b\/XS s a.tmps b)\/(w.heap.size<=b/\Ax v=some b))->(Cm r=false->∀ b,X b->X0 b\/XS s a.tmps b) ->
   FN Y X w0.mine w0.own roots (a.tmps.setIfInBounds d v) w' d v r) :
  Rel Y X0 roots w0 (BD (A5 s (ks.map fun u=>(u,Reg.dead))) (some d) r) (a.put (some d) v) w' :=
 h.give (kY c) (fun _ hb=>Avr hb) e (fun g b hb => .inl (f g b hb)) fun X h1 _ h2=>hr X h1 h2
theorem Alg{s:H}{tm:Array Value}{d:Nat}{r r':Reg}(h:Ag s d=r)(c:Cm r=Cm r')(b:Nat):XS (s.set d r') tm b↔XS s tm b:=by
 have a:∀ t,Cm (Ag (s.set d r') t)=Cm (Ag s t):=by
  intro t;rw[Cf];split
  next hc=>obtain⟨rfl,_⟩:=hc;rw[h,c]
  ·rfl
 constructor
 ·rintro⟨t,h1,h2⟩;exact⟨t,by rw[<- a];exact h1,h2⟩
 ·rintro⟨t,h1,h2⟩;exact⟨t,by rw[a];exact h1,h2⟩
theorem Rel.store{Y X0:Nat->Prop}{roots:List (Nat × Nat)}{w0:Base}{w w':World}{s:H}{a:Act}(h:Rel Y X0 roots w0 s a w){d:Nat}{r r':Reg}{b:Nat}
  (hd:Ag s d=r) (v:Cm r=true) (M:Cm r'=true) (D:Ax (a.tmps.getD d A9)=some b) (N:w0.mine b) (O:w'.os=w.os) (P:w'.tape=w.tape) (Q:w'.output=w.output)
  (E:w'.heap.size=w.heap.size) (o:∀ c,c ≠ b->w'.heap[c]? = w.heap[c]?)
  (R:∀ X:Nat->Prop,(∀ c,X c↔(X0 c\/XS s a.tmps c))->FN Y X w0.mine w0.own roots a.tmps w' d (a.tmps.getD d A9) r') :
  Rel Y X0 roots w0 (s.set d r') a w':=by
 obtain⟨S,hs,hb,hl,U,V,F⟩:=h;have G:XS s a.tmps b:=⟨d,by rw[hd];exact v,D⟩;have y:∀ c,(X0 c\/XS (s.set d r') a.tmps c)↔(X0 c\/XS s a.tmps c):=fun c=>by rw[Alg (r':=r') hd (by rw[v,M])]
 have q:∀ c,(X0 c\/XS (s.set d r') a.tmps c)->(X0 c\/XS s a.tmps c)\/w.heap.size<=c:=fun c hc => .inl ((y c).1 hc);have u:∀ c,¬ (X0 c\/XS (s.set d r') a.tmps c)->c<w.heap.size->w'.heap[c]? = w.heap[c]? := by
  intro c hc _;refine o c ?_;rintro rfl;exact hc ((y _).2 (.inr G))
 have I:∀ t,Cm (Ag (s.set d r') t)=true->Cm (Ag s t)=true:=by
  intro t z;rw[Cf] at z;split at z
  next hc=>rw[<- hc.1,hd];exact v
  ·exact z
 refine⟨S,by rw[AU];exact hs,?_,hl,U,?_,?_⟩
 ·exact⟨O.trans hb.os,P.trans hb.tape,Q.trans hb.output,by rw[E];exact hb.size,fun k J=>(o k (fun e=>J (e ▸ N))).trans (hb.block k J)⟩
 ·intro t;rw[Cf];split
  next hc=>obtain⟨rfl,_⟩:=hc;exact R _ y
  ·rename_i hc;have h0:=V t;have j:Cm (Ag s t)=true->Ax (a.tmps.getD t A9) ≠ some b:=by
    intro h1 h2;have:=F d t b (by rw[hd];exact v) h1 D h2;subst this;refine hc ⟨rfl,?_⟩;rcases CH d (C s) with W | a1
    ·exact W
    ·simp only[Ag,Z,AX a1] at hd;subst hd;cases v
   cases l:Ag s t with
   | val x=>rw[l] at h0;exact (Rd.mono h0 q).world u
   | box cs =>
    rw[l] at h0 j;obtain⟨b',f,g,m⟩:=h0;refine⟨b',f,g,(m.mono q).world u (o b' ?_)⟩;rintro rfl;exact j rfl (by rw[f];rfl)
   | own k n cs =>
    rw[l] at h0 j;refine (EG.mono h0 q).world u (fun b' A _=>o b' ?_);rintro rfl;exact j rfl A
   | agn bb k n cs =>
    rw[l] at h0 j;refine (Kb.mono h0 q).world u (fun b' A _=>o b' ?_);rintro rfl;exact j rfl A
   | bxl K =>
    rw[l] at h0 j;obtain⟨f,b',g,m,p,e5⟩:=h0;refine⟨f,b',g,m,by rw[E];exact p,fun i hi => ?_⟩;rw[<- e5 i hi];refine EW (o b' ?_);rintro rfl;exact j rfl (by rw[g];rfl)
   | mem cs =>
    rw[l] at h0;obtain⟨b',off,f,g,m⟩:=h0;refine⟨b',off,f,fun j B=>g j ((y _).1 B),?_⟩;by_cases L:cs=[]
    ·subst L;exact⟨fun x B=>(by cases B),fun i hi=>(by simp at hi)⟩
    ·refine (m.mono q).world u (fun _=>o b' ?_);rintro rfl;exact g L (.inr G)
   | ptr K off=>rw[l] at h0;exact h0
   | dup K=>rw[l] at h0;exact h0
   | sub _ _ _ _=>rw[l] at h0;exact h0
   | bxh cs ls =>
    rw[l] at h0 j;obtain⟨b',vs,T,f,g,m,p⟩:=h0;refine⟨b',vs,T,f,g,?_,(p.mono q).world u⟩;rw[o b' (fun e=>j rfl (by rw[f,<- e];rfl))];exact m
   | agh cs ls =>
    rw[l] at h0;obtain⟨vs,f,g,p⟩:=h0;exact⟨vs,f,g,(p.mono q).world u⟩
   | bxg cs =>
    rw[l] at h0 j;obtain⟨b',f,g,m⟩:=h0;refine⟨b',f,g,(m.mono q).world u (o b' ?_)⟩;rintro rfl;exact j rfl (by rw[f];rfl)
   | mp ks =>
    rw[l] at h0 j;obtain⟨b',ms,kk,f,g,m,p⟩:=h0;refine⟨b',ms,kk,f,g,?_,p⟩;rw[o b' (fun e=>j rfl (by rw[f,<- e];rfl))];exact m
   | agf cs us =>
    rw[l] at h0;obtain⟨vs,f,g,p⟩:=h0;exact⟨vs,f,g,(p.mono q).world u⟩
   | bxf cs us =>
    rw[l] at h0 j;obtain⟨b',vs,T,f,g,m,p⟩:=h0;refine⟨b',vs,T,f,g,?_,(p.mono q).world u⟩;rw[o b' (fun e=>j rfl (by rw[f,<- e];rfl))];exact m
   | dead=>trivial
 ·intro t t' c h1 h2 h3 h4;exact F t t' c (I t h1) (I t' h2) h3 h4
theorem Rel.turn{Y X0:Nat->Prop}{roots:List (Nat × Nat)}{w0:Base}{w w':World}{s:H}{a:Act}(h:Rel Y X0 roots w0 s a w){d:Nat}{r r':Reg}{b:Nat}
  (hd:Ag s d=r) (z:Cm r=true) (N:Cm r'=true) (G:Ax (a.tmps.getD d A9)=some b) (O:w0.mine b) (y:Grown ⟨w,fun c=>c=b⟩ w')
  (P:∀ X:Nat->Prop,(∀ c,X c↔(X0 c\/XS s a.tmps c))->FN Y X w0.mine w0.own roots a.tmps w' d (a.tmps.getD d A9) r') :
  Rel Y X0 roots w0 (s.set d r') a w':=by
 obtain⟨Q,hs,hb,hl,R,S,I⟩:=h;have J:XS s a.tmps b:=⟨d,by rw[hd];exact z,G⟩;have A:∀ c,(X0 c\/XS (s.set d r') a.tmps c)↔(X0 c\/XS s a.tmps c):=fun c=>by rw[Alg (r':=r') hd (by rw[z,N])]
 have q:∀ c,(X0 c\/XS (s.set d r') a.tmps c)->(X0 c\/XS s a.tmps c)\/w.heap.size<=c:=fun c hc => .inl ((A c).1 hc);have p:∀ c,c<w.heap.size->c ≠ b->w'.heap[c]? = w.heap[c]? := fun c hc g=>y.block c (fun e=>e.elim (fun e=>Kt _ (Bf hc e)) g);have u:∀ c,¬ (X0 c\/XS (s.set d r') a.tmps c)->c<w.heap.size->w'.heap[c]? = w.heap[c]? := by
  intro c hc v;refine p c v ?_;rintro rfl;exact hc ((A _).2 (.inr J))
 have K:∀ t,Cm (Ag (s.set d r') t)=true->Cm (Ag s t)=true:=by
  intro t B;rw[Cf] at B;split at B
  next hc=>rw[<- hc.1,hd];exact z
  ·exact B
 refine⟨Q,by rw[AU];exact hs,?_,hl,R,?_,?_⟩
 ·exact⟨y.os.trans hb.os,y.tape.trans hb.tape,y.output.trans hb.output,AA hb.size y.size,fun k D=>(p k (Bf (Hd fun e=>D (.inl e)) hb.size) (fun e=>D (e ▸ O))).trans (hb.block k D)⟩
 ·intro t;rw[Cf];split
  next hc=>obtain⟨rfl,_⟩:=hc;exact P _ A
  ·rename_i hc;have h0:=S t;have g:Cm (Ag s t)=true->Ax (a.tmps.getD t A9) ≠ some b:=by
    intro h1 h2;have:=I d t b (by rw[hd];exact z) h1 G h2;subst this;refine hc ⟨rfl,?_⟩;rcases CH d (C s) with v | U
    ·exact v
    ·simp only[Ag,Z,AX U] at hd;subst hd;cases z
   cases m:Ag s t with
   | val x=>rw[m] at h0;exact (Rd.mono h0 q).world u
   | box cs =>
    rw[m] at h0 g;obtain⟨b',f,j,l⟩:=h0;refine⟨b',f,j,(l.mono q).world u (p b' l.lt ?_)⟩;rintro rfl;exact g rfl (by rw[f];rfl)
   | own k n cs =>
    rw[m] at h0 g;refine (EG.mono h0 q).world u (fun b' E v=>p b' v ?_);rintro rfl;exact g rfl E
   | agn bb k n cs =>
    rw[m] at h0 g;refine (Kb.mono h0 q).world u (fun b' E v=>p b' v ?_);rintro rfl;exact g rfl E
   | bxl L =>
    rw[m] at h0 g;obtain⟨f,b',j,l,o,V⟩:=h0;refine⟨f,b',j,l,Bf o y.size,fun i hi => ?_⟩;rw[<- V i hi];refine EW (p b' o ?_);rintro rfl;exact g rfl (by rw[j];rfl)
   | mem cs =>
    rw[m] at h0;obtain⟨b',off,f,j,l⟩:=h0;refine⟨b',off,f,fun g F=>j g ((A _).1 F),?_⟩;by_cases M:cs=[]
    ·subst M;exact⟨fun x F=>(by cases F),fun i hi=>(by simp at hi)⟩
    ·refine (l.mono q).world u (fun v=>p b' v ?_);rintro rfl;exact j M (.inr J)
   | ptr L off=>rw[m] at h0;exact h0
   | dup L=>rw[m] at h0;exact h0
   | sub _ _ _ _=>rw[m] at h0;exact h0
   | bxh cs ls =>
    rw[m] at h0 g;obtain⟨b',vs,T,f,j,l,o⟩:=h0;refine⟨b',vs,T,f,j,?_,(o.mono q).world u⟩;rw[p b' (Fj l) (fun e=>g rfl (by rw[f,<- e];rfl))];exact l
   | agh cs ls =>
    rw[m] at h0;obtain⟨vs,f,j,o⟩:=h0;exact⟨vs,f,j,(o.mono q).world u⟩
   | bxg cs =>
    rw[m] at h0 g;obtain⟨b',f,j,l⟩:=h0;refine⟨b',f,j,(l.mono q).world u (p b' l.lt ?_)⟩;rintro rfl;exact g rfl (by rw[f];rfl)
   | mp ks =>
    rw[m] at h0 g;obtain⟨b',ms,W,f,j,l,o⟩:=h0;refine⟨b',ms,W,f,j,?_,o⟩;rw[p b' (Fj l) (fun e=>g rfl (by rw[f,<- e];rfl))];exact l
   | agf cs us =>
    rw[m] at h0;obtain⟨vs,f,j,o⟩:=h0;exact⟨vs,f,j,(o.mono q).world u⟩
   | bxf cs us =>
    rw[m] at h0 g;obtain⟨b',vs,T,f,j,l,o⟩:=h0;refine⟨b',vs,T,f,j,?_,(o.mono q).world u⟩;rw[p b' (Fj l) (fun e=>g rfl (by rw[f,<- e];rfl))];exact l
   | dead=>trivial
 ·intro t t' c h1 h2 h3 h4;exact I t t' c (K t h1) (K t' h2) h3 h4
theorem Rel.kill{Y X0:Nat->Prop}{roots:List (Nat × Nat)}{w0:Base}{w:World}{s:H}{a:Act}(h:Rel Y X0 roots w0 s a w)(ks:List Nat):Rel Y X0 roots w0 (Go.Ai.kill s ks) a w:=by
 obtain⟨o,hs,hb,hl,p,q,r⟩:=h;have m:∀ b,XS (Go.Ai.kill s ks) a.tmps b->XS s a.tmps b:=by
  rintro b ⟨t,h1,h2⟩;rw[C_] at h1;split at h1
  ·cases h1
  ·exact⟨t,h1,h2⟩
 have j:∀ c,(X0 c\/XS (Go.Ai.kill s ks) a.tmps c)->(X0 c\/XS s a.tmps c)\/w.heap.size<=c:=fun c hc => .inl (hc.imp id (m c));refine⟨o,by rw[Go.Ai.kill,Ie];exact hs,hb,hl,p,fun t => ?_,fun t t' b h1 h2 u v => ?_⟩
 ·rw[C_];split
  ·trivial
  ·have h0:=q t;cases e:Ag s t with
   | val x=>rw[e] at h0;exact Rd.mono h0 j
   | box cs=>rw[e] at h0;obtain⟨b,f,g,i⟩:=h0;exact⟨b,f,g,i.mono j⟩
   | own k n cs=>rw[e] at h0;exact EG.mono h0 j
   | agn B k n cs=>rw[e] at h0;exact Kb.mono h0 j
   | bxl C=>rw[e] at h0;exact h0
   | mem cs=>rw[e] at h0;obtain⟨b,off,f,g,i⟩:=h0;exact⟨b,off,f,fun y z=>g y (z.imp id (m b)),i.mono j⟩
   | ptr d off=>rw[e] at h0;exact h0
   | dup d=>rw[e] at h0;exact h0
   | sub _ _ _ _=>rw[e] at h0;exact h0
   | bxh cs ls=>rw[e] at h0;obtain⟨b,vs,T,f,g,i,l⟩:=h0;exact⟨b,vs,T,f,g,i,l.mono j⟩
   | agh cs ls=>rw[e] at h0;obtain⟨vs,f,g,l⟩:=h0;exact⟨vs,f,g,l.mono j⟩
   | bxg cs=>rw[e] at h0;obtain⟨b,f,g,i⟩:=h0;exact⟨b,f,g,i.mono j⟩
   | mp ks=>rw[e] at h0;obtain⟨b,ms,A,f,g,i,l⟩:=h0;exact⟨b,ms,A,f,g,i,l⟩
   | agf cs us=>rw[e] at h0;obtain⟨vs,f,g,l⟩:=h0;exact⟨vs,f,g,l.mono j⟩
   | bxf cs us=>rw[e] at h0;obtain⟨b,vs,T,f,g,i,l⟩:=h0;exact⟨b,vs,T,f,g,i,l.mono j⟩
   | dead=>trivial
 ·rw[C_] at h1 h2;split at h1
  ·cases h1
  ·split at h2
   ·cases h2
   ·exact r t t' b h1 h2 u v
theorem Rel.ownLow{Y X0:Nat->Prop}{roots:List (Nat × Nat)}{w0:Base}{w:World}{s:H}{a:Act}(h:Rel Y X0 roots w0 s a w){x k n:Nat}{cs:List AV}(c:Ag s x = .own k n cs) :
  (a.tmps.getD x A9 = .slice none 0 0/\n=0/\cs=[]) \/
  ∃ b cap,a.tmps.getD x A9 = .slice (some ⟨b,0,none⟩) n cap/\n<=cap/\C cs=n*k/\w0.mine b/\Ef Y (fun b=>X0 b\/XS s a.tmps b) w b 0 cs/\Wd w b (cap*k)/\XS s a.tmps b:=by
 have h0:=h.reg x;rw[c] at h0;rcases h0 with h0 | ⟨b,cap,d,e,f,g,i,j⟩
 ·exact .inl h0
 ·exact .inr ⟨b,cap,d,e,f,g,i,j,x,by rw[c];rfl,by rw[d];rfl⟩
theorem Rel.exclLow{Y X0:Nat->Prop}{roots:List (Nat × Nat)}{w0:Base}{w:World}{s:H}{a:Act}(h:Rel Y X0 roots w0 s a w){x b:Nat}(c:Cm (Ag s x)=true)(hb:Ax (a.tmps.getD x A9)=some b):w0.mine b/\b<w.heap.size:=by
 have h0:=h.reg x;cases e:Ag s x with
 | box cs =>
  rw[e] at h0;obtain⟨b',f,g,i⟩:=h0;rw[f] at hb;simp only[Ax,C6,Am,Ac] at hb;exact hb ▸ ⟨g,i.lt⟩
 | own k n cs=>rw[e] at h0;exact EG.block h0 hb
 | agn j k n cs=>rw[e] at h0;exact Kb.block h0 hb
 | bxl l =>
  rw[e] at h0;obtain⟨_,b',f,g,i,_⟩:=h0;rw[f] at hb;simp only[Ax,C6,Am,Ac] at hb;exact hb ▸ ⟨g,i⟩
 | bxh cs ls =>
  rw[e] at h0;obtain⟨b',vs,T,f,g,i,_⟩:=h0;rw[f] at hb;simp only[Ax,C6,Am,Ac] at hb;exact hb ▸ ⟨g,Fj i⟩
 | agh _ _=>rw[e] at c;cases c
 | bxg cs =>
  rw[e] at h0;obtain⟨b',f,g,i⟩:=h0;rw[f] at hb;simp only[Ax,C6,Am,Ac] at hb;exact hb ▸ ⟨g.1,i.lt⟩
 | mp ks =>
  rw[e] at h0;obtain⟨b',ms,m,f,g,i,_⟩:=h0;rw[f] at hb;simp only[Ax,C6,Am,Ac] at hb;exact hb ▸ ⟨g,Fj i⟩
 | agf _ _=>rw[e] at c;cases c
 | bxf cs us =>
  rw[e] at h0;obtain⟨b',vs,T,f,g,i,_⟩:=h0;rw[f] at hb;simp only[Ax,C6,Am,Ac] at hb;exact hb ▸ ⟨g,Fj i⟩
 | val x=>rw[e] at c;cases c
 | ptr d off=>rw[e] at c;cases c
 | mem cs=>rw[e] at c;cases c
 | dup d=>rw[e] at c;cases c
 | sub _ _ _ _=>rw[e] at c;cases c
 | dead=>rw[e] at c;cases c
theorem Rel.shift'{Y X0:Nat->Prop}{roots:List (Nat × Nat)}{w0:Base}{w w':World}{s:H}{a:Act}(h:Rel Y X0 roots w0 s a w){x d:Nat}{r:Reg}{v:Value}{b':Nat}
  (I:Cm (Ag s x)=true) (hb:Ax (a.tmps.getD x A9)=some b') (E:∀ t,(t,d)∈roots->BF (Ag s t)=false)
  (Z:w'.os=w.os) (a1:w'.tape=w.tape) (a2:w'.output=w.output) (S:w'.heap.size=w.heap.size) (u:∀ c,c ≠ b'->w'.heap[c]? = w.heap[c]?) (M:Cm r=true->Ax v=some b')
  (a3:∀ X:Nat->Prop,(∀ c,X c->(X0 c\/XS s a.tmps c))->(Cm r=false->¬ X b')->FN Y X w0.mine w0.own roots (a.tmps.setIfInBounds d v) w' d v r) :
  Rel Y X0 roots w0 (BD (A5 s [(x,Reg.dead)]) (some d) r) (a.put (some d) v) w':=by
 have U:=(h.exclLow I hb).1;have N:XS s a.tmps b':=⟨x,I,hb⟩;obtain⟨a4,hs,J,hl,a5,a6,V⟩:=h;have K:∀ t,Cm (Ag s t)=true->Ax (a.tmps.getD t A9)=some b'->t=x:=fun t h1 h2=>V t x b' h1 I h2 hb;have L:∀ t,Ag (BD (A5 s [(x,Reg.dead)]) (some d) r) t=(if d=t/\d<C s then r else if x=t then .dead else Ag s t):=by
  intro t;simp only[BD,A5];rw[Cf,AU,Wc]
 have q:∀ t,(a.put (some d) v).tmps.getD t A9=if d=t/\d<C s then v else a.tmps.getD t A9:=by
  intro t;simp only[nO];rw[FP,hs]
 have a7:∀ c,XS (BD (A5 s [(x,Reg.dead)]) (some d) r) (a.put (some d) v).tmps c->XS s a.tmps c:=by
  rintro c ⟨t,h1,h2⟩;rw[L] at h1;rw[q] at h2;by_cases hc:d=t/\d<C s
  ·rw[Ae hc] at h1 h2;rw[M h1] at h2;cases h2;exact N
  ·rw[Al hc] at h1 h2;split at h1
   ·cases h1
   ·exact⟨t,h1,h2⟩
 have a8:Cm r=false->¬ (X0 b'\/XS (BD (A5 s [(x,Reg.dead)]) (some d) r) (a.put (some d) v).tmps b'):=by
  rintro O (a9 | ⟨t,h1,h2⟩)
  ·exact hl b' a9 U
  ·rw[L] at h1;rw[q] at h2;by_cases hc:d=t/\d<C s
   ·rw[Ae hc,O] at h1;cases h1
   ·rw[Al hc] at h1 h2;split at h1
    ·cases h1
    next D=>exact D (K t h1 h2).symm
 generalize P:(fun c=>X0 c\/XS (BD (A5 s [(x,Reg.dead)]) (some d) r) (a.put (some d) v).tmps c)=X;have Q:∀ c,X c->(X0 c\/XS s a.tmps c):=by
  intro c hc;rw[<- P] at hc;exact hc.imp id (a7 c)
 have A:∀ c,X c->(X0 c\/XS s a.tmps c)\/w'.heap.size<=c:=fun c hc => .inl (Q c hc);have B:∀ c,¬ (X0 c\/XS s a.tmps c)->c<w.heap.size->w'.heap[c]? = w.heap[c]? := by
  intro c hc _;refine u c ?_;rintro rfl;exact hc (.inr N)
 refine⟨a4,by simp only[nO,Ku,BD,AU,Ie];exact hs,?_,hl,a5,?_,?_⟩
 ·exact⟨Z.trans J.os,a1.trans J.tape,a2.trans J.output,by rw[S];exact J.size,fun c hc=>(u c (fun e=>hc (e ▸ U))).trans (J.block c hc)⟩
 ·intro t;rw[P,L,q];by_cases hc:d=t/\d<C s
  ·rw[Ae hc,Ae hc];obtain⟨rfl,_⟩:=hc;exact a3 X Q (fun O=>by rw[<- P];exact a8 O)
  ·rw[Al hc,Al hc];by_cases D:x=t
   ·rw[Ae D];trivial
   ·rw[Al D];have h0:=a6 t;have m:Cm (Ag s t)=true->∀ c,Ax (a.tmps.getD t A9)=some c->c ≠ b':=by
     intro h1 c h2 e;subst e;exact D (K t h1 h2).symm
    cases j:Ag s t with
    | val y=>rw[j] at h0;exact (Rd.world h0 B).mono A
    | box cs =>
     rw[j] at h0 m;obtain⟨c,f,g,o⟩:=h0;exact⟨c,f,g,(o.world B (u c (m rfl c (by rw[f];rfl)))).mono A⟩
    | own k n cs =>
     rw[j] at h0 m;exact (EG.world h0 B (fun c hc _=>u c (m rfl c hc))).mono A
    | agn bb k n cs =>
     rw[j] at h0 m;exact (Kb.world h0 B (fun c hc _=>u c (m rfl c hc))).mono A
    | bxl R =>
     rw[j] at h0 m;obtain⟨f,b,g,o,l,e5⟩:=h0;refine⟨f,b,g,o,by rw[S];exact l,fun i hi => ?_⟩;rw[q,Al]
     ·rw[<- e5 i hi];exact EW (u b (m rfl b (by rw[g];rfl)))
     ·rintro⟨rfl,_⟩;have:=E t f;rw[j] at this;cases this
    | mem cs =>
     rw[j] at h0;obtain⟨c,off,f,g,o⟩:=h0;refine⟨c,off,f,fun hn I=>g hn (Q c I),?_⟩;by_cases W:cs=[]
     ·subst W;exact⟨fun x I=>(by cases I),fun i hi=>(by simp at hi)⟩
     ·refine (o.world B (fun _=>u c ?_)).mono A;rintro rfl;exact g W (.inr N)
    | ptr R off =>
     rw[j] at h0;obtain⟨f,p,g,o,l⟩:=h0;refine⟨f,p,?_,o,l⟩;rw[q,Al]
     ·exact g
     ·rintro⟨rfl,_⟩;have:=E t f;rw[j] at this;cases this
    | dup R =>
     rw[j] at h0;obtain⟨f,g⟩:=h0;refine⟨f,?_⟩;rw[q,Al]
     ·exact g
     ·rintro⟨rfl,_⟩;have:=E t f;rw[j] at this;cases this
    | sub R _ _ _ =>
     rw[j] at h0;obtain⟨f,g⟩:=h0;refine⟨f,?_⟩;rw[q,Al]
     ·exact g
     ·rintro⟨rfl,_⟩;have:=E t f;rw[j] at this;cases this
    | bxh cs ls =>
     rw[j] at h0 m;obtain⟨b,vs,T,f,g,o,l⟩:=h0;refine⟨b,vs,T,f,g,by rw[u b (m rfl b (by rw[f];rfl))];exact o,((l.world B).mono A).tmps fun p z => ?_⟩;rw[q,Al];rintro⟨rfl,_⟩;have:=E t (l.1 p z);rw[j] at this;cases ls with
     | nil=>cases z
     | cons _ _=>cases this
    | agh cs ls =>
     rw[j] at h0;obtain⟨vs,f,g,l⟩:=h0;refine⟨vs,f,g,((l.world B).mono A).tmps fun p z => ?_⟩;rw[q,Al];rintro⟨rfl,_⟩;have:=E t (l.1 p z);rw[j] at this;cases ls with
     | nil=>cases z
     | cons _ _=>cases this
    | bxg cs =>
     rw[j] at h0 m;obtain⟨c,f,g,o⟩:=h0;exact⟨c,f,g,(o.world B (u c (m rfl c (by rw[f];rfl)))).mono A⟩
    | mp ks =>
     rw[j] at h0 m;obtain⟨b,ms,kk,f,g,o,l⟩:=h0;refine⟨b,ms,kk,f,g,by rw[u b (m rfl b (by rw[f];rfl))];exact o,l⟩
    | agf cs us =>
     rw[j] at h0;obtain⟨vs,f,g,l⟩:=h0;refine⟨vs,f,g,((l.world B).mono A).tmps fun p z => ?_⟩;rw[q,Al];rintro⟨rfl,_⟩;have:=E t (l.1 p z).1;rw[j] at this;cases us with
     | nil=>cases z
     | cons _ _=>cases this
    | bxf cs us =>
     rw[j] at h0 m;obtain⟨b,vs,T,f,g,o,l⟩:=h0;refine⟨b,vs,T,f,g,by rw[u b (m rfl b (by rw[f];rfl))];exact o,((l.world B).mono A).tmps fun p z => ?_⟩;rw[q,Al];rintro⟨rfl,_⟩;have:=E t (l.1 p z).1;rw[j] at this;cases us with
     | nil=>cases z
     | cons _ _=>cases this
    | dead=>trivial
 ·intro t t' c h1 h2 F G;rw[L] at h1 h2;rw[q] at F G;by_cases c1:d=t/\d<C s <;> by_cases c2:d=t'/\d<C s
  ·exact c1.1.symm.trans c2.1
  ·rw[Ae c1] at h1 F;rw[Al c2] at h2 G;split at h2
   ·cases h2
   next D=>rw[M h1] at F;cases F;exact absurd (K t' h2 G).symm D
  ·rw[Al c1] at h1 F;rw[Ae c2] at h2 G;split at h1
   ·cases h1
   next D=>rw[M h2] at G;cases G;exact absurd (K t h1 F).symm D
  ·rw[Al c1] at h1 F;rw[Al c2] at h2 G;split at h1
   ·cases h1
   ·split at h2
    ·cases h2
    ·exact V t t' c h1 h2 F G
theorem Rel.shift{Y X0:Nat->Prop}{roots:List (Nat × Nat)}{w0:Base}{w w':World}{s:H}{a:Act}(h:Rel Y X0 roots w0 s a w){x d k n:Nat}{cs:List AV}{r:Reg}{v:Value}{b:Nat}
  (e:Ag s x = .own k n cs) (hb:Ax (a.tmps.getD x A9)=some b) (f:∀ t,(t,d)∈roots->BF (Ag s t)=false)
  (g:w'.os=w.os) (i:w'.tape=w.tape) (j:w'.output=w.output) (l:w'.heap.size=w.heap.size) (m:∀ c,c ≠ b->w'.heap[c]? = w.heap[c]?) (o:Cm r=true->Ax v=some b)
  (p:∀ X:Nat->Prop,(∀ c,X c->(X0 c\/XS s a.tmps c))->(Cm r=false->¬ X b)->FN Y X w0.mine w0.own roots (a.tmps.setIfInBounds d v) w' d v r) :
  Rel Y X0 roots w0 (BD (A5 s [(x,Reg.dead)]) (some d) r) (a.put (some d) v) w' :=
 h.shift' (by rw[e];rfl) hb f g i j l m o p
theorem Rel.pass{Y X0:Nat->Prop}{roots:List (Nat × Nat)}{w0:Base}{w:World}{s:H}{a:Act}(h:Rel Y X0 roots w0 s a w){x d:Nat}{r:Reg}{v:Value}(i:Cm (Ag s x)=true)(e:Ax v=Ax (a.tmps.getD x A9))
  (f:∀ t,(t,d)∈roots->BF (Ag s t)=false) (g:∀ X:Nat->Prop,(∀ c,X c->(X0 c\/XS s a.tmps c))->FN Y X w0.mine w0.own roots (a.tmps.setIfInBounds d v) w d v r) :
  Rel Y X0 roots w0 (BD (A5 s [(x,Reg.dead)]) (some d) r) (a.put (some d) v) w:=by
 cases hb:Ax (a.tmps.getD x A9) with
 | none =>
  rw[hb] at e;refine BB (ks:=[x]) h (DZ _ _) (fun t j => .inr (f t j)) (fun _ b hb=>by rw[e] at hb;cases hb) (fun X h1 _=>g X fun c hc => ?_);rcases h1 c hc with h2 | ⟨_,h2⟩
  ·exact h2
  ·rw[e] at h2;cases h2
 | some b=>exact h.shift' i hb f rfl rfl rfl rfl (fun _ _=>rfl) (fun _=>by rw[e,hb]) (fun X h1 _=>g X h1)
theorem Rel.unown{Y X0:Nat->Prop}{roots:List (Nat × Nat)}{w0:Base}{w:World}{s:H}{a:Act}(h:Rel Y X0 roots w0 s a w){x:Nat}{r:Reg}(p:Cm (Ag s x)=true)(q:Cm r=false)
  (A:∀ X:Nat->Prop,(∀ c,X c->(X0 c\/XS s a.tmps c)\/w.heap.size<=c)->(∀ b,Ax (a.tmps.getD x A9)=some b->¬ X b)->FN Y X w0.mine w0.own roots a.tmps w x (a.tmps.getD x A9) r):Rel Y X0 roots w0 (s.set x r) a w:=by
 have B:=fun b hb=>(h.exclLow (b:=b) p hb).1;obtain⟨D,hs,E,hl,F,G,y⟩:=h;have v:x<C s:=by
  rcases CH x (C s) with v | I
  ·exact v
  ·simp only[Ag,Z,AX I] at p;cases p
 have u:∀ t,Ag (s.set x r) t=if x=t then r else Ag s t:=by
  intro t;rw[Cf];by_cases m:x=t
  ·rw[Ae ⟨m,v⟩,Ae m]
  ·rw[Al (fun e=>m e.1),Al m]
 have z:∀ c,XS (s.set x r) a.tmps c->XS s a.tmps c:=by
  rintro c ⟨t,h1,h2⟩;rw[u] at h1;split at h1
  ·rw[q] at h1;cases h1
  ·exact⟨t,h1,h2⟩
 have J:∀ b,Ax (a.tmps.getD x A9)=some b->¬ (X0 b\/XS (s.set x r) a.tmps b):=by
  rintro b hb (K | ⟨t,h1,h2⟩)
  ·exact hl b K (B b hb)
  ·rw[u] at h1;split at h1
   ·rw[q] at h1;cases h1
   next m=>exact m (y t x b h1 p h2 hb).symm
 have j:∀ c,(X0 c\/XS (s.set x r) a.tmps c)->(X0 c\/XS s a.tmps c)\/w.heap.size<=c:=fun c hc => .inl (hc.imp id (z c));refine⟨D,by rw[AU];exact hs,E,hl,F,fun t => ?_,fun t t' b h1 h2 L M => ?_⟩
 ·rw[u];by_cases m:x=t
  ·subst m;rw[Ae rfl];exact A _ j J
  ·rw[Al m];have h0:=G t;cases f:Ag s t with
   | val x=>rw[f] at h0;exact Rd.mono h0 j
   | box cs=>rw[f] at h0;obtain⟨b,g,i,l⟩:=h0;exact⟨b,g,i,l.mono j⟩
   | own k n cs=>rw[f] at h0;exact EG.mono h0 j
   | agn P k n cs=>rw[f] at h0;exact Kb.mono h0 j
   | bxl Q=>rw[f] at h0;exact h0
   | mem cs=>rw[f] at h0;obtain⟨b,off,g,i,l⟩:=h0;exact⟨b,off,g,fun N p=>i N (p.imp id (z b)),l.mono j⟩
   | ptr d off=>rw[f] at h0;exact h0
   | dup d=>rw[f] at h0;exact h0
   | sub _ _ _ _=>rw[f] at h0;exact h0
   | bxh cs ls=>rw[f] at h0;obtain⟨b,vs,T,g,i,l,o⟩:=h0;exact⟨b,vs,T,g,i,l,o.mono j⟩
   | agh cs ls=>rw[f] at h0;obtain⟨vs,g,i,o⟩:=h0;exact⟨vs,g,i,o.mono j⟩
   | bxg cs=>rw[f] at h0;obtain⟨b,g,i,l⟩:=h0;exact⟨b,g,i,l.mono j⟩
   | mp ks=>rw[f] at h0;obtain⟨b,ms,O,g,i,l,o⟩:=h0;exact⟨b,ms,O,g,i,l,o⟩
   | agf cs us=>rw[f] at h0;obtain⟨vs,g,i,o⟩:=h0;exact⟨vs,g,i,o.mono j⟩
   | bxf cs us=>rw[f] at h0;obtain⟨b,vs,T,g,i,l,o⟩:=h0;exact⟨b,vs,T,g,i,l,o.mono j⟩
   | dead=>trivial
 ·rw[u] at h1 h2;split at h1
  ·rw[q] at h1;cases h1
  ·split at h2
   ·rw[q] at h2;cases h2
   ·exact y t t' b h1 h2 L M
theorem Rel.freeze{Y X0:Nat->Prop}{roots:List (Nat × Nat)}{w0:Base}{w:World}{s:H}{a:Act}(h:Rel Y X0 roots w0 s a w){x k n:Nat}{cs:List AV}(b:Ag s x = .own k n cs):Rel Y X0 roots w0 (s.set x (.val (.sl n cs))) a w:=by
 refine h.unown (by rw[b];rfl) rfl fun X h1 h2 => ?_;have h0:=h.reg x;rw[b] at h0;exact EG.frozen h0 h1 h2 h.lowY
section
variable{Y X:Nat->Prop}{w:World}
theorem Gq.pt{b off:Nat}{cs:List AV}(hX:cs ≠ []->¬ X b)(h:Gq Y X w b off cs):Rd Y X w (.pointer (some ⟨b,off,none⟩)) (.pt cs):=by
 obtain⟨hd,a⟩:=h;refine .pt b off cs (fun i=>(w.cell? ⟨b,off+i,none⟩).getD A9) hd hX (fun i hi => ?_) (fun i hi => ?_)
 ·obtain⟨u,h1,_⟩:=a i hi;rw[h1];rfl
 ·obtain⟨u,h1,h2⟩:=a i hi;rw[h1];exact h2
theorem Avz{v:Value}{cs:List AV}(h:Rd Y X w v (.pt cs)):∃ b off,v = .pointer (some ⟨b,off,none⟩)/\(cs ≠ []->¬ X b)/\Gq Y X w b off cs:=by
 cases h with
 | pt b off _ f hd hX hcell hr=>exact⟨b,off,rfl,hX,hd,fun i hi=>⟨f i,hcell i hi,hr i hi⟩⟩
end
end Go.Ai
