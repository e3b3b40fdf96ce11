/- Texts of the proof of RootIsolates: part 6 of 13. -/
import Derived.Laws.BitsAllLaws
import Derived.KernelRfl
import Derived.Test.YtajompaehjkgkaaGreatRis5
namespace Go.Ai
open Go.RowKit
open BitVec renaming ofInt->T,toNat_and->N0,toNat_ofNat->IZ,toNat_or->iT
open Bool renaming and_eq_true->Ad,false_eq_true->Cf
open Decidable renaming decide->B
open Go.IntKind renaming bits->Am,signed->jY,wrap->I
open Int renaming emod->cJ,fdiv->d,natCast_pow->C6,ofNat->J4,ofNat_eq_natCast->Jr,sub->A4w,tdiv->Aw,tmod->AD
open List renaming ext_getElem->YP,getD_eq_getElem?_getD->Z,getElem?_append_left->AN,getElem?_append_right->AT,getElem?_eq_getElem->Af,getElem?_replicate->KP,rec->aH,replicate->Av
open Nat renaming beq->CU,ble->rV,ble_eq_true_of_le->iX,blt->EX,div->IA,eq_of_beq_eq_true->CN,le_of_ble_eq_true->iY,le_refl->Ap,mod->Pv,mod_eq_of_lt->F3,rec->Nr,sub_zero->JV,succ->Ns,zero_le->Ba
open Option renaming getD_some->GE,map_some->A3
def TT:Int->Int->Bool
 | .ofNat m,.ofNat n=>EX m n
 | .ofNat _,.negSucc _=>false
 | .negSucc _,.ofNat _=>true
 | .negSucc m,.negSucc n=>EX n m
def leI(a b:Int):Bool := !(TT b a)
def Xa:Int->Int->Bool
 | .ofNat m,.ofNat n=>CU m n
 | .negSucc m,.negSucc n=>CU m n
 | _,_=>false
theorem Jq(m n:Nat):EX m n=decide (m<n):=by
 cases h:EX m n
 ·symm;rw[decide_eq_false_iff_not];intro hlt;have:rV (m+1) n=true:=iX hlt;rw[EX] at h;rw[this] at h;cases h
 ·symm;rw[decide_eq_true_iff];exact iY h
theorem Ug(a b:Int):TT a b=decide (a<b):=by
 cases a with
 | ofNat m=>cases b with
  | ofNat n=>simp only[TT,Jq];rw[decide_eq_decide];simp only[Jr];omega
  | negSucc n=>simp only[TT];symm;rw[decide_eq_false_iff_not];simp only[Jr];omega
 | negSucc m=>cases b with
  | ofNat n=>simp only[TT];symm;rw[decide_eq_true_iff];simp only[Jr];omega
  | negSucc n=>simp only[TT,Jq];rw[decide_eq_decide];omega
theorem Awz(a b:Int):leI a b=decide (a<=b):=by
 simp only[leI,Ug];by_cases h:b<a
 ·rw[decide_eq_true h,decide_eq_false (by omega)];rfl
 ·rw[decide_eq_false h,decide_eq_true (by omega)];rfl
theorem rW(a b:Int):Xa a b=decide (a=b):=by
 cases a with
 | ofNat m=>cases b with
  | ofNat n =>
   simp only[Xa];by_cases h:m=n
   ·subst h;simp
   ·have h2:CU m n=false:=by cases hh:CU m n with | false=>rfl | true=>exact absurd (CN hh) h
    rw[h2];symm;rw[decide_eq_false_iff_not];intro e;exact h (Int.ofNat.inj e)
  | negSucc n=>simp only[Xa];symm;rw[decide_eq_false_iff_not];intro e;cases e
 | negSucc m=>cases b with
  | ofNat n=>simp only[Xa];symm;rw[decide_eq_false_iff_not];intro e;cases e
  | negSucc n =>
   simp only[Xa];by_cases h:m=n
   ·subst h;simp
   ·have h2:CU m n=false:=by cases hh:CU m n with | false=>rfl | true=>exact absurd (CN hh) h
    rw[h2];symm;rw[decide_eq_false_iff_not];intro e;exact h (Int.negSucc.inj e)
def cI(n:Int)(m:Nat):Int:=cJ n (J4 m)
def XV(n:Int)(h m:Nat):Int:=cond (TT (cJ n (J4 m)) (J4 h)) (cJ n (J4 m)) (A4w (cJ n (J4 m)) (J4 m))
def LF(k:IntKind)(n:Int):Int :=
 match k with
 | .u8=>cI n 256
 | .u16=>cI n 65536
 | .u32=>cI n 4294967296
 | .u64=>cI n 18446744073709551616
 | .i8=>XV n 128 256
 | .i16=>XV n 32768 65536
 | .i32=>XV n 2147483648 4294967296
 | .i64=>XV n 9223372036854775808 18446744073709551616
theorem Alc(n:Int)(h m:Nat):XV n h m=if n % (m:Int)>=h then n % (m:Int)-m else n % (m:Int):=by
 unfold XV;rw[Ug];show (cond (B (n % (m:Int)<(h:Int))) (n % (m:Int)) (n % (m:Int)-(m:Int)))=_;by_cases hh:n % (m:Int)<h
 ·rw[decide_eq_true hh,if_neg (by omega)];rfl
 ·rw[decide_eq_false hh,if_pos (by omega)];rfl
theorem Ko(k:IntKind)(n:Int):LF k n=k.wrap n:=by
 cases k <;> simp[LF,cI,Alc,I,Am,jY] <;> rfl
section
variable {α:Type}
noncomputable def Ec (n:Nat) (k:Nat->α):α:=Nr (motive:=fun _=>α) (k 0) (fun m _=>k (Ns m)) n
noncomputable def Sm (i:Int) (k:Int->α):α:=Int.rec (motive:=fun _=>α) (fun n=>Ec n fun n=>k (.ofNat n)) (fun n=>Ec n fun n=>k (.negSucc n)) i
noncomputable def IF (b:Bool) (k:Bool->α):α:=Bool.rec (motive:=fun _=>α) (k false) (k true) b
noncomputable def GF (l:List AV):(List AV->α)->α:=aH (motive:=fun _=>(List AV->α)->α) (fun k=>k []) (fun x _ ih k=>ih fun xs=>k (x::xs)) l
theorem Gt(n:Nat)(k:Nat->α):Ec n k=k n:=by cases n <;> rfl
theorem Zq(i:Int)(k:Int->α):Sm i k=k i:=by cases i <;> simp only [Sm,Gt]
theorem LG(b:Bool)(k:Bool->α):IF b k=k b:=by cases b <;> rfl
theorem MH(l:List AV):∀ k:List AV->α,GF l k=k l:=by
 induction l with
 | nil=>intro k;rfl
 | cons x l ih=>intro k;exact ih _
noncomputable def Js (x:AV) (k:AV->α):α :=
 match x with
 | .int kd n=>Sm n fun n=>k (.int kd n)
 | .bool b=>IF b fun b=>k (.bool b)
 | .agg cs=>GF cs fun cs=>k (.agg cs)
 | .sl n cs=>Ec n fun n=>GF cs fun cs=>k (.sl n cs)
 | .fresh m n cs=>Ec n fun n=>GF cs fun cs=>k (.fresh m n cs)
 | .frs (.st b) m n cs=>IF b fun b=>Ec n fun n=>GF cs fun cs=>k (.frs (.st b) m n cs)
 | .frs (.tp b) m n cs=>IF b fun b=>Ec n fun n=>GF cs fun cs=>k (.frs (.tp b) m n cs)
 | .pt cs=>GF cs fun cs=>k (.pt cs)
 | .fnc f cs=>GF cs fun cs=>k (.fnc f cs)
 | .tup cs=>GF cs fun cs=>k (.tup cs)
 | x=>k x
theorem NY(x:AV)(k:AV->α):Js x k=k x:=by
 cases x
 case frs b m n cs=>cases b <;> simp only[Js,LG,MH,Gt]
 all_goals simp only[Js,Zq,LG,MH,Gt]
noncomputable def OO (r:Reg) (k:Reg->α):α :=
 match r with
 | .val x=>Js x fun x=>k (.val x)
 | .box cs=>GF cs fun cs=>k (.box cs)
 | .ptr d off=>Ec off fun off=>k (.ptr d off)
 | .mem cs=>GF cs fun cs=>k (.mem cs)
 | .own m n cs=>Ec n fun n=>GF cs fun cs=>k (.own m n cs)
 | .agn (.st b) m n cs=>IF b fun b=>Ec n fun n=>GF cs fun cs=>k (.agn (.st b) m n cs)
 | .agn (.tp b) m n cs=>IF b fun b=>Ec n fun n=>GF cs fun cs=>k (.agn (.tp b) m n cs)
 | r=>k r
theorem Zr(r:Reg)(k:Reg->α):OO r k=k r:=by
 cases r
 case agn b m n cs=>cases b <;> simp only[OO,LG,MH,Gt]
 all_goals simp only[OO,NY,MH,Gt]
end
def If(g:Nat->Reg)(o:Opd):Option AV :=
 match o with
 | .t n=>(match g n with | .val x=>some x | _=>none)
 | .c x=>some x
def Ald(g:Nat->Reg):Opd->Reg
 | .t n=>g n
 | .c x => .val x
theorem QT(s:Al)(o:Opd):If (A4 s) o=o.av s:=by cases o <;> rfl
theorem Ale(s:Al)(o:Opd):Ald (A4 s) o=o.reg s:=by cases o <;> rfl
def QU(g:Nat->Reg):List Opd->Option (List AV)
 | []=>some []
 | o::l=>match If g o with
  | none=>none
  | some x=>match QU g l with
   | none=>none
   | some xs=>some (x::xs)
theorem cK(s:Al):∀ l,QU (A4 s) l=avs s l
 | []=>rfl
 | o::l=>by simp only[QU,avs,QT,cK s l];rfl
def Sn(g:Nat->Reg):List AV->List (Nat × Nat × Opd)->Option (List AV)
 | cs,[]=>some cs
 | cs,(off,n,o)::ps =>
  match If g o with
  | none=>none
  | some x=>match Gp x n with
   | none=>none
   | some ys=>match C4 cs off ys with
    | none=>none
    | some cs'=>Sn g cs' ps
theorem XW(s:Al):∀ (ps:List (Nat × Nat × Opd)) (cs:List AV),Sn (A4 s) cs ps=FW s cs ps
 | [],cs=>rfl
 | (off,n,o)::ps,cs=>by simp only[Sn,FW,QT,XW s ps];rfl
def Tg(g:Nat->Reg)(d:Nat):Option Opd->Option Nat
 | none=>some d
 | some o=>match If g o with
  | some (.int _ i)=>cond (TT i (.ofNat 0)) none (some i.toNat)
  | _=>none
theorem Alf(s:Al)(d:Nat)(o:Option Opd):Tg (A4 s) d o=GL s d o:=by
 cases o with
 | none=>rfl
 | some o =>
  simp only[Tg,GL,QT];generalize o.av s=x;cases x with
  | none=>rfl
  | some v =>
   cases v <;> first | rfl | skip
   rename_i k i;dsimp only;rw[Ug];show cond (B (i<0)) _ _=_;by_cases h:i<0
   ·rw[decide_eq_true h,if_neg (by omega)];rfl
   ·rw[decide_eq_false h,if_pos (by omega)];rfl
def isK:IntKind->IntKind->Bool
 | .i8,.i8=>true
 | .i16,.i16=>true
 | .i32,.i32=>true
 | .i64,.i64=>true
 | .u8,.u8=>true
 | .u16,.u16=>true
 | .u32,.u32=>true
 | .u64,.u64=>true
 | _,_=>false
theorem rX(k k':IntKind):isK k k'=decide (k=k'):=by cases k <;> cases k' <;> rfl
def QV:IntKind->Nat
 | .i8=>256 | .u8=>256 | .i16=>65536 | .u16=>65536 | .i32=>4294967296 | .u32=>4294967296 | .i64=>18446744073709551616 | .u64=>18446744073709551616
theorem VG(k:IntKind):QV k=2^k.bits:=by cases k <;> rfl
def MI(f:Nat->Nat->Nat)(op:BinOp)(k:IntKind)(x y:Int):Option AV :=
 match x,y with
 | .ofNat m,.ofNat n=>cond (EX m (QV k)&&EX n (QV k)) (some (.int k (LF k (.ofNat (f m n))))) ((L7 op k x y).map (.int k))
 | _,_=>(L7 op k x y).map (.int k)
theorem ER(w m:Nat)(h:m<2^w):(T w (J4 m)).toNat=m:=by
 have:T w (J4 m)=BitVec.ofNat w m:=by
  apply BitVec.eq_of_toNat_eq;simp
 rw[this,IZ,F3 h]
theorem jZ(k:IntKind)(x y:Int):MI Nat.land .and k x y=(L7 .and k x y).map (.int k):=by
 unfold MI;split
 ·rename_i m n;cases h:(EX m (QV k)&&EX n (QV k))
  ·rfl
  ·simp only[Jq,Ad,decide_eq_true_eq,VG] at h;simp only[cond_true,L7,A3,Ko,N0,ER _ _ h.1,ER _ _ h.2];rfl
 ·rfl
theorem wV(k:IntKind)(x y:Int):MI Nat.lor .or k x y=(L7 .or k x y).map (.int k):=by
 unfold MI;split
 ·rename_i m n;cases h:(EX m (QV k)&&EX n (QV k))
  ·rfl
  ·simp only[Jq,Ad,decide_eq_true_eq,VG] at h;simp only[cond_true,L7,A3,Ko,iT,ER _ _ h.1,ER _ _ h.2];rfl
 ·rfl
theorem kA(k:IntKind)(x y:Int):MI Nat.xor .xor k x y=(L7 .xor k x y).map (.int k):=by
 unfold MI;split
 ·rename_i m n;cases h:(EX m (QV k)&&EX n (QV k))
  ·rfl
  ·simp only[Jq,Ad,decide_eq_true_eq,VG] at h;simp only[cond_true,L7,A3,Ko,BitVec.toNat_xor,ER _ _ h.1,ER _ _ h.2];rfl
 ·rfl
def rY(y:Int)(k:IntKind):Int := .ofNat (Nat.pow 2 (cond (rV y.toNat k.bits) y.toNat k.bits))
theorem Alg(y:Int)(k:IntKind):rY y k=2^(min y.toNat k.bits):=by
 unfold rY;have:cond (rV y.toNat k.bits) y.toNat k.bits=min y.toNat k.bits:=by
  cases h:rV y.toNat k.bits
  ·have:¬ y.toNat<=k.bits:=by intro hh;rw[iX hh] at h;cases h
   simp only[cond_false];omega
  ·have:=iY h;simp only[cond_true];omega
 rw[this];exact C6 2 _
def kB(x y:Int):Int :=
 match x,y with
 | .ofNat m,.ofNat n => .ofNat (IA m n)
 | x,y=>d x y
theorem wW(x y:Int):kB x y=d x y:=by
 unfold kB;split
 ·rename_i m n;exact (Int.ofNat_fdiv m n)
 ·rfl
def Alh(op:BinOp)(x y:AV):Option AV :=
 match x,y with
 | .int k a,.int k' b=>(match op with
  | .shl=>cond (TT b (.ofNat 0)) none (some (.int k (LF k (Int.mul a (rY b k)))))
  | .shr=>cond (TT b (.ofNat 0)) none (some (.int k (kB a (rY b k))))
  | op=>cond (isK k k') (match op with
   | .add=>some (.int k (LF k (Int.add a b)))
   | .sub=>some (.int k (LF k (A4w a b)))
   | .mul=>some (.int k (LF k (Int.mul a b)))
   | .quo=>cond (Xa b (.ofNat 0)) none (some (.int k (LF k (Aw a b))))
   | .rem=>cond (Xa b (.ofNat 0)) none (some (.int k (AD a b)))
   | .and=>MI Nat.land .and k a b
   | .or=>MI Nat.lor .or k a b
   | .xor=>MI Nat.xor .xor k a b
   | .eql=>some (.bool (Xa a b))
   | .neq=>some (.bool (!(Xa a b)))
   | .lss=>some (.bool (TT a b))
   | .leq=>some (.bool (leI a b))
   | .gtr=>some (.bool (TT b a))
   | .geq=>some (.bool (leI b a))
   | _=>none) none)
 | _,_=>none
theorem XX{α:Type}(p:Prop)[Decidable p](a b:α):cond (decide p) a b=if p then a else b:=by
 by_cases h:p <;> simp[h]
theorem Ali(a b:Int):(a==b)=decide (a=b):=by
 by_cases h:a=b <;> simp[h]
theorem Alj(op:BinOp)(x y:AV):Alh op x y=LW op x y:=by
 cases x <;> cases y <;> first | rfl | skip
 rename_i k a k' b;cases op <;> simp only[Alh,LW,Jm,Cf,if_false,if_true,rX,XX,aJ,Afi,A3,Ko,Ug,Awz,rW,jZ,wV,kA,Q9,Alg,wW,gt_iff_lt,ge_iff_le,Ali,bne];all_goals rfl
def unF(op:UnOp)(x:AV):Option AV :=
 match op,x with
 | .neg,.int k n=>some (.int k (LF k (A4w (.ofNat 0) n)))
 | .not,.bool b=>some (.bool (!b))
 | _,_=>none
theorem Axa(op:UnOp)(x:AV):unF op x=unA op x:=by
 cases op <;> cases x <;> simp only[unF,unA,Ko];rfl
def kC(i:Int)(n:Nat):Bool:=match i with | .ofNat m=>EX m n | .negSucc _=>false
theorem Axb(i:Int)(n:Nat):kC i n=decide (0<=i/\i<(n:Int)):=by
 cases i with
 | ofNat m=>simp only[kC,Jq];rw[decide_eq_decide];simp only[Jr];omega
 | negSucc m=>simp only[kC];symm;rw[decide_eq_false_iff_not];omega
def Alk(F:B7)(g:Nat->Reg):K->Option (Reg × List (Nat × Reg))
 | .mov x=>match If g x with
  | some v=>some (.val v,[])
  | none=>none
 | .pick c a b =>
  match If g c with
  | some (.bool true)=>(If g a).map fun v=>(.val v,[])
  | some (.bool false)=>(If g b).map fun v=>(.val v,[])
  | _=>none
 | .bin op x y =>
  match If g x,If g y with
  | some a,some b=>(Alh op a b).map fun v=>(.val v,[])
  | _,_=>none
 | .eqb neg x y =>
  match If g x,If g y with
  | some (.bool a),some (.bool b)=>some (.val (.bool (if neg then !(a==b) else a==b)),[])
  | _,_=>none
 | .un op x=>match If g x with
  | some a=>(unF op a).map fun v=>(.val v,[])
  | none=>none
 | .cv k x=>match If g x with
  | some (.int _ n)=>some (.val (.int k (LF k n)),[])
  | _=>none
 | .new z kills=>some (.box z,kills.map fun t=>(t,.dead))
 | .box x kills=>match If g x with
  | some (.agg cs)=>some (.box cs,kills.map fun t=>(t,.dead))
  | some x=>if KU x then some (.box [x],kills.map fun t=>(t,.dead)) else none
  | none=>none
 | .bld z ps=>(Sn g z ps).map fun cs=>(.val (.agg cs),[])
 | .bls n z ps=>(Sn g z ps).map fun cs=>(.val (.sl n cs),[])
 | .adr x d off=>match g x with
  | .box _=>if x=d then some (.ptr d off,[]) else none
  | .ptr d' o=>if d'=d then some (.ptr d (o+off),[]) else none
  | .mem cs=>some (.mem (cs.drop off),[])
  | _=>none
 | .ld x d n one=>match g x with
  | .box cs=>if x=d then (Bn cs 0 n one).map fun v=>(.val v,[]) else none
  | .ptr d' off=>if d'=d then (match g d with
   | .box cs=>(Bn cs off n one).map fun v=>(.val v,[])
   | .own _ _ cs=>(Bn cs off n one).map fun v=>(.val v,[])
   | _=>none) else none
  | .mem cs=>(Bn cs 0 n one).map fun v=>(.val v,[])
  | _=>none
 | .st x d n v=>match If g v with
  | none=>none
  | some a=>match Gp a n with
   | none=>none
   | some ys=>match g x with
    | .box cs=>if x=d then (C4 cs 0 ys).map fun cs'=>(.dead,[(d,.box cs')]) else none
    | .ptr d' off=>if d'=d then (match g d with
     | .box cs=>(C4 cs off ys).map fun cs'=>(.dead,[(d,.box cs')])
     | .own k m cs=>(C4 cs off ys).map fun cs'=>(.dead,[(d,.own k m cs')])
     | _=>none) else none
    | _=>none
 | .fld x off n one=>match If g x with
  | some (.agg cs)=>(Bn cs off n one).map fun v=>(.val v,[])
  | _=>none
 | .ixa x i k=>match If g i with
  | some (.int _ i)=>(match g x with
   | .val (.sl n cs)=>cond (kC i n) (some (.mem (cs.drop (i.toNat*k)),[])) none
   | _=>none)
  | _=>none
 | .six x i=>match If g x,If g i with
  | some (.str b),some (.int _ i)=>(if 0<=i then b[i.toNat]? else none).map fun c=>(.val (.int .u8 c.toNat),[])
  | _,_=>none
 | .ext x i=>match If g x with
  | some (.tup vs)=>(vs[i]?).map fun v=>(.val v,[])
  | _=>none
 | .len x=>match If g x with
  | some .nil=>some (.val (.int .i64 0),[])
  | some (.sl n _)=>some (.val (.int .i64 n),[])
  | _=>none
 | .mx xs=>match QU g xs with
  | some (.int k n::l)=>(X8 k n l).map fun m=>(.val (.int k m),[])
  | _=>none
 | .mn xs=>match QU g xs with
  | some (.int k n::l)=>(X9 k n l).map fun m=>(.val (.int k m),[])
  | _=>none
 | .call f xs=>match QU g xs with
  | some vs=>(F f vs).map fun v=>(.val (K5 v),[])
  | none=>none
 | .clo f xs=>match QU g xs with
  | some vs=>(F f vs).map fun v=>(F4 v,[])
  | none=>none
 | .brw f x d=>match g x with
  | .dup d'=>if d'=d then (match g d with
   | .own _ n cs=>if cs.all (fun c => !Ut c) then (match F f [.sl n cs] with
    | some y=>if G6 (K5 y) then some (.val (K5 y),[]) else none
    | none=>none) else none
   | _=>none) else none
  | _=>none
 | .cpy x=>match g x with
  | .val v=>some (.val v,[])
  | .own _ _ _=>some (.dup x,[])
  | _=>none
 | .tra x=>match g x with
  | .val v=>some (.val v,[])
  | .own k n cs=>some (.own k n cs,[(x,.dead)])
  | .agn b k n cs=>some (.agn b k n cs,[(x,.dead)])
  | _=>none
 | .frz x=>match g x with
  | .val v=>some (.val v,[])
  | .own _ n cs=>some (.val (.sl n cs),[(x,.val (.sl n cs))])
  | _=>none
 | .mks z n=>match If g n with
  | some (.int _ m)=>cond (kC m 1048577) (some (.own z.length m.toNat (Cu z m.toNat),[])) none
  | _=>none
 | .blo k n z ps=>(Sn g z ps).map fun cs=>(.own k n cs,[])
 | .apd ow x y k B=>match If g y with
  | some .nil=>(match Ald g x with
   | .val .nil=>some (.val .nil,[])
   | .own k' n cs=>if k'=k then some (if ow then .own k n cs else .val (.sl n cs),PB x) else none
   | _=>none)
  | some (.sl m ys)=>if ys.length=m*k then (match Ald g x with
   | .val .nil=>if m<=B then some (if ow then .own k m ys else .val (.sl m ys),[]) else none
   | .own k' n cs=>if k'=k/\n+m<=B then some (if ow then .own k (n+m) (cs++ys) else .val (.sl (n+m) (cs++ys)),PB x) else none
   | _=>none) else none
  | _=>none
 | .sli x lo hi mx k=>match If g x with
  | some .nil=>(match Tg g 0 mx,Tg g 0 hi,Tg g 0 lo with
   | some 0,some 0,some 0=>if mx.isSome->hi.isSome then some (.val .nil,[]) else none
   | _,_,_=>none)
  | some (.sl n cs)=>(match Tg g n mx,Tg g n hi,Tg g 0 lo with
   | some m,some h,some l=>if l<=h/\h<=m/\m<=n/\(mx.isSome->hi.isSome) then some (.val (.sl (h-l) ((cs.drop (l*k)).take ((h-l)*k))),[]) else none
   | _,_,_=>none)
  | _=>none
 | .ixo x d i k=>match If g i with
  | some (.int _ i)=>(match g x with
   | .val (.sl n cs)=>cond (kC i n) (some (.mem (cs.drop (i.toNat*k)),[])) none
   | .dup d'=>if d'=d then (match g d with
    | .own k' n _=>if k'=k then cond (kC i n) (some (.ptr d (i.toNat*k),[])) none else none
    | _=>none) else none
   | _=>none)
  | _=>none
 | .lno x d=>match g x with
  | .val .nil=>some (.val (.int .i64 0),[])
  | .val (.sl n _)=>some (.val (.int .i64 n),[])
  | .dup d'=>if d'=d then (match g d with
   | .own _ n _=>some (.val (.int .i64 n),[])
   | _=>none) else none
  | _=>none
 | .nlo k=>some (.own k 0 [],[])
 | .bdo a x l=>match If g a with
  | some (.bool b)=>(match g x with
   | .own k n cs=>if l.all (fun t=>Gn (g t)) then some (.agn (.st b) k n cs,[(x,.dead)]) else none
   | _=>none)
  | _=>none
 | .cln f xs l=>match QU g xs with
  | some vs=>if l.all (fun t=>Gn (g t)) then (F f vs).map fun v=>(F4 v,[]) else none
  | none=>none
 | .stl x v=>match g x with
  | .box cs=>(match g v with
   | .agn (.st _) _ _ _=>if cs.length=2 then some (.dead,[(x,.bxl v)]) else none
   | _=>none)
  | _=>none
 | .fdo x=>match g x with
  | .agn (.st _) k n cs=>some (.own k n cs,[(x,.dead)])
  | _=>none
 | .exo x=>match g x with
  | .agn (.tp b) k n cs=>some (.own k n cs,[(x,.val (.tup [.sl n [],.bool b]))])
  | _=>none
 | .slo x hi k=>match If g hi with
  | some (.int _ h)=>(match g x with
   | .own k' n cs=>if k'=k/\0<=h/\h<=n then some (.own k h.toNat (cs.take (h.toNat*k)),[(x,.dead)]) else none
   | _=>none)
  | _=>none
 | .cao f k x xs=>match QU g xs with
  | some vs=>(match x with
   | .t m=>(match g m with
    | .own k' n cs=>(F f (.fresh k' n cs::vs)).map fun v=>(F4 v,[(m,.dead)])
    | _=>none)
   | .c (.sl 0 [])=>(F f (.fresh k 0 []::vs)).map fun v=>(F4 v,[])
   | _=>none)
  | none=>none
 | .bad=>none
theorem Alm(F:B7)(s:Al)(k:K):Alk F (A4 s) k=B4 F s k:=by
 cases k <;> simp only[Alk,B4,QT,cK,XW,Ale,Alf,Alj,Axa,Ko,Axb,XX]
 case mov x=>cases x.av s <;> rfl
 case mks z n =>
  generalize n.av s=x;cases x with
  | none=>rfl
  | some v =>
   cases v <;> first | rfl | skip
   rename_i k m;have:(0<=m/\m<((1048577:Nat):Int))↔(0<=m/\m<=1048576):=by omega
   simp only[this]
 case ixo x d i k =>
  generalize i.av s=y;cases y with
  | none=>rfl
  | some v =>
   cases v <;> first | rfl | skip
   rename_i kk m;generalize A4 s x=r;cases r <;> first | rfl | skip
   ·rename_i v;cases v <;> rfl
   ·rename_i d';dsimp only;by_cases hd:d'=d
    ·rw[if_pos hd,if_pos hd];generalize A4 s d=r2;cases r2 <;> first | rfl | skip
     rename_i k' n cs;by_cases hk:k'=k <;> simp[hk]
    ·rw[if_neg hd,if_neg hd]
 all_goals rfl
inductive Tr where
 | e
 | n (l:Tr) (v:Reg) (r:Tr)
noncomputable def Tr.get (t:Tr):Nat->Reg :=
 Tr.rec (motive:=fun _=>Nat->Reg) (fun _ => .dead) (fun _ v _ gl gr i=>Nr (motive:=fun _=>Reg) v (fun j _=>cond (CU (Pv j 2) 0) (gl (IA j 2)) (gr (IA j 2))) i) t
theorem wX(i:Nat):Tr.e.get i = .dead:=rfl
theorem Zs(l:Tr)(v:Reg)(r:Tr):(Tr.n l v r).get 0=v:=rfl
theorem Iq(l:Tr)(v:Reg)(r:Tr)(j:Nat):(Tr.n l v r).get (j+1)=cond (CU (j % 2) 0) (l.get (j / 2)) (r.get (j / 2)):=rfl
section
variable {α:Type}
noncomputable def QW (f:Nat):Tr->Nat->Reg->(Tr->Option α)->Option α :=
 Nr (motive:=fun _=>Tr->Nat->Reg->(Tr->Option α)->Option α) (fun _ _ _ _=>none)
  (fun _ ih t i x k=>Tr.rec (motive:=fun _=>Option α)
   (Nr (motive:=fun _=>Option α) (k (.n .e x .e)) (fun j _=>cond (CU (Pv j 2) 0) (Ec (IA j 2) fun j=>ih .e j x fun l'=>k (.n l' .dead .e)) (Ec (IA j 2) fun j=>ih .e j x fun r'=>k (.n .e .dead r'))) i)
   (fun l v r _ _=>Nr (motive:=fun _=>Option α) (k (.n l x r)) (fun j _=>cond (CU (Pv j 2) 0) (Ec (IA j 2) fun j=>ih l j x fun l'=>k (.n l' v r)) (Ec (IA j 2) fun j=>ih r j x fun r'=>k (.n l v r'))) i) t) f
theorem XY{i j:Nat}(h1:i % 2=j % 2)(h2:i / 2=j / 2):i=j:=by omega
theorem cL:∀ (f:Nat) (t:Tr) (i:Nat) (x:Reg) (k:Tr->Option α) (y:α),QW f t i x k=some y->∃ t',k t'=some y/\∀ u,t'.get u=if u=i then x else t.get u:=by
 intro f;induction f with
 | zero=>intro t i x k y h;cases h
 | succ f ih =>
  intro t i x k y h;have key:∀ (l r:Tr) (v:Reg),(∀ u,(Tr.n l v r).get u=t.get u) ->
    (match i with
     | 0=>k (.n l x r)
     | j+1=>cond (CU (Pv j 2) 0) (Ec (IA j 2) fun j=>QW f l j x fun l'=>k (.n l' v r)) (Ec (IA j 2) fun j=>QW f r j x fun r'=>k (.n l v r')))=some y ->
    ∃ t',k t'=some y/\∀ u,t'.get u=if u=i then x else t.get u:=by
   intro l r v ht h;cases i with
   | zero =>
    refine⟨_,h,fun u => ?_⟩;cases u with
    | zero=>simp[Zs]
    | succ u=>rw[if_neg (by omega),<- ht];rfl
   | succ j =>
    dsimp only at h;cases hj:CU (Pv j 2) 0
    ·rw[hj] at h;simp only[cond_false,Gt] at h;obtain⟨r',h1,h2⟩:=ih r _ x _ y h;have hj':j % 2=1:=by
      have:¬ j % 2=0:=fun e=>by
       have:CU (Pv j 2) 0=true:=by show CU (j % 2) 0=true;rw[e];rfl
       rw[this] at hj;cases hj
      omega
     refine⟨_,h1,fun u => ?_⟩;cases u with
     | zero=>rw[if_neg (by omega),<- ht];rfl
     | succ u =>
      rw[<- ht,Iq,Iq,h2];cases hu:CU (u % 2) 0
      ·have hu':u % 2=1:=by
        have:¬ u % 2=0:=fun e=>by rw[e] at hu;cases hu
        omega
       simp only[cond_false];show (if u / 2=j / 2 then _ else _)=_;by_cases hh:u / 2=j / 2
       ·have:u=j:=XY (by omega) hh;rw[if_pos hh,if_pos (by omega)]
       ·rw[if_neg hh,if_neg (by omega)]
      ·have hu':u % 2=0:=CN hu;simp only[cond_true];rw[if_neg (by omega)]
    ·rw[hj] at h;simp only[cond_true,Gt] at h;obtain⟨l',h1,h2⟩:=ih l _ x _ y h;have hj':j % 2=0:=CN hj;refine⟨_,h1,fun u => ?_⟩;cases u with
     | zero=>rw[if_neg (by omega),<- ht];rfl
     | succ u =>
      rw[<- ht,Iq,Iq,h2];cases hu:CU (u % 2) 0
      ·have hu':u % 2=1:=by
        have:¬ u % 2=0:=fun e=>by rw[e] at hu;cases hu
        omega
       simp only[cond_false];rw[if_neg (by omega)]
      ·have hu':u % 2=0:=CN hu;simp only[cond_true];show (if u / 2=j / 2 then _ else _)=_;by_cases hh:u / 2=j / 2
       ·have:u=j:=XY (by omega) hh;rw[if_pos hh,if_pos (by omega)]
       ·rw[if_neg hh,if_neg (by omega)]
  cases t with
  | e =>
   refine key .e .e .dead (fun u => ?_) (by cases i <;> exact h);cases u with
   | zero=>rfl
   | succ u=>rw[Iq];cases CU (u % 2) 0 <;> rfl
  | n l v r=>exact key l r v (fun _=>rfl) (by cases i <;> exact h)
def Lc(t:Tr)(s:Al):Prop:=∀ u,t.get u=A4 s u
noncomputable def VH (m:Nat) (t:Tr) (d:Nat) (r:Reg) (k:Tr->Option α):Option α:=cond (EX d m) (OO r fun r=>QW 12 t d r k) none
theorem VI{m:Nat}{t:Tr}{s:Al}{d:Nat}{r:Reg}{k:Tr->Option α}{y:α}(hs:s.length=m)(ht:Lc t s)(h:VH m t d r k=some y):∃ t',k t'=some y/\Lc t' (s.set d r):=by
 unfold VH at h;cases hd:EX d m
 ·rw[hd] at h;cases h
 ·rw[hd] at h;simp only[cond_true,Zr] at h;obtain⟨t',h1,h2⟩:=cL 12 t d r k y h;refine⟨t',h1,fun u => ?_⟩;simp only[Jq,decide_eq_true_eq] at hd;rw[h2,Dx];by_cases hu:u=d
  ·subst hu;rw[if_pos rfl,if_pos ⟨rfl,by omega⟩]
  ·rw[if_neg hu,if_neg (fun e=>hu e.1.symm)];exact ht u
noncomputable def Zt (m:Nat) (l:List (Nat × Reg)):Tr->(Tr->Option α)->Option α :=
 aH (motive:=fun _=>Tr->(Tr->Option α)->Option α) (fun t k=>k t) (fun p _ ih t k=>VH m t p.1 p.2 fun t=>ih t k) l
theorem So{m:Nat}:∀ {l:List (Nat × Reg)} {t:Tr} {s:Al} {k:Tr->Option α} {y:α},s.length=m->Lc t s->Zt m l t k=some y->∃ t',k t'=some y/\Lc t' (BO s l)
 | [],t,s,k,y,_,ht,h=>⟨t,h,ht⟩
 | (d,r)::l,t,s,k,y,hs,ht,h=>by
  obtain⟨t',h1,h2⟩:=VI hs ht h;exact So (l:=l) (by simp[hs]) h2 (show Zt m l t' k=some y from h1)
noncomputable def Aln (m:Nat) (t:Tr) (d:Option Nat) (r:Reg) (k:Tr->Option α):Option α :=
 match d with
 | none=>k t
 | some d=>VH m t d r k
theorem cM{m:Nat}{t:Tr}{s:Al}{d:Option Nat}{r:Reg}{k:Tr->Option α}{y:α}(hs:s.length=m)(ht:Lc t s)(h:Aln m t d r k=some y):∃ t',k t'=some y/\Lc t' (DL s d r):=by
 cases d with
 | none=>exact⟨t,h,ht⟩
 | some d=>exact VI hs ht h
def Alo(g:Nat->Reg):Option (Nat × Bool)->Option Bool
 | none=>some true
 | some (t,b)=>match g t with
  | .val (.bool c)=>some (c==b)
  | .val .undef=>some false
  | _=>none
theorem wY(s:Al)(g:Option (Nat × Bool)):Alo (A4 s) g=GM s g:=by cases g <;> rfl
noncomputable def fOp (F:B7) (m:Nat) (o:IOp) (t:Tr) (k:Tr->Option α):Option α :=
 Zt m (o.ks.map fun u=>(u,Reg.dead)) t fun t =>
  match Alo t.get o.g with
  | none=>none
  | some false=>Aln m t o.dst (.val .undef) k
  | some true=>match Alk F t.get o.k with
   | none=>none
   | some (r,l)=>Zt m l t fun t=>Aln m t o.dst r k
theorem Axc{F:B7}{m:Nat}{o:IOp}{t:Tr}{s:Al}{k:Tr->Option α}{y:α}(hs:s.length=m)(ht:Lc t s)(h:fOp F m o t k=some y):∃ s' t',FX F o s=some s'/\s'.length=m/\Lc t' s'/\k t'=some y:=by
 unfold fOp at h;obtain⟨t1,h1,h2⟩:=So hs ht h;have hs1:(kill s o.ks).length=m:=by rw[kill,FH];exact hs
 have e1:t1.get=A4 (kill s o.ks):=funext h2;rw[e1,wY] at h1;simp only[FX,Ih];have hl:∀ (s:Al) (d:Option Nat) (r:Reg),(DL s d r).length=s.length:=by intro s d r;cases d <;> simp[DL]
 split at h1
 ·cases h1
 ·rename_i hw;rw[hw];obtain⟨t2,h3,h4⟩:=cM hs1 h2 h1;exact⟨_,t2,rfl,by rw[hl];exact hs1,h4,h3⟩
 ·rename_i hw;rw[hw];rw[Alm] at h1;split at h1
  ·cases h1
  ·rename_i r l hk;obtain⟨t2,h3,h4⟩:=So hs1 h2 h1;obtain⟨t3,h5,h6⟩:=cM (by rw[FH];exact hs1) h4 h3;refine⟨_,t3,by simp only[hk],by rw[hl,FH];exact hs1,h6,h5⟩
noncomputable def A4x (F:B7) (m:Nat) (l:List IOp):Tr->(Tr->Option α)->Option α :=
 aH (motive:=fun _=>Tr->(Tr->Option α)->Option α) (fun t k=>k t) (fun o _ ih t k=>fOp F m o t fun t=>ih t k) l
theorem cN{F:B7}{m:Nat}:∀ {l:List IOp} {t:Tr} {s:Al} {k:Tr->Option α} {y:α},s.length=m->Lc t s->A4x F m l t k=some y->∃ s' t',Ej F l s=some s'/\s'.length=m/\Lc t' s'/\k t'=some y
 | [],t,s,k,y,hs,ht,h=>⟨s,t,rfl,hs,ht,h⟩
 | o::l,t,s,k,y,hs,ht,h=>by
  obtain⟨s1,t1,h1,h2,h3,h4⟩:=Axc hs ht h;obtain⟨s2,t2,h5,h6,h7,h8⟩:=cN h2 h3 h4;exact⟨s2,t2,by simp only[Ej,h1];exact h5,h6,h7,h8⟩
noncomputable def fC (F:B7) (m:Nat) (n:Nat):ICode->Tr->(Ex->Tr->Option α)->Option α :=
 Nr (motive:=fun _=>ICode->Tr->(Ex->Tr->Option α)->Option α) (fun _ _ _=>none) (fun _ ih c t k =>
  match c with
  | .skip=>k .norm t
  | .region _ ops=>A4x F m ops t fun t=>k .norm t
  | .seq a b=>ih a t fun ex t=>(match ex with | .norm=>ih b t k | .exit i=>k (.exit i) t | .ret=>k .ret t)
  | .cond c a b=>(match If t.get c with | some (.bool true)=>ih a t k | some (.bool false)=>ih b t k | _=>none)
  | .block id c=>ih c t fun ex t=>(match ex with | .norm=>k .norm t | .exit i=>cond (CU i id) (k .norm t) (k (.exit i) t) | .ret=>k .ret t)
  | .loop c=>ih c t fun ex t=>(match ex with | .norm=>ih (.loop c) t k | .exit i=>k (.exit i) t | .ret=>k .ret t)
  | .scope c=>ih c t k
  | .exit id=>k (.exit id) t
  | .ret=>k .ret t) n
theorem A5w{F:B7}{m:Nat}:∀ (n:Nat) {c:ICode} {t:Tr} {s:Al} {k:Ex->Tr->Option α} {y:α},s.length=m->Lc t s->fC F m n c t k=some y->∃ ex s' t',Cm F n c s=some (ex,s')/\s'.length=m/\Lc t' s'/\k ex t'=some y:=by
 intro n;induction n with
 | zero=>intro c t s k y _ _ h;cases h
 | succ n ih =>
  intro c t s k y hs ht h;cases c with
  | skip=>exact⟨.norm,s,t,rfl,hs,ht,h⟩
  | region d ops =>
   obtain⟨s',t',h1,h2,h3,h4⟩:=cN hs ht h;exact⟨.norm,s',t',by simp only[Cm,h1,A3],h2,h3,h4⟩
  | seq a b =>
   obtain⟨ex,s1,t1,h1,h2,h3,h4⟩:=ih (c:=a) hs ht h;cases ex with
   | norm =>
    obtain⟨ex,s2,t2,h5,h6,h7,h8⟩:=ih (c:=b) h2 h3 h4;exact⟨ex,s2,t2,by simp only[Cm,h1];exact h5,h6,h7,h8⟩
   | exit i=>exact⟨.exit i,s1,t1,by simp only[Cm,h1],h2,h3,h4⟩
   | ret=>exact⟨.ret,s1,t1,by simp only[Cm,h1],h2,h3,h4⟩
  | cond o a b =>
   have e1:t.get=A4 s:=funext ht;have h':(match If t.get o with | some (.bool true)=>fC F m n a t k | some (.bool false)=>fC F m n b t k | _=>none)=some y:=h
   rw[e1,QT] at h';split at h'
   ·rename_i hc;obtain⟨ex,s1,t1,h1,h2,h3,h4⟩:=ih (c:=a) hs ht h';exact⟨ex,s1,t1,by simp only[Cm,J7,hc];exact h1,h2,h3,h4⟩
   ·rename_i hc;obtain⟨ex,s1,t1,h1,h2,h3,h4⟩:=ih (c:=b) hs ht h';exact⟨ex,s1,t1,by simp only[Cm,J7,hc];exact h1,h2,h3,h4⟩
   ·cases h'
  | block id c =>
   obtain⟨ex,s1,t1,h1,h2,h3,h4⟩:=ih (c:=c) hs ht h;cases ex with
   | norm=>exact⟨.norm,s1,t1,by simp only[Cm,h1],h2,h3,h4⟩
   | ret=>exact⟨.ret,s1,t1,by simp only[Cm,h1],h2,h3,h4⟩
   | exit i =>
    by_cases hi:i=id
    ·subst hi;have:CU i i=true:=Nat.beq_refl i;simp only[this,cond_true] at h4;exact⟨.norm,s1,t1,by simp only[Cm,h1,if_true],h2,h3,h4⟩
    ·have:CU i id=false:=by cases hh:CU i id with | false=>rfl | true=>exact absurd (CN hh) hi
     simp only[this,cond_false] at h4;exact⟨.exit i,s1,t1,by simp only[Cm,h1,if_neg hi],h2,h3,h4⟩
  | loop c =>
   obtain⟨ex,s1,t1,h1,h2,h3,h4⟩:=ih (c:=c) hs ht h;cases ex with
   | norm =>
    obtain⟨ex,s2,t2,h5,h6,h7,h8⟩:=ih (c := .loop c) h2 h3 h4;exact⟨ex,s2,t2,by simp only[Cm,h1];exact h5,h6,h7,h8⟩
   | exit i=>exact⟨.exit i,s1,t1,by simp only[Cm,h1],h2,h3,h4⟩
   | ret=>exact⟨.ret,s1,t1,by simp only[Cm,h1],h2,h3,h4⟩
  | scope c =>
   obtain⟨ex,s1,t1,h1,h2,h3,h4⟩:=ih (c:=c) hs ht h;exact⟨ex,s1,t1,by simp only[Cm];exact h1,h2,h3,h4⟩
  | exit id=>exact⟨.exit id,s,t,rfl,hs,ht,h⟩
  | ret=>exact⟨.ret,s,t,rfl,hs,ht,h⟩
end
def A4y(g:Nat->Reg):IRes->Option AV
 | .tmp t=>match g t with
  | .val x=>some x
  | .own _ n cs=>some (.sl n cs)
  | _=>none
 | .cell t n one=>match g t with
  | .box cs=>Bn cs 0 n one
  | _=>none
def Zu(g:Nat->Reg):List IRes->Option (List AV)
 | []=>some []
 | r::l=>match A4y g r with
  | none=>none
  | some x=>match Zu g l with
   | none=>none
   | some xs=>some (x::xs)
def rZ(g:Nat->Reg):List IRes->Option AV
 | [.tmp t]=>match g t with
  | .own k n cs=>some (.fresh k n cs)
  | .agn b k n cs=>some (.frs b k n cs)
  | _=>none
 | [.tmp t,.tmp u]=>match g t with
  | .own k n cs=>(match g u with
   | .val (.bool b)=>some (.frs (.tp b) k n cs)
   | _=>none)
  | _=>none
 | [.cell t n one]=>match g t with
  | .bxl d=>(match g d with
   | .agn (.st b) k m cs=>if n=2/\one=false then some (.frs (.st b) k m cs) else none
   | _=>none)
  | _=>none
 | _=>none
def Me(g:Nat->Reg)(l:List IRes):Option AV :=
 match rZ g l with
 | some x=>some x
 | none=>match Zu g l with
  | some [x]=>some x
  | some xs=>some (.tup xs)
  | none=>none
theorem Alp(s:Al)(r:IRes):A4y (A4 s) r=EW s r:=by cases r <;> rfl
theorem XZ(s:Al):∀ l,Zu (A4 s) l=DT s l
 | []=>rfl
 | r::l=>by simp only[Zu,DT,Alp,XZ s l];rfl
theorem kD(s:Al)(l:List IRes):rZ (A4 s) l=HC s l:=by
 cases l with
 | nil=>rfl
 | cons r l=>cases r <;> cases l <;> rfl
theorem Th(s:Al)(l:List IRes):Me (A4 s) l=GN s l:=by simp only [Me,GN,kD,XZ];rfl
inductive Pr where
 | e
 | n (l:Pr) (v:Option IFunc) (r:Pr)
noncomputable def Pr.get (t:Pr):Nat->Option IFunc :=
 Pr.rec (motive:=fun _=>Nat->Option IFunc) (fun _=>none) (fun _ v _ gl gr i=>Nr (motive:=fun _=>Option IFunc) v (fun j _=>cond (CU (Pv j 2) 0) (gl (IA j 2)) (gr (IA j 2))) i) t
noncomputable def Zv {α:Type} (m:Nat) (l:List AV):Nat->Tr->(Tr->Option α)->Option α :=
 aH (motive:=fun _=>Nat->Tr->(Tr->Option α)->Option α) (fun _ t k=>k t) (fun x _ ih i t k=>VH m t i (KV x) fun t=>ih (Ns i) t k) l
theorem X_{α:Type}{m:Nat}:∀ {l:List AV} {i:Nat} {t:Tr} {s:Al} {k:Tr->Option α} {y:α},s.length=m->Lc t s->Zv m l i t k=some y->∃ t' s',k t'=some y/\Lc t' s'/\s'.length=m/\(l=[]\/i+l.length<=m)/\∀ u,A4 s' u=if h:i<=u/\u-i<l.length then KV (l[u-i]'h.2) else A4 s u
 | [],i,t,s,k,y,hs,ht,h=>⟨t,s,h,ht,hs,.inl rfl,fun u=>by rw[dif_neg (by simp)]⟩
 | x::l,i,t,s,k,y,hs,ht,h=>by
  have hlt:i<m:=by
   have h':VH m t i (KV x) (fun t=>Zv m l (Ns i) t k)=some y:=h;unfold VH at h';cases hd:EX i m
   ·rw[hd] at h';cases h'
   ·simpa [Jq] using hd
  obtain⟨t1,h1,h2⟩:=VI hs ht h;obtain⟨t2,s2,h3,h4,h5,h7,h6⟩:=X_ (l:=l) (i:=Ns i) (by simp[hs]) h2 h1;refine⟨t2,s2,h3,h4,h5,.inr ?_,fun u => ?_⟩
  ·rcases h7 with rfl | h7
   ·simp;omega
   ·simp;omega
  rw[h6];by_cases hu:u=i
  ·subst hu;rw[dif_neg (by omega),dif_pos ⟨Ap _,by simp⟩,Dx,if_pos ⟨rfl,by omega⟩];simp
  ·rw[Dx,if_neg (fun e=>hu e.1.symm)];by_cases hc:Ns i<=u/\u-Ns i<l.length
   ·rw[dif_pos hc,dif_pos ⟨by omega,by simp;omega⟩];have:u-i=(u-Ns i)+1:=by omega
    simp[this]
   ·rw[dif_neg hc,dif_neg (by simp;omega)]
theorem kF{s s':Al}(hl:s.length=s'.length)(h:∀ u,A4 s u=A4 s' u):s=s':=by
 apply YP hl;intro i h1 h2;have:=h i;simp only[A4,Z,Af h1,Af h2,GE] at this;exact this
noncomputable def fF (T:Pr) (M:B7) (n:Nat):B7 :=
 Nr (motive:=fun _=>B7) (fun _ _=>none) (fun n ih f args =>
  match M f args with
  | some r=>some r
  | none=>match T.get f with
   | none=>none
   | some fn=>cond (CU args.length fn.params) (Zv fn.slots args 0 .e fun t=>fC ih fn.slots n fn.body t fun ex t=>(match ex with
    | .exit _=>none
    | .norm=>(Me t.get fn.res).bind fun x=>Js x some
    | .ret=>(Me t.get fn.res).bind fun x=>Js x some)) none) n
theorem Bp{prog:Nat->Option IFunc}{T:Pr}{M:B7}(hT:∀ f fn,T.get f=some fn->prog f=some fn)(hM:NN prog M):∀ n,NN prog (fF T M n):=by
 intro n;induction n with
 | zero=>intro f args r h;cases h
 | succ n ih =>
  intro f args r h;have h':(match M f args with
   | some r=>some r
   | none=>match T.get f with
    | none=>none
    | some fn=>cond (CU args.length fn.params) (Zv fn.slots args 0 .e fun t=>fC (fF T M n) fn.slots n fn.body t fun ex t=>(match ex with
     | .exit _=>none
     | .norm=>(Me t.get fn.res).bind fun x=>Js x some
     | .ret=>(Me t.get fn.res).bind fun x=>Js x some)) none)=some r:=h
  split at h'
  ·rename_i r' hr;cases h';exact hM f args r hr
  ·split at h'
   ·cases h'
   ·rename_i fn hfn;cases hp:CU args.length fn.params
    ·rw[hp] at h';cases h'
    ·rw[hp] at h';simp only[cond_true] at h';have hpar:args.length=fn.params:=CN hp;obtain⟨t1,s1,h1,h2,h3,h9,h4⟩:=X_ (s:=Av fn.slots .dead) (by simp) (fun u=>by
      simp only[wX,A4,Z,KP];split <;> rfl) h'
     obtain⟨ex,s2,t2,h5,h6,h7,h8⟩:=A5w n h3 h2 h1;have hle:args.length<=fn.slots:=by
      rcases h9 with rfl | h9
      ·simp
      ·omega
     have hinit:s1=GO fn args:=by
      refine kF (by rw[h3];simp[GO];omega) (fun u => ?_);rw[h4];simp only[Ba,true_and,JV];simp only[A4,GO,Z];by_cases hu:u<args.length
      ·rw[dif_pos hu,AN (by simpa using hu)];simp[hu]
      ·rw[dif_neg hu,AT (by simpa using hu)];simp only[KP];split <;> split <;> rfl
     subst hinit;have e2:t2.get=A4 s2:=funext h7;have hbody:=U6 ih n h5;cases ex with
     | exit i=>cases h8
     | norm =>
      dsimp only at h8;rw[e2,Th] at h8;simp only[NY] at h8;exact H6 (hT f fn hfn) hpar hbody (fun i e=>by cases e) (by simpa using h8)
     | ret =>
      dsimp only at h8;rw[e2,Th] at h8;simp only[NY] at h8;exact H6 (hT f fn hfn) hpar hbody (fun i e=>by cases e) (by simpa using h8)
def Uh(p:Nat->IFunc->Prop):Pr->(Nat->Nat)->Prop
 | .e,_=>True
 | .n l v r,φ=>(∀ fn,v=some fn->p (φ 0) fn)/\Uh p l (fun j=>φ (2*j+1))/\Uh p r (fun j=>φ (2*j+2))
theorem NZ{p:Nat->IFunc->Prop}:∀ {t:Pr} {φ:Nat->Nat} {f:Nat} {fn:IFunc},Uh p t φ->t.get f=some fn->p (φ f) fn
 | .e,φ,f,fn,_,h=>by cases h
 | .n l v r,φ,f,fn,ha,h=>by
  cases f with
  | zero=>exact ha.1 fn h
  | succ j =>
   have h':(cond (CU (j % 2) 0) (l.get (j / 2)) (r.get (j / 2)))=some fn:=h;cases hj:CU (j % 2) 0
   ·rw[hj] at h';have hj':j % 2=1:=by
     have:¬ j % 2=0:=fun e=>by rw[e] at hj;cases hj
     omega
    have:=NZ ha.2.2 h';have e:2*(j / 2)+2=j+1:=by omega
    simp only[e] at this;exact this
   ·rw[hj] at h';have hj':j % 2=0:=CN hj;have:=NZ ha.2.1 h';have e:2*(j / 2)+1=j+1:=by omega
    simp only[e] at this;exact this
def Ti(f:AV->AV->Bool):List AV->List AV->Bool
 | [],[]=>true
 | x::xs,y::ys=>f x y&&Ti f xs ys
 | _,_=>false
def PV:Nat->AV->AV->Bool
 | 0,_,_=>false
 | n+1,x,y=>match x,y with
  | .int k a,.int k' b=>isK k k'&&Xa a b
  | .bool a,.bool b=>a==b
  | .nil,.nil=>true
  | .undef,.undef=>true
  | .agg xs,.agg ys=>Ti (PV n) xs ys
  | .tup xs,.tup ys=>Ti (PV n) xs ys
  | .sl a xs,.sl b ys=>CU a b&&Ti (PV n) xs ys
  | _,_=>false
theorem N'{f:AV->AV->Bool}(h:∀ x y,f x y=true->x=y):∀ {xs ys:List AV},Ti f xs ys=true->xs=ys
 | [],[],_=>rfl
 | x::xs,y::ys,hh=>by
  simp only[Ti,Ad] at hh;rw[h x y hh.1,N' h hh.2]
 | [],_::_,hh=>by cases hh
 | _::_,[],hh=>by cases hh
theorem wZ:∀ (n:Nat) (x y:AV),PV n x y=true->x=y:=by
 intro n;induction n with
 | zero=>intro x y h;cases h
 | succ n ih =>
  intro x y h;cases x <;> cases y <;> simp only[PV,Ad,Cf,rX,rW,decide_eq_true_eq,beq_iff_eq] at h
  ·rw[h.1,h.2]
  ·rw[h]
  ·rw[N' ih h]
  ·rfl
  ·rw[CN h.1,N' ih h.2]
  ·rw[N' ih h]
  ·rfl
def A4z(f:Nat)(args:List AV)(r:AV)(M:B7):B7:=fun f' args'=>cond (CU f' f&&Ti (PV 9) args' args) (some r) (M f' args')
theorem b{prog:Nat->Option IFunc}{f:Nat}{args:List AV}{r:AV}{M:B7}(h:FK prog f args r)(hM:NN prog M):NN prog (A4z f args r M):=by
 intro f' args' r' h';unfold A4z at h';cases hc:(CU f' f&&Ti (PV 9) args' args)
 ·rw[hc] at h';exact hM f' args' r' h'
 ·rw[hc] at h';cases h';rw[Ad] at hc;rw[CN hc.1,N' (wZ 9) hc.2];exact h
def Axd:B7:=fun _ _=>none
theorem k(prog:Nat->Option IFunc):NN prog Axd:=fun _ _ _ h=>by cases h
end Go.Ai
namespace Go.Proofs.YtajompaehjkgkaaGreat
open Go.Ai
set_option maxRecDepth 100000
open Go.Proofs.Tryz renaming func3->Awa,prog->c
open List renaming forall_mem_cons->J,mem_cons_of_mem->Bi,mem_cons_self->By
theorem Axe:c.follows .mixedOrders=true:=by kernel_rfl
def Alq:List (Nat × IFunc):=[(3,bD),(12,rG),(13,UB),(14,S_),(15,Ta),(16,UD),(17,NQ),(18,NR),(19,bE),(20,bF),(21,bG),(23,rH),(24,rI),(25,rJ),(27,Pt),(28,rK),(33,bH),(46,bI),(47,rL),(49,rM),(50,rN),(51,XL),(52,bK),(53,bL),(54,UF),(55,bO),(56,XN),(57,bP),(58,UG),(59,UH),(60,UI),(61,UJ),(62,bQ),(63,bT),(64,UK),(65,bV),(66,bX),(67,Tb),(68,bY),(69,XP),(70,XQ),(71,XR),(72,UL),(73,Pu),(74,rO),(75,rP),(76,rQ),(77,rR),(79,UM),(80,cA),(82,rS),(83,Td),(84,cC),(86,XT),(95,UN),(96,cE),(97,cF),(98,rT),(99,cH),(100,RM),(101,Zd),(102,RN),(103,NS),(104,RO),(105,PI),(106,UP),(107,UQ),(108,RP),(109,PJ),(110,US),(111,Ze),(112,UU),(113,Zf),(114,In),(115,RS),(116,UW),(117,UY),(118,UZ),(119,U'),(120,PM),(121,U_),(122,Vb),(123,Ve),(124,Zg),(125,Zh),(126,Zi),(127,Zj),(128,JB),(129,Vf),(130,RU),(131,Zk),(132,Zl),(133,Vg),(134,RV),(135,RW),(136,Vh),(137,Vj),(138,Vk),(143,RX),(144,Vl),(145,Vm),(146,Vn),(147,RY),(148,Vo),(149,Vp),(150,Zm),(151,Sf),(152,Sg),(153,Vr),(154,Zn),(155,PR),(156,Vt),(157,Vu),(158,Vv),(159,Si),(160,Vw),(161,Vx),(162,Vy),(163,Sj),(164,Vz),(165,PT),(177,V0),(178,Sk),(179,V3),(180,PU),(181,V4),(182,V6),(183,V8),(184,Zo),(187,VA),(188,VB),(189,VE)]
def AY(f:Nat):Option IFunc:=Alq.lookup f
theorem Alr:∀ p∈Alq,∃ fn roots,c.funcs[p.1]? = some fn/\AU c roots fn p.2=true:=by
 unfold Alq;refine J.2 ⟨⟨_,Yr3,Awa,Awy⟩,?_⟩;refine J.2 ⟨⟨_,A2q,Tryz.func12,Aga⟩,?_⟩;refine J.2 ⟨⟨_,A2r,Tryz.func13,Agb⟩,?_⟩;refine J.2 ⟨⟨_,A2s,Tryz.func14,Agc⟩,?_⟩;refine J.2 ⟨⟨_,A2t,Tryz.func15,Agd⟩,?_⟩;refine J.2 ⟨⟨_,A2u,Tryz.func16,Age⟩,?_⟩;refine J.2 ⟨⟨_,A2v,Tryz.func17,Agf⟩,?_⟩;refine J.2 ⟨⟨_,A2w,Tryz.func18,Agg⟩,?_⟩;refine J.2 ⟨⟨_,A2x,Tryz.func19,Agh⟩,?_⟩;refine J.2 ⟨⟨_,A2y,Tryz.func20,Agi⟩,?_⟩;refine J.2 ⟨⟨_,A2z,Tryz.func21,Agj⟩,?_⟩;refine J.2 ⟨⟨_,A3a,Tryz.func23,Agk⟩,?_⟩;refine J.2 ⟨⟨_,A3b,Tryz.func24,Agl⟩,?_⟩;refine J.2 ⟨⟨_,A3c,Tryz.func25,Agm⟩,?_⟩;refine J.2 ⟨⟨_,A3d,Tryz.func27,Agn⟩,?_⟩;refine J.2 ⟨⟨_,A3e,Tryz.func28,Ago⟩,?_⟩;refine J.2 ⟨⟨_,A3f,Tryz.func33,Agp⟩,?_⟩;refine J.2 ⟨⟨_,A3g,Tryz.func46,Agq⟩,?_⟩;refine J.2 ⟨⟨_,A3h,Tryz.func47,Agr⟩,?_⟩;refine J.2 ⟨⟨_,A3i,Tryz.func49,Ags⟩,?_⟩;refine J.2 ⟨⟨_,A3j,Tryz.func50,Agt⟩,?_⟩;refine J.2 ⟨⟨_,A3k,Tryz.func51,Agu⟩,?_⟩;refine J.2 ⟨⟨_,A3l,Tryz.func52,Agv⟩,?_⟩;refine J.2 ⟨⟨_,A3m,Tryz.func53,Agw⟩,?_⟩;refine J.2 ⟨⟨_,A3n,Tryz.func54,Agx⟩,?_⟩;refine J.2 ⟨⟨_,A3o,Tryz.func55,Agy⟩,?_⟩;refine J.2 ⟨⟨_,A3p,Tryz.func56,Agz⟩,?_⟩;refine J.2 ⟨⟨_,A3q,Tryz.func57,Aha⟩,?_⟩;refine J.2 ⟨⟨_,A3r,Tryz.func58,Ahb⟩,?_⟩;refine J.2 ⟨⟨_,A3s,Tryz.func59,Ahc⟩,?_⟩;refine J.2 ⟨⟨_,A3t,Tryz.func60,Ahd⟩,?_⟩;refine J.2 ⟨⟨_,A3u,Tryz.func61,Ahe⟩,?_⟩;refine J.2 ⟨⟨_,A3v,Tryz.func62,Ahf⟩,?_⟩;refine J.2 ⟨⟨_,A3w,Tryz.func63,Ahg⟩,?_⟩;refine J.2 ⟨⟨_,A3x,Tryz.func64,Ahh⟩,?_⟩;refine J.2 ⟨⟨_,A3y,Tryz.func65,Ahi⟩,?_⟩;refine J.2 ⟨⟨_,A3z,Tryz.func66,Ahj⟩,?_⟩;refine J.2 ⟨⟨_,A4a,Tryz.func67,Ahk⟩,?_⟩;refine J.2 ⟨⟨_,A4b,Tryz.func68,Ahl⟩,?_⟩;refine J.2 ⟨⟨_,A4c,Tryz.func69,Ahm⟩,?_⟩;refine J.2 ⟨⟨_,A4d,Tryz.func70,Ahn⟩,?_⟩;refine J.2 ⟨⟨_,A4e,Tryz.func71,Aho⟩,?_⟩;refine J.2 ⟨⟨_,A4f,Tryz.func72,Ahp⟩,?_⟩;refine J.2 ⟨⟨_,A4g,Tryz.func73,Ahq⟩,?_⟩;refine J.2 ⟨⟨_,A4h,Tryz.func74,Ahr⟩,?_⟩;refine J.2 ⟨⟨_,A4i,Tryz.func75,Ahs⟩,?_⟩;refine J.2 ⟨⟨_,A4j,Tryz.func76,Aht⟩,?_⟩;refine J.2 ⟨⟨_,A4k,Tryz.func77,Ahu⟩,?_⟩;refine J.2 ⟨⟨_,A4l,Tryz.func79,Ahv⟩,?_⟩;refine J.2 ⟨⟨_,A4m,Tryz.func80,Ahw⟩,?_⟩;refine J.2 ⟨⟨_,A4n,Tryz.func82,Ahx⟩,?_⟩;refine J.2 ⟨⟨_,A4o,Tryz.func83,Ahy⟩,?_⟩;refine J.2 ⟨⟨_,A4p,Tryz.func84,Ahz⟩,?_⟩;refine J.2 ⟨⟨_,A4q,Tryz.func86,Aia⟩,?_⟩;refine J.2 ⟨⟨_,A4r,Tryz.func95,Aib⟩,?_⟩;refine J.2 ⟨⟨_,A4s,Tryz.func96,Aic⟩,?_⟩;refine J.2 ⟨⟨_,A4t,Tryz.func97,Aid⟩,?_⟩;refine J.2 ⟨⟨_,A4u,Tryz.func98,Aie⟩,?_⟩;refine J.2 ⟨⟨_,A4v,Tryz.func99,Aif⟩,?_⟩;refine J.2 ⟨⟨_,Aig,Tryz.func100,tX⟩,?_⟩;refine J.2 ⟨⟨_,Aih,Tryz.func101,tY⟩,?_⟩;refine J.2 ⟨⟨_,Aii,Tryz.func102,tZ⟩,?_⟩;refine J.2 ⟨⟨_,Aij,Tryz.func103,uA⟩,?_⟩;refine J.2 ⟨⟨_,Aik,Tryz.func104,uB⟩,?_⟩;refine J.2 ⟨⟨_,Ail,Tryz.func105,uC⟩,?_⟩;refine J.2 ⟨⟨_,Aim,Tryz.func106,uD⟩,?_⟩;refine J.2 ⟨⟨_,Ain,Tryz.func107,uE⟩,?_⟩;refine J.2 ⟨⟨_,Aio,Tryz.func108,uF⟩,?_⟩;refine J.2 ⟨⟨_,Aip,Tryz.func109,uG⟩,?_⟩;refine J.2 ⟨⟨_,Aiq,Tryz.func110,uH⟩,?_⟩;refine J.2 ⟨⟨_,Air,Tryz.func111,uI⟩,?_⟩;refine J.2 ⟨⟨_,Ais,Tryz.func112,uJ⟩,?_⟩;refine J.2 ⟨⟨_,Ait,Tryz.func113,uK⟩,?_⟩;refine J.2 ⟨⟨_,Aiu,Tryz.func114,uL⟩,?_⟩;refine J.2 ⟨⟨_,Aiv,Tryz.func115,uM⟩,?_⟩;refine J.2 ⟨⟨_,Aiw,Tryz.func116,uN⟩,?_⟩;refine J.2 ⟨⟨_,Aix,Tryz.func117,uO⟩,?_⟩;refine J.2 ⟨⟨_,Aiy,Tryz.func118,uP⟩,?_⟩;refine J.2 ⟨⟨_,Aiz,Tryz.func119,uQ⟩,?_⟩;refine J.2 ⟨⟨_,Aja,Tryz.func120,uR⟩,?_⟩;refine J.2 ⟨⟨_,Ajb,Tryz.func121,uS⟩,?_⟩;refine J.2 ⟨⟨_,Ajc,Tryz.func122,uT⟩,?_⟩;refine J.2 ⟨⟨_,Ajd,Tryz.func123,uU⟩,?_⟩;refine J.2 ⟨⟨_,Aje,Tryz.func124,uV⟩,?_⟩;refine J.2 ⟨⟨_,Ajf,Tryz.func125,uW⟩,?_⟩;refine J.2 ⟨⟨_,Ajg,Tryz.func126,uX⟩,?_⟩;refine J.2 ⟨⟨_,Ajh,Tryz.func127,uY⟩,?_⟩;refine J.2 ⟨⟨_,Aji,Tryz.func128,uZ⟩,?_⟩;refine J.2 ⟨⟨_,Ajj,Tryz.func129,vA⟩,?_⟩;refine J.2 ⟨⟨_,Ajk,Tryz.func130,vB⟩,?_⟩;refine J.2 ⟨⟨_,Ajl,Tryz.func131,vC⟩,?_⟩;refine J.2 ⟨⟨_,Ajm,Tryz.func132,vD⟩,?_⟩;refine J.2 ⟨⟨_,Ajn,Tryz.func133,vF⟩,?_⟩;refine J.2 ⟨⟨_,Ajo,Tryz.func134,vG⟩,?_⟩;refine J.2 ⟨⟨_,Ajp,Tryz.func135,vH⟩,?_⟩;refine J.2 ⟨⟨_,Ajq,Tryz.func136,vI⟩,?_⟩;refine J.2 ⟨⟨_,Ajr,Tryz.func137,vJ⟩,?_⟩;refine J.2 ⟨⟨_,Ajs,Tryz.func138,vK⟩,?_⟩;refine J.2 ⟨⟨_,Ajt,Tryz.func143,vL⟩,?_⟩;refine J.2 ⟨⟨_,Aju,Tryz.func144,vM⟩,?_⟩;refine J.2 ⟨⟨_,Ajv,Tryz.func145,vN⟩,?_⟩;refine J.2 ⟨⟨_,Ajw,Tryz.func146,vO⟩,?_⟩;refine J.2 ⟨⟨_,Ajx,Tryz.func147,vP⟩,?_⟩;refine J.2 ⟨⟨_,Ajy,Tryz.func148,vQ⟩,?_⟩;refine J.2 ⟨⟨_,Ajz,Tryz.func149,vR⟩,?_⟩;refine J.2 ⟨⟨_,Aka,Tryz.func150,vS⟩,?_⟩;refine J.2 ⟨⟨_,Akb,Tryz.func151,vT⟩,?_⟩;refine J.2 ⟨⟨_,Akc,Tryz.func152,vU⟩,?_⟩;refine J.2 ⟨⟨_,Akd,Tryz.func153,vV⟩,?_⟩;refine J.2 ⟨⟨_,Ake,Tryz.func154,vW⟩,?_⟩;refine J.2 ⟨⟨_,Akf,Tryz.func155,vX⟩,?_⟩;refine J.2 ⟨⟨_,Akg,Tryz.func156,vY⟩,?_⟩;refine J.2 ⟨⟨_,Akh,Tryz.func157,vZ⟩,?_⟩;refine J.2 ⟨⟨_,Aki,Tryz.func158,wA⟩,?_⟩;refine J.2 ⟨⟨_,Akj,Tryz.func159,wB⟩,?_⟩;refine J.2 ⟨⟨_,Akk,Tryz.func160,wC⟩,?_⟩;refine J.2 ⟨⟨_,Akl,Tryz.func161,wD⟩,?_⟩;refine J.2 ⟨⟨_,Akm,Tryz.func162,wE⟩,?_⟩;refine J.2 ⟨⟨_,Akn,Tryz.func163,wF⟩,?_⟩;refine J.2 ⟨⟨_,Ako,Tryz.func164,wG⟩,?_⟩;refine J.2 ⟨⟨_,Akp,Tryz.func165,wH⟩,?_⟩;refine J.2 ⟨⟨_,Akq,Tryz.func177,wI⟩,?_⟩;refine J.2 ⟨⟨_,Akr,Tryz.func178,wJ⟩,?_⟩;refine J.2 ⟨⟨_,Aks,Tryz.func179,wK⟩,?_⟩;refine J.2 ⟨⟨_,Akt,Tryz.func180,wL⟩,?_⟩;refine J.2 ⟨⟨_,Aku,Tryz.func181,wM⟩,?_⟩;refine J.2 ⟨⟨_,Akv,Tryz.func182,wN⟩,?_⟩;refine J.2 ⟨⟨_,Akw,Tryz.func183,wO⟩,?_⟩;refine J.2 ⟨⟨_,Akx,Tryz.func184,wP⟩,?_⟩;refine J.2 ⟨⟨_,Aky,Tryz.func187,wQ⟩,?_⟩;refine J.2 ⟨⟨_,Akz,Tryz.func188,wR⟩,?_⟩;refine J.2 ⟨⟨_,Ala,Tryz.func189,wS⟩,?_⟩;intro p hp;cases hp
theorem Tj{α:Type}{f:Nat}{x:α}:∀ {l:List (Nat × α)},l.lookup f=some x->(f,x)∈l
 | [],h=>by cases h
 | (g,y)::l,h=>by
  simp only[List.lookup] at h;by_cases hg:f=g
  ·subst hg;simp at h;subst h;exact By
  ·have:(f==g)=false:=by simpa using hg
   rw[this] at h;exact Bi _ (Tj h)
theorem Axf:∀ f ifn,AY f=some ifn->∃ fn roots,c.funcs[f]? = some fn/\AU c roots fn ifn=true:=fun _ _ h=>Alr _ (Tj h)
theorem A5x:AY 3=some bD:=by kernel_rfl
theorem Axg:AY 12=some rG:=by kernel_rfl
theorem Axh:AY 13=some UB:=by kernel_rfl
theorem Axi:AY 14=some S_:=by kernel_rfl
theorem Axj:AY 15=some Ta:=by kernel_rfl
theorem Axk:AY 16=some UD:=by kernel_rfl
theorem Axl:AY 17=some NQ:=by kernel_rfl
theorem Axm:AY 18=some NR:=by kernel_rfl
theorem Axn:AY 19=some bE:=by kernel_rfl
theorem Axo:AY 20=some bF:=by kernel_rfl
theorem Axp:AY 21=some bG:=by kernel_rfl
theorem Axq:AY 23=some rH:=by kernel_rfl
theorem Axr:AY 24=some rI:=by kernel_rfl
theorem Axs:AY 25=some rJ:=by kernel_rfl
theorem Axt:AY 27=some Pt:=by kernel_rfl
theorem Axu:AY 28=some rK:=by kernel_rfl
theorem Axv:AY 33=some bH:=by kernel_rfl
theorem Axw:AY 46=some bI:=by kernel_rfl
theorem Axx:AY 47=some rL:=by kernel_rfl
theorem Axy:AY 49=some rM:=by kernel_rfl
theorem Axz:AY 50=some rN:=by kernel_rfl
theorem Aya:AY 51=some XL:=by kernel_rfl
theorem Ayb:AY 52=some bK:=by kernel_rfl
theorem Ayc:AY 53=some bL:=by kernel_rfl
theorem Ayd:AY 54=some UF:=by kernel_rfl
theorem Aye:AY 55=some bO:=by kernel_rfl
theorem Ayf:AY 56=some XN:=by kernel_rfl
theorem Ayg:AY 57=some bP:=by kernel_rfl
theorem Ayh:AY 58=some UG:=by kernel_rfl
theorem Ayi:AY 59=some UH:=by kernel_rfl
theorem Ayj:AY 60=some UI:=by kernel_rfl
theorem Ayk:AY 61=some UJ:=by kernel_rfl
theorem Ayl:AY 62=some bQ:=by kernel_rfl
theorem Aym:AY 63=some bT:=by kernel_rfl
theorem Ayn:AY 64=some UK:=by kernel_rfl
theorem Ayo:AY 65=some bV:=by kernel_rfl
theorem Ayp:AY 66=some bX:=by kernel_rfl
theorem Ayq:AY 67=some Tb:=by kernel_rfl
theorem Ayr:AY 68=some bY:=by kernel_rfl
theorem Ays:AY 69=some XP:=by kernel_rfl
theorem Ayt:AY 70=some XQ:=by kernel_rfl
theorem Ayu:AY 71=some XR:=by kernel_rfl
theorem Ayv:AY 72=some UL:=by kernel_rfl
theorem Ayw:AY 73=some Pu:=by kernel_rfl
theorem Ayx:AY 74=some rO:=by kernel_rfl
theorem Ayy:AY 75=some rP:=by kernel_rfl
theorem Ayz:AY 76=some rQ:=by kernel_rfl
theorem Aza:AY 77=some rR:=by kernel_rfl
theorem Azb:AY 79=some UM:=by kernel_rfl
theorem Azc:AY 80=some cA:=by kernel_rfl
theorem Azd:AY 82=some rS:=by kernel_rfl
theorem Aze:AY 83=some Td:=by kernel_rfl
theorem Azf:AY 84=some cC:=by kernel_rfl
theorem Azg:AY 86=some XT:=by kernel_rfl
theorem Azh:AY 95=some UN:=by kernel_rfl
theorem Azi:AY 96=some cE:=by kernel_rfl
theorem Azj:AY 97=some cF:=by kernel_rfl
theorem Azk:AY 98=some rT:=by kernel_rfl
theorem Azl:AY 99=some cH:=by kernel_rfl
theorem Als:AY 100=some RM:=by kernel_rfl
theorem Alt:AY 101=some Zd:=by kernel_rfl
theorem Alu:AY 102=some RN:=by kernel_rfl
theorem Alv:AY 103=some NS:=by kernel_rfl
theorem Alw:AY 104=some RO:=by kernel_rfl
theorem Alx:AY 105=some PI:=by kernel_rfl
theorem Aly:AY 106=some UP:=by kernel_rfl
theorem Alz:AY 107=some UQ:=by kernel_rfl
theorem Ama:AY 108=some RP:=by kernel_rfl
theorem Amb:AY 109=some PJ:=by kernel_rfl
theorem Amc:AY 110=some US:=by kernel_rfl
theorem Amd:AY 111=some Ze:=by kernel_rfl
theorem Ame:AY 112=some UU:=by kernel_rfl
theorem Amf:AY 113=some Zf:=by kernel_rfl
theorem Amg:AY 114=some In:=by kernel_rfl
theorem Amh:AY 115=some RS:=by kernel_rfl
theorem Ami:AY 116=some UW:=by kernel_rfl
theorem Amj:AY 117=some UY:=by kernel_rfl
theorem Amk:AY 118=some UZ:=by kernel_rfl
theorem Aml:AY 119=some U':=by kernel_rfl
theorem Amm:AY 120=some PM:=by kernel_rfl
theorem Amn:AY 121=some U_:=by kernel_rfl
theorem Amo:AY 122=some Vb:=by kernel_rfl
theorem Amp:AY 123=some Ve:=by kernel_rfl
theorem Amq:AY 124=some Zg:=by kernel_rfl
theorem Amr:AY 125=some Zh:=by kernel_rfl
theorem Ams:AY 126=some Zi:=by kernel_rfl
theorem Amt:AY 127=some Zj:=by kernel_rfl
theorem Amu:AY 128=some JB:=by kernel_rfl
theorem Amv:AY 129=some Vf:=by kernel_rfl
theorem Amw:AY 130=some RU:=by kernel_rfl
theorem Amx:AY 131=some Zk:=by kernel_rfl
theorem Amy:AY 132=some Zl:=by kernel_rfl
theorem Amz:AY 133=some Vg:=by kernel_rfl
theorem Ana:AY 134=some RV:=by kernel_rfl
theorem Anb:AY 135=some RW:=by kernel_rfl
theorem Anc:AY 136=some Vh:=by kernel_rfl
theorem Ane:AY 137=some Vj:=by kernel_rfl
theorem Anf:AY 138=some Vk:=by kernel_rfl
theorem Ang:AY 143=some RX:=by kernel_rfl
theorem Anh:AY 144=some Vl:=by kernel_rfl
theorem Ani:AY 145=some Vm:=by kernel_rfl
theorem Anj:AY 146=some Vn:=by kernel_rfl
theorem Ank:AY 147=some RY:=by kernel_rfl
theorem Anl:AY 148=some Vo:=by kernel_rfl
theorem Anm:AY 149=some Vp:=by kernel_rfl
theorem Ann:AY 150=some Zm:=by kernel_rfl
theorem Ano:AY 151=some Sf:=by kernel_rfl
theorem Anp:AY 152=some Sg:=by kernel_rfl
theorem Anq:AY 153=some Vr:=by kernel_rfl
theorem Anr:AY 154=some Zn:=by kernel_rfl
theorem Ans:AY 155=some PR:=by kernel_rfl
theorem Ant:AY 156=some Vt:=by kernel_rfl
theorem Anu:AY 157=some Vu:=by kernel_rfl
theorem Anv:AY 158=some Vv:=by kernel_rfl
theorem Anw:AY 159=some Si:=by kernel_rfl
theorem Anx:AY 160=some Vw:=by kernel_rfl
theorem Any:AY 161=some Vx:=by kernel_rfl
theorem Anz:AY 162=some Vy:=by kernel_rfl
theorem Aoa:AY 163=some Sj:=by kernel_rfl
theorem Aob:AY 164=some Vz:=by kernel_rfl
theorem Aoc:AY 165=some PT:=by kernel_rfl
theorem Aod:AY 177=some V0:=by kernel_rfl
theorem Aoe:AY 178=some Sk:=by kernel_rfl
theorem Aof:AY 179=some V3:=by kernel_rfl
theorem Aog:AY 180=some PU:=by kernel_rfl
theorem Aoh:AY 181=some V4:=by kernel_rfl
theorem Aoi:AY 182=some V6:=by kernel_rfl
theorem Aoj:AY 183=some V8:=by kernel_rfl
theorem Aok:AY 184=some Zo:=by kernel_rfl
theorem Aol:AY 187=some VA:=by kernel_rfl
theorem Aom:AY 188=some VB:=by kernel_rfl
theorem Aon:AY 189=some VE:=by kernel_rfl
def Ypr:Pr := .n (.n (.n (.n (.n (.n (.n (.n .e (some Zj) .e) (some bT) .e) none (.n (.n .e (some Si) .e) (some UN) .e)) (some Ta) (.n (.n (.n .e (some RX) .e) (some UM) .e) (some rL) (.n (.n .e none .e) (some Ze) .e))) none (.n (.n (.n (.n .e (some RW) .e) (some XR) .e) none (.n (.n .e none .e) (some NS) .e)) (some rH) (.n (.n (.n .e (some Sf) .e) none .e) (some bO) (.n (.n .e (some V8) .e) (some U') .e)))) (some bD) (.n (.n (.n (.n (.n .e (some Zk) .e) (some Tb) .e) none (.n (.n .e (some Sj) .e) (some cH) .e)) (some bE) (.n (.n (.n .e (some RY) .e) (some Td) .e) (some XL) (.n (.n .e (some V3) .e) (some RS) .e))) none (.n (.n (.n (.n .e none .e) (some rP) .e) none (.n (.n .e none .e) (some UQ) .e)) (some Pt) (.n (.n (.n .e (some PR) .e) none .e) (some UH) (.n (.n .e (some VA) .e) (some Ve) .e))))) none (.n (.n (.n (.n (.n (.n .e (some Vf) .e) (some bV) .e) (some bH) (.n (.n .e (some Vx) .e) (some cF) .e)) (some NQ) (.n (.n (.n .e (some Vm) .e) none .e) (some rM) (.n (.n .e (some V0) .e) (some Zf) .e))) none (.n (.n (.n (.n .e (some Vj) .e) (some Pu) .e) none (.n (.n .e none .e) (some PI) .e)) (some rJ) (.n (.n (.n .e (some Vr) .e) none .e) (some bP) (.n (.n .e none .e) (some U_) .e)))) none (.n (.n (.n (.n (.n .e (some Vg) .e) (some XP) .e) none (.n (.n .e (some PT) .e) (some Zd) .e)) (some bG) (.n (.n (.n .e (some Vp) .e) none .e) (some bL) (.n (.n .e (some V4) .e) (some UY) .e))) (some UB) (.n (.n (.n (.n .e none .e) (some rR) .e) none (.n (.n .e none .e) (some PJ) .e)) none (.n (.n (.n .e (some Vu) .e) none .e) (some UJ) (.n (.n .e (some VE) .e) (some Zh) .e)))))) none (.n (.n (.n (.n (.n (.n (.n .e (some JB) .e) (some UK) .e) none (.n (.n .e (some Vw) .e) (some cE) .e)) (some UD) (.n (.n (.n .e (some Vl) .e) (some cA) .e) none (.n (.n .e none .e) (some UU) .e))) none (.n (.n (.n (.n .e (some Vh) .e) (some UL) .e) none (.n (.n .e none .e) (some RO) .e)) (some rI) (.n (.n (.n .e (some Sg) .e) none .e) (some XN) (.n (.n .e (some Zo) .e) (some PM) .e)))) none (.n (.n (.n (.n (.n .e (some Zl) .e) (some bY) .e) none (.n (.n .e (some Vz) .e) (some RM) .e)) (some bF) (.n (.n (.n .e (some Vo) .e) (some cC) .e) (some bK) (.n (.n .e (some PU) .e) (some UW) .e))) (some rG) (.n (.n (.n (.n .e none .e) (some rQ) .e) none (.n (.n .e none .e) (some RP) .e)) (some rK) (.n (.n (.n .e (some Vt) .e) none .e) (some UI) (.n (.n .e (some VB) .e) (some Zg) .e))))) none (.n (.n (.n (.n (.n (.n .e (some RU) .e) (some bX) .e) none (.n (.n .e (some Vy) .e) (some rT) .e)) (some NR) (.n (.n (.n .e (some Vn) .e) (some rS) .e) (some rN) (.n (.n .e (some Sk) .e) (some In) .e))) none (.n (.n (.n (.n .e (some Vk) .e) (some rO) .e) none (.n (.n .e none .e) (some UP) .e)) none (.n (.n (.n .e (some Zn) .e) none .e) (some UG) (.n (.n .e none .e) (some Vb) .e)))) none (.n (.n (.n (.n (.n .e (some RV) .e) (some XQ) .e) none (.n (.n .e none .e) (some RN) .e)) none (.n (.n (.n .e (some Zm) .e) (some XT) .e) (some UF) (.n (.n .e (some V6) .e) (some UZ) .e))) (some S_) (.n (.n (.n (.n .e none .e) none .e) (some bI) (.n (.n .e none .e) (some US) .e)) none (.n (.n (.n .e (some Vv) .e) none .e) (some bQ) (.n .e (some Zi) .e))))))
theorem Aoo:Uh (fun f fn=>AY f=some fn) Ypr id:=⟨(fun _ h=>nomatch h),⟨(fun _ h=>nomatch h),⟨(fun _ h=>A5x.trans h),⟨(fun _ h=>nomatch h),⟨(fun _ h=>Axj.trans h),⟨(fun _ h=>nomatch h),⟨(fun _ h=>Aym.trans h),⟨(fun _ h=>Amt.trans h),trivial,trivial⟩,trivial⟩,⟨(fun _ h=>Azh.trans h),⟨(fun _ h=>Anw.trans h),trivial,trivial⟩,trivial⟩⟩,⟨(fun _ h=>Axx.trans h),⟨(fun _ h=>Azb.trans h),⟨(fun _ h=>Ang.trans h),trivial,trivial⟩,trivial⟩,⟨(fun _ h=>Amd.trans h),⟨(fun _ h=>nomatch h),trivial,trivial⟩,trivial⟩⟩⟩,⟨(fun _ h=>Axq.trans h),⟨(fun _ h=>nomatch h),⟨(fun _ h=>Ayu.trans h),⟨(fun _ h=>Anb.trans h),trivial,trivial⟩,trivial⟩,⟨(fun _ h=>Alv.trans h),⟨(fun _ h=>nomatch h),trivial,trivial⟩,trivial⟩⟩,⟨(fun _ h=>Aye.trans h),⟨(fun _ h=>nomatch h),⟨(fun _ h=>Ano.trans h),trivial,trivial⟩,trivial⟩,⟨(fun _ h=>Aml.trans h),⟨(fun _ h=>Aoj.trans h),trivial,trivial⟩,trivial⟩⟩⟩⟩,⟨(fun _ h=>nomatch h),⟨(fun _ h=>Axn.trans h),⟨(fun _ h=>nomatch h),⟨(fun _ h=>Ayq.trans h),⟨(fun _ h=>Amx.trans h),trivial,trivial⟩,trivial⟩,⟨(fun _ h=>Azl.trans h),⟨(fun _ h=>Aoa.trans h),trivial,trivial⟩,trivial⟩⟩,⟨(fun _ h=>Aya.trans h),⟨(fun _ h=>Aze.trans h),⟨(fun _ h=>Ank.trans h),trivial,trivial⟩,trivial⟩,⟨(fun _ h=>Amh.trans h),⟨(fun _ h=>Aof.trans h),trivial,trivial⟩,trivial⟩⟩⟩,⟨(fun _ h=>Axt.trans h),⟨(fun _ h=>nomatch h),⟨(fun _ h=>Ayy.trans h),⟨(fun _ h=>nomatch h),trivial,trivial⟩,trivial⟩,⟨(fun _ h=>Alz.trans h),⟨(fun _ h=>nomatch h),trivial,trivial⟩,trivial⟩⟩,⟨(fun _ h=>Ayi.trans h),⟨(fun _ h=>nomatch h),⟨(fun _ h=>Ans.trans h),trivial,trivial⟩,trivial⟩,⟨(fun _ h=>Amp.trans h),⟨(fun _ h=>Aol.trans h),trivial,trivial⟩,trivial⟩⟩⟩⟩⟩,⟨(fun _ h=>nomatch h),⟨(fun _ h=>nomatch h),⟨(fun _ h=>Axl.trans h),⟨(fun _ h=>Axv.trans h),⟨(fun _ h=>Ayo.trans h),⟨(fun _ h=>Amv.trans h),trivial,trivial⟩,trivial⟩,⟨(fun _ h=>Azj.trans h),⟨(fun _ h=>Any.trans h),trivial,trivial⟩,trivial⟩⟩,⟨(fun _ h=>Axy.trans h),⟨(fun _ h=>nomatch h),⟨(fun _ h=>Ani.trans h),trivial,trivial⟩,trivial⟩,⟨(fun _ h=>Amf.trans h),⟨(fun _ h=>Aod.trans h),trivial,trivial⟩,trivial⟩⟩⟩,⟨(fun _ h=>Axs.trans h),⟨(fun _ h=>nomatch h),⟨(fun _ h=>Ayw.trans h),⟨(fun _ h=>Ane.trans h),trivial,trivial⟩,trivial⟩,⟨(fun _ h=>Alx.trans h),⟨(fun _ h=>nomatch h),trivial,trivial⟩,trivial⟩⟩,⟨(fun _ h=>Ayg.trans h),⟨(fun _ h=>nomatch h),⟨(fun _ h=>Anq.trans h),trivial,trivial⟩,trivial⟩,⟨(fun _ h=>Amn.trans h),⟨(fun _ h=>nomatch h),trivial,trivial⟩,trivial⟩⟩⟩⟩,⟨(fun _ h=>Axh.trans h),⟨(fun _ h=>Axp.trans h),⟨(fun _ h=>nomatch h),⟨(fun _ h=>Ays.trans h),⟨(fun _ h=>Amz.trans h),trivial,trivial⟩,trivial⟩,⟨(fun _ h=>Alt.trans h),⟨(fun _ h=>Aoc.trans h),trivial,trivial⟩,trivial⟩⟩,⟨(fun _ h=>Ayc.trans h),⟨(fun _ h=>nomatch h),⟨(fun _ h=>Anm.trans h),trivial,trivial⟩,trivial⟩,⟨(fun _ h=>Amj.trans h),⟨(fun _ h=>Aoh.trans h),trivial,trivial⟩,trivial⟩⟩⟩,⟨(fun _ h=>nomatch h),⟨(fun _ h=>nomatch h),⟨(fun _ h=>Aza.trans h),⟨(fun _ h=>nomatch h),trivial,trivial⟩,trivial⟩,⟨(fun _ h=>Amb.trans h),⟨(fun _ h=>nomatch h),trivial,trivial⟩,trivial⟩⟩,⟨(fun _ h=>Ayk.trans h),⟨(fun _ h=>nomatch h),⟨(fun _ h=>Anu.trans h),trivial,trivial⟩,trivial⟩,⟨(fun _ h=>Amr.trans h),⟨(fun _ h=>Aon.trans h),trivial,trivial⟩,trivial⟩⟩⟩⟩⟩⟩,⟨(fun _ h=>nomatch h),⟨(fun _ h=>nomatch h),⟨(fun _ h=>nomatch h),⟨(fun _ h=>Axk.trans h),⟨(fun _ h=>nomatch h),⟨(fun _ h=>Ayn.trans h),⟨(fun _ h=>Amu.trans h),trivial,trivial⟩,trivial⟩,⟨(fun _ h=>Azi.trans h),⟨(fun _ h=>Anx.trans h),trivial,trivial⟩,trivial⟩⟩,⟨(fun _ h=>nomatch h),⟨(fun _ h=>Azc.trans h),⟨(fun _ h=>Anh.trans h),trivial,trivial⟩,trivial⟩,⟨(fun _ h=>Ame.trans h),⟨(fun _ h=>nomatch h),trivial,trivial⟩,trivial⟩⟩⟩,⟨(fun _ h=>Axr.trans h),⟨(fun _ h=>nomatch h),⟨(fun _ h=>Ayv.trans h),⟨(fun _ h=>Anc.trans h),trivial,trivial⟩,trivial⟩,⟨(fun _ h=>Alw.trans h),⟨(fun _ h=>nomatch h),trivial,trivial⟩,trivial⟩⟩,⟨(fun _ h=>Ayf.trans h),⟨(fun _ h=>nomatch h),⟨(fun _ h=>Anp.trans h),trivial,trivial⟩,trivial⟩,⟨(fun _ h=>Amm.trans h),⟨(fun _ h=>Aok.trans h),trivial,trivial⟩,trivial⟩⟩⟩⟩,⟨(fun _ h=>Axg.trans h),⟨(fun _ h=>Axo.trans h),⟨(fun _ h=>nomatch h),⟨(fun _ h=>Ayr.trans h),⟨(fun _ h=>Amy.trans h),trivial,trivial⟩,trivial⟩,⟨(fun _ h=>Als.trans h),⟨(fun _ h=>Aob.trans h),trivial,trivial⟩,trivial⟩⟩,⟨(fun _ h=>Ayb.trans h),⟨(fun _ h=>Azf.trans h),⟨(fun _ h=>Anl.trans h),trivial,trivial⟩,trivial⟩,⟨(fun _ h=>Ami.trans h),⟨(fun _ h=>Aog.trans h),trivial,trivial⟩,trivial⟩⟩⟩,⟨(fun _ h=>Axu.trans h),⟨(fun _ h=>nomatch h),⟨(fun _ h=>Ayz.trans h),⟨(fun _ h=>nomatch h),trivial,trivial⟩,trivial⟩,⟨(fun _ h=>Ama.trans h),⟨(fun _ h=>nomatch h),trivial,trivial⟩,trivial⟩⟩,⟨(fun _ h=>Ayj.trans h),⟨(fun _ h=>nomatch h),⟨(fun _ h=>Ant.trans h),trivial,trivial⟩,trivial⟩,⟨(fun _ h=>Amq.trans h),⟨(fun _ h=>Aom.trans h),trivial,trivial⟩,trivial⟩⟩⟩⟩⟩,⟨(fun _ h=>nomatch h),⟨(fun _ h=>nomatch h),⟨(fun _ h=>Axm.trans h),⟨(fun _ h=>nomatch h),⟨(fun _ h=>Ayp.trans h),⟨(fun _ h=>Amw.trans h),trivial,trivial⟩,trivial⟩,⟨(fun _ h=>Azk.trans h),⟨(fun _ h=>Anz.trans h),trivial,trivial⟩,trivial⟩⟩,⟨(fun _ h=>Axz.trans h),⟨(fun _ h=>Azd.trans h),⟨(fun _ h=>Anj.trans h),trivial,trivial⟩,trivial⟩,⟨(fun _ h=>Amg.trans h),⟨(fun _ h=>Aoe.trans h),trivial,trivial⟩,trivial⟩⟩⟩,⟨(fun _ h=>nomatch h),⟨(fun _ h=>nomatch h),⟨(fun _ h=>Ayx.trans h),⟨(fun _ h=>Anf.trans h),trivial,trivial⟩,trivial⟩,⟨(fun _ h=>Aly.trans h),⟨(fun _ h=>nomatch h),trivial,trivial⟩,trivial⟩⟩,⟨(fun _ h=>Ayh.trans h),⟨(fun _ h=>nomatch h),⟨(fun _ h=>Anr.trans h),trivial,trivial⟩,trivial⟩,⟨(fun _ h=>Amo.trans h),⟨(fun _ h=>nomatch h),trivial,trivial⟩,trivial⟩⟩⟩⟩,⟨(fun _ h=>Axi.trans h),⟨(fun _ h=>nomatch h),⟨(fun _ h=>nomatch h),⟨(fun _ h=>Ayt.trans h),⟨(fun _ h=>Ana.trans h),trivial,trivial⟩,trivial⟩,⟨(fun _ h=>Alu.trans h),⟨(fun _ h=>nomatch h),trivial,trivial⟩,trivial⟩⟩,⟨(fun _ h=>Ayd.trans h),⟨(fun _ h=>Azg.trans h),⟨(fun _ h=>Ann.trans h),trivial,trivial⟩,trivial⟩,⟨(fun _ h=>Amk.trans h),⟨(fun _ h=>Aoi.trans h),trivial,trivial⟩,trivial⟩⟩⟩,⟨(fun _ h=>nomatch h),⟨(fun _ h=>Axw.trans h),⟨(fun _ h=>nomatch h),⟨(fun _ h=>nomatch h),trivial,trivial⟩,trivial⟩,⟨(fun _ h=>Amc.trans h),⟨(fun _ h=>nomatch h),trivial,trivial⟩,trivial⟩⟩,⟨(fun _ h=>Ayl.trans h),⟨(fun _ h=>nomatch h),⟨(fun _ h=>Anv.trans h),trivial,trivial⟩,trivial⟩,⟨(fun _ h=>Ams.trans h),trivial,trivial⟩⟩⟩⟩⟩⟩⟩
theorem BR:∀ f fn,Ypr.get f=some fn->AY f=some fn:=fun _ _ h=>NZ Aoo h
abbrev RQ:=FK AY
abbrev Ar:=Cv AY
end Go.Proofs.YtajompaehjkgkaaGreat
namespace Go.Ai
open Bool renaming true_and->OC
open Decidable renaming decide->B
open Go.Ai.AV renaming int->F
open Int renaming add_zero->B5,le_refl->Dz,mul_add->CW,mul_assoc->AH,mul_comm->AA,mul_zero->AM,natAbs_mul->BK,natCast_pow->C6,ofNat_lt->Afa,pow_pos->Ez,pow_succ->A2,pow_zero->CE
open List renaming cons_append->HT,drop->p,getD_cons_succ->Ka,getD_cons_zero->I',getD_eq_getElem?_getD->Z,getElem?_drop->Bu,getElem?_eq_getElem->Af,getElem?_map->Ch,getElem?_take_of_lt->B1,length_cons->Bv,length_eq_zero_iff->Us,length_singleton->N2,map_cons->C2,map_set->Awj,mem_cons->D4,mem_cons_of_mem->Bi,mem_cons_self->By,mem_of_getElem?->SQ,mem_of_mem_take->C3,replicate->Av,replicate_succ->Ft,set_cons_succ->A6y,set_cons_zero->A6x,set_eq_take_append_cons_drop->qQ,take_append_drop->X3
open Nat renaming add_sub_cancel->Hi,add_zero->FR,le_refl->Ap,lt_of_lt_of_le->Dk,lt_or_ge->Cp,mod_lt->HB,mul_one->I6,pow_add->De,pow_le_pow_right->BF,pow_succ->FM,sub_self->LV
def lm(xs:LI):List AV:=xs.map (F .u32)
def AP(xs:LI):Prop:=∀ x∈xs,0<=x/\x<4294967296
def Ab:LI->Int
 | []=>0
 | x::xs=>x+4294967296*Ab xs
theorem N_(xs:LI):(lm xs).length=xs.length:=by simp [lm]
theorem cO{xs:LI}{i:Nat}(h:i<xs.length):(lm xs)[i]? = some (.int .u32 (xs.getD i 0)):=by
 simp[lm,Ch,Af h,Z]
theorem Ed{xs:LI}{i:Nat}(h:i<xs.length):Bn (p (i*1) (lm xs)) 0 1 true=some (.int .u32 (xs.getD i 0)):=by
 simp only[Bn,if_true,I6,Bu,FR];exact cO h
theorem VJ{xs:LI}{i:Nat}(h:i<xs.length):Bn (lm xs) (i*1) 1 true=some (.int .u32 (xs.getD i 0)):=by
 simp only[Bn,if_true,I6];exact cO h
theorem Ir{xs:LI}{i:Nat}{v:Int}(h:i<xs.length):C4 (lm xs) (i*1) [.int .u32 v]=some (lm (xs.set i v)):=by
 unfold C4;rw[if_pos (by simp[N_];omega)];congr 1;simp only[lm,Awj,I6,N2];rw[qQ,if_pos (by simpa using h)];simp
theorem Fc(n:Nat):Cu [.int .u32 0] n=lm (Av n 0):=by
 induction n with
 | zero=>rfl
 | succ n ih=>simp only[Cu,ih,lm,Ft,C2];rfl
theorem AG{xs:LI}(h:AP xs)(i:Nat):0<=xs.getD i 0/\xs.getD i 0<4294967296:=by
 rw[Z];cases hx:xs[i]? with
 | none=>simp
 | some x=>exact h x (SQ hx)
theorem AZ{xs:LI}(h:AP xs):0<=Ab xs:=by
 induction xs with
 | nil=>exact Dz _
 | cons x xs ih =>
  have h1:=h x By;have h2:=ih fun y hy=>h y (Bi _ hy);simp only[Ab];omega
theorem Gu(xs ys:LI):Ab (xs++ys)=Ab xs+4294967296^xs.length*Ab ys:=by
 induction xs with
 | nil=>simp[Ab]
 | cons x xs ih =>
  simp only[HT,Ab,ih,Bv,A2];rw[CW,<- Int.add_assoc];congr 1;rw[<- AH,AA 4294967296 (4294967296^xs.length)]
theorem EG(n:Nat):Ab (Av n 0)=0:=by
 induction n with
 | zero=>rfl
 | succ n ih=>simp[Ft,Ab,ih]
theorem DI{xs:LI}(h:AP xs):Ab xs<4294967296^xs.length:=by
 induction xs with
 | nil=>simp[Ab]
 | cons x xs ih =>
  have h1:=h x By;have h2:=ih fun y hy=>h y (Bi _ hy);simp only[Ab,Bv,A2];omega
theorem DP(xs:LI)(i:Nat)(v:Int)(h:i<xs.length):Ab (xs.set i v)=Ab xs+4294967296^i*(v-xs.getD i 0):=by
 induction xs generalizing i with
 | nil=>simp at h
 | cons x xs ih =>
  cases i with
  | zero=>simp only[A6x,Ab,CE,I'];omega
  | succ i =>
   simp only[A6y,Ab,Ka];rw[ih i (by simpa using h),A2,CW,<- AH,AA 4294967296 (4294967296^i)];omega
theorem Cw{xs:LI}(h:AP xs){i:Nat}{v:Int}(hv:0<=v/\v<4294967296):AP (xs.set i v):=by
 intro x hx;rcases List.mem_or_eq_of_mem_set hx with h1 | h1
 ·exact h x h1
 ·rw[h1];exact hv
def l(xs:LI):Nat->Nat
 | 0=>0
 | n+1=>if xs.getD n 0=0 then l xs n else n+1
def Aa(xs:LI):LI:=xs.take (l xs xs.length)
theorem GR(xs:LI)(n:Nat):l xs n<=n:=by
 induction n with
 | zero=>exact Ap _
 | succ n ih=>simp only[l];split <;> omega
theorem Ya(xs:LI)(n:Nat):l xs n=0\/xs.getD (l xs n-1) 0 ≠ 0:=by
 induction n with
 | zero=>exact .inl rfl
 | succ n ih =>
  simp only[l];split
  ·exact ih
  ·exact .inr (by simpa)
theorem MJ(xs:LI)(n:Nat):∀ i,l xs n<=i->i<n->xs.getD i 0=0:=by
 induction n with
 | zero=>intro i _ h;omega
 | succ n ih =>
  intro i h1 h2;simp only[l] at h1;split at h1
  ·rename_i h0;by_cases hi:i=n
   ·subst hi;exact h0
   ·exact ih i h1 (by omega)
  ·omega
def F1(xs:LI):Prop:=AP xs/\(xs=[]\/xs.getD (xs.length-1) 0 ≠ 0)
theorem F7{xs:LI}(h:AP xs):F1 (Aa xs):=by
 have hl:=GR xs xs.length;have hlen:(Aa xs).length=l xs xs.length:=by simp[Aa];omega
 refine⟨fun x hx=>h x (C3 hx),?_⟩;by_cases hz:l xs xs.length=0
 ·left;simp[Aa,hz]
 ·right;have h0:=(Ya xs xs.length).resolve_left hz;rw[hlen,Z,Aa,B1 (by omega),<- Z];exact h0
theorem TU{xs:LI}(h:∀ i,i<xs.length->xs.getD i 0=0):Ab xs=0:=by
 induction xs with
 | nil=>rfl
 | cons x xs ih =>
  have h0:=h 0 (by simp);simp only[I'] at h0;subst h0;simp only[Ab];rw[ih fun i hi=>by simpa using h (i+1) (by simpa using hi)];rfl
theorem Ek(xs:LI):Ab (Aa xs)=Ab xs:=by
 have e:Ab xs=Ab (xs.take (l xs xs.length)++xs.drop (l xs xs.length)):=by rw[X3]
 rw[e,Gu];have:Ab (xs.drop (l xs xs.length))=0:=by
  apply TU;intro i hi;have hi':l xs xs.length+i<xs.length:=by simp at hi;omega
  have:=MJ xs xs.length (l xs xs.length+i) (by omega) hi';rw[Z,Bu,<- Z];exact this
 rw[this,AM,B5];rfl
theorem Ld{x:Int}{xs:LI}(h:F1 (x::xs)):F1 xs:=by
 refine⟨fun y hy=>h.1 y (Bi _ hy),?_⟩;cases xs with
 | nil=>exact .inl rfl
 | cons y ys =>
  right;rcases h.2 with h0 | h0
  ·cases h0
  ·simpa using h0
theorem IG:∀ {xs:LI},F1 xs->xs ≠ []->0<Ab xs
 | [],_,h=>absurd rfl h
 | [x],h,_=>by
  have h1:=h.1 x By;rcases h.2 with h0 | h0
  ·cases h0
  ·simp only[N2,LV,I'] at h0;simp only[Ab];omega
 | x::y::ys,h,_=>by
  have h1:=h.1 x By;have h2:=IG (Ld h) (by simp);simp only[Ab] at h2 |-;omega
theorem Sp:∀ {xs ys:LI},F1 xs->F1 ys->Ab xs=Ab ys->xs=ys
 | [],[],_,_,_=>rfl
 | [],y::ys,_,h2,h=>by
  have:=IG h2 (by simp);rw[<- h] at this;simp[Ab] at this
 | x::xs,[],h1,_,h=>by
  have:=IG h1 (by simp);rw[h] at this;simp[Ab] at this
 | x::xs,y::ys,h1,h2,h=>by
  have a1:=h1.1 x By;have a2:=h2.1 y By;simp only[Ab] at h;have e1:x=y:=by omega
  have e2:Ab xs=Ab ys:=by omega
  rw[e1,Sp (Ld h1) (Ld h2) e2]
def MK:Nat->Nat->LI
 | 0,_=>[]
 | f+1,n=>if n=0 then [] else ((n % 4294967296:Nat):Int)::MK f (n / 4294967296)
def M(n:Nat):LI:=MK (n+1) n
theorem PW:∀ (f n:Nat),n<f->F1 (MK f n)/\Ab (MK f n)=n/\(MK f n=[]↔n=0):=by
 intro f;induction f with
 | zero=>intro n h;omega
 | succ f ih =>
  intro n h;simp only[MK];by_cases h0:n=0
  ·subst h0;simp[Ab,F1,AP]
  ·rw[if_neg h0];obtain⟨c1,c2,c3⟩:=ih (n / 4294967296) (by omega);have hm:=HB n (show 0<4294967296 by omega);refine⟨⟨?_,?_⟩,?_,by simp[h0]⟩
   ·intro x hx;rcases D4.1 hx with rfl | hx
    ·omega
    ·exact c1.1 x hx
   ·right;cases hl:MK f (n / 4294967296) with
    | nil =>
     have:=c3.1 hl;simp;omega
    | cons y ys =>
     rcases c1.2 with h1 | h1
     ·rw[hl] at h1;cases h1
     ·rw[hl] at h1;simpa using h1
   ·simp only[Ab,c2];omega
theorem Ci(n:Nat):F1 (M n):=(PW _ n (by omega)).1
theorem Cr(n:Nat):Ab (M n)=n:=(PW _ n (by omega)).2.1
theorem IH(n:Nat):M n=[]↔n=0:=(PW _ n (by omega)).2.2
theorem II{xs:LI}(h:AP xs):Aa xs=M (Ab xs).toNat:=by
 apply Sp (F7 h) (Ci _);rw[Ek,Cr];have:=AZ h;omega
def Ah(n:Int):AV := .agg [.bool (B (n<0)),.sl (M n.natAbs).length (lm (M n.natAbs))]
def CD(n:Int):AV := .frs (.st (B (n<0))) 1 (M n.natAbs).length (lm (M n.natAbs))
theorem Cy(n:Nat):(0:Int)<4294967296^n:=Ez (by decide)
theorem OP:∀ {xs:LI},F1 xs->xs ≠ []->(4294967296:Int)^(xs.length-1)<=Ab xs
 | [],_,h=>absurd rfl h
 | [x],h,_=>by
  have:=IG h (by simp);simp only[N2,LV,CE];omega
 | x::y::ys,h,_=>by
  have h1:=h.1 x By;have h2:=OP (Ld h) (by simp);simp only[Bv,Hi] at h2 |-;rw[A2];show _<=x+4294967296*Ab (y::ys);omega
theorem         Gl {a b : Nat} (h : a <= b) : (4294967296 : Int) ^ a <= 4294967296 ^ b := by
  induction b with
  | zero => have : a = 0 := by omega
            subst this; exact          Dz _
  | succ b ih =>
    by_cases hh : a = b + 1
    · subst hh; exact          Dz _
    · have := ih (by omega)
      have hp :=        Cy b
      rw [          A2]; omega
theorem K9{xs:LI}(h:F1 xs){k:Nat}(hv:Ab xs<4294967296^k):xs.length<=k:=by
 by_cases hn:xs=[]
 ·subst hn;simp
 ·have h1:=OP h hn;rcases Cp k xs.length with h2 | h2
  ·have:=Gl (show k<=xs.length-1 by omega);omega
  ·exact h2
theorem ML{n k:Nat}(h:(n:Int)<4294967296^k):(M n).length<=k:=K9 (Ci n) (by rw [Cr];exact h)
def Bm(k:Nat)(n:Int):Prop:=n.natAbs<4294967296^k
theorem Bm.len{k:Nat}{n:Int}(h:Bm k n):(M n.natAbs).length<=k:=by
 apply ML;have h1:(n.natAbs:Int)<((4294967296^k:Nat):Int):=Afa.mpr h;rwa [C6] at h1
theorem Bm.mono{j k:Nat}{n:Int}(h:Bm j n)(hk:j<=k):Bm k n:=Dk h (BF (by decide) hk)
theorem Bm.mul{j k:Nat}{a b:Int}(ha:Bm j a)(hb:Bm k b):Bm (j+k) (a*b):=by
 unfold Bm at *
 rw[BK,De];exact Nat.mul_lt_mul'' ha hb
theorem Bm.add{j:Nat}{a b:Int}(ha:Bm j a)(hb:Bm j b):Bm (j+1) (a+b):=by
 unfold Bm at *
 rw[FM];have:=Int.natAbs_add_le a b;omega
theorem Bm.neg{j:Nat}{a:Int}(ha:Bm j a):Bm j (-a):=by
 unfold Bm at *
 rwa [Int.natAbs_neg]
theorem OQ{n:Int}(h : -9223372036854775808<=n/\n<=9223372036854775807):Bm 2 n:=by
 unfold Bm;have:(4294967296:Nat)^2=18446744073709551616:=by decide
 omega
def rv(neg:Bool)(xs:LI):Int:=if neg then -Ab xs else Ab xs
theorem Zw{neg:Bool}{xs:LI}(hu:AP xs):(rv neg xs).natAbs=(Ab xs).toNat:=by
 have:=AZ hu;unfold rv;cases neg <;> simp <;> omega
theorem Mf{neg:Bool}{xs:LI}(hu:AP xs):Aa xs=M (rv neg xs).natAbs:=by
 rw[Zw hu,II hu]
theorem F8(n:Int):rv (B (n<0)) (M n.natAbs)=n:=by
 unfold rv;rw[Cr];by_cases h:n<0 <;> simp[h] <;> omega
theorem Dg(n:Nat):(M n).length=0↔n=0:=by rw [Us,IH]
theorem sA{neg:Bool}{xs:LI}(hu:AP xs):(neg&&decide (0<(M (rv neg xs).natAbs).length))=decide (rv neg xs<0):=by
 have h1:=Dg (rv neg xs).natAbs;have h2:=AZ hu;have h3:=Zw (neg:=neg) hu;unfold rv at *
 cases neg
 ·simp;omega
 ·simp only[OC,if_true] at *
  rw[decide_eq_decide];omega
theorem Bq(xs:LI):(Aa xs).length<=xs.length:=by simp [Aa];omega
theorem EM{neg:Bool}{xs:LI}(hu:AP xs):(M (rv neg xs).natAbs).length<=xs.length:=by rw [<- Mf hu];exact Bq xs
theorem VK{neg:Bool}{xs:LI}(hu:AP xs):Bm xs.length (rv neg xs):=by
 unfold Bm;rw[Zw hu];have h1:=AZ hu;have h2:=DI hu;have h3:((4294967296^xs.length:Nat):Int)=(4294967296:Int)^xs.length:=by rw[C6];rfl
 omega
theorem BI(n:Nat):AP (M n):=(Ci n).1
def vl(xs : List Int) : Reg := .val (.sl xs.length (lm xs))
def vi(n : Int) : Reg := .val (.int .i64 n)
end Go.Ai
namespace Go.Proofs.YtajompaehjkgkaaGreat
open Go.Ai
set_option maxRecDepth 100000
open Bool renaming false_and->I8,false_eq_true->Cf
open Decidable renaming decide->B
open Go.Ai.AV renaming agg->o,bool->D,fresh->L,int->F,sl->H
open Go.Ai.Reg renaming own->X,val->C
open Go.IntKind renaming bits->Am,i64->O,signed->jY,u32->Ac,u64->U,wrap->I
open Int renaming fdiv->d,fdiv_eq_ediv_of_nonneg->t,mul_add->CW,mul_le_mul->DJ,mul_le_mul_of_nonneg_left->Ak,mul_nonneg->A6,mul_one->Dn,natAbs->E,natCast_nonneg->G3,pow_succ->A2,sub_zero->EY,toNat->A,toNat_natCast->R,zero_add->DK
open List renaming drop->p,drop_eq_getElem_cons->CL,drop_zero->Fe,eq_of_mem_replicate->Awi,getD_eq_getElem?_getD->Z,getElem?_eq_getElem->Af,getElem?_replicate->KP,getElem?_set_ne->FO,length->Bh,length_eq_zero_iff->Us,map_take->RI,mem_cons->D4,mem_of_mem_take->C3,not_mem_nil->TR,replicate->Av,take->B3,take_length->EK
open Nat renaming add_assoc->Dw,add_zero->FR,le_refl->Ap,le_trans->Be,sub_zero->JV
theorem FK.to{prog:Nat->Option IFunc}{f:Nat}{args:List AV}{r r':AV}(h:FK prog f args r)(e:r=r'):FK prog f args r':=e ▸ h
theorem Bl{n:Int}(h1 : -9223372036854775808<=n)(h2:n<=9223372036854775807):I O n=n:=by
 simp only[I,Am,jY];simp;omega
theorem B6(n:Int):I U n=n % 18446744073709551616:=by
 simp only[I,Am,jY,I8,Cf,if_false];omega
theorem DW(n:Int):I Ac n=n % 4294967296:=by
 simp only[I,Am,jY,I8,Cf,if_false];omega
def TB0:Cn:=[]
theorem Fr:Ca AY TB0:=Ca.nil _
def Tk(N:Nat)(cs:List AV)(n:Int):Al:=(C (H N cs)::(Y 1 (X 1 0 []::(C (F O n)::(Y 18 [])))))
theorem Azm(N:Nat)(cs:List AV)(n x:Int)(c1:B (n>0)=true)(c2:(x==0)=true)(n1:0<=(I O (n-1))/\(I O (n-1))<(N:Int))(n2:Bn (p (A (I O (n-1))*1) cs) 0 1 true=some (F Ac x)):Ar cG (Tk N cs n) .norm (Tk N cs (I O (n-1))):=G Fr 300 [.b true,.v (F Ac x),.b true] [0,2,3] (S c1 (S n1 (S n2 (S c2 a0)))) (by kernel_rfl)
theorem Azn(N:Nat)(cs:List AV)(n x:Int)(c1:B (n>0)=true)(c2:(x==0)=false)(n1:0<=(I O (n-1))/\(I O (n-1))<(N:Int))(n2:Bn (p (A (I O (n-1))*1) cs) 0 1 true=some (F Ac x)):Ar cG (Tk N cs n) (.exit 0) (Tk N cs n):=G Fr 300 [.b true,.v (F Ac x),.b false] [0,2,3] (S c1 (S n1 (S n2 (S c2 a0)))) (by kernel_rfl)
theorem Azo(N:Nat)(cs:List AV)(n:Int)(c1:B (n>0)=false):Ar cG (Tk N cs n) (.exit 0) (Tk N cs n):=G Fr 300 [.b false,.b false] [0,2,3] (S c1 (S EI a0)) (by kernel_rfl)
theorem Aop(xs:LI)(hN:xs.length<=35184372088832):∀ m,m<=xs.length->Ar (.loop cG) (Tk xs.length (lm xs) (m:Int)) (.exit 0) (Tk xs.length (lm xs) ((l xs m:Nat):Int)):=by
 intro m;induction m with
 | zero =>
  intro _;exact Ao (Azo xs.length (lm xs) ((0:Nat):Int) (by simp)) (by nofun)
 | succ m ih =>
  intro hm;have e1:I O (((m+1:Nat):Int)-1)=(m:Int):=by rw[Bl (by omega) (by omega)];omega
  have hx:=Ed (xs:=xs) (i:=m) (by omega);simp only[l];by_cases h0:xs.getD m 0=0
  ·rw[if_pos h0];have h1:=Azm xs.length (lm xs) ((m+1:Nat):Int) (xs.getD m 0) (by simp) (by rw[h0];rfl) (by rw[e1];omega) (by rw[e1,R];exact hx);rw[e1] at h1;exact Cv.loop h1 (ih (by omega))
  ·rw[if_neg h0];exact Ao (Azn xs.length (lm xs) ((m+1:Nat):Int) (xs.getD m 0) (by simp) (by simpa using h0) (by rw[e1];omega) (by rw[e1,R];exact hx)) (by nofun)
theorem DX{xs:LI}(hN:xs.length<=35184372088832):RQ 99 [sL lm xs] (L 1 (Aa xs).length (lm (Aa xs))):=by
 have hle:=GR xs xs.length;have hlen:(Aa xs).length=l xs xs.length:=by simp[Aa];omega
 have hl:=Aop xs hN xs.length (Ap _);have hsc:0<=(A ((l xs xs.length:Nat):Int))/\(A ((l xs xs.length:Nat):Int))<=xs.length/\xs.length<=xs.length/\(false=true->true=true):=by rw[R];exact⟨by omega,hle,Ap _,fun h=>by cases h⟩
 have htk:B3 ((A ((l xs xs.length:Nat):Int)-0)*1) (p (0*1) (lm xs))=lm (Aa xs):=by
  rw[R];simp[lm,Aa,RI]
 have hal:Bh (B3 ((A ((l xs xs.length:Nat):Int)-0)*1) (p (0*1) (lm xs)))=(A ((l xs xs.length:Nat):Int)-0)*1:=by
  rw[htk,N_,hlen,R];omega
 have han:(A ((l xs xs.length:Nat):Int)-0)<=35184372088832:=by rw[R];omega
 have:=K8 (prog:=AY) (f:=99) (args:=[sL lm xs]) (r := L 1 (A ((l xs xs.length:Nat):Int)-0) (B3 ((A ((l xs xs.length:Nat):Int)-0)*1) (p (0*1) (lm xs)))) (fn:=cH) (s:=(C (sL lm xs)::(Y 1 (X 1 ((A ((l xs xs.length:Nat):Int))-0) (B3 (((A ((l xs xs.length:Nat):Int))-0)*1) (p (0*1) (lm xs)))::(C (F O ((l xs xs.length:Nat):Int))::(Y 14 (C (sL lm xs)::(C (F O ((l xs xs.length:Nat):Int))::(C (H ((A ((l xs xs.length:Nat):Int))-0) (B3 (((A ((l xs xs.length:Nat):Int))-0)*1) (p (0*1) (lm xs))))::(Y 1 [])))))))))) (ex := .ret) rfl rfl
  (Cv.seq (DV (t:=(C (sL lm xs)::(Y 1 (X 1 0 []::(Y 19 []))))) (ex := .norm) (ps:=[]) Fr 300 [] [0,2] (by kernel_rfl) trivial)
  (Cv.seq (DV (t:=(C (sL lm xs)::(Y 1 (X 1 0 []::(C (F O (xs.length:Int))::(Y 18 [])))))) (ex := .norm) (ps:=[]) Fr 300 [] [0,2,3] (by kernel_rfl) trivial)
  (Cv.seq (Cv.block hl)
  (DV (t:=(C (sL lm xs)::(Y 1 (X 1 ((A ((l xs xs.length:Nat):Int))-0) (B3 (((A ((l xs xs.length:Nat):Int))-0)*1) (p (0*1) (lm xs)))::(C (F O ((l xs xs.length:Nat):Int))::(Y 14 (C (sL lm xs)::(C (F O ((l xs xs.length:Nat):Int))::(C (H ((A ((l xs xs.length:Nat):Int))-0) (B3 (((A ((l xs xs.length:Nat):Int))-0)*1) (p (0*1) (lm xs))))::(Y 1 [])))))))))) (ex := .ret) (ps:=[0<=((l xs xs.length:Nat):Int),0<=(A ((l xs xs.length:Nat):Int))/\(A ((l xs xs.length:Nat):Int))<=xs.length/\xs.length<=xs.length/\(false=true->true=true),Bh (B3 (((A ((l xs xs.length:Nat):Int))-0)*1) (p (0*1) (lm xs)))=((A ((l xs xs.length:Nat):Int))-0)*1,((A ((l xs xs.length:Nat):Int))-0)<=35184372088832]) Fr 300 [] [0,2,3,18,19,20] (by kernel_rfl) ⟨(G3 _),hsc,hal,han,trivial⟩)))) (by nofun) rfl
 (first|rw[htk,R,JV,<- hlen] at this|(rw[htk,R,JV] at this;unfold sL at this;rw[<- hlen] at this));exact this
def VL(neg:Bool)(xs:LI):AV :=
 match neg with
 | true=>(.frs (.st (B ((((Aa xs).length:Nat):Int)>0))) 1 ((Aa xs).length) (lm (Aa xs)))
 | false=>(.frs (.st false) 1 ((Aa xs).length) (lm (Aa xs)))
theorem Azp(neg:Bool)(xs:LI)(hN:xs.length<=1048576):RQ 98 [D neg,sL lm xs] (VL neg xs):=by
 unfold VL;cases neg
 ·exact Bx (r := .frs (.st false) 1 ((Aa xs).length) (lm (Aa xs))) (ps:=[RQ 99 [sL lm xs] (L 1 ((Aa xs).length) (lm (Aa xs))),false=false]) Fr rfl 300 rfl [.r (L 1 ((Aa xs).length) (lm (Aa xs))),.b false] (by kernel_rfl) ⟨(DX (Be hN (by decide))),rfl,trivial⟩
 ·exact Bx (r := .frs (.st (B ((((Aa xs).length:Nat):Int)>0))) 1 ((Aa xs).length) (lm (Aa xs))) (ps:=[RQ 99 [sL lm xs] (L 1 ((Aa xs).length) (lm (Aa xs))),true=true]) Fr rfl 300 rfl [.r (L 1 ((Aa xs).length) (lm (Aa xs))),.b true] (by kernel_rfl) ⟨(DX (Be hN (by decide))),rfl,trivial⟩
theorem PX{neg:Bool}{xs:LI}(hu:AP xs)(hN:xs.length<=1048576):RQ 98 [D neg,sL lm xs] (CD (if neg then -Ab xs else Ab xs)):=by
 have h:=Azp neg xs hN;have e:VL neg xs=CD (if neg then -Ab xs else Ab xs):=by
  have hv:=AZ hu;have ht:=II hu;have hp:(Aa xs).length=0↔Ab xs=0:=by
   rw[ht,Us,IH];omega
  cases neg with
  | false =>
   have e1:(Ab xs).natAbs=(Ab xs).toNat:=by omega
   have e2:decide (Ab xs<0)=false:=by simp;omega
   simp only[VL,CD,Cf,if_false,e1,e2,ht]
  | true =>
   have e1:(-Ab xs).natAbs=(Ab xs).toNat:=by omega
   have e2:decide ((((Aa xs).length:Nat):Int)>0)=decide (-Ab xs<0):=by
    rw[decide_eq_decide];omega
   simp only[VL,CD,if_true,e1,e2,<- ht]
 rw[<- e];exact h
theorem Mg{u:Int}(h:0<=u/\u<18446744073709551616):AP [I Ac u,I Ac (d u (2^(min (A 32) (Am .u64))))]/\Ab [I Ac u,I Ac (d u (2^(min (A 32) (Am .u64))))]=u:=by
 have e:d u (2^(min (A 32) (Am .u64)))=u / 4294967296:=by
  show d u 4294967296=_;rw[t _ (by omega)]
 rw[e,DW,DW];refine⟨fun x hx => ?_,?_⟩
 ·simp only[D4,TR,or_false] at hx;rcases hx with rfl | rfl <;> omega
 ·simp only[Ab];omega
theorem xA(n:Int)(c1:decide (n<0)=true)(hcall:RQ 98 [D (B (n<0)),H 2 [F Ac (I Ac (I U (0-(I U n)))),F Ac (I Ac (d (I U (0-(I U n))) (2^(min (A 32) (Am .u64)))))]] (.frs (.st (B (n<0))) 1 ((M (E n)).length) (lm (M (E n))))):RQ 49 [F O n] (o [D (B (n<0)),H ((M (E n)).length) (lm (M (E n)))]):=Bx (ps:=[(B (n<0))=true,¬ (32:Int)<0,RQ 98 [D (B (n<0)),H 2 [F Ac (I Ac (I U (0-(I U n)))),F Ac (I Ac (d (I U (0-(I U n))) (2^(min (A 32) (Am .u64)))))]] (.frs (.st (B (n<0))) 1 ((M (E n)).length) (lm (M (E n))))]) Fr rfl 300 rfl [.b true,.r (.frs (.st (B (n<0))) 1 ((M (E n)).length) (lm (M (E n))))] (by kernel_rfl) ⟨c1,(by decide),hcall,trivial⟩
theorem xB(n:Int)(c1:decide (n<0)=false)(hcall:RQ 98 [D (B (n<0)),H 2 [F Ac (I Ac (I U n)),F Ac (I Ac (d (I U n) (2^(min (A 32) (Am .u64)))))]] (.frs (.st (B (n<0))) 1 ((M (E n)).length) (lm (M (E n))))):RQ 49 [F O n] (o [D (B (n<0)),H ((M (E n)).length) (lm (M (E n)))]):=Bx (ps:=[(B (n<0))=false,¬ (32:Int)<0,RQ 98 [D (B (n<0)),H 2 [F Ac (I Ac (I U n)),F Ac (I Ac (d (I U n) (2^(min (A 32) (Am .u64)))))]] (.frs (.st (B (n<0))) 1 ((M (E n)).length) (lm (M (E n))))]) Fr rfl 300 rfl [.b false,.r (.frs (.st (B (n<0))) 1 ((M (E n)).length) (lm (M (E n))))] (by kernel_rfl) ⟨c1,(by decide),hcall,trivial⟩
theorem sB{n:Int}(hn : -9223372036854775808<=n/\n<=9223372036854775807):RQ 49 [F O n] (Ah n):=by
 cases c1:decide (n<0) with
 | true =>
  have h0:n<0:=by simpa using c1
  have eu:I U (0-I U n) = -n:=by rw[B6,B6];omega
  obtain⟨k1,k2⟩:=Mg (u:=I U (0-I U n)) (by rw[eu];omega);refine xA n c1 ?_;have:=PX (neg:=true) k1 (by simp);have e:(if true=true then -Ab [I Ac (I U (0-I U n)),I Ac (d (I U (0-I U n)) (2^(min (A 32) (Am .u64))))] else Ab [I Ac (I U (0-I U n)),I Ac (d (I U (0-I U n)) (2^(min (A 32) (Am .u64))))])=n:=by
   rw[k2,if_pos rfl,eu];omega
  rw[e,CD,c1] at this;rw[c1];exact this
 | false =>
  have h0:¬ n<0:=by simpa using c1
  have eu:I U n=n:=by rw[B6];omega
  obtain⟨k1,k2⟩:=Mg (u:=I U n) (by rw[eu];omega);refine xB n c1 ?_;have:=PX (neg:=false) k1 (by simp);have e:(if false=true then -Ab [I Ac (I U n),I Ac (d (I U n) (2^(min (A 32) (Am .u64))))] else Ab [I Ac (I U n),I Ac (d (I U n) (2^(min (A 32) (Am .u64))))])=n:=by
   rw[if_neg (by decide),k2,eu]
  rw[e,CD,c1] at this;rw[c1];exact this
def TBA:Cn:=TB0
theorem D9:Ca AY TBA:=Fr
def Hw(N:Nat)(cs:List AV)(M:Nat)(ds:List AV)(v i:Int):Al:=(C (H N cs)::(C (H M ds)::(Y 2 (C (F O v)::(C (F O i)::(Y 35 []))))))
theorem Aoq(N:Nat)(cs:List AV)(M:Nat)(ds:List AV)(v i x y:Int)(c1:B (i>=0)=true)(c2:(x != y)=true)(c3:B (x<y)=true)(n1:0<=i/\i<(N:Int))(n2:Bn (p (A i*1) cs) 0 1 true=some (F Ac x))(n3:0<=i/\i<(M:Int))(n4:Bn (p (A i*1) ds) 0 1 true=some (F Ac y))(n5:0<=i/\i<(N:Int))(n6:Bn (p (A i*1) cs) 0 1 true=some (F Ac x))(n7:0<=i/\i<(M:Int))(n8:Bn (p (A i*1) ds) 0 1 true=some (F Ac y)):Ar ME (Hw N cs M ds v i) .ret (Hw N cs M ds (-1) i):=G D9 300 [.b true,.v (F Ac x),.v (F Ac y),.b true,.v (F Ac x),.v (F Ac y),.b true] [0,1,4,5] (S c1 (S n1 (S n2 (S n3 (S n4 (S c2 (S n5 (S n6 (S n7 (S n8 (S c3 a0))))))))))) (by kernel_rfl)
theorem Aor(N:Nat)(cs:List AV)(M:Nat)(ds:List AV)(v i x y:Int)(c1:B (i>=0)=true)(c2:(x != y)=true)(c3:B (x<y)=false)(n1:0<=i/\i<(N:Int))(n2:Bn (p (A i*1) cs) 0 1 true=some (F Ac x))(n3:0<=i/\i<(M:Int))(n4:Bn (p (A i*1) ds) 0 1 true=some (F Ac y))(n5:0<=i/\i<(N:Int))(n6:Bn (p (A i*1) cs) 0 1 true=some (F Ac x))(n7:0<=i/\i<(M:Int))(n8:Bn (p (A i*1) ds) 0 1 true=some (F Ac y)):Ar ME (Hw N cs M ds v i) .ret (Hw N cs M ds 1 i):=G D9 300 [.b true,.v (F Ac x),.v (F Ac y),.b true,.v (F Ac x),.v (F Ac y),.b false] [0,1,4,5] (S c1 (S n1 (S n2 (S n3 (S n4 (S c2 (S n5 (S n6 (S n7 (S n8 (S c3 a0))))))))))) (by kernel_rfl)
theorem Aos(N:Nat)(cs:List AV)(M:Nat)(ds:List AV)(v i x y:Int)(c1:B (i>=0)=true)(c2:(x != y)=false)(n1:0<=i/\i<(N:Int))(n2:Bn (p (A i*1) cs) 0 1 true=some (F Ac x))(n3:0<=i/\i<(M:Int))(n4:Bn (p (A i*1) ds) 0 1 true=some (F Ac y)):Ar ME (Hw N cs M ds v i) .norm (Hw N cs M ds v (I O (i-1))):=G D9 300 [.b true,.v (F Ac x),.v (F Ac y),.b false] [0,1,4,5] (S c1 (S n1 (S n2 (S n3 (S n4 (S c2 a0)))))) (by kernel_rfl)
theorem Aot(N:Nat)(cs:List AV)(M:Nat)(ds:List AV)(v i:Int)(c1:B (i>=0)=false):Ar ME (Hw N cs M ds v i) (.exit 0) (Hw N cs M ds v i):=G D9 300 [.b false] [0,1,4,5] (S c1 a0) (by kernel_rfl)
def CI(a b:Int):Int:=if a<b then -1 else if b<a then 1 else 0
def BJ(n:Int):Int:=if n<0 then -1 else if 0<n then 1 else 0
def JC(xs ys:LI):Nat->Int
 | 0=>0
 | m+1=>if xs.getD m 0=ys.getD m 0 then JC xs ys m else if xs.getD m 0<ys.getD m 0 then -1 else 1
theorem DY(xs:LI)(m:Nat)(h:m<xs.length):Ab (xs.take (m+1))=Ab (xs.take m)+4294967296^m*xs.getD m 0:=by
 rw[List.take_add_one,Af h,Option.toList_some,Gu];have:(xs.take m).length=m:=by simp;omega
 rw[this];simp[Ab,Z,Af h]
theorem Yb{A B x y P:Int}(hA:0<=A/\A<P)(hB:0<=B/\B<P)(h:x<y):A+P*x<B+P*y:=by
 have:=Ak (show x+1<=y by omega) (show 0<=P by omega);rw[CW,Dn] at this;omega
theorem Yc{xs ys:LI}(hx:AP xs)(hy:AP ys):∀ m,m<=xs.length->m<=ys.length->JC xs ys m=CI (Ab (xs.take m)) (Ab (ys.take m)):=by
 intro m;induction m with
 | zero=>intro _ _;simp[JC,CI,Ab]
 | succ m ih =>
  intro h1 h2;simp only[JC];rw[DY xs m (by omega),DY ys m (by omega)];have ux:AP (xs.take m):=fun x hx'=>hx x (C3 hx');have uy:AP (ys.take m):=fun x hx'=>hy x (C3 hx');have a1:=AZ ux;have a2:=DI ux;have b1:=AZ uy;have b2:=DI uy;rw[show (xs.take m).length=m by simp;omega] at a2;rw[show (ys.take m).length=m by simp;omega] at b2;by_cases h:xs.getD m 0=ys.getD m 0
  ·rw[if_pos h,ih (by omega) (by omega),h];unfold CI;congr 1
   ·rw[eq_iff_iff];omega
   ·congr 1;rw[eq_iff_iff];omega
  ·rw[if_neg h];by_cases hlt:xs.getD m 0<ys.getD m 0
   ·rw[if_pos hlt];have:=Yb ⟨a1,a2⟩ ⟨b1,b2⟩ hlt;unfold CI;rw[if_pos this]
   ·rw[if_neg hlt];have:=Yb ⟨b1,b2⟩ ⟨a1,a2⟩ (show ys.getD m 0<xs.getD m 0 by omega);unfold CI;rw[if_neg (by omega),if_pos this]
theorem xC(xs ys:LI)(hN:xs.length<=1048576)(hl:xs.length=ys.length):∀ m,m<=xs.length ->
  (JC xs ys m=0/\Ar (.loop ME) (Hw xs.length (lm xs) ys.length (lm ys) 0 ((m:Int)-1)) (.exit 0) (Hw xs.length (lm xs) ys.length (lm ys) 0 (-1))) \/
  (JC xs ys m ≠ 0/\∃ j,Ar (.loop ME) (Hw xs.length (lm xs) ys.length (lm ys) 0 ((m:Int)-1)) .ret (Hw xs.length (lm xs) ys.length (lm ys) (JC xs ys m) j)):=by
 intro m;induction m with
 | zero =>
  intro _;left;refine⟨rfl,?_⟩;exact Ao (Aot xs.length (lm xs) ys.length (lm ys) 0 (((0:Nat):Int)-1) (by simp)) (by nofun)
 | succ m ih =>
  intro hm;have e0:((m+1:Nat):Int)-1=(m:Int):=by omega
  have e1:I O ((m:Int)-1)=(m:Int)-1:=Bl (by omega) (by omega);have hx:=Ed (xs:=xs) (i:=m) (by omega);have hy:=Ed (xs:=ys) (i:=m) (by omega);rw[e0];simp only[JC];by_cases h:xs.getD m 0=ys.getD m 0
  ·rw[if_pos h];have h1:=Aos xs.length (lm xs) ys.length (lm ys) 0 (m:Int) (xs.getD m 0) (ys.getD m 0) (by simp) (by simpa using h) (by omega) (by rw[R];exact hx) (by omega) (by rw[R];exact hy);rw[e1] at h1;rcases ih (by omega) with ⟨k1,k2⟩ | ⟨k1,j,k2⟩
   ·exact .inl ⟨k1,Cv.loop h1 k2⟩
   ·exact .inr ⟨k1,j,Cv.loop h1 k2⟩
  ·rw[if_neg h];right;by_cases hlt:xs.getD m 0<ys.getD m 0
   ·rw[if_pos hlt];refine⟨by decide,(m:Int),?_⟩;exact Ao (Aoq xs.length (lm xs) ys.length (lm ys) 0 (m:Int) (xs.getD m 0) (ys.getD m 0) (by simp) (by simpa using h) (by simpa using hlt) (by omega) (by rw[R];exact hx) (by omega) (by rw[R];exact hy) (by omega) (by rw[R];exact hx) (by omega) (by rw[R];exact hy)) (by nofun)
   ·rw[if_neg hlt];refine⟨by decide,(m:Int),?_⟩;exact Ao (Aor xs.length (lm xs) ys.length (lm ys) 0 (m:Int) (xs.getD m 0) (ys.getD m 0) (by simp) (by simpa using h) (by simpa using hlt) (by omega) (by rw[R];exact hx) (by omega) (by rw[R];exact hy) (by omega) (by rw[R];exact hx) (by omega) (by rw[R];exact hy)) (by nofun)
theorem cP(xs ys:LI)(h:((xs.length:Int) != (ys.length:Int))=true)(h2:(B ((xs.length:Int)<(ys.length:Int)))=true):RQ 134 [sL lm xs,sL lm ys] (F O (-1)):=Bx (ps:=[((xs.length:Int) != (ys.length:Int))=true,(B ((xs.length:Int)<(ys.length:Int)))=true]) D9 rfl 300 rfl [.b true,.b true] (by kernel_rfl) ⟨h,h2,trivial⟩
theorem cQ(xs ys:LI)(h:((xs.length:Int) != (ys.length:Int))=true)(h2:(B ((xs.length:Int)<(ys.length:Int)))=false):RQ 134 [sL lm xs,sL lm ys] (F O 1):=Bx (ps:=[((xs.length:Int) != (ys.length:Int))=true,(B ((xs.length:Int)<(ys.length:Int)))=false]) D9 rfl 300 rfl [.b true,.b false] (by kernel_rfl) ⟨h,h2,trivial⟩
theorem cR(xs ys:LI)(h:((xs.length:Int) != (ys.length:Int))=false)(hl:Ar (.loop ME) (Hw xs.length (lm xs) ys.length (lm ys) 0 (I O ((xs.length:Int)-1))) (.exit 0) (Hw xs.length (lm xs) ys.length (lm ys) 0 (-1))):RQ 134 [sL lm xs,sL lm ys] (F O 0):=A8 RV (C (sL lm xs)::(C (sL lm ys)::(Y 2 (C (F O 0)::(C (F O (-1))::(Y 35 [])))))) (Cv.seq (G (t:=(vl xs::(vl ys::(Y 2 (vi 0::(Y 36 [])))))) D9 300 [] [0,1,4] a0) (Cv.seq (G (t:=(vl xs::(vl ys::(Y 2 (vi 0::(Y 1 (vl xs::(vi (xs.length:Int)::(vl ys::(vi (ys.length:Int)::(C (D ((xs.length:Int) != (ys.length:Int)))::(Y 30 [])))))))))))) D9 300 [.b false] [0,1,4,6,7,8,9,10] (S (show ((xs.length:Int) != (ys.length:Int))=false from h) a0)) (Cv.seq (Cv.seq (G (t:=(vl xs::(vl ys::(Y 2 (vi 0::(vi (I O ((xs.length:Int)-1))::(Y 35 []))))))) D9 300 [] [0,1,4,5] a0) (Cv.block hl)) (G (t:=(vl xs::(vl ys::(Y 2 (vi 0::(vi (-1)::(Y 35 []))))))) (ex := .ret) D9 300 [] [0,1,4,5] a0))))
theorem cT(xs ys:LI)(r j:Int)(h:((xs.length:Int) != (ys.length:Int))=false)(hl:Ar (.loop ME) (Hw xs.length (lm xs) ys.length (lm ys) 0 (I O ((xs.length:Int)-1))) .ret (Hw xs.length (lm xs) ys.length (lm ys) r j)):RQ 134 [sL lm xs,sL lm ys] (F O r):=A8 RV (C (sL lm xs)::(C (sL lm ys)::(Y 2 (C (F O r)::(C (F O j)::(Y 35 [])))))) (Cv.seq (G (t:=(vl xs::(vl ys::(Y 2 (vi 0::(Y 36 [])))))) D9 300 [] [0,1,4] a0) (Cv.seq (G (t:=(vl xs::(vl ys::(Y 2 (vi 0::(Y 1 (vl xs::(vi (xs.length:Int)::(vl ys::(vi (ys.length:Int)::(C (D ((xs.length:Int) != (ys.length:Int)))::(Y 30 [])))))))))))) D9 300 [.b false] [0,1,4,6,7,8,9,10] (S (show ((xs.length:Int) != (ys.length:Int))=false from h) a0)) (AJ (Cv.seq (G (t:=(vl xs::(vl ys::(Y 2 (vi 0::(vi (I O ((xs.length:Int)-1))::(Y 35 []))))))) D9 300 [] [0,1,4,5] a0) (CJ hl)) (by nofun))))
theorem IJ{xs ys:LI}(hx:F1 xs)(hy:F1 ys)(h:xs.length<ys.length):Ab xs<Ab ys:=by
 have h1:=DI hx.1;have h2:=OP hy (by intro e;rw[e] at h;simp at h);have:=Gl (show xs.length<=ys.length-1 by omega);omega
theorem Oa{xs ys:LI}(hx:F1 xs)(hy:F1 ys)(hN:xs.length<=1048576):RQ 134 [sL lm xs,sL lm ys] (F O (CI (Ab xs) (Ab ys))):=by
 by_cases hl:xs.length=ys.length
 ·have h:((xs.length:Int) != (ys.length:Int))=false:=by rw[hl];simp
  have hg:=Yc hx.1 hy.1 xs.length (Ap _) (by omega);rw[EK,hl,EK,<- hl] at hg;have e1:I O ((xs.length:Int)-1)=(xs.length:Int)-1:=Bl (by omega) (by omega);rcases xC xs ys hN hl xs.length (Ap _) with ⟨k1,k2⟩ | ⟨k1,j,k2⟩
  ·rw[<- hg,k1];exact cR xs ys h (by rw[e1];exact k2)
  ·rw[<- hg];exact cT xs ys _ j h (by rw[e1];exact k2)
 ·have h:((xs.length:Int) != (ys.length:Int))=true:=by simp;omega
  by_cases hlt:xs.length<ys.length
  ·have e:CI (Ab xs) (Ab ys) = -1:=by unfold CI;rw[if_pos (IJ hx hy hlt)]
   rw[e];exact cP xs ys h (by simp;omega)
  ·have:=IJ hy hx (by omega);have e:CI (Ab xs) (Ab ys)=1:=by unfold CI;rw[if_neg (by omega),if_pos this]
   rw[e];exact cQ xs ys h (by simp;omega)
theorem Zx(n:Nat):Aa (M n)=M n:=by
 have:=II (Ci n).1;rw[this,Cr,R]
theorem PY{n:Nat}(hN:(M n).length<=1048576):RQ 99 [H (M n).length (lm (M n))] (L 1 (M n).length (lm (M n))):=by
 have:=DX (Be hN (by decide));rwa [Zx] at this
def Zy(neg:Bool)(m:Nat):AV :=
 match (((M m).length:Nat):Int)==0 with
 | true=>(F O 0)
 | false=>(match neg with
 | true=>(F O (-1))
 | false=>(F O 1))
theorem Azq(neg:Bool)(m:Nat)(hN:(M m).length<=1048576):RQ 79 [o [D neg,H ((M m).length) (lm (M m))]] (Zy neg m):=by
 unfold Zy;cases c1:((((M m).length:Nat):Int)==0)
 ·cases neg
  ·exact Bx (r := F O 1) (ps:=[RQ 99 [H ((M m).length) (lm (M m))] (L 1 ((M m).length) (lm (M m))),((((M m).length:Nat):Int)==0)=false,false=false]) D9 rfl 300 rfl [.r (L 1 ((M m).length) (lm (M m))),.b false,.b false] (by kernel_rfl) ⟨(PY hN),c1,rfl,trivial⟩
  ·exact Bx (r := F O (-1)) (ps:=[RQ 99 [H ((M m).length) (lm (M m))] (L 1 ((M m).length) (lm (M m))),((((M m).length:Nat):Int)==0)=false,true=true]) D9 rfl 300 rfl [.r (L 1 ((M m).length) (lm (M m))),.b false,.b true] (by kernel_rfl) ⟨(PY hN),c1,rfl,trivial⟩
 ·exact Bx (r := F O 0) (ps:=[RQ 99 [H ((M m).length) (lm (M m))] (L 1 ((M m).length) (lm (M m))),((((M m).length:Nat):Int)==0)=true]) D9 rfl 300 rfl [.r (L 1 ((M m).length) (lm (M m))),.b true] (by kernel_rfl) ⟨(PY hN),c1,trivial⟩
def cU(neg:Bool)(m:Nat):Int:=if m=0 then 0 else if neg then -1 else 1
theorem xD{neg:Bool}{m:Nat}(hN:(M m).length<=1048576):RQ 79 [o [D neg,H (M m).length (lm (M m))]] (F O (cU neg m)):=by
 have h:=Azq neg m hN;have e:Zy neg m = F O (cU neg m):=by
  unfold Zy cU;have hz:(M m).length=0↔m=0:=by rw[Us,IH]
  by_cases h0:m=0
  ·have e1:((((M m).length:Nat):Int)==0)=true:=by rw[beq_iff_eq];omega
   rw[e1,if_pos h0]
  ·have e1:((((M m).length:Nat):Int)==0)=false:=by rw[beq_eq_false_iff_ne];omega
   rw[e1,if_neg h0];cases neg <;> rfl
 rw[<- e];exact h
theorem Aou(n:Int):cU (B (n<0)) n.natAbs=BJ n:=by
 unfold cU BJ;by_cases h0:n=0
 ·subst h0;rfl
 ·rw[if_neg (by omega)];by_cases h1:n<0
  ·simp[h1]
  ·have h2:0<n:=by omega
   simp[h1,h2]
theorem Yd{n:Int}(hN:(M n.natAbs).length<=1048576):RQ 79 [Ah n] (F O (BJ n)):=by
 have:=xD (neg:=decide (n<0)) hN;rwa [Aou] at this
def TBB:Cn:=TBA
theorem E3:Ca AY TBB:=D9
def Lf(la:Nat)(xa:List AV)(lb:Nat)(bs:List AV)(n:Nat)(cs:List AV)(i:Int):Al:=(C (H la xa)::(C (H lb bs)::(Y 2 (X 1 0 []::(X 1 n cs::(C (F O i)::(Y 59 [])))))))
def Lg(la:Nat)(xa:List AV)(lb:Nat)(bs:List AV)(n:Nat)(cs:List AV)(i c k:Int):Al:=(C (H la xa)::(C (H lb bs)::(Y 2 (X 1 0 []::(X 1 n cs::(C (F O i)::(C (F U c)::(C (F O k)::(Y 57 [])))))))))
theorem xE(la:Nat)(xa:List AV)(lb:Nat)(bs:List AV)(n:Nat)(cs ds:List AV)(i c k x y z:Int)(c1:B (k<(lb:Int))=true)(n1:0<=(I O (i+k))/\(I O (i+k))<(n:Int))(n2:Bn cs (A (I O (i+k))*1) 1 true=some (F Ac z))(n3:0<=i/\i<(la:Int))(n4:Bn (p (A i*1) xa) 0 1 true=some (F Ac x))(n5:0<=k/\k<(lb:Int))(n6:Bn (p (A k*1) bs) 0 1 true=some (F Ac y))(n7:0<=(I O (i+k))/\(I O (i+k))<(n:Int))(n8:C4 cs (A (I O (i+k))*1) [F Ac (I Ac (I U (c+(I U ((I U z)+(I U ((I U x)*(I U y))))))))]=some ds):Ar QL (Lg la xa lb bs n cs i c k) .norm (Lg la xa lb bs n ds i (d (I U (c+(I U ((I U z)+(I U ((I U x)*(I U y))))))) (2^(min (A 32) (Am .u64)))) (I O (k+1))):=G E3 300 [.b true,.v (F Ac z),.v (F Ac x),.v (F Ac y),.l ds] [0,1,4,5,6,7,8] (S c1 (S n1 (S n2 (S n3 (S n4 (S n5 (S n6 (S n7 (S n8 (S Ie a0)))))))))) (by kernel_rfl)
theorem xF(la:Nat)(xa:List AV)(lb:Nat)(bs:List AV)(n:Nat)(cs:List AV)(i c k:Int)(c1:B (k<(lb:Int))=false):Ar QL (Lg la xa lb bs n cs i c k) (.exit 2) (Lg la xa lb bs n cs i c k):=G E3 300 [.b false] [0,1,4,5,6,7,8] (S c1 a0) (by kernel_rfl)
theorem kG(la:Nat)(xa:List AV)(lb:Nat)(bs:List AV)(n:Nat)(cs:List AV)(i:Int)(h:(B (i<(la:Int)))=false):Ar QM (Lf la xa lb bs n cs i) (.exit 0) (Lf la xa lb bs n cs i):=G E3 300 [.b false] [0,1,4,5,6] (S (show (B (i<(la:Int)))=false from h) a0) (by kernel_rfl)
theorem cV(la:Nat)(xa:List AV)(lb:Nat)(bs:List AV)(n:Nat)(cs ds es:List AV)(i c k:Int)(h:(B (i<(la:Int)))=true)(hl:Ar (.loop QL) (Lg la xa lb bs n cs i 0 0) (.exit 2) (Lg la xa lb bs n ds i c k))(hix:0<=I O (i+(lb:Int))/\I O (i+(lb:Int))<(n:Int))(hst:C4 ds (A (I O (i+(lb:Int)))*1) [F Ac (I Ac c)]=some es):Ar QM (Lf la xa lb bs n cs i) .norm (Lf la xa lb bs n es (I O (i+1))):=(Cv.seq (G (t:=(C (H la xa)::(C (H lb bs)::(Y 2 (X 1 0 []::(X 1 n cs::(vi i::(Y 8 (vi i::(C (H la xa)::(vi (la:Int)::(C (D (B (i<(la:Int))))::(Y 47 []))))))))))))) E3 300 [.b true] [0,1,4,5,6,15,16,17,18] (S (show (B (i<(la:Int)))=true from h) a0)) (Cv.seq (Cd (Cv.seq (G (t:=(C (H la xa)::(C (H lb bs)::(Y 2 (X 1 0 []::(X 1 n cs::(vi i::(C (F U 0)::(Y 7 (vi i::(C (H la xa)::(vi (la:Int)::(C (D (B (i<(la:Int))))::(Y 47 [])))))))))))))) E3 300 [] [0,1,4,5,6,7,15,16,17,18] a0) (Cv.seq (Cv.seq (G (t:=(C (H la xa)::(C (H lb bs)::(Y 2 (X 1 0 []::(X 1 n cs::(vi i::(C (F U 0)::(vi 0::(Y 57 [])))))))))) E3 300 [] [0,1,4,5,6,7,8] a0) (Cv.block hl)) (G (t:=(C (H la xa)::(C (H lb bs)::(Y 2 (X 1 0 []::(X 1 n es::(vi i::(C (F U c)::(vi k::(Y 48 (.dup 5::(vi i::(C (H lb bs)::(vi (lb:Int)::(vi (I O (i+(lb:Int)))::(C (F U c)::(C (F Ac (I Ac c))::(.ptr 5 (A (I O (i+(lb:Int)))*1)::(Y 1 []))))))))))))))))))) E3 300 [.l es] [0,1,4,5,6,7,8,57,58,59,60,61,62,63,64] (S (show 0<=(I O (i+(lb:Int)))/\(I O (i+(lb:Int)))<(n:Int) from hix) (S (show C4 ds (A (I O (i+(lb:Int)))*1) [F Ac (I Ac c)]=some es from hst) a0)))))) (G (t:=(C (H la xa)::(C (H lb bs)::(Y 2 (X 1 0 []::(X 1 n es::(vi (I O (i+1))::(Y 59 [])))))))) E3 300 [] [0,1,4,5,6] a0)))
def Hx(a:Int)(bs:LI)(i:Nat):Nat->Nat->LI->Int->LI × Int
 | 0,_,out,c=>(out,c)
 | r+1,k,out,c=>Hx a bs i r (k+1) (out.set (i+k) ((c+(out.getD (i+k) 0+a*bs.getD k 0)) % 4294967296)) ((c+(out.getD (i+k) 0+a*bs.getD k 0)) / 4294967296)
theorem VM{a b c o:Int}(ha:0<=a/\a<4294967296)(hb:0<=b/\b<4294967296)(hc:0<=c/\c<4294967296)(ho:0<=o/\o<4294967296) :
  0<=a*b/\a*b<=18446744065119617025/\0<=c+(o+a*b)/\c+(o+a*b)<18446744073709551616:=by
 have h1:=A6 ha.1 hb.1;have h2:a*b<=4294967295*4294967295:=DJ (by omega) (by omega) hb.1 (by omega);omega
theorem MM{xs:LI}{i j:Nat}{v:Int}(h:i ≠ j):(xs.set i v).getD j 0=xs.getD j 0:=by
 simp only[Z,FO h]
theorem Ye{a:Int}{bs:LI}{i:Nat}(ha:0<=a/\a<4294967296)(hb:AP bs):∀ (r k:Nat) (out:LI) (c:Int),r+k=bs.length->i+bs.length<=out.length->AP out->0<=c/\c<4294967296 ->
  (Hx a bs i r k out c).1.length=out.length/\AP (Hx a bs i r k out c).1/\(0<=(Hx a bs i r k out c).2/\(Hx a bs i r k out c).2<4294967296) /\
  Ab (Hx a bs i r k out c).1+4294967296^(i+bs.length)*(Hx a bs i r k out c).2=Ab out+4294967296^(i+k)*(c+a*Ab (bs.drop k)) /\
  ∀ j,i+bs.length<=j->(Hx a bs i r k out c).1.getD j 0=out.getD j 0:=by
 intro r;induction r with
 | zero =>
  intro k out c hk _ hu hc;have hk':k=bs.length:=by omega
  subst hk';refine⟨rfl,hu,hc,?_,fun _ _=>rfl⟩;simp[Hx,Ab]
 | succ r ih =>
  intro k out c hk hl hu hc;have hbk:=AG hb k;have hok:=AG hu (i+k);obtain⟨w1,w2,w3,w4⟩:=VM ha hbk hc hok;have hlt:i+k<out.length:=by omega
  simp only[Hx];generalize hW:c+(out.getD (i+k) 0+a*bs.getD k 0)=W at *
  have hm:0<=W % 4294967296/\W % 4294967296<4294967296:=by omega
  obtain⟨g1,g2,g3,g4,g5⟩:=ih (k+1) (out.set (i+k) (W % 4294967296)) (W / 4294967296) (by omega) (by simpa using hl) (Cw hu hm) (by omega);refine⟨by simpa using g1,g2,g3,?_,fun j hj => ?_⟩
  ·rw[g4,DP out (i+k) _ hlt];have hd:Ab (bs.drop k)=bs.getD k 0+4294967296*Ab (bs.drop (k+1)):=by
    rw[CL (show k<bs.length by omega)];simp[Ab,Z,Af (show k<bs.length by omega)]
   rw[hd];have hp:(4294967296:Int)^(i+(k+1))=4294967296^(i+k)*4294967296:=by rw[<- Dw,A2]
   rw[hp];generalize (4294967296:Int)^(i+k)=p at *
   generalize Ab (bs.drop (k+1))=V at *
   have e1:W=4294967296*(W / 4294967296)+W % 4294967296:=by omega
   have e2:c=W-out.getD (i+k) 0-a*bs.getD k 0:=by omega
   rw[e2];generalize W / 4294967296=q at *
   generalize W % 4294967296=m at *
   generalize out.getD (i+k) 0=o at *
   generalize bs.getD k 0=b at *
   subst e1;grind
  ·rw[g5 j hj,MM (by omega)]
theorem kH(xa bs:LI)(ha:AP xa)(hb:AP bs)(n i:Nat)(hn:n<=1048576)(hi:i<xa.length)(hib:i+bs.length<=n):∀ (r k:Nat) (out:LI) (c:Int),r+k=bs.length->out.length=n->AP out->0<=c/\c<4294967296 ->
  Ar (.loop QL) (Lg xa.length (lm xa) bs.length (lm bs) n (lm out) (i:Int) c (k:Int)) (.exit 2)
   (Lg xa.length (lm xa) bs.length (lm bs) n (lm (Hx (xa.getD i 0) bs i r k out c).1) (i:Int) (Hx (xa.getD i 0) bs i r k out c).2 (bs.length:Int)):=by
 intro r;induction r with
 | zero =>
  intro k out c hk _ _ _;have hk':k=bs.length:=by omega
  subst hk';exact Ao (xF xa.length (lm xa) bs.length (lm bs) n (lm out) (i:Int) c (bs.length:Int) (by simp)) (by nofun)
 | succ r ih =>
  intro k out c hk hl hu hc;have hai:=AG ha i;have hbk:=AG hb k;have hok:=AG hu (i+k);obtain⟨w1,w2,w3,w4⟩:=VM hai hbk hc hok;have ei:I O ((i:Int)+(k:Int))=((i+k:Nat):Int):=by rw[Bl (by omega) (by omega)];omega
  have ek:I O ((k:Int)+1)=((k+1:Nat):Int):=by rw[Bl (by omega) (by omega)];omega
  have hz:=VJ (xs:=out) (i:=i+k) (by omega);have hx:=Ed (xs:=xa) (i:=i) hi;have hy:=Ed (xs:=bs) (i:=k) (by omega);have hst:=Ir (xs:=out) (i:=i+k) (v:=(c+(out.getD (i+k) 0+xa.getD i 0*bs.getD k 0)) % 4294967296) (by omega);have eW:I U (c+I U (I U (out.getD (i+k) 0)+I U (I U (xa.getD i 0)*I U (bs.getD k 0))))=c+(out.getD (i+k) 0+xa.getD i 0*bs.getD k 0):=by
   have q1:I U (xa.getD i 0)=xa.getD i 0:=by rw[B6];omega
   have q2:I U (bs.getD k 0)=bs.getD k 0:=by rw[B6];omega
   have q3:I U (out.getD (i+k) 0)=out.getD (i+k) 0:=by rw[B6];omega
   rw[q1,q2,q3,B6,B6,B6];omega
  have eS:d (c+(out.getD (i+k) 0+xa.getD i 0*bs.getD k 0)) (2^(min (A 32) (Am .u64)))=(c+(out.getD (i+k) 0+xa.getD i 0*bs.getD k 0)) / 4294967296:=by
   show d _ 4294967296=_;rw[t _ (by omega)]
  have h1:=xE xa.length (lm xa) bs.length (lm bs) n (lm out) (lm (out.set (i+k) ((c+(out.getD (i+k) 0+xa.getD i 0*bs.getD k 0)) % 4294967296))) (i:Int) c (k:Int) (xa.getD i 0) (bs.getD k 0) (out.getD (i+k) 0)
   (by simp;omega) (by rw[ei];omega) (by rw[ei,R];exact hz) (by omega) (by rw[R];exact hx) (by omega) (by rw[R];exact hy) (by rw[ei];omega) (by rw[ei,R,eW,DW];exact hst)
  rw[eW,eS,ek] at h1;exact Cv.loop h1 (ih (k+1) _ _ (by omega) (by simpa using hl) (Cw hu (by omega)) (by omega))
theorem kI(xa bs:LI)(ha:AP xa)(hb:AP bs)(hN:xa.length+bs.length<=1048576):∀ (r i:Nat) (out:LI),r+i=xa.length->out.length=xa.length+bs.length->AP out->(∀ j,i+bs.length<=j->out.getD j 0=0) ->
  ∃ out',out'.length=xa.length+bs.length/\AP out'/\Ab out'=Ab out+4294967296^i*(Ab (xa.drop i)*Ab bs) /\
   Ar (.loop QM) (Lf xa.length (lm xa) bs.length (lm bs) (xa.length+bs.length) (lm out) (i:Int)) (.exit 0) (Lf xa.length (lm xa) bs.length (lm bs) (xa.length+bs.length) (lm out') (xa.length:Int)):=by
 intro r;induction r with
 | zero =>
  intro i out hi hl hu _;have hi':i=xa.length:=by omega
  subst hi';refine⟨out,hl,hu,by simp[Ab],?_⟩;exact Ao (kG xa.length (lm xa) bs.length (lm bs) (xa.length+bs.length) (lm out) (xa.length:Int) (by simp)) (by nofun)
 | succ r ih =>
  intro i out hi hl hu hz;have hai:=AG ha i;have hlt:i<xa.length:=by omega
  have hin:=kH xa bs ha hb (xa.length+bs.length) i hN hlt (by omega) bs.length 0 out 0 (by omega) hl hu (by omega);obtain⟨g1,g2,g3,g4,g5⟩:=Ye (i:=i) hai hb bs.length 0 out 0 (by omega) (by omega) hu (by omega);generalize Hx (xa.getD i 0) bs i bs.length 0 out 0=q at *
  obtain⟨ds,c⟩:=q;dsimp only at g1 g2 g3 g4 g5 hin;have ei:I O ((i:Int)+(bs.length:Int))=((i+bs.length:Nat):Int):=by rw[Bl (by omega) (by omega)];omega
  have ei1:I O ((i:Int)+1)=((i+1:Nat):Int):=by rw[Bl (by omega) (by omega)];omega
  have ec:I Ac c=c:=by rw[DW];omega
  have hst:=Ir (xs:=ds) (i:=i+bs.length) (v:=c) (by omega);have h1:=cV xa.length (lm xa) bs.length (lm bs) (xa.length+bs.length) (lm out) (lm ds) (lm (ds.set (i+bs.length) c)) (i:Int) c (bs.length:Int) (by simp;omega) hin (by rw[ei];omega) (by rw[ei,R,ec];exact hst);rw[ei1] at h1;obtain⟨out',k1,k2,k3,k4⟩:=ih (i+1) (ds.set (i+bs.length) c) (by omega) (by simp;omega) (Cw g2 g3) (fun j hj=>by rw[MM (by omega),g5 j (by omega),hz j (by omega)]);refine⟨out',k1,k2,?_,Cv.loop h1 k4⟩;have hv:Ab (ds.set (i+bs.length) c)=Ab out+4294967296^i*(xa.getD i 0*Ab bs):=by
   rw[DP ds _ _ (by omega),g5 _ (Ap _),hz _ (Ap _)];simp only[FR,Fe,DK,EY] at g4 |-;exact g4
  have hd:Ab (xa.drop i)=xa.getD i 0+4294967296*Ab (xa.drop (i+1)):=by
   rw[CL hlt];simp[Ab,Z,Af hlt]
  rw[k3,hv,hd,A2];generalize (4294967296:Int)^i=p at *
  generalize Ab (xa.drop (i+1))=V at *
  grind
theorem cW{xa bs:LI}(ha:AP xa)(hb:AP bs)(hN:xa.length+bs.length<=1048576) :
  ∃ out,out.length=xa.length+bs.length/\AP out/\Ab out=Ab xa*Ab bs/\RQ 146 [sL lm xa,sL lm bs] (L 1 out.length (lm out)):=by
 have en:I O ((xa.length:Int)+(bs.length:Int))=((xa.length+bs.length:Nat):Int):=by rw[Bl (by omega) (by omega)];omega
 have eN:(A (I O ((xa.length:Int)+(bs.length:Int))))=xa.length+bs.length:=by rw[en,R]
 obtain⟨out,h1,h2,h3,h4⟩:=kI xa bs ha hb hN xa.length 0 (Av (xa.length+bs.length) 0) (by omega) (by simp) (fun x hx=>by rw[Awi hx];omega) (fun j _=>by simp[Z,KP];split <;> rfl);refine⟨out,h1,h2,?_,?_⟩
 ·rw[h3,EG];simp
 have hmk:0<=I O ((xa.length:Int)+(bs.length:Int))/\I O ((xa.length:Int)+(bs.length:Int))<=1048576:=by rw[en];omega
 have hl:Ar (.loop QM) (Lf xa.length (lm xa) bs.length (lm bs) (A (I O ((xa.length:Int)+(bs.length:Int)))) (Cu [F Ac 0] (A (I O ((xa.length:Int)+(bs.length:Int))))) 0) (.exit 0) (Lf xa.length (lm xa) bs.length (lm bs) (A (I O ((xa.length:Int)+(bs.length:Int)))) (lm out) (xa.length:Int)):=by
  rw[eN,Fc];exact h4
 have:=K8 (prog:=AY) (f:=146) (args:=[sL lm xa,sL lm bs]) (r := L 1 (A (I O ((xa.length:Int)+(bs.length:Int)))) (lm out)) (fn:=Vn) (s:=(C (sL lm xa)::(C (sL lm bs)::(Y 2 (X 1 (A (I O ((xa.length:Int)+(bs.length:Int)))) (lm out)::(Y 1 (C (F O (xa.length:Int))::(Y 59 [])))))))) (ex := .ret) rfl rfl
  (Cv.seq (DV (t:=(C (sL lm xa)::(C (sL lm bs)::(Y 2 (X 1 0 []::(Y 61 [])))))) (ex := .norm) (ps:=[]) E3 300 [] [0,1,4] (by kernel_rfl) trivial)
  (Cv.seq (DV (t:=(C (sL lm xa)::(C (sL lm bs)::(Y 2 (X 1 0 []::(X 1 (A (I O ((xa.length:Int)+(bs.length:Int)))) (Cu [F Ac 0] (A (I O ((xa.length:Int)+(bs.length:Int)))))::(Y 3 (C (sL lm xa)::(C (F O (xa.length:Int))::(C (sL lm bs)::(C (F O (bs.length:Int))::(C (F O (I O ((xa.length:Int)+(bs.length:Int))))::(Y 52 []))))))))))))) (ex := .norm) (ps:=[0<=(I O ((xa.length:Int)+(bs.length:Int)))/\(I O ((xa.length:Int)+(bs.length:Int)))<=1048576]) E3 300 [] [0,1,4,5,9,10,11,12,13] (by kernel_rfl) ⟨hmk,trivial⟩)
  (Cv.seq (Cv.seq (DV (t:=(C (sL lm xa)::(C (sL lm bs)::(Y 2 (X 1 0 []::(X 1 (A (I O ((xa.length:Int)+(bs.length:Int)))) (Cu [F Ac 0] (A (I O ((xa.length:Int)+(bs.length:Int)))))::(C (F O 0)::(Y 59 [])))))))) (ex := .norm) (ps:=[]) E3 300 [] [0,1,4,5,6] (by kernel_rfl) trivial)
  (Cv.block hl))
  (DV (t:=(C (sL lm xa)::(C (sL lm bs)::(Y 2 (X 1 (A (I O ((xa.length:Int)+(bs.length:Int)))) (lm out)::(Y 1 (C (F O (xa.length:Int))::(Y 59 [])))))))) (ex := .ret) (ps:=[]) E3 300 [] [0,1,4,6] (by kernel_rfl) trivial)))) (by nofun) rfl
 rw[eN,<- h1] at this;exact this
def TBC:Cn:=TBB
theorem Cz:Ca AY TBC:=E3
end Go.Proofs.YtajompaehjkgkaaGreat
namespace Go.Ai
open Bool renaming false_eq_true->Cf
open Decidable renaming decide->B
open Go.Ai.AV renaming int->F
open Int renaming le_of_dvd->A5a,lt_trichotomy->qU,mul_add->CW,mul_eq_zero->KR,mul_neg->EV,mul_one->Dn,natAbs->E,pow_succ->A2,pow_zero->CE,sub_zero->EY,toNat->A,zero_add->DK
open List renaming all->qT,all_cons->Avy,all_eq_true->BA,drop->p,drop_eq_getElem_cons->CL,drop_zero->Fe,eq_nil_of_length_eq_zero->A9,eq_of_mem_replicate->Awi,ext_getElem->YP,flatMap_cons->WT,getD_cons_succ->Ka,getD_cons_zero->I',getD_eq_getElem?_getD->Z,getElem?_append_right->AT,getElem?_drop->Bu,getElem?_eq_getElem->Af,getElem?_eq_none->AE,getElem?_map->Ch,getElem?_replicate->KP,getElem?_set_ne->FO,length_append->AX,length_cons->Bv,length_drop->Ep,length_nil->Ib,map_append->D_,map_map->Awk,map_take->RI,mem_cons->D4,mem_map->Em,mem_of_getElem?->SQ,mem_of_mem_take->C3,mem_range->I9,not_mem_nil->TR,range->Aq,range_succ->Hq,replicate->Av,replicate_succ->Ft,set_append_right->A5n,set_cons_succ->A6y,set_cons_zero->A6x,set_eq_take_append_cons_drop->qQ,take->B3
open Nat renaming add_assoc->Dw,add_comm->JW,add_mul->D',add_zero->FR,le_refl->Ap,le_trans->Be,lt_or_ge->Cp,mul_one->I6,one_mul->Fk,pow_pos->BS,zero_add->B_,zero_le->Ba
theorem C5:∀ (xs:LI) (i:Nat),Ab (xs.drop i)=xs.getD i 0+4294967296*Ab (xs.drop (i+1))
 | [],i=>by simp[Ab]
 | x::xs,0=>by simp[Ab]
 | x::xs,i+1=>by
  have:=C5 xs i;simpa using this
theorem Cs{xs:LI}{i j:Nat}{v:Int}(h:i ≠ j):(xs.set i v).getD j 0=xs.getD j 0:=by
 simp only[Z,FO h]
theorem Bw{xs:LI}{i:Nat}(h:xs.length<=i):xs.getD i 0=0:=by
 simp[Z,AE h]
theorem DQ{xs:LI}{i:Nat}(h:xs.length<=i):Ab (xs.drop i)=0:=by
 rw[List.drop_eq_nil_of_le h];rfl
def Is(xs ys:LI):Nat->Nat->LI->Int->LI × Int
 | 0,_,o,c=>(o,c)
 | r+1,i,o,c=>Is xs ys r (i+1) (o.set i ((xs.getD i 0+c+ys.getD i 0) % 4294967296)) ((xs.getD i 0+c+ys.getD i 0) / 4294967296)
theorem xG{xs ys:LI}(hx:AP xs)(hy:AP ys)(hl:ys.length<=xs.length):∀ (r i:Nat) (o:LI) (c:Int),r+i=xs.length->xs.length<o.length->AP o->0<=c/\c<=1->(∀ j,i<=j->o.getD j 0=0) ->
  (Is xs ys r i o c).1.length=o.length/\AP (Is xs ys r i o c).1/\(0<=(Is xs ys r i o c).2/\(Is xs ys r i o c).2<=1) /\
  Ab (Is xs ys r i o c).1+4294967296^xs.length*(Is xs ys r i o c).2=Ab o+4294967296^i*(c+Ab (xs.drop i)+Ab (ys.drop i)) /\
  ∀ j,xs.length<=j->(Is xs ys r i o c).1.getD j 0=0:=by
 intro r;induction r with
 | zero =>
  intro i o c hi _ hu hc hz;have hi':i=xs.length:=by omega
  subst hi';refine⟨rfl,hu,hc,?_,fun j hj=>hz j hj⟩;rw[DQ (Ap _),DQ hl];simp[Is]
 | succ r ih =>
  intro i o c hi hlo hu hc hz;have h1:=AG hx i;have h2:=AG hy i;simp only[Is];have ex:=C5 xs i;have ey:=C5 ys i;have hoz:=hz i (Ap _);generalize hW:xs.getD i 0+c+ys.getD i 0=W at *
  have hm:0<=W % 4294967296/\W % 4294967296<4294967296:=by omega
  obtain⟨g1,g2,g3,g4,g5⟩:=ih (i+1) (o.set i (W % 4294967296)) (W / 4294967296) (by omega) (by simpa using hlo) (Cw hu hm) (by omega) (fun j hj=>by rw[Cs (by omega)];exact hz j (by omega));refine⟨by simpa using g1,g2,g3,?_,g5⟩;rw[g4,DP o i _ (by omega),ex,ey,hoz,A2];generalize (4294967296:Int)^i=p at *
  generalize Ab (xs.drop (i+1))=V at *
  generalize Ab (ys.drop (i+1))=U at *
  have e1:W=4294967296*(W / 4294967296)+W % 4294967296:=by omega
  have e2:c=W-xs.getD i 0-ys.getD i 0:=by omega
  rw[e2];generalize W / 4294967296=q at *
  generalize W % 4294967296=m at *
  generalize xs.getD i 0=a at *
  generalize ys.getD i 0=b at *
  subst e1;grind
def IK(xs ys:LI):Nat->Nat->LI->Int->LI × Int
 | 0,_,o,c=>(o,c)
 | r+1,i,o,c=>IK xs ys r (i+1) (o.set i ((xs.getD i 0-c-ys.getD i 0) % 4294967296)) (-((xs.getD i 0-c-ys.getD i 0) / 4294967296))
theorem xH{xs ys:LI}(hx:AP xs)(hy:AP ys)(hl:ys.length<=xs.length):∀ (r i:Nat) (o:LI) (c:Int),r+i=xs.length->xs.length<=o.length->AP o->0<=c/\c<=1->(∀ j,i<=j->o.getD j 0=0) ->
  (IK xs ys r i o c).1.length=o.length/\AP (IK xs ys r i o c).1/\(0<=(IK xs ys r i o c).2/\(IK xs ys r i o c).2<=1) /\
  Ab (IK xs ys r i o c).1=Ab o+4294967296^i*(Ab (xs.drop i)-Ab (ys.drop i)-c)+4294967296^xs.length*(IK xs ys r i o c).2:=by
 intro r;induction r with
 | zero =>
  intro i o c hi _ hu hc hz;have hi':i=xs.length:=by omega
  subst hi';refine⟨rfl,hu,hc,?_⟩;rw[DQ (Ap _),DQ hl];simp only[IK];generalize (4294967296:Int)^xs.length=p;grind
 | succ r ih =>
  intro i o c hi hlo hu hc hz;have h1:=AG hx i;have h2:=AG hy i;simp only[IK];have ex:=C5 xs i;have ey:=C5 ys i;have hoz:=hz i (Ap _);generalize hW:xs.getD i 0-c-ys.getD i 0=W at *
  have hm:0<=W % 4294967296/\W % 4294967296<4294967296:=by omega
  obtain⟨g1,g2,g3,g4⟩:=ih (i+1) (o.set i (W % 4294967296)) (-(W / 4294967296)) (by omega) (by simpa using hlo) (Cw hu hm) (by omega) (fun j hj=>by rw[Cs (by omega)];exact hz j (by omega));refine⟨by simpa using g1,g2,g3,?_⟩;rw[g4,DP o i _ (by omega),ex,ey,hoz,A2];generalize (4294967296:Int)^i=p at *
  generalize Ab (xs.drop (i+1))=V at *
  generalize Ab (ys.drop (i+1))=U at *
  have e1:W=4294967296*(W / 4294967296)+W % 4294967296:=by omega
  have e2:c=xs.getD i 0-ys.getD i 0-W:=by omega
  rw[e2];generalize W / 4294967296=q at *
  generalize W % 4294967296=m at *
  generalize xs.getD i 0=a at *
  generalize ys.getD i 0=b at *
  subst e1;grind
theorem DA(n j:Nat):(Av n (0:Int)).getD j 0=0:=by
 simp[Z,KP];split <;> rfl
theorem ES(n:Nat):AP (Av n 0):=fun x hx=>by rw [Awi hx];omega
theorem kJ{xs ys:LI}(hx:AP xs)(hy:AP ys)(hl:ys.length<=xs.length)(o:LI)(c:Int)(e:Is xs ys xs.length 0 (Av (xs.length+1) 0) 0=(o,c)) :
  o.length=xs.length+1/\AP o/\(0<=c/\c<=1)/\AP (o.set xs.length c)/\Ab (o.set xs.length c)=Ab xs+Ab ys:=by
 obtain⟨g1,g2,g3,g4,g5⟩:=xG hx hy hl xs.length 0 (Av (xs.length+1) 0) 0 (by omega) (by simp) (ES _) (by omega) (fun j _=>DA _ j);rw[e] at g1 g2 g3 g4 g5;dsimp only at g1 g2 g3 g4 g5;have hlo:o.length=xs.length+1:=by simpa using g1
 refine⟨hlo,g2,g3,Cw g2 (by omega),?_⟩;rw[DP o _ _ (by omega),g5 _ (Ap _),EY,g4,EG];simp
theorem kK{xs ys:LI}(hx:AP xs)(hy:AP ys)(hl:ys.length<=xs.length)(hv:Ab ys<=Ab xs)(o:LI)(c:Int)(e:IK xs ys xs.length 0 (Av xs.length 0) 0=(o,c)) :
  o.length=xs.length/\AP o/\Ab o=Ab xs-Ab ys:=by
 obtain⟨g1,g2,g3,g4⟩:=xH hx hy hl xs.length 0 (Av xs.length 0) 0 (by omega) (by simp) (ES _) (by omega) (fun j _=>DA _ j);rw[e] at g1 g2 g3 g4;dsimp only at g1 g2 g3 g4;have hlo:o.length=xs.length:=by simpa using g1
 refine⟨hlo,g2,?_⟩;rw[EG] at g4;simp at g4;have h1:=DI g2;rw[hlo] at h1;have hp:=Cy xs.length;rcases (show c=0\/c=1 by omega) with h | h
 ·rw[g4,h];simp
 ·rw[h,Dn] at g4;omega
abbrev Rn:=Bool × LI
def P(r:Rn):Int:=rv r.1 r.2
def cn(n:Int):Rn:=(B (n<0),M n.natAbs)
def pc(rs:List Rn):List AV:=rs.flatMap fun r=>[.bool r.1,.sl r.2.length (lm r.2)]
def Q(rs:List Rn):LI:=rs.map P
def pk(ps:LI):List AV:=pc (ps.map cn)
def z0:Rn:=(false,[])
def AO(K:Nat)(r:Rn):Prop:=AP r.2/\r.2.length<=K
def As(r:Rn):AV := .agg [.bool r.1,.sl r.2.length (lm r.2)]
theorem u(n:Int):P (cn n)=n:=F8 n
theorem VN:P z0=0:=rfl
theorem v(ps:LI):Q (ps.map cn)=ps:=by
 unfold Q;rw[Awk];have:(P ∘ cn)=id:=funext u;rw[this,List.map_id]
theorem BG{k:Nat}{n:Int}(h:Bm k n):AO k (cn n):=⟨BI _,h.len⟩
theorem Mh(k:Nat):AO k z0:=⟨fun x hx=>(by cases hx),Ba _⟩
theorem AO.mono{j k:Nat}{r:Rn}(h:AO j r)(hk:j<=k):AO k r:=⟨h.1,Be h.2 hk⟩
theorem AO.fits{k:Nat}{r:Rn}(h:AO k r):Bm k (P r):=(VK h.1).mono h.2
theorem VO(rs:List Rn):(pc rs).length=rs.length*2:=by
 induction rs with
 | nil=>rfl
 | cons r rs ih=>simp only[pc,WT,AX,Bv,Ib] at ih |-;omega
theorem Mi(r:Rn)(rs:List Rn):pc (r::rs) = .bool r.1 :: .sl r.2.length (lm r.2)::pc rs:=rfl
theorem MN(rs ss:List Rn):pc (rs++ss)=pc rs++pc ss:=by simp [pc]
theorem QX:∀ (i:Nat) (rs:List Rn),(pc rs).drop (i*2)=pc (rs.drop i)
 | 0,rs=>by simp
 | i+1,[]=>by simp[pc]
 | i+1,r::rs=>by
  rw[Mi,D',Fk];show (pc rs).drop (i*2)=_;rw[QX i rs];rfl
theorem cX:∀ (i:Nat) (rs:List Rn),(pc rs).take (i*2)=pc (rs.take i)
 | 0,rs=>by simp[pc]
 | i+1,[]=>by simp[pc]
 | i+1,r::rs=>by
  rw[Mi,D',Fk];show _::_::(pc rs).take (i*2)=_;rw[cX i rs];rfl
theorem Ob{rs:List Rn}{i:Nat}(h:i<rs.length):Bn (p (i*2) (pc rs)) 0 2 false=some (As (rs.getD i z0)):=by
 rw[QX,CL h,Mi];simp[Bn,As,Z,Af h]
theorem Azr{rs:List Rn}{i:Nat}(h:i<rs.length):Bn (pc rs) (i*2) 2 false=some (As (rs.getD i z0)):=by
 have h1:=Ob h;have hl:=VO rs;simp only[Bn,Cf,if_false,B_,Fe,Ep] at h1 |-;rw[if_pos (by omega)] at h1;rw[if_pos (by omega)];exact h1
theorem Zz{rs:List Rn}{i:Nat}{r:Rn}(h:i<rs.length):C4 (pc rs) (i*2) [.bool r.1,.sl r.2.length (lm r.2)]=some (pc (rs.set i r)):=by
 have hl:=VO rs;simp only[C4,Bv,Ib];rw[if_pos (by omega)];congr 1;have hs:rs.set i r=rs.take i++r::rs.drop (i+1):=by rw[qQ,if_pos h]
 rw[hs,MN,Mi,cX];have:(pc rs).drop (i*2+(0+1+1))=pc (rs.drop (i+1)):=by rw[<- QX];congr 1;omega
 simp only[B_] at this;rw[this];simp
theorem Oc(n:Nat):Cu [.bool false,.sl 0 []] n=pc (Av n z0):=by
 induction n with
 | zero=>rfl
 | succ n ih=>rw[Ft,Mi,<- ih];rfl
theorem sC(rs:List Rn):qT (pc rs) (fun c => !Ut c)=true:=by
 rw[BA];intro c hc;simp only[pc,List.mem_flatMap,D4,TR,or_false] at hc;obtain⟨r,_,rfl | rfl⟩:=hc <;> rfl
theorem Aov(xs:LI):qT (lm xs) Ut=true:=by
 rw[BA];intro c hc;simp only[lm,Em] at hc;obtain⟨x,_,rfl⟩:=hc;rfl
theorem Pw(n:Int):G6 (Ah n)=true:=by
 simp only[Ah,G6,Avy,LX,Aov,List.all_nil,Bool.and_self]
theorem s(rs:List Rn):(Q rs).length=rs.length:=by simp [Q]
theorem C7(rs:List Rn)(i:Nat):(Q rs).getD i 0=P (rs.getD i z0):=by
 simp only[Q,Z,Ch];cases rs[i]? <;> rfl
theorem Bg{K:Nat}{rs:List Rn}(h:∀ r∈rs,AO K r)(i:Nat):AO K (rs.getD i z0):=by
 rw[Z];cases e:rs[i]? with
 | none=>exact Mh K
 | some r=>exact h r (SQ e)
theorem Kp{k:Nat}{ps:LI}(h:∀ x∈ps,Bm k x):∀ r∈ps.map cn,AO k r:=fun r hr=>by
 obtain⟨x,hx,rfl⟩:=Em.1 hr;exact BG (h x hx)
theorem C1{k:Nat}{rs:List Rn}(h:∀ r∈rs,AO k r):∀ x∈Q rs,Bm k x:=fun x hx=>by
 obtain⟨r,hr,rfl⟩:=Em.1 hx;exact (h r hr).fits
theorem Yf{xs ys:LI}(h:∀ i,xs.getD i 0=ys.getD i 0):∀ n,l xs n=l ys n:=by
 intro n;induction n with
 | zero=>rfl
 | succ n ih=>simp only[l,h n,ih]
theorem VP(xs:LI):∀ d,l xs (xs.length+d)=l xs xs.length:=by
 intro d;induction d with
 | zero=>rfl
 | succ d ih =>
  rw[<- Dw];simp only[l];rw[Bw (by omega),if_pos rfl,ih]
theorem Dc(xs:LI)(i:Nat):(Aa xs).getD i 0=xs.getD i 0:=by
 unfold Aa;rcases Cp i (l xs xs.length) with h | h
 ·simp only[Z,List.getElem?_take,if_pos h]
 ·have e:(xs.take (l xs xs.length)).getD i 0=0:=Bw (by simp;omega);rw[e];rcases Cp i xs.length with h2 | h2
  ·exact (MJ xs xs.length i h h2).symm
  ·exact (Bw h2).symm
theorem Kr{xs ys:LI}(hl:xs.length=ys.length)(h:∀ i,xs.getD i 0=ys.getD i 0):xs=ys:=by
 apply YP hl;intro i h1 h2;have:=h i;simpa [Z,Af h1,Af h2] using this
theorem F2{xs ys:LI}(h:∀ i,xs.getD i 0=ys.getD i 0):Aa xs=Aa ys:=by
 have hlen:(Aa xs).length=(Aa ys).length:=by
  have h1:∀ zs:LI,(Aa zs).length=l zs zs.length:=fun zs=>by have:=GR zs zs.length;simp[Aa];omega
  rw[h1,h1];rcases Nat.le_total xs.length ys.length with g | g
  ·have:=VP xs (ys.length-xs.length);rw[show xs.length+(ys.length-xs.length)=ys.length by omega] at this;rw[<- this,Yf h]
  ·have:=VP ys (xs.length-ys.length);rw[show ys.length+(xs.length-ys.length)=xs.length by omega] at this;rw[<- this,Yf h]
 refine Kr hlen fun i => ?_;rw[Dc,Dc,h i]
theorem Fa(xs:LI):(Aa xs).length=l xs xs.length:=by have:=GR xs xs.length;simp [Aa];omega
theorem xI{xs:LI}{x:Int}(h:x∈Aa xs):x∈xs:=C3 h
theorem Gv(xs:LI):Aa (Aa xs)=Aa xs:=F2 (Dc xs)
def V:LI->Int->Int
 | [],_=>0
 | p::ps,x=>p+x*V ps x
theorem Tl{xs:LI}(h:∀ i,xs.getD i 0=0)(x:Int):V xs x=0:=by
 induction xs with
 | nil=>rfl
 | cons p ps ih =>
  have h0:=h 0;simp at h0;have:=ih (fun i=>by simpa using h (i+1));simp[V,h0,this]
theorem Gw:∀ {xs ys:LI},(∀ i,xs.getD i 0=ys.getD i 0)->∀ x,V xs x=V ys x
 | [],ys,h,x=>(Tl (fun i=>(h i).symm) x).symm
 | p::ps,[],h,x=>Tl (fun i=>h i) x
 | p::ps,q::qs,h,x=>by
  have h0:=h 0;simp at h0;simp only[V,h0];rw[Gw (fun i=>by simpa using h (i+1)) x]
theorem DM(xs:LI)(x:Int):V (Aa xs) x=V xs x:=Gw (Dc xs) x
def EN(g:Nat->Rn)(i r:Nat):List Rn:=(Aq i).map g++Av r z0
theorem KA(g:Nat->Rn)(i r:Nat):(EN g i r).length=i+r:=by simp [EN]
theorem MO(g:Nat->Rn)(r:Nat):EN g 0 r=Av r z0:=by simp [EN]
theorem MP(g:Nat->Rn)(i:Nat):EN g i 0=(Aq i).map g:=by simp [EN]
theorem Od(g:Nat->Rn)(i r:Nat):(EN g i (r+1)).set i (g i)=EN g (i+1) r:=by
 unfold EN;rw[A5n _ _ (by simp),Hq,D_,Ft];simp
theorem kL(g:Nat->Rn)(i r:Nat):(EN g i (r+1)).getD i z0=z0:=by
 unfold EN;rw[Z,AT (by simp)];simp
theorem Jt(g:Nat->Rn)(n i:Nat):(Q ((Aq n).map g)).getD i 0=if i<n then P (g i) else 0:=by
 rw[C7,Z];by_cases h:i<n
 ·simp[h]
 ·simp[h,VN]
theorem Sq(xs:LI):(Aq xs.length).map (fun i=>cn (xs.getD i 0))=xs.map cn:=by
 apply YP (by simp);intro i h1 h2;have h3:i<xs.length:=by simpa using h2
 simp[Z,Af h3]
theorem MQ{K:Nat}{g:Nat->Rn}{n:Nat}(h:∀ i,i<n->AO K (g i)):∀ r∈(Aq n).map g,AO K r:=fun r hr=>by
 obtain⟨i,hi,rfl⟩:=Em.1 hr;exact h i (I9.1 hi)
theorem GS(k:Nat):Bm k 0:=by unfold Bm;simp;exact BS (by decide)
theorem VQ{k:Nat}{xs:LI}(h:∀ x∈xs,Bm k x)(i:Nat):Bm k (xs.getD i 0):=by
 rw[Z];cases e:xs[i]? with
 | none=>exact GS k
 | some x=>exact h x (SQ e)
def Du(ps qs:LI):LI:=Aa ((Aq (max ps.length qs.length)).map fun i=>ps.getD i 0+qs.getD i 0)
def Cc(ps:LI):LI:=ps.map fun x => -x
theorem CX(ps qs:LI)(i:Nat):(Du ps qs).getD i 0=ps.getD i 0+qs.getD i 0:=by
 unfold Du;rw[Dc,Z];by_cases h:i<max ps.length qs.length
 ·simp[h]
 ·have h1:ps.length<=i:=by omega
  have h2:qs.length<=i:=by omega
  rw[Bw h1,Bw h2];simp[h]
theorem GT(ps:LI)(i:Nat):(Cc ps).getD i 0 = -(ps.getD i 0):=by
 unfold Cc;simp only[Z,Ch];cases ps[i]? <;> simp
theorem PZ(ps qs:LI):Aa (Du ps qs)=Du ps qs:=Gv _
theorem Oe(xs:LI)(x:Int):V xs x=xs.getD 0 0+x*V (xs.drop 1) x:=by
 cases xs <;> simp[V]
theorem TV:∀ (n:Nat) (us bs cs:LI),us.length<=n->bs.length<=n->cs.length<=n->(∀ i,cs.getD i 0=us.getD i 0+bs.getD i 0)->∀ x,V cs x=V us x+V bs x:=by
 intro n;induction n with
 | zero =>
  intro us bs cs h1 h2 h3 _ x;rw[A9 (by omega:us.length=0),A9 (by omega:bs.length=0),A9 (by omega:cs.length=0)];rfl
 | succ n ih =>
  intro us bs cs h1 h2 h3 h x;rw[Oe us,Oe bs,Oe cs,h 0,ih (us.drop 1) (bs.drop 1) (cs.drop 1) (by simp;omega) (by simp;omega) (by simp;omega) (fun i=>by
   have:=h (i+1);simpa [Z,JW] using this) x]
  rw[CW];omega
theorem BM(ps qs:LI)(x:Int):V (Du ps qs) x=V ps x+V qs x :=
 TV (max (max ps.length qs.length) (Du ps qs).length) ps qs _ (by omega) (by omega) (by omega) (CX ps qs) x
theorem HU(ps:LI)(x:Int):V (Cc ps) x = -V ps x:=by
 induction ps with
 | nil=>rfl
 | cons p ps ih =>
  have:Cc (p::ps) = -p::Cc ps:=rfl;rw[this];simp only[V,ih];rw[EV];omega
def vp(rs : List Rn) : Reg := .val (.sl rs.length (pc rs))
def bR(r : Rn) : Reg := .box [.bool r.1, .sl r.2.length (lm r.2)]
def bN(n : Int) : Reg := .box [.bool (decide (n < 0)), .sl ((M (E n)).length) (lm (M (E n)))]
section
variable {prog:Nat->Option IFunc}
theorem Xb{c:Opd}{a b:ICode}{s t:Al}{ex:Ex}(h:c.av s=some (.bool true))(h1:DG prog a s ex t):DG prog (.cond c a b) s ex t:=by
 obtain⟨n,h1⟩:=h1;refine⟨n+1,?_⟩;have e1:=F5 (EA prog (show n<=n+1 by omega)) (Ap n) h1;simp only[Cm,J7,h,e1]
theorem Xc{c:Opd}{a b:ICode}{s t:Al}{ex:Ex}(h:c.av s=some (.bool false))(h1:DG prog b s ex t):DG prog (.cond c a b) s ex t:=by
 obtain⟨n,h1⟩:=h1;refine⟨n+1,?_⟩;have e1:=F5 (EA prog (show n<=n+1 by omega)) (Ap n) h1;simp only[Cm,J7,h,e1]
theorem Jb{c:Opd}{a b:ICode}{s t:Al}{ex:Ex}{x:Bool}(h:c.av s=some (.bool x))(hx:x=true)(h1:Cv prog a s ex t):Cv prog (.cond c a b) s ex t:=by
 subst hx;obtain⟨u,k1,k2⟩:=h1;exact⟨u,Xb h k1,k2⟩
theorem Jc{c:Opd}{a b:ICode}{s t:Al}{ex:Ex}{x:Bool}(h:c.av s=some (.bool x))(hx:x=false)(h1:Cv prog b s ex t):Cv prog (.cond c a b) s ex t:=by
 subst hx;obtain⟨u,k1,k2⟩:=h1;exact⟨u,Xc h k1,k2⟩
theorem xJ{id:Nat}{c:ICode}{s t:Al}{i:Nat}(h:Cv prog c s (.exit i) t)(hi:i ≠ id):Cv prog (.block id c) s (.exit i) t:=by
 obtain⟨u,k1,k2⟩:=h;exact⟨u,Mc k1 hi,k2⟩
theorem Cv.up{c:ICode}{ex:Ex}{fin:Al}(st:Nat->Al)(n:Nat)(hex:ex ≠ .norm)(step:∀ i,i<n->Cv prog c (st i) .norm (st (i+1)))(out:Cv prog c (st n) ex fin):∀ i,i<=n->Cv prog (.loop c) (st i) ex fin:=by
 have key:∀ r i,i+r=n->Cv prog (.loop c) (st i) ex fin:=by
  intro r;induction r with
  | zero =>
   intro i hi;have:i=n:=by omega
   subst this;exact Ao out hex
  | succ r ih =>
   intro i hi;exact Cv.loop (step i (by omega)) (ih (i+1) (by omega))
 intro i hi;exact key (n-i) i (by omega)
theorem Cv.to{c:ICode}{ex:Ex}{s t s' t':Al}(h:Cv prog c s ex t)(hs:s=s')(ht:t=t'):Cv prog c s' ex t':=hs ▸ ht ▸ h
end
theorem Ga{X:Int}{n:Nat}(h:0<=X/\X<(n:Int)):A X<n:=by omega
theorem y{xs:LI}{X:Int}(h:0<=X/\X<(xs.length:Int)):Bn (p (A X*1) (lm xs)) 0 1 true=some (.int .u32 (xs.getD (A X) 0)):=Ed (Ga h)
theorem Yg(ws:LI)(l h:Nat):B3 ((h-l)*1) (p (l*1) (lm ws))=lm ((ws.drop l).take (h-l)):=by
 simp[lm,RI,List.map_drop]
theorem Tm{ws:LI}{l h m:Nat}{X:Int}{a b:Bool}(hx:0<=X/\X<((h-l:Nat):Int))(hl:l<=h/\h<=m/\m<=ws.length/\(a=true->b=true)):Bn (p (A X*1) (B3 ((h-l)*1) (p (l*1) (lm ws)))) 0 1 true=some (.int .u32 (((ws.drop l).take (h-l)).getD (A X) 0)):=by
 rw[Yg];exact Ed (by have:=Ga hx;simp;omega)
theorem Ck{xs:LI}{n:Nat}(hl:xs.length=n){X:Int}(h:0<=X/\X<(n:Int)):Bn (lm xs) (A X*1) 1 true=some (.int .u32 (xs.getD (A X) 0)):=VJ (hl ▸ Ga h)
theorem CY{xs:LI}{n:Nat}(hl:xs.length=n){X:Int}(h:0<=X/\X<(n:Int)){v:Int}:C4 (lm xs) (A X*1) [.int .u32 v]=some (lm (xs.set (A X) v)):=Ir (hl ▸ Ga h)
theorem x{rs:List Rn}{X:Int}(h:0<=X/\X<(rs.length:Int)):Bn (p (A X*2) (pc rs)) 0 2 false=some (As (rs.getD (A X) z0)):=Ob (Ga h)
theorem Gb{rs:List Rn}{n:Nat}(hl:rs.length=n){X:Int}(h:0<=X/\X<(n:Int)):Bn (pc rs) (A X*2) 2 false=some (As (rs.getD (A X) z0)):=Azr (hl ▸ Ga h)
theorem F9{rs:List Rn}{n:Nat}(hl:rs.length=n){X:Int}(h:0<=X/\X<(n:Int)){r:Rn}:C4 (pc rs) (A X*2) [.bool r.1,.sl r.2.length (lm r.2)]=some (pc (rs.set (A X) r)):=Zz (hl ▸ Ga h)
theorem Xd{rs:List Rn}{i:Nat}(h:i<rs.length):p (i*2) (pc rs) = .bool (rs.getD i z0).1 :: .sl (rs.getD i z0).2.length (lm (rs.getD i z0).2)::pc (rs.drop (i+1)):=by
 rw[QX,CL h,Mi];simp[Z,Af h]
theorem Yh{rs:List Rn}{X:Int}(h:0<=X/\X<(rs.length:Int)):Bn (p 1 (p (A X*2) (pc rs))) 0 1 true=some (.sl (rs.getD (A X) z0).2.length (lm (rs.getD (A X) z0).2)):=by
 rw[Xd (Ga h)];rfl
def li(xs:LI):List AV:=xs.map (F .i64)
def pp(ps:List (List Rn)):List AV:=ps.map fun rs => sL pc rs
theorem Azs{ps:List (List Rn)}{i:Nat}(h:i<ps.length):(pp ps)[i]? = some (.sl (ps.getD i []).length (pc (ps.getD i []))):=by
 simp[pp,Ch,Af h,Z]
theorem Ff{ps:List (List Rn)}{X:Int}(h:0<=X/\X<(ps.length:Int)):Bn (p (A X*1) (pp ps)) 0 1 true=some (.sl (ps.getD (A X) []).length (pc (ps.getD (A X) []))):=by
 simp only[Bn,if_true,I6,Bu,FR];exact Azs (Ga h)
theorem VR(xs:LI)(i:Nat)(v x:Int)(h:i<xs.length):V (xs.set i v) x=V xs x+x^i*(v-xs.getD i 0):=by
 induction xs generalizing i with
 | nil=>simp at h
 | cons p ps ih =>
  cases i with
  | zero=>simp only[A6x,V,CE,I'];omega
  | succ i =>
   simp only[A6y,V,Ka];rw[ih i (by simpa using h),A2];generalize x^i=q;generalize V ps x=y;generalize ps.getD i 0=z;grind
theorem QY(n:Nat)(x:Int):V (Av n 0) x=0:=by
 induction n with
 | zero=>rfl
 | succ n ih=>simp[Ft,V,ih]
theorem Aow:∀ (d:LI) (b:Int),(∀ x,b<=x->V d x=0)->∀ i,d.getD i 0=0
 | [],_,_,i=>by simp
 | c::d,b,h,i=>by
  have hc:c=0:=by
   have h1:=h (max b (c.natAbs+1)) (by omega);simp only[V] at h1;have h2:(max b ((c.natAbs:Int)+1))∣c:=⟨-(V d (max b ((c.natAbs:Int)+1))),by rw[EV];omega⟩;rcases qU c 0 with g | g | g
   ·have:=A5a (a:=max b ((c.natAbs:Int)+1)) (b := -c) (by omega) ((Int.dvd_neg).2 h2);omega
   ·exact g
   ·have:=A5a (a:=max b ((c.natAbs:Int)+1)) (b:=c) (by omega) h2;omega
  cases i with
  | zero=>simpa using hc
  | succ i =>
   have:=Aow d (max b 1) (fun x hx=>by
    have h1:=h x (by omega);simp only[V,hc,DK] at h1;rcases KR.1 h1 with g | g
    ·omega
    ·exact g) i
   simpa using this
theorem DB{p q:LI}(h:∀ x,V p x=V q x)(i:Nat):p.getD i 0=q.getD i 0:=by
 have:=Aow (Du p (Cc q)) 0 (fun x _=>by rw[BM,HU,h x];omega) i;rw[CX,GT] at this;omega
theorem HL{p q:LI}(h:∀ x,V p x=V q x):Aa p=Aa q:=F2 (DB h)
def Mj(p q:LI):LI:=Du p (Cc q)
theorem FA(p q:LI)(x:Int):V (Mj p q) x=V p x-V q x:=by rw [Mj,BM,HU];omega
theorem P_(p q:LI)(i:Nat):(Mj p q).getD i 0=p.getD i 0-q.getD i 0:=by rw [Mj,CX,GT];omega
def Ay(a:Int)(q:LI):LI:=q.map fun x=>a*x
theorem A0(a:Int)(q:LI)(x:Int):V (Ay a q) x=a*V q x:=by
 induction q with
 | nil=>simp[Ay,V]
 | cons c q ih =>
  have:Ay a (c::q)=a*c::Ay a q:=rfl;rw[this];simp only[V,ih];generalize V q x=y;grind
theorem AR(a:Int)(q:LI)(i:Nat):(Ay a q).getD i 0=a*q.getD i 0:=by
 unfold Ay;simp only[Z,Ch];cases q[i]? <;> simp
def BQ:LI->LI->LI
 | [],_=>[]
 | a::p,q=>Du (Ay a q) (0::BQ p q)
theorem Bf(p q:LI)(x:Int):V (BQ p q) x=V p x*V q x:=by
 induction p with
 | nil=>simp[BQ,V]
 | cons a p ih =>
  simp only[BQ,BM,A0,V,ih];generalize V q x=y;generalize V p x=z;grind
theorem VS(p q:LI):Aa (BQ p q)=BQ p q:=by
 cases p with
 | nil=>rfl
 | cons a p=>exact PZ _ _
theorem Gc{k:Nat}{p:LI}(hp:∀ x∈p,Bm k x):∀ x∈Aa p,Bm k x:=fun x hx=>hp x (xI hx)
theorem Sr(p q:LI):(Du p q).length<=max p.length q.length:=by
 have:=Bq ((Aq (max p.length q.length)).map fun i=>p.getD i 0+q.getD i 0);simpa [Du] using this
theorem DR(p:LI):(Cc p).length=p.length:=by simp [Cc]
def hv:LI->Int->Int->Int
 | [],_,_=>0
 | t::ts,x,d=>t*d^ts.length+x*hv ts x d
end Go.Ai
namespace Go.Proofs.YtajompaehjkgkaaGreat
open Go.Ai
set_option maxRecDepth 100000
open BitVec renaming ofInt->T,ofInt_natCast->Kl,toNat_ofNat->IZ,toNat_or->iT
open Bool renaming and_true->KO,false_and->I8,false_eq_true->Cf,true_and->OC
open Decidable renaming decide->B
open Go.Ai.AV renaming agg->o,bool->D,fresh->L,int->F,sl->H,tup->Ax
open Go.Ai.Reg renaming box->g,own->X,val->C
open Go.IntKind renaming bits->Am,i64->O,u32->Ac,u64->U,wrap->I
open Int renaming add_comm->Ks,emod_add_mul_ediv->SN,emod_eq_of_lt->Gh,fdiv->d,fdiv_eq_ediv_of_nonneg->t,lt_of_le_of_lt->Nm,mul_le_mul_of_nonneg_left->Ak,mul_le_mul_of_nonneg_right->Ae,mul_nonneg->A6,natAbs->E,natCast_mul->CQ,natCast_nonneg->G3,natCast_pow->C6,one_mul->Do,pow_add->BB,pow_mul->iV,pow_pos->Ez,pow_succ->A2,pow_zero->CE,sub_zero->EY,tdiv->Aw,tdiv_eq_ediv_of_nonneg->B8,tmod->AD,tmod_eq_emod_of_nonneg->Bs,toNat->A,toNat_natCast->R,zero_add->DK
open List renaming append_assoc->JQ,append_nil->L5,drop->p,drop_zero->Fe,length->Bh,length_append->AX,length_replicate->Fs,length_set->A',map_take->RI,mem_append->BV,mem_singleton->I3,replicate->Av,take->B3,take_length->EK
open Nat renaming add_mul->D',add_zero->FR,div_add_mod->iS,le_refl->Ap,le_trans->Be,lt_of_le_of_lt->Dt,lt_or_ge->Cp,mod_eq_of_lt->F3,mul_comm->CS,mul_le_mul_right->AF,mul_one->I6,one_mul->Fk,pow_add->De,pow_le_pow_right->BF,two_pow_add_eq_or_of_lt->Awg
theorem kM(neg:Bool)(xs:LI)(c1:((((Aa xs).length:Nat):Int)==0)=true)(n1:RQ 99 [sL lm xs] (L 1 ((Aa xs).length) (lm (Aa xs)))):RQ 79 [o [D neg,sL lm xs]] (F O 0):=i (fn:=UM) Cz rfl 400 rfl [.r (L 1 ((Aa xs).length) (lm (Aa xs))),.b true] (S n1 (S c1 a0))
theorem kN(neg:Bool)(xs:LI)(c1:((((Aa xs).length:Nat):Int)==0)=false)(c2:(neg)=true)(n1:RQ 99 [sL lm xs] (L 1 ((Aa xs).length) (lm (Aa xs)))):RQ 79 [o [D neg,sL lm xs]] (F O (-1)):=i (fn:=UM) Cz rfl 400 rfl [.r (L 1 ((Aa xs).length) (lm (Aa xs))),.b false,.b true] (S n1 (S c1 (S c2 a0)))
theorem kO(neg:Bool)(xs:LI)(c1:((((Aa xs).length:Nat):Int)==0)=false)(c2:(neg)=false)(n1:RQ 99 [sL lm xs] (L 1 ((Aa xs).length) (lm (Aa xs)))):RQ 79 [o [D neg,sL lm xs]] (F O 1):=i (fn:=UM) Cz rfl 400 rfl [.r (L 1 ((Aa xs).length) (lm (Aa xs))),.b false,.b false] (S n1 (S c1 (S c2 a0)))
theorem Aox(neg:Bool)(xs:LI)(v:Int)(n1:RQ 98 [D (!neg),sL lm xs] (CD v)):RQ 161 [o [D neg,sL lm xs]] (Ah v):=i (fn:=Vx) Cz rfl 400 rfl [.r (CD v)] (S n1 a0)
theorem Azt(neg:Bool)(xs:LI)(v:Int)(n1:RQ 98 [D neg,sL lm xs] (CD v)):RQ 97 [o [D neg,sL lm xs]] (Ah v):=i (fn:=cF) Cz rfl 400 rfl [.r (CD v)] (S n1 a0)
def Hy(xs:LI)(ys:LI)(n:Nat)(cs:List AV)(c:Int)(i:Int):Al:=(C (sL lm xs)::(C (sL lm ys)::(Y 3 (X 1 n cs::(C (F U c)::(C (F O i)::(Y 46 [])))))))
theorem Aoy(xs:LI)(ys:LI)(n:Nat)(cs:List AV)(c:Int)(i:Int)(c1:B (i<(xs.length:Int))=true)(c2:B (i<(ys.length:Int))=true)(n1:0<=i/\i<(xs.length:Int))(n2:0<=i/\i<(ys.length:Int))(n3:n+1<=35184372088832):Ar MD (Hy xs ys n cs c i) .norm (Hy xs ys (n+1) (cs++([F Ac (I Ac (I U ((I U (c+(I U (xs.getD (A i) 0))))+(I U (ys.getD (A i) 0)))))]:List AV)) (d (I U ((I U (c+(I U (xs.getD (A i) 0))))+(I U (ys.getD (A i) 0)))) (2^(min (A 32) (Am .u64)))) (I O (i+1))):=(G Cz 400 [.b true,.b true,.b true,.b true,.v (F Ac (xs.getD (A i) 0)),.b true,.v (F Ac (ys.getD (A i) 0))] [0,1,5,6,7] (S c1 (S Ip (S Ip (S c1 (S n1 (S (y n1) (S c2 (S n2 (S (y n2) (S (show Bh ([F Ac (I Ac (I U ((I U (c+(I U (xs.getD (A i) 0))))+(I U (ys.getD (A i) 0)))))]:List AV)=1*1 from rfl) (S n3 (S Ie a0)))))))))))))
theorem Aoz(xs:LI)(ys:LI)(n:Nat)(cs:List AV)(c:Int)(i:Int)(c1:B (i<(xs.length:Int))=true)(c2:B (i<(ys.length:Int))=false)(n1:0<=i/\i<(xs.length:Int))(n2:n+1<=35184372088832):Ar MD (Hy xs ys n cs c i) .norm (Hy xs ys (n+1) (cs++([F Ac (I Ac (I U (c+(I U (xs.getD (A i) 0)))))]:List AV)) (d (I U (c+(I U (xs.getD (A i) 0)))) (2^(min (A 32) (Am .u64)))) (I O (i+1))):=(G Cz 400 [.b true,.b true,.b true,.b true,.v (F Ac (xs.getD (A i) 0)),.b false] [0,1,5,6,7] (S c1 (S Ip (S Ip (S c1 (S n1 (S (y n1) (S c2 (S (show Bh ([F Ac (I Ac (I U (c+(I U (xs.getD (A i) 0)))))]:List AV)=1*1 from rfl) (S n2 (S Ie a0)))))))))))
theorem Apa(xs:LI)(ys:LI)(n:Nat)(cs:List AV)(c:Int)(i:Int)(c1:B (i<(xs.length:Int))=false)(c2:B (i<(ys.length:Int))=true)(n1:0<=i/\i<(ys.length:Int))(n2:n+1<=35184372088832):Ar MD (Hy xs ys n cs c i) .norm (Hy xs ys (n+1) (cs++([F Ac (I Ac (I U (c+(I U (ys.getD (A i) 0)))))]:List AV)) (d (I U (c+(I U (ys.getD (A i) 0)))) (2^(min (A 32) (Am .u64)))) (I O (i+1))):=(G Cz 400 [.b false,.b true,.b true,.b false,.b true,.v (F Ac (ys.getD (A i) 0))] [0,1,5,6,7] (S c1 (S c2 (S Ip (S c1 (S c2 (S n1 (S (y n1) (S (show Bh ([F Ac (I Ac (I U (c+(I U (ys.getD (A i) 0)))))]:List AV)=1*1 from rfl) (S n2 (S Ie a0)))))))))))
theorem Apb(xs:LI)(ys:LI)(n:Nat)(cs:List AV)(c:Int)(i:Int)(c1:B (i<(xs.length:Int))=false)(c2:B (i<(ys.length:Int))=false)(c3:B (c>0)=true)(n1:n+1<=35184372088832):Ar MD (Hy xs ys n cs c i) .norm (Hy xs ys (n+1) (cs++([F Ac (I Ac c)]:List AV)) (d c (2^(min (A 32) (Am .u64)))) (I O (i+1))):=(G Cz 400 [.b false,.b false,.b true,.b false,.b false] [0,1,5,6,7] (S c1 (S c2 (S c3 (S c1 (S c2 (S (show Bh ([F Ac (I Ac c)]:List AV)=1*1 from rfl) (S n1 (S Ie a0)))))))))
theorem cY(xs:LI)(ys:LI)(n:Nat)(cs:List AV)(c:Int)(i:Int)(c1:B (i<(xs.length:Int))=false)(c2:B (i<(ys.length:Int))=false)(c3:B (c>0)=false):Ar MD (Hy xs ys n cs c i) (.exit 0) (Hy xs ys n cs c i):=(G Cz 400 [.b false,.b false,.b false] [0,1,5,6,7] (S c1 (S c2 (S c3 a0))))
theorem Apc(xs ys:LI)(n:Nat)(cs:List AV)(c i:Int)(hl1:Ar (.loop MD) (Hy xs ys 0 ([]:List AV) 0 0) (.exit 0) (Hy xs ys n cs c i)):RQ 144 [sL lm xs,sL lm ys] (L 1 n cs):=A8 Vl (Y 1 (C (sL lm ys)::(Y 2 (X 1 n cs::(Y 49 []))))) (W (W (q (Cv.seq (G Cz 400 [] [0,1,5,6,7] a0) (Cv.seq (Cv.block hl1) (G Cz 400 [] [1,4] a0))))))
def JD(xs:LI)(ys:LI)(n:Nat)(cs:List AV)(c:Int)(i:Int):Al:=(C (sL lm xs)::(C (sL lm ys)::(Y 3 (X 1 n cs::(C (F U c)::(C (F O i)::(Y 34 [])))))))
theorem Apd(xs:LI)(ys:LI)(n:Nat)(cs:List AV)(c:Int)(i:Int)(c1:B (i<(xs.length:Int))=true)(c2:B (i<(ys.length:Int))=true)(n1:0<=i/\i<(ys.length:Int))(n2:0<=i/\i<(xs.length:Int))(n3:n+1<=35184372088832):Ar PP (JD xs ys n cs c i) .norm (JD xs ys (n+1) (cs++([F Ac (I Ac (I U ((I U ((I U (xs.getD (A i) 0))-(I U (ys.getD (A i) 0))))-c)))]:List AV)) (d (I U ((I U ((I U (xs.getD (A i) 0))-(I U (ys.getD (A i) 0))))-c)) (2^(min (A 63) (Am .u64)))) (I O (i+1))):=(G Cz 400 [.b true,.b true,.v (F Ac (ys.getD (A i) 0)),.v (F Ac (xs.getD (A i) 0))] [0,1,5,6,7] (S c1 (S c2 (S n1 (S (y n1) (S n2 (S (y n2) (S (show Bh ([F Ac (I Ac (I U ((I U ((I U (xs.getD (A i) 0))-(I U (ys.getD (A i) 0))))-c)))]:List AV)=1*1 from rfl) (S n3 (S WZ a0))))))))))
theorem Ape(xs:LI)(ys:LI)(n:Nat)(cs:List AV)(c:Int)(i:Int)(c1:B (i<(xs.length:Int))=true)(c2:B (i<(ys.length:Int))=false)(n1:0<=i/\i<(xs.length:Int))(n2:n+1<=35184372088832):Ar PP (JD xs ys n cs c i) .norm (JD xs ys (n+1) (cs++([F Ac (I Ac (I U ((I U ((I U (xs.getD (A i) 0))-0))-c)))]:List AV)) (d (I U ((I U ((I U (xs.getD (A i) 0))-0))-c)) (2^(min (A 63) (Am .u64)))) (I O (i+1))):=(G Cz 400 [.b true,.b false,.v (F Ac (xs.getD (A i) 0))] [0,1,5,6,7] (S c1 (S c2 (S n1 (S (y n1) (S (show Bh ([F Ac (I Ac (I U ((I U ((I U (xs.getD (A i) 0))-0))-c)))]:List AV)=1*1 from rfl) (S n2 (S WZ a0))))))))
theorem Apf(xs:LI)(ys:LI)(n:Nat)(cs:List AV)(c:Int)(i:Int)(c1:B (i<(xs.length:Int))=false):Ar PP (JD xs ys n cs c i) (.exit 0) (JD xs ys n cs c i):=(G Cz 400 [.b false] [0,1,5,6,7] (S c1 a0))
theorem Apg(xs ys:LI)(n:Nat)(cs:List AV)(c i:Int)(hl1:Ar (.loop PP) (JD xs ys 0 ([]:List AV) 0 0) (.exit 0) (JD xs ys n cs c i)):RQ 145 [sL lm xs,sL lm ys] (L 1 n cs):=A8 Vm (Y 1 (C (sL lm ys)::(Y 2 (X 1 n cs::(Y 37 []))))) (W (W (q (Cv.seq (G Cz 400 [] [0,1,5,6,7] a0) (Cv.seq (Cv.block hl1) (G Cz 400 [] [1,4] a0))))))
theorem H8(xs:LI)(v:Int):lm xs++([F Ac v]:List AV)=lm (xs++[v]):=by simp [lm]
theorem Mk{xs:LI}(h:AP xs){v:Int}(hv:0<=v/\v<4294967296):AP (xs++[v]):=by
 intro x hx;rcases BV.1 hx with g | g
 ·exact h x g
 ·rw[I3.1 g];exact hv
theorem KB(xs:LI)(v:Int):Ab (xs++[v])=Ab xs+4294967296^xs.length*v:=by rw [Gu];simp [Ab]
theorem cZ{s:Int}:d s (2^(min (A 32) (Am .u64)))=s / 4294967296:=by
 show d s 4294967296=_;rw[t _ (by omega)]
theorem A5b{s:Int}:d s (2^(min (A 63) (Am .u64)))=s / 9223372036854775808:=by
 show d s 9223372036854775808=_;rw[t _ (by omega)]
theorem xK{xs ys:LI}(hx:AP xs)(hy:AP ys)(h1:xs.length<1048576)(h2:ys.length<1048576):∀ (r i:Nat) (acc:LI) (c:Int),i+r=max xs.length ys.length->acc.length=i->AP acc->0<=c/\c<=1 ->
  ∃ (zs:LI) (c' i':Int),AP zs/\zs.length<=max xs.length ys.length+1/\Ab zs=Ab acc+4294967296^i*(c+Ab (xs.drop i)+Ab (ys.drop i)) /\
   Ar (.loop MD) (Hy xs ys i (lm acc) c (i:Nat)) (.exit 0) (Hy xs ys zs.length (lm zs) c' i'):=by
 intro r;induction r with
 | zero =>
  intro i acc c hi hl hu hc;have e1:Ab (xs.drop i)=0:=DQ (by omega);have e2:Ab (ys.drop i)=0:=DQ (by omega);have g1:decide ((i:Int)<(xs.length:Int))=false:=by simp;omega
  have g2:decide ((i:Int)<(ys.length:Int))=false:=by simp;omega
  by_cases hc0:c=0
  ·refine⟨acc,c,i,hu,by omega,by rw[e1,e2,hc0];simp,?_⟩;rw[hl];exact Ao (cY xs ys i (lm acc) c (i:Nat) g1 g2 (by simp;omega)) (by nofun)
  ·have hc1:c=1:=by omega
   subst hc1;refine⟨acc++[1],0,I O ((i:Int)+1),Mk hu (by omega),by simp;omega,by rw[KB,e1,e2,hl];simp,?_⟩;have k:=Apb xs ys i (lm acc) 1 (i:Nat) g1 g2 (by simp) (by omega);rw[cZ,DW,show (1:Int) % 4294967296=1 by decide,show (1:Int) / 4294967296=0 by decide,H8] at k;have ei:I O ((i:Int)+1)=((i+1:Nat):Int):=by rw[Bl (by omega) (by omega)];omega
   rw[ei] at k |-;have k2:=cY xs ys (i+1) (lm (acc++[1])) 0 ((i+1:Nat):Int) (by simp;omega) (by simp;omega) (by simp);have hll:(acc++[1]).length=i+1:=by simp[hl]
   rw[hll];exact Cv.loop k (Ao k2 (by nofun))
 | succ r ih =>
  intro i acc c hi hl hu hc;have bx:=AG hx i;have byy:=AG hy i;have ei:I O ((i:Int)+1)=((i+1:Nat):Int):=by rw[Bl (by omega) (by omega)];omega
  have step:Ar MD (Hy xs ys i (lm acc) c (i:Nat)) .norm (Hy xs ys (i+1) (lm (acc++[(c+xs.getD i 0+ys.getD i 0) % 4294967296])) ((c+xs.getD i 0+ys.getD i 0) / 4294967296) ((i+1:Nat):Int)):=by
   have wx:I U (xs.getD i 0)=xs.getD i 0:=by rw[B6];omega
   have wy:I U (ys.getD i 0)=ys.getD i 0:=by rw[B6];omega
   by_cases g1:i<xs.length <;> by_cases g2:i<ys.length
   ·have k:=Aoy xs ys i (lm acc) c (i:Nat) (by simp;omega) (by simp;omega) (by omega) (by omega) (by omega);have w1:I U (I U (c+xs.getD i 0)+ys.getD i 0)=c+xs.getD i 0+ys.getD i 0:=by rw[B6,B6];omega
    simp only[R,wx,wy,w1,cZ,DW,ei,H8] at k;exact k
   ·have k:=Aoz xs ys i (lm acc) c (i:Nat) (by simp;omega) (by simp;omega) (by omega) (by omega);have hz:ys.getD i 0=0:=Bw (by omega);have w1:I U (c+xs.getD i 0)=c+xs.getD i 0+ys.getD i 0:=by rw[B6,hz];omega
    simp only[R,wx,w1,cZ,DW,ei,H8] at k;exact k
   ·have k:=Apa xs ys i (lm acc) c (i:Nat) (by simp;omega) (by simp;omega) (by omega) (by omega);have hz:xs.getD i 0=0:=Bw (by omega);have w1:I U (c+ys.getD i 0)=c+xs.getD i 0+ys.getD i 0:=by rw[B6,hz];omega
    simp only[R,wy,w1,cZ,DW,ei,H8] at k;exact k
   ·omega
  obtain⟨zs,c',i',q1,q2,q3,q4⟩:=ih (i+1) (acc++[(c+xs.getD i 0+ys.getD i 0) % 4294967296]) ((c+xs.getD i 0+ys.getD i 0) / 4294967296) (by omega) (by simp[hl]) (Mk hu (by omega)) (by omega);refine⟨zs,c',i',q1,q2,?_,Cv.loop step q4⟩;rw[q3,KB,hl,C5 xs i,C5 ys i,A2];have hd:=SN (c+xs.getD i 0+ys.getD i 0) 4294967296;generalize (c+xs.getD i 0+ys.getD i 0) % 4294967296=m at *
  generalize (c+xs.getD i 0+ys.getD i 0) / 4294967296=d at *
  generalize (4294967296:Int)^i=p at *
  generalize Ab (xs.drop (i+1))=X at *
  generalize Ab (ys.drop (i+1))=Y at *
  have:c+(xs.getD i 0+4294967296*X)+(ys.getD i 0+4294967296*Y)=m+4294967296*(d+X+Y):=by omega
  rw[this];grind
theorem dA{xs ys:LI}(hx:AP xs)(hy:AP ys)(h1:xs.length<1048576)(h2:ys.length<1048576):∃ zs,AP zs/\Ab zs=Ab xs+Ab ys/\zs.length<=max xs.length ys.length+1/\RQ 144 [sL lm xs,sL lm ys] (L 1 zs.length (lm zs)):=by
 obtain⟨zs,c',i',q1,q2,q3,q4⟩:=xK hx hy h1 h2 (max xs.length ys.length) 0 [] 0 (by omega) rfl (fun x hx=>by cases hx) (by omega);refine⟨zs,q1,by rw[q3];simp[Ab],q2,?_⟩;exact Apc xs ys _ _ _ _ q4
theorem xL{xs ys:LI}(hx:AP xs)(hy:AP ys)(hl2:ys.length<=xs.length)(h1:xs.length<=1048576):∀ (r i:Nat) (acc:LI) (c:Int),i+r=xs.length->acc.length=i->AP acc->0<=c/\c<=1 ->
  ∃ (zs:LI) (c' i':Int),AP zs/\zs.length=xs.length/\0<=c'/\Ab zs-4294967296^xs.length*c'=Ab acc+4294967296^i*(Ab (xs.drop i)-Ab (ys.drop i)-c) /\
   Ar (.loop PP) (JD xs ys i (lm acc) c (i:Nat)) (.exit 0) (JD xs ys zs.length (lm zs) c' i'):=by
 intro r;induction r with
 | zero =>
  intro i acc c hi hl hu hc;have e1:Ab (xs.drop i)=0:=DQ (by omega);have e2:Ab (ys.drop i)=0:=DQ (by omega);have hii:xs.length=i:=by omega
  refine⟨acc,c,i,hu,by omega,hc.1,by rw[e1,e2,hii];grind,?_⟩;rw[hl];exact Ao (Apf xs ys i (lm acc) c (i:Nat) (by simp;omega)) (by nofun)
 | succ r ih =>
  intro i acc c hi hl hu hc;have bx:=AG hx i;have byy:=AG hy i;have ei:I O ((i:Int)+1)=((i+1:Nat):Int):=by rw[Bl (by omega) (by omega)];omega
  have step:Ar PP (JD xs ys i (lm acc) c (i:Nat)) .norm (JD xs ys (i+1) (lm (acc++[(xs.getD i 0-ys.getD i 0-c) % 4294967296])) (-((xs.getD i 0-ys.getD i 0-c) / 4294967296)) ((i+1:Nat):Int)):=by
   have wx:I U (xs.getD i 0)=xs.getD i 0:=by rw[B6];omega
   have wy:I U (ys.getD i 0)=ys.getD i 0:=by rw[B6];omega
   by_cases g2:i<ys.length
   ·have k:=Apd xs ys i (lm acc) c (i:Nat) (by simp;omega) (by simp;omega) (by omega) (by omega) (by omega);have w1:I U (I U (xs.getD i 0-ys.getD i 0)-c) % 4294967296=(xs.getD i 0-ys.getD i 0-c) % 4294967296:=by rw[B6,B6];omega
    have w2:I U (I U (xs.getD i 0-ys.getD i 0)-c) / 9223372036854775808 = -((xs.getD i 0-ys.getD i 0-c) / 4294967296):=by rw[B6,B6];omega
    simp only[R,wx,wy,A5b,DW,w1,w2,ei,H8] at k;exact k
   ·have k:=Ape xs ys i (lm acc) c (i:Nat) (by simp;omega) (by simp;omega) (by omega) (by omega);have hz:ys.getD i 0=0:=Bw (by omega);have w1:I U (I U (xs.getD i 0-0)-c) % 4294967296=(xs.getD i 0-ys.getD i 0-c) % 4294967296:=by rw[B6,B6,hz];omega
    have w2:I U (I U (xs.getD i 0-0)-c) / 9223372036854775808 = -((xs.getD i 0-ys.getD i 0-c) / 4294967296):=by rw[B6,B6,hz];omega
    simp only[R,wx,A5b,DW,w1,w2,ei,H8] at k;exact k
  obtain⟨zs,c',i',q1,q2,q0,q3,q4⟩:=ih (i+1) (acc++[(xs.getD i 0-ys.getD i 0-c) % 4294967296]) (-((xs.getD i 0-ys.getD i 0-c) / 4294967296)) (by omega) (by simp[hl]) (Mk hu (by omega)) (by omega);refine⟨zs,c',i',q1,q2,q0,?_,Cv.loop step q4⟩;rw[q3,KB,hl,C5 xs i,C5 ys i,A2];have hd:=SN (xs.getD i 0-ys.getD i 0-c) 4294967296;generalize (xs.getD i 0-ys.getD i 0-c) % 4294967296=m at *
  generalize (xs.getD i 0-ys.getD i 0-c) / 4294967296=d at *
  generalize (4294967296:Int)^i=p at *
  generalize Ab (xs.drop (i+1))=X at *
  generalize Ab (ys.drop (i+1))=Y at *
  have:xs.getD i 0+4294967296*X-(ys.getD i 0+4294967296*Y)-c=m+4294967296*(d+X-Y):=by omega
  rw[this];grind
theorem Tn{xs ys:LI}(hx:AP xs)(hy:AP ys)(hl:ys.length<=xs.length)(hv:Ab ys<=Ab xs)(h1:xs.length<=1048576):∃ zs,AP zs/\Ab zs=Ab xs-Ab ys/\zs.length=xs.length/\RQ 145 [sL lm xs,sL lm ys] (L 1 zs.length (lm zs)):=by
 obtain⟨zs,c',i',q1,q2,q0,q3,q4⟩:=xL hx hy hl h1 xs.length 0 [] 0 (by omega) rfl (fun x hx=>by cases hx) (by omega);simp only[Ab,CE,Fe,Do,DK,EY] at q3;have hlt:=DI q1;rw[q2] at hlt;have hp:=Cy xs.length;have hc:c'=0:=by
  generalize (4294967296:Int)^xs.length=p at *
  rcases Int.lt_or_le 0 c' with g | g
  ·have:p*1<=p*c':=Ak (by omega) (by omega);omega
  ·omega
 subst hc;refine⟨zs,q1,by simpa using q3,q2,?_⟩;exact Apg xs ys _ _ _ _ q4
theorem Gd{neg:Bool}{xs:LI}(hu:AP xs)(hN:xs.length<=1048576):RQ 98 [D neg,sL lm xs] (CD (rv neg xs)):=PX hu hN
theorem Gx{neg:Bool}{xs:LI}(hu:AP xs)(hN:xs.length<=1048576):RQ 79 [o [D neg,sL lm xs]] (F O (BJ (rv neg xs))):=by
 have hm:=DX (Be hN (by decide));have hz:(Aa xs).length=0↔Ab xs=0:=by
  have:=AZ hu;rw[II hu,Dg];omega
 have hv:=AZ hu;by_cases h0:Ab xs=0
 ·have h:=kM neg xs (by rw[beq_iff_eq];omega) hm;have e:BJ (rv neg xs)=0:=by unfold rv;rw[h0];cases neg <;> rfl
  rw[e];exact h
 ·cases neg with
  | true =>
   have h:=kN true xs (by rw[beq_eq_false_iff_ne];omega) rfl hm;have e:BJ (rv true xs) = -1:=by simp only[rv,if_true,BJ]; (repeat' split) <;> omega
   rw[e];exact h
  | false =>
   have h:=kO false xs (by rw[beq_eq_false_iff_ne];omega) rfl hm;have e:BJ (rv false xs)=1:=by simp only[rv,Cf,if_false,BJ]; (repeat' split) <;> omega
   rw[e];exact h
theorem Aph(neg:Bool)(xs:LI):rv (!neg) xs = -(rv neg xs):=by unfold rv;cases neg <;> simp
theorem Ss{neg:Bool}{xs:LI}(hu:AP xs)(hN:xs.length<=1048576):RQ 161 [o [D neg,sL lm xs]] (Ah (-(rv neg xs))):=by
 have h:=Gd (neg := !neg) hu hN;rw[Aph] at h;exact Aox neg xs _ h
theorem VT{neg:Bool}{xs:LI}(hu:AP xs)(hN:xs.length<=1048576):RQ 97 [o [D neg,sL lm xs]] (Ah (rv neg xs)):=Azt neg xs _ (Gd hu hN)
theorem Api(na nb:Bool)(xs ys zs:LI)(v:Int)(n1:RQ 99 [sL lm xs] (L 1 ((Aa xs).length) (lm (Aa xs))))(n2:RQ 99 [sL lm ys] (L 1 ((Aa ys).length) (lm (Aa ys))))(n3:RQ 146 [H ((Aa xs).length) (lm (Aa xs)),H ((Aa ys).length) (lm (Aa ys))] (L 1 zs.length (lm zs)))(n4:RQ 98 [D (!(na==nb)),sL lm zs] (CD v)):RQ 96 [o [D na,sL lm xs],o [D nb,sL lm ys]] (Ah v):=i (fn:=cE) Cz rfl 400 rfl [.r (L 1 ((Aa xs).length) (lm (Aa xs))),.r (L 1 ((Aa ys).length) (lm (Aa ys))),.r (L 1 zs.length (lm zs)),.r (CD v)] (S n1 (S n2 (S n3 (S n4 a0))))
theorem xM(na nb:Bool)(xs ys zs:LI)(v:Int)(c1:(na==nb)=true)(n1:RQ 99 [sL lm xs] (L 1 ((Aa xs).length) (lm (Aa xs))))(n2:RQ 99 [sL lm ys] (L 1 ((Aa ys).length) (lm (Aa ys))))(n3:RQ 144 [H ((Aa xs).length) (lm (Aa xs)),H ((Aa ys).length) (lm (Aa ys))] (L 1 zs.length (lm zs)))(n4:RQ 98 [D na,sL lm zs] (CD v)):RQ 95 [o [D na,sL lm xs],o [D nb,sL lm ys]] (Ah v):=i (fn:=UN) Cz rfl 400 rfl [.r (L 1 ((Aa xs).length) (lm (Aa xs))),.r (L 1 ((Aa ys).length) (lm (Aa ys))),.b true,.r (L 1 zs.length (lm zs)),.r (CD v)] (S n1 (S n2 (S c1 (S n3 (S n4 a0)))))
theorem xN(na nb:Bool)(xs ys zs:LI)(v c:Int)(c1:(na==nb)=false)(c2:B (c>=0)=true)(n1:RQ 99 [sL lm xs] (L 1 ((Aa xs).length) (lm (Aa xs))))(n2:RQ 99 [sL lm ys] (L 1 ((Aa ys).length) (lm (Aa ys))))(n3:RQ 134 [H ((Aa xs).length) (lm (Aa xs)),H ((Aa ys).length) (lm (Aa ys))] (F O c))(n4:RQ 145 [H ((Aa xs).length) (lm (Aa xs)),H ((Aa ys).length) (lm (Aa ys))] (L 1 zs.length (lm zs)))(n5:RQ 98 [D na,sL lm zs] (CD v)):RQ 95 [o [D na,sL lm xs],o [D nb,sL lm ys]] (Ah v):=i (fn:=UN) Cz rfl 400 rfl [.r (L 1 ((Aa xs).length) (lm (Aa xs))),.r (L 1 ((Aa ys).length) (lm (Aa ys))),.b false,.r (F O c),.b true,.r (L 1 zs.length (lm zs)),.r (CD v)] (S n1 (S n2 (S c1 (S n3 (S c2 (S n4 (S n5 a0)))))))
theorem xO(na nb:Bool)(xs ys zs:LI)(v c:Int)(c1:(na==nb)=false)(c2:B (c>=0)=false)(n1:RQ 99 [sL lm xs] (L 1 ((Aa xs).length) (lm (Aa xs))))(n2:RQ 99 [sL lm ys] (L 1 ((Aa ys).length) (lm (Aa ys))))(n3:RQ 134 [H ((Aa xs).length) (lm (Aa xs)),H ((Aa ys).length) (lm (Aa ys))] (F O c))(n4:RQ 145 [H ((Aa ys).length) (lm (Aa ys)),H ((Aa xs).length) (lm (Aa xs))] (L 1 zs.length (lm zs)))(n5:RQ 98 [D nb,sL lm zs] (CD v)):RQ 95 [o [D na,sL lm xs],o [D nb,sL lm ys]] (Ah v):=i (fn:=UN) Cz rfl 400 rfl [.r (L 1 ((Aa xs).length) (lm (Aa xs))),.r (L 1 ((Aa ys).length) (lm (Aa ys))),.b false,.r (F O c),.b false,.r (L 1 zs.length (lm zs)),.r (CD v)] (S n1 (S n2 (S c1 (S n3 (S c2 (S n4 (S n5 a0)))))))
theorem Apj(na nb:Bool)(xs ys:LI)(v w:Int)(n1:RQ 161 [o [D nb,sL lm ys]] (Ah w))(n2:RQ 95 [o [D na,sL lm xs],Ah w] (Ah v)):RQ 129 [o [D na,sL lm xs],o [D nb,sL lm ys]] (Ah v):=i (fn:=Vf) Cz rfl 400 rfl [.r (Ah w),.r (Ah v)] (S n1 (S n2 a0))
theorem Apk(neg:Bool)(xs:LI)(n1:RQ 99 [sL lm xs] (L 1 ((Aa xs).length) (lm (Aa xs)))):RQ 107 [o [D neg,sL lm xs]] (D (B ((((Aa xs).length:Nat):Int)>256))):=i (fn:=UQ) Cz rfl 400 rfl [.r (L 1 ((Aa xs).length) (lm (Aa xs)))] (S n1 a0)
theorem VU(neg:Bool)(xs:LI):rv neg (Aa xs)=rv neg xs:=by unfold rv;rw [Ek]
theorem OR{xs:LI}(h:AP xs):AP (Aa xs):=(F7 h).1
theorem Azu(na nb:Bool)(xs ys zs:LI)(h:Ab zs=Ab xs*Ab ys):rv (!(na==nb)) zs=rv na xs*rv nb ys:=by
 unfold rv;rw[h];generalize Ab xs=X;generalize Ab ys=Y;cases na <;> cases nb <;> simp <;> grind
theorem Of{na nb:Bool}{xs ys:LI}(hx:AP xs)(hy:AP ys)(hN:xs.length+ys.length<=1048576):RQ 96 [o [D na,sL lm xs],o [D nb,sL lm ys]] (Ah (rv na xs*rv nb ys)):=by
 have t1:=Bq xs;have t2:=Bq ys;obtain⟨zs,z1,z2,z3,z4⟩:=cW (OR hx) (OR hy) (by omega);have hk:=Gd (neg := !(na==nb)) z2 (by omega);rw[Azu na nb (Aa xs) (Aa ys) zs z3,VU,VU] at hk;exact Api na nb xs ys zs _ (DX (by omega)) (DX (by omega)) z4 hk
theorem Qa{na nb:Bool}{xs ys:LI}(hx:AP xs)(hy:AP ys)(h1:xs.length<1048576)(h2:ys.length<1048576):RQ 95 [o [D na,sL lm xs],o [D nb,sL lm ys]] (Ah (rv na xs+rv nb ys)):=by
 have t1:=Bq xs;have t2:=Bq ys;have c1:=F7 hx;have c2:=F7 hy;have m1:=DX (xs:=xs) (by omega);have m2:=DX (xs:=ys) (by omega);have hcmp:=Oa c1 c2 (by omega);by_cases hn:na=nb
 ·subst hn;obtain⟨zs,z1,z2,z3,z4⟩:=dA c1.1 c2.1 (by omega) (by omega);have hk:=Gd (neg:=na) z1 (by omega);have e:rv na zs=rv na xs+rv na ys:=by
   unfold rv;rw[z2,Ek,Ek];cases na <;> simp;omega
  rw[e] at hk;exact xM na na xs ys zs _ (by simp) m1 m2 z4 hk
 ·have hb:nb = !na:=by cases na <;> cases nb <;> simp at hn |-
  by_cases hc:CI (Ab (Aa xs)) (Ab (Aa ys))>=0
  ·have hle:Ab (Aa ys)<=Ab (Aa xs):=by unfold CI at hc;split at hc <;> (try split at hc) <;> omega
   have hlen:(Aa ys).length<=(Aa xs).length:=K9 c2 (Nm hle (DI c1.1));obtain⟨zs,z1,z2,z3,z4⟩:=Tn c1.1 c2.1 hlen hle (by omega);have hk:=Gd (neg:=na) z1 (by omega);have e:rv na zs=rv na xs+rv nb ys:=by
    unfold rv;rw[z2,Ek,Ek,hb];cases na <;> simp <;> omega
   rw[e] at hk;exact xN na nb xs ys zs _ _ (by rw[hb];cases na <;> rfl) (by simpa using hc) m1 m2 hcmp z4 hk
  ·have hle:Ab (Aa xs)<=Ab (Aa ys):=by unfold CI at hc;split at hc <;> (try split at hc) <;> omega
   have hlen:(Aa xs).length<=(Aa ys).length:=K9 c1 (Nm hle (DI c2.1));obtain⟨zs,z1,z2,z3,z4⟩:=Tn c2.1 c1.1 hlen hle (by omega);have hk:=Gd (neg:=nb) z1 (by omega);have e:rv nb zs=rv na xs+rv nb ys:=by
    unfold rv;rw[z2,Ek,Ek,hb];cases na <;> simp <;> omega
   rw[e] at hk;exact xO na nb xs ys zs _ _ (by rw[hb];cases na <;> rfl) (by simpa using hc) m1 m2 hcmp z4 hk
theorem To{na nb:Bool}{xs ys:LI}(hx:AP xs)(hy:AP ys)(h1:xs.length<1048576)(h2:ys.length<1048576):RQ 129 [o [D na,sL lm xs],o [D nb,sL lm ys]] (Ah (rv na xs-rv nb ys)):=by
 have hn:=Ss (neg:=nb) hy (by omega);have hl:(M (-(rv nb ys)).natAbs).length<1048576:=by rw[Int.natAbs_neg];exact Dt (EM hy) h2
 have h:=Qa (na:=na) (nb:=decide (-(rv nb ys)<0)) hx (BI (-(rv nb ys)).natAbs) h1 hl;rw[F8] at h;exact Apj na nb xs ys _ _ hn h
theorem Tp{neg:Bool}{xs:LI}(hN:xs.length<=1048576):RQ 107 [o [D neg,sL lm xs]] (D (B (256<(Aa xs).length))):=by
 have h:=Apk neg xs (DX (Be hN (by decide)));have e:decide ((((Aa xs).length:Nat):Int)>256)=decide (256<(Aa xs).length):=by rw[decide_eq_decide];omega
 rw[e] at h;exact h
def TBD:Cn:=TBC
theorem KC:Ca AY TBD:=Cz
theorem Apl{q c:Int}{s:Nat}(hq:0<=q)(hs:q*2^s<18446744073709551616)(hs':s<=64)(hc:0<=c/\c<2^s) :
  I U ((T (Am .u64) (q*2^s) ||| T (Am .u64) c).toNat)=q*2^s+c:=by
 obtain⟨a,rfl⟩:∃ a:Nat,q=a:=⟨q.toNat,by omega⟩;obtain⟨b,rfl⟩:∃ b:Nat,c=b:=⟨c.toNat,by omega⟩;have e1:(a:Int)*2^s=((a*2^s:Nat):Int):=by rw[CQ,C6];rfl
 have hb:b<2^s:=by
  have:(b:Int)<((2^s:Nat):Int):=by rw[C6];exact hc.2
  omega
 have h64:2^s<=2^64:=BF (by decide) hs';have e64:2^64=18446744073709551616:=by decide
 rw[e1] at hs |-;show I U ((T 64 ((a*2^s:Nat):Int) ||| T 64 (b:Int)).toNat:Int)=_;rw[iT,Kl,Kl,IZ,IZ,F3 (by omega),F3 (by omega),CS a,<- Awg hb,CS (2^s) a,B6];have hsum:a*2^s+b<18446744073709551616:=by
  have hd:a*2^s+2^s<=2^64:=by
   have hk:2^64=2^(64-s)*2^s:=by rw[<- De];congr 1;omega
   have h1:a<2^(64-s):=by
    rcases Cp a (2^(64-s)) with g | g
    ·exact g
    ·have:=AF (2^s) g;omega
   have h2:=AF (2^s) (show a+1<=2^(64-s) by omega);rw[D',Fk] at h2;omega
  omega
 omega
theorem BE(n:Nat):(0:Int)<2^n:=Ez (by decide)
theorem G5{a b:Nat}(h:a<=b):(2:Int)^a<=2^b:=by
 have h1:2^a<=2^b:=BF (by decide) h;have e:∀ n:Nat,(2:Int)^n=((2^n:Nat):Int):=fun n=>by rw[C6];rfl
 rw[e,e];omega
theorem MR(n:Nat):(4294967296:Int)^n=2^(32*n):=by
 rw[iV];rfl
theorem HV(n:Nat):(2:Int)^n=4294967296^(n / 32)*2^(n % 32):=by
 rw[MR,<- BB,iS]
def Tq(neg:Bool)(xs:LI)(n:Nat)(cs:List AV)(c:Int)(s:Int)(ms:LI)(i:Int):Al:=(Y 2 (g [D neg,sL lm xs]::(Y 1 (g [D false,H 0 []]::(X 1 n cs::(C (F Ac c)::(C (F U s)::(C (sL lm ms)::(C (F O i)::(Y 41 []))))))))))
theorem Azv(neg:Bool)(xs:LI)(n:Nat)(cs:List AV)(c:Int)(s:Int)(ms:LI)(i:Int)(c1:B (i<(ms.length:Int))=true)(n1:0<=i/\i<(ms.length:Int))(n2:¬ s<0)(n3:n+1<=35184372088832):Ar cB (Tq neg xs n cs c s ms i) .norm (Tq neg xs (n+1) (cs++([F Ac (I Ac (I U ((T (Am .u64) (I U ((I U (ms.getD (A i) 0))*2^(min (A s) (Am .u64)))) ||| T (Am .u64) (I U c)).toNat)))]:List AV)) (I Ac (d (I U ((T (Am .u64) (I U ((I U (ms.getD (A i) 0))*2^(min (A s) (Am .u64)))) ||| T (Am .u64) (I U c)).toNat)) (2^(min (A 32) (Am .u64))))) s ms (I O (i+1))):=(G KC 400 [.b true,.v (F Ac (ms.getD (A i) 0))] [2,4,5,6,7,8,9] (S c1 (S n1 (S (y n1) (S n2 (S (show Bh ([F Ac (I Ac (I U ((T (Am .u64) (I U ((I U (ms.getD (A i) 0))*2^(min (A s) (Am .u64)))) ||| T (Am .u64) (I U c)).toNat)))]:List AV)=1*1 from rfl) (S n3 (S Ie a0))))))))
theorem Azw(neg:Bool)(xs:LI)(n:Nat)(cs:List AV)(c:Int)(s:Int)(ms:LI)(i:Int)(c1:B (i<(ms.length:Int))=false):Ar cB (Tq neg xs n cs c s ms i) (.exit 0) (Tq neg xs n cs c s ms i):=(G KC 400 [.b false] [2,4,5,6,7,8,9] (S c1 a0))
theorem Azx(neg:Bool)(xs:LI)(sh:Int)(n:Nat)(cs:List AV)(c i v:Int)(n1:0<=(I O (Aw sh 32))/\(I O (Aw sh 32))<=1048576)(n2:RQ 99 [sL lm xs] (L 1 ((Aa xs).length) (lm (Aa xs))))(hl3:Ar (.loop cB) (Tq neg xs (A (I O (Aw sh 32))) (Cu [F Ac 0] (A (I O (Aw sh 32)))) 0 (I U (AD sh 32)) (Aa xs) 0) (.exit 0) (Tq neg xs n cs c (I U (AD sh 32)) (Aa xs) i))(n4:n+1<=35184372088832)(n5:RQ 98 [D neg,H (n+1) (cs++([F Ac c]:List AV))] (CD v)):RQ 84 [o [D neg,sL lm xs],F O sh] (CD v):=A8 cC (Y 4 (.bxl 50::(Y 45 (.agn (.st (B (v<0))) 1 ((M (E v)).length) (lm (M (E v)))::[])))) (W (W (W (W (q (Cv.seq (G KC 400 [.r (L 1 ((Aa xs).length) (lm (Aa xs)))] [2,4,5,6,7,8,9] (S FP (S n1 (S FP (S n2 a0))))) (Cv.seq (Cv.block hl3) (G KC 400 [.r (CD v)] [4,50] (S (show Bh ([F Ac c]:List AV)=1*1 from rfl) (S n4 (S n5 a0)))))))))))
theorem dB{x c:Int}{s:Nat}(hx:0<=x/\x<4294967296)(hs:s<32)(hc:0<=c/\c<2^s) :
  I U ((T (Am .u64) (I U ((I U x)*2^(min (A (s:Int)) (Am .u64)))) ||| T (Am .u64) (I U c)).toNat)=x*2^s+c
  /\ 0<=(x*2^s+c) / 4294967296/\(x*2^s+c) / 4294967296<2^s/\(2:Int)^s<=2147483648:=by
 have hp:=BE s;have hp2:(2:Int)^s<=2147483648:=G5 (show s<=31 by omega);have hm:x*2^s<=4294967295*2^s:=Ae (by omega) (by omega);have hm0:0<=x*2^s:=A6 hx.1 (by omega);have hmin:min (A (s:Int)) (Am .u64)=s:=by
  rw[R];show min s 64=s;omega
 have w1:I U x=x:=by rw[B6];omega
 have w2:I U (x*2^s)=x*2^s:=by rw[B6];omega
 have w3:I U c=c:=by rw[B6];omega
 refine⟨?_,by omega,by omega,hp2⟩;rw[hmin,w1,w2,w3];exact Apl hx.1 (by omega) (by omega) hc
theorem Apm{neg:Bool}{xs ms pre:LI}(hu:AP ms){s:Nat}(hs:s<32)(hN:pre.length+ms.length<=1048576):∀ (r i:Nat) (acc:LI) (c:Int),i+r=ms.length->acc.length=i->AP acc->0<=c/\c<2^s ->
  ∃ (zs:LI) (c':Int),AP zs/\zs.length=ms.length/\(0<=c'/\c'<2^s)/\Ab zs+4294967296^ms.length*c'=Ab acc+4294967296^i*(c+2^s*Ab (ms.drop i)) /\
   Ar (.loop cB) (Tq neg xs (pre.length+i) (lm (pre++acc)) c (s:Nat) ms (i:Nat)) (.exit 0) (Tq neg xs (pre.length+ms.length) (lm (pre++zs)) c' (s:Nat) ms (ms.length:Nat)):=by
 intro r;induction r with
 | zero =>
  intro i acc c hi hl hacc hc;have e1:Ab (ms.drop i)=0:=DQ (by omega);have hi':i=ms.length:=by omega
  refine⟨acc,c,hacc,by omega,hc,by rw[e1,hi'];simp,?_⟩;rw[hi'];exact Ao (Azw neg xs _ _ c (s:Nat) ms (ms.length:Nat) (by simp)) (by nofun)
 | succ r ih =>
  intro i acc c hi hl hacc hc;have bm:=AG hu i;obtain⟨w1,w2,w3,w4⟩:=dB bm hs hc;have ei:I O ((i:Int)+1)=((i+1:Nat):Int):=by rw[Bl (by omega) (by omega)];omega
  have k:=Azv neg xs (pre.length+i) (lm (pre++acc)) c (s:Nat) ms (i:Nat) (by simp;omega) (by omega) (by omega) (by omega);have wd:I Ac ((ms.getD i 0*2^s+c) / 4294967296)=(ms.getD i 0*2^s+c) / 4294967296:=by rw[DW];omega
  simp only[R i,w1,cZ,wd,DW (ms.getD i 0*2^s+c),ei,H8,JQ] at k;obtain⟨zs,c',q1,q2,q3,q4,q5⟩:=ih (i+1) (acc++[(ms.getD i 0*2^s+c) % 4294967296]) ((ms.getD i 0*2^s+c) / 4294967296) (by omega) (by simp[hl]) (Mk hacc (by omega)) ⟨w2,w3⟩;refine⟨zs,c',q1,q2,q3,?_,Cv.loop k q5⟩;rw[q4,KB,hl,C5 ms i,A2];have hd:=SN (ms.getD i 0*2^s+c) 4294967296;generalize (ms.getD i 0*2^s+c) % 4294967296=m at *
  generalize (ms.getD i 0*2^s+c) / 4294967296=d at *
  generalize (4294967296:Int)^i=p at *
  generalize Ab (ms.drop (i+1))=X at *
  generalize (2:Int)^s=T at *
  generalize ms.getD i 0=y at *
  have:c+T*(y+4294967296*X)=m+4294967296*(d+T*X):=by
   have:c+T*(y+4294967296*X)=(y*T+c)+4294967296*(T*X):=by grind
   omega
  rw[this];grind
theorem Yi{neg:Bool}{xs ys:LI}{t:Int}(h:Ab ys=t*Ab xs):rv neg ys=rv neg xs*t:=by
 unfold rv;rw[h];generalize Ab xs=X;cases neg <;> simp <;> grind
theorem QZ{neg:Bool}{xs:LI}(hu:AP xs)(n:Nat)(hN:n / 32+xs.length+1<=1048576):RQ 84 [o [D neg,sL lm xs],F O (n:Nat)] (CD (rv neg xs*2^n)):=by
 have t1:=Bq xs;have e1:I O (Aw (n:Int) 32)=((n / 32:Nat):Int):=by
  rw[B8 (by omega),Bl (by omega) (by omega)];omega
 have e2:I U (AD (n:Int) 32)=((n % 32:Nat):Int):=by
  rw[Bs (by omega),B6];omega
 obtain⟨zs,c',q1,q2,q3,q4,q5⟩:=Apm (neg:=neg) (xs:=xs) (pre:=Av (n / 32) 0) (OR hu) (s:=n % 32) (by omega) (by simp;omega) (Aa xs).length 0 [] 0 (by omega) rfl (fun x hx=>by cases hx) ⟨by omega,BE _⟩;have w4:(2:Int)^(n % 32)<=2147483648:=G5 (show n % 32<=31 by omega);simp only[Fs,L5,FR,Ab,CE,Fe,Do,DK] at q4 q5;have huz:AP (Av (n / 32) 0++zs++[c']):=by
  refine Mk ?_ (by omega);intro x hx;rcases BV.1 hx with g | g
  ·exact ES _ x g
  ·exact q1 x g
 have hlen:(Av (n / 32) 0++zs++[c']).length=n / 32+(Aa xs).length+1:=by simp[q2];omega
 have hk:=Gd (neg:=neg) huz (by omega);have hval:Ab (Av (n / 32) 0++zs++[c'])=2^n*Ab xs:=by
  rw[KB,Gu,EG,HV n,AX,Fs,BB,q2];rw[Ek] at q4;generalize (4294967296:Int)^(n / 32)=p at *
  generalize (4294967296:Int)^(Aa xs).length=q at *
  generalize (2:Int)^(n % 32)=T at *
  generalize Ab xs=X at *
  generalize Ab zs=Z at *
  grind
 rw[Yi hval] at hk;unfold sL at hk;rw[hlen] at hk;refine Azx neg xs (n:Nat) (n / 32+(Aa xs).length) (lm (Av (n / 32) 0++zs)) c' ((Aa xs).length:Nat) _ (by rw[e1];omega) (DX (by omega)) (by rw[e1,e2,R,Fc];exact q5) (by omega) (by rw[H8];exact hk)
def TBE:Cn:=TBD
theorem f:Ca AY TBE:=KC
def TQ0:Cn:=[]
theorem Cl:Ca AY TQ0:=Ca.nil _
def JE(neg:Bool)(N:Nat)(cs:List AV)(n:Int):Al:=(Y 1 (g [D neg,H N cs]::(C (D false)::(X 1 0 []::(C (F O n)::(Y 26 []))))))
theorem Apn(neg:Bool)(N:Nat)(cs:List AV)(n:Int)(x:Int)(c1:B (n>0)=true)(c2:(x==0)=true)(n1:0<=(I O (n-1))/\(I O (n-1))<(N:Int))(n2:Bn (p (A (I O (n-1))*1) cs) 0 1 true=some (F Ac x)):Ar PO (JE neg N cs n) .norm (JE neg N cs (I O (n-1))):=G Cl 300 [.b true,.v (F Ac x),.b true] [1,2,3,4] (S c1 (S n1 (S n2 (S c2 a0)))) (by kernel_rfl)
theorem Apo(neg:Bool)(N:Nat)(cs:List AV)(n:Int)(x:Int)(c1:B (n>0)=true)(c2:(x==0)=false)(n1:0<=(I O (n-1))/\(I O (n-1))<(N:Int))(n2:Bn (p (A (I O (n-1))*1) cs) 0 1 true=some (F Ac x)):Ar PO (JE neg N cs n) (.exit 0) (JE neg N cs n):=G Cl 300 [.b true,.v (F Ac x),.b false] [1,2,3,4] (S c1 (S n1 (S n2 (S c2 a0)))) (by kernel_rfl)
theorem App(neg:Bool)(N:Nat)(cs:List AV)(n:Int)(c1:B (n>0)=false):Ar PO (JE neg N cs n) (.exit 0) (JE neg N cs n):=G Cl 300 [.b false,.b false] [1,2,3,4] (S c1 (S EI a0)) (by kernel_rfl)
theorem Yj(neg:Bool)(xs:LI)(hN:xs.length<=1048576):∀ m,m<=xs.length->Ar (.loop PO) (JE neg xs.length (lm xs) (m:Int)) (.exit 0) (JE neg xs.length (lm xs) ((l xs m:Nat):Int)):=by
 intro m;induction m with
 | zero =>
  intro _;exact Ao (App neg xs.length (lm xs) ((0:Nat):Int) (by simp)) (by nofun)
 | succ m ih =>
  intro hm;have e1:I O (((m+1:Nat):Int)-1)=(m:Int):=by rw[Bl (by omega) (by omega)];omega
  have hx:=Ed (xs:=xs) (i:=m) (by omega);simp only[l];by_cases h0:xs.getD m 0=0
  ·rw[if_pos h0];have h1:=Apn neg xs.length (lm xs) ((m+1:Nat):Int) (xs.getD m 0) (by simp) (by rw[h0];rfl) (by rw[e1];omega) (by rw[e1,R];exact hx);rw[e1] at h1;exact Cv.loop h1 (ih (by omega))
  ·rw[if_neg h0];exact Ao (Apo neg xs.length (lm xs) ((m+1:Nat):Int) (xs.getD m 0) (by simp) (by simpa using h0) (by rw[e1];omega) (by rw[e1,R];exact hx)) (by nofun)
theorem Xe(xs:LI)(hl:Ar (.loop PO) (JE true xs.length (lm xs) (xs.length:Int)) (.exit 0) (JE true xs.length (lm xs) ((l xs xs.length:Nat):Int)))(hsc:0<=(A ((l xs xs.length:Nat):Int))/\(A ((l xs xs.length:Nat):Int))<=xs.length/\xs.length<=xs.length/\(false=true->true=true)):RQ 143 [o [D true,sL lm xs]] (Ax [D (B (((l xs xs.length:Nat):Int)>0)),H ((A ((l xs xs.length:Nat):Int))-0) (B3 (((A ((l xs xs.length:Nat):Int))-0)*1) (p (0*1) (lm xs)))]):=A8 RX (Y 1 (g [D true,sL lm xs]::(C (D (B (((l xs xs.length:Nat):Int)>0)))::(C (H ((A ((l xs xs.length:Nat):Int))-0) (B3 (((A ((l xs xs.length:Nat):Int))-0)*1) (p (0*1) (lm xs))))::(C (F O ((l xs xs.length:Nat):Int))::(Y 16 (.ptr 1 0::(C (D true)::(C (D true)::(C (F O ((l xs xs.length:Nat):Int))::(C (D (B (((l xs xs.length:Nat):Int)>0)))::(C (D (B (((l xs xs.length:Nat):Int)>0)))::(.ptr 1 1::(C (sL lm xs)::(C (F O ((l xs xs.length:Nat):Int))::(C (H ((A ((l xs xs.length:Nat):Int))-0) (B3 (((A ((l xs xs.length:Nat):Int))-0)*1) (p (0*1) (lm xs))))::[])))))))))))))))) (Cv.seq (G (t:=(C (o [D true,sL lm xs])::(g [D true,sL lm xs]::(C (D false)::(X 1 0 []::(Y 27 [])))))) Cl 300 [] [0,1,2,3] a0) (Cv.seq (G (t:=(Y 1 (g [D true,sL lm xs]::(C (D false)::(X 1 0 []::(vi (xs.length:Int)::(Y 26 []))))))) Cl 300 [] [1,2,3,4] a0) (Cv.seq (Cv.block hl) (G (t:=(Y 1 (g [D true,sL lm xs]::(C (D (B (((l xs xs.length:Nat):Int)>0)))::(C (H ((A ((l xs xs.length:Nat):Int))-0) (B3 (((A ((l xs xs.length:Nat):Int))-0)*1) (p (0*1) (lm xs))))::(vi ((l xs xs.length:Nat):Int)::(Y 16 (.ptr 1 0::(C (D true)::(C (D true)::(vi ((l xs xs.length:Nat):Int)::(C (D (B (((l xs xs.length:Nat):Int)>0)))::(C (D (B (((l xs xs.length:Nat):Int)>0)))::(.ptr 1 1::(vl xs::(vi ((l xs xs.length:Nat):Int)::(C (H ((A ((l xs xs.length:Nat):Int))-0) (B3 (((A ((l xs xs.length:Nat):Int))-0)*1) (p (0*1) (lm xs))))::[]))))))))))))))))) (ex := .ret) Cl 300 [.b true] [1,2,3,4,21,22,23,24,25,26,27,28,29,30] (S Ip (S (show 0<=((l xs xs.length:Nat):Int) from (G3 _)) (S (show 0<=(A ((l xs xs.length:Nat):Int))/\(A ((l xs xs.length:Nat):Int))<=xs.length/\xs.length<=xs.length/\(false=true->true=true) from hsc) a0)))))))
theorem VV(xs:LI)(hl:Ar (.loop PO) (JE false xs.length (lm xs) (xs.length:Int)) (.exit 0) (JE false xs.length (lm xs) ((l xs xs.length:Nat):Int)))(hsc:0<=(A ((l xs xs.length:Nat):Int))/\(A ((l xs xs.length:Nat):Int))<=xs.length/\xs.length<=xs.length/\(false=true->true=true)):RQ 143 [o [D false,sL lm xs]] (Ax [D false,H ((A ((l xs xs.length:Nat):Int))-0) (B3 (((A ((l xs xs.length:Nat):Int))-0)*1) (p (0*1) (lm xs)))]):=A8 RX (Y 1 (g [D false,sL lm xs]::(C (D false)::(C (H ((A ((l xs xs.length:Nat):Int))-0) (B3 (((A ((l xs xs.length:Nat):Int))-0)*1) (p (0*1) (lm xs))))::(C (F O ((l xs xs.length:Nat):Int))::(Y 16 (.ptr 1 0::(C (D false)::(C (D false)::(C (.undef)::(C (.undef)::(C (D false)::(.ptr 1 1::(C (sL lm xs)::(C (F O ((l xs xs.length:Nat):Int))::(C (H ((A ((l xs xs.length:Nat):Int))-0) (B3 (((A ((l xs xs.length:Nat):Int))-0)*1) (p (0*1) (lm xs))))::[])))))))))))))))) (Cv.seq (G (t:=(C (o [D false,sL lm xs])::(g [D false,sL lm xs]::(C (D false)::(X 1 0 []::(Y 27 [])))))) Cl 300 [] [0,1,2,3] a0) (Cv.seq (G (t:=(Y 1 (g [D false,sL lm xs]::(C (D false)::(X 1 0 []::(vi (xs.length:Int)::(Y 26 []))))))) Cl 300 [] [1,2,3,4] a0) (Cv.seq (Cv.block hl) (G (t:=(Y 1 (g [D false,sL lm xs]::(C (D false)::(C (H ((A ((l xs xs.length:Nat):Int))-0) (B3 (((A ((l xs xs.length:Nat):Int))-0)*1) (p (0*1) (lm xs))))::(vi ((l xs xs.length:Nat):Int)::(Y 16 (.ptr 1 0::(C (D false)::(C (D false)::(C (.undef)::(C (.undef)::(C (D false)::(.ptr 1 1::(vl xs::(vi ((l xs xs.length:Nat):Int)::(C (H ((A ((l xs xs.length:Nat):Int))-0) (B3 (((A ((l xs xs.length:Nat):Int))-0)*1) (p (0*1) (lm xs))))::[]))))))))))))))))) (ex := .ret) Cl 300 [.b false] [1,2,3,4,21,22,23,24,25,26,27,28,29,30] (S EI (S (show 0<=((l xs xs.length:Nat):Int) from (G3 _)) (S (show 0<=(A ((l xs xs.length:Nat):Int))/\(A ((l xs xs.length:Nat):Int))<=xs.length/\xs.length<=xs.length/\(false=true->true=true) from hsc) a0)))))))
theorem dC(xs:LI):(A ((l xs xs.length:Nat):Int)-0)=(Aa xs).length/\(B3 ((A ((l xs xs.length:Nat):Int)-0)*1) (p (0*1) (lm xs)))=lm (Aa xs)/\(0<=(A ((l xs xs.length:Nat):Int))/\(A ((l xs xs.length:Nat):Int))<=xs.length/\xs.length<=xs.length/\(false=true->true=true)):=by
 have hle:=GR xs xs.length;rw[R];refine⟨by simp[Aa];omega,by simp[lm,Aa,RI],by omega,hle,Ap _,fun h=>by cases h⟩
theorem Dp{neg:Bool}{xs:LI}(hu:AP xs)(hN:xs.length<=1048576):RQ 143 [o [D neg,sL lm xs]]
  (Ax [D (B (rv neg xs<0)),H (M (rv neg xs).natAbs).length (lm (M (rv neg xs).natAbs))]):=by
 obtain⟨e1,e2,e3⟩:=dC xs;have ht:=Mf (neg:=neg) hu;have hn:=sA (neg:=neg) hu;have hlen:(Aa xs).length=l xs xs.length:=by rw[<- e1,R];rfl
 cases neg with
 | true =>
  have h:=Xe xs (Yj true xs hN xs.length (Ap _)) e3;rw[e2,e1,ht] at h;have e4:decide (((l xs xs.length:Nat):Int)>0)=decide (rv true xs<0):=by
   rw[<- hn,OC,<- ht,hlen,decide_eq_decide];omega
  rw[e4] at h;exact h
 | false =>
  have h:=VV xs (Yj false xs hN xs.length (Ap _)) e3;rw[e2,e1,ht] at h;rw[I8] at hn;rw[<- hn];exact h
def JF(neg:Bool)(N:Nat)(cs:List AV)(n:Int):Al:=(C (D neg)::(C (H N cs)::(Y 2 (g [D false,H 0 []]::(C (F O n)::(Y 23 []))))))
theorem Apq(neg:Bool)(N:Nat)(cs:List AV)(n:Int)(x:Int)(c1:B (n>0)=true)(c2:(x==0)=true)(n1:0<=(I O (n-1))/\(I O (n-1))<(N:Int))(n2:Bn (p (A (I O (n-1))*1) cs) 0 1 true=some (F Ac x)):Ar PQ (JF neg N cs n) .norm (JF neg N cs (I O (n-1))):=G Cl 300 [.b true,.v (F Ac x),.b true] [0,1,4,5] (S c1 (S n1 (S n2 (S c2 a0)))) (by kernel_rfl)
theorem Apr(neg:Bool)(N:Nat)(cs:List AV)(n:Int)(x:Int)(c1:B (n>0)=true)(c2:(x==0)=false)(n1:0<=(I O (n-1))/\(I O (n-1))<(N:Int))(n2:Bn (p (A (I O (n-1))*1) cs) 0 1 true=some (F Ac x)):Ar PQ (JF neg N cs n) (.exit 0) (JF neg N cs n):=G Cl 300 [.b true,.v (F Ac x),.b false] [0,1,4,5] (S c1 (S n1 (S n2 (S c2 a0)))) (by kernel_rfl)
theorem Aps(neg:Bool)(N:Nat)(cs:List AV)(n:Int)(c1:B (n>0)=false):Ar PQ (JF neg N cs n) (.exit 0) (JF neg N cs n):=G Cl 300 [.b false,.b false] [0,1,4,5] (S c1 (S EI a0)) (by kernel_rfl)
theorem xP(neg:Bool)(xs:LI)(hN:xs.length<=1048576):∀ m,m<=xs.length->Ar (.loop PQ) (JF neg xs.length (lm xs) (m:Int)) (.exit 0) (JF neg xs.length (lm xs) ((l xs m:Nat):Int)):=by
 intro m;induction m with
 | zero =>
  intro _;exact Ao (Aps neg xs.length (lm xs) ((0:Nat):Int) (by simp)) (by nofun)
 | succ m ih =>
  intro hm;have e1:I O (((m+1:Nat):Int)-1)=(m:Int):=by rw[Bl (by omega) (by omega)];omega
  have hx:=Ed (xs:=xs) (i:=m) (by omega);simp only[l];by_cases h0:xs.getD m 0=0
  ·rw[if_pos h0];have h1:=Apq neg xs.length (lm xs) ((m+1:Nat):Int) (xs.getD m 0) (by simp) (by rw[h0];rfl) (by rw[e1];omega) (by rw[e1,R];exact hx);rw[e1] at h1;exact Cv.loop h1 (ih (by omega))
  ·rw[if_neg h0];exact Ao (Apr neg xs.length (lm xs) ((m+1:Nat):Int) (xs.getD m 0) (by simp) (by simpa using h0) (by rw[e1];omega) (by rw[e1,R];exact hx)) (by nofun)
theorem kP(neg:Bool)(xs:LI)(hz:(((l xs xs.length:Nat):Int)==0)=true)(hl:Ar (.loop PQ) (JF neg xs.length (lm xs) (xs.length:Int)) (.exit 0) (JF neg xs.length (lm xs) ((l xs xs.length:Nat):Int))):RQ 152 [D neg,sL lm xs] (o [D false,H 0 []]):=A8 Sg (C (D neg)::(C (sL lm xs)::(Y 2 (g [D false,H 0 []]::(C (F O ((l xs xs.length:Nat):Int))::(Y 14 (C (F O ((l xs xs.length:Nat):Int))::(C (D (((l xs xs.length:Nat):Int)==0))::(C (o [D false,H 0 []])::(Y 6 [])))))))))) (Cv.seq (G (t:=(C (D neg)::(vl xs::(Y 2 (g [D false,H 0 []]::(Y 24 [])))))) Cl 300 [] [0,1,4] a0) (Cv.seq (G (t:=(C (D neg)::(vl xs::(Y 2 (g [D false,H 0 []]::(vi (xs.length:Int)::(Y 23 []))))))) Cl 300 [] [0,1,4,5] a0) (Cv.seq (Cv.block hl) (G (t:=(C (D neg)::(vl xs::(Y 2 (g [D false,H 0 []]::(vi ((l xs xs.length:Nat):Int)::(Y 14 (vi ((l xs xs.length:Nat):Int)::(C (D (((l xs xs.length:Nat):Int)==0))::(C (o [D false,H 0 []])::(Y 6 []))))))))))) (ex := .ret) Cl 300 [.b true] [0,1,4,5,20,21,22] (S (show (((l xs xs.length:Nat):Int)==0)=true from hz) a0)))))
theorem kQ(neg:Bool)(xs:LI)(hz:(((l xs xs.length:Nat):Int)==0)=false)(hl:Ar (.loop PQ) (JF neg xs.length (lm xs) (xs.length:Int)) (.exit 0) (JF neg xs.length (lm xs) ((l xs xs.length:Nat):Int)))(hsc:0<=(A ((l xs xs.length:Nat):Int))/\(A ((l xs xs.length:Nat):Int))<=(A ((l xs xs.length:Nat):Int))/\(A ((l xs xs.length:Nat):Int))<=xs.length/\(true=true->true=true)):RQ 152 [D neg,sL lm xs] (o [D neg,H ((A ((l xs xs.length:Nat):Int))-0) (B3 (((A ((l xs xs.length:Nat):Int))-0)*1) (p (0*1) (lm xs)))]):=A8 Sg (C (D neg)::(C (sL lm xs)::(Y 2 (g [D neg,H ((A ((l xs xs.length:Nat):Int))-0) (B3 (((A ((l xs xs.length:Nat):Int))-0)*1) (p (0*1) (lm xs)))]::(C (F O ((l xs xs.length:Nat):Int))::(Y 14 (C (F O ((l xs xs.length:Nat):Int))::(C (D (((l xs xs.length:Nat):Int)==0))::(Y 1 (C (D neg)::(C (sL lm xs)::(C (F O ((l xs xs.length:Nat):Int))::(C (F O ((l xs xs.length:Nat):Int))::(C (H ((A ((l xs xs.length:Nat):Int))-0) (B3 (((A ((l xs xs.length:Nat):Int))-0)*1) (p (0*1) (lm xs))))::(C (o [D neg,H ((A ((l xs xs.length:Nat):Int))-0) (B3 (((A ((l xs xs.length:Nat):Int))-0)*1) (p (0*1) (lm xs)))])::[]))))))))))))))) (Cv.seq (G (t:=(C (D neg)::(vl xs::(Y 2 (g [D false,H 0 []]::(Y 24 [])))))) Cl 300 [] [0,1,4] a0) (Cv.seq (G (t:=(C (D neg)::(vl xs::(Y 2 (g [D false,H 0 []]::(vi (xs.length:Int)::(Y 23 []))))))) Cl 300 [] [0,1,4,5] a0) (Cv.seq (Cv.block hl) (G (t:=(C (D neg)::(vl xs::(Y 2 (g [D neg,H ((A ((l xs xs.length:Nat):Int))-0) (B3 (((A ((l xs xs.length:Nat):Int))-0)*1) (p (0*1) (lm xs)))]::(vi ((l xs xs.length:Nat):Int)::(Y 14 (vi ((l xs xs.length:Nat):Int)::(C (D (((l xs xs.length:Nat):Int)==0))::(Y 1 (C (D neg)::(vl xs::(vi ((l xs xs.length:Nat):Int)::(vi ((l xs xs.length:Nat):Int)::(C (H ((A ((l xs xs.length:Nat):Int))-0) (B3 (((A ((l xs xs.length:Nat):Int))-0)*1) (p (0*1) (lm xs))))::(C (o [D neg,H ((A ((l xs xs.length:Nat):Int))-0) (B3 (((A ((l xs xs.length:Nat):Int))-0)*1) (p (0*1) (lm xs)))])::[])))))))))))))))) (ex := .ret) Cl 300 [.b false] [0,1,4,5,20,21,23,24,25,26,27,28] (S (show (((l xs xs.length:Nat):Int)==0)=false from hz) (S (show 0<=((l xs xs.length:Nat):Int) from (G3 _)) (S (show 0<=((l xs xs.length:Nat):Int) from (G3 _)) (S (show 0<=(A ((l xs xs.length:Nat):Int))/\(A ((l xs xs.length:Nat):Int))<=(A ((l xs xs.length:Nat):Int))/\(A ((l xs xs.length:Nat):Int))<=xs.length/\(true=true->true=true) from hsc) a0))))))))
theorem EO{neg:Bool}{xs:LI}(hu:AP xs)(hN:xs.length<=1048576):RQ 152 [D neg,sL lm xs] (Ah (rv neg xs)):=by
 obtain⟨e1,e2,e3⟩:=dC xs;have ht:=Mf (neg:=neg) hu;have hn:=sA (neg:=neg) hu;have hlen:(Aa xs).length=l xs xs.length:=by rw[<- e1,R];rfl
 have hl:=xP neg xs hN xs.length (Ap _);by_cases h0:l xs xs.length=0
 ·have h:=kP neg xs (by rw[h0];rfl) hl;have hz:(M (rv neg xs).natAbs).length=0:=by rw[<- ht,hlen,h0]
  have hv:rv neg xs=0:=by have:=(Dg _).1 hz;omega
  rw[hv];exact h
 ·have h:=kQ neg xs (by rw[beq_eq_false_iff_ne];omega) hl ⟨e3.1,Ap _,e3.2.1,fun _=>rfl⟩;rw[e2,e1,ht] at h;have hp:decide (0<(M (rv neg xs).natAbs).length)=true:=by rw[<- ht,hlen];simp;omega
  rw[hp,KO] at hn;rw[Ah,<- hn];exact h
theorem kR(n:Int)(c1:decide (n<0)=true)(hcall:RQ 152 [D (B (n<0)),H 2 [F Ac (I Ac (I U (0-(I U n)))),F Ac (I Ac (d (I U (0-(I U n))) (2^(min (A 32) (Am .u64)))))]] (o [D (B (n<0)),H ((M (E n)).length) (lm (M (E n)))])):RQ 132 [F O n] (o [D (B (n<0)),H ((M (E n)).length) (lm (M (E n)))]):=Bx (ps:=[(B (n<0))=true,¬ (32:Int)<0,RQ 152 [D (B (n<0)),H 2 [F Ac (I Ac (I U (0-(I U n)))),F Ac (I Ac (d (I U (0-(I U n))) (2^(min (A 32) (Am .u64)))))]] (o [D (B (n<0)),H ((M (E n)).length) (lm (M (E n)))])]) Cl rfl 300 rfl [.b true,.r (o [D (B (n<0)),H ((M (E n)).length) (lm (M (E n)))])] (by kernel_rfl) ⟨c1,(by decide),hcall,trivial⟩
theorem kS(n:Int)(c1:decide (n<0)=false)(hcall:RQ 152 [D (B (n<0)),H 2 [F Ac (I Ac (I U n)),F Ac (I Ac (d (I U n) (2^(min (A 32) (Am .u64)))))]] (o [D (B (n<0)),H ((M (E n)).length) (lm (M (E n)))])):RQ 132 [F O n] (o [D (B (n<0)),H ((M (E n)).length) (lm (M (E n)))]):=Bx (ps:=[(B (n<0))=false,¬ (32:Int)<0,RQ 152 [D (B (n<0)),H 2 [F Ac (I Ac (I U n)),F Ac (I Ac (d (I U n) (2^(min (A 32) (Am .u64)))))]] (o [D (B (n<0)),H ((M (E n)).length) (lm (M (E n)))])]) Cl rfl 300 rfl [.b false,.r (o [D (B (n<0)),H ((M (E n)).length) (lm (M (E n)))])] (by kernel_rfl) ⟨c1,(by decide),hcall,trivial⟩
theorem Apt{n:Int}(hn : -9223372036854775808<=n/\n<=9223372036854775807):RQ 132 [F O n] (Ah n):=by
 cases c1:decide (n<0) with
 | true =>
  have h0:n<0:=by simpa using c1
  have eu:(I U (0-I U n)) = -n:=by rw[B6,B6];omega
  obtain⟨k1,k2⟩:=Mg (u:=(I U (0-I U n))) (by rw[eu];omega);refine kR n c1 ?_;have:=EO (neg:=true) k1 (by simp);have e:rv true [I Ac (I U (0-I U n)),I Ac (d (I U (0-I U n)) (2^(min (A 32) (Am .u64))))]=n:=by
   unfold rv;rw[k2,if_pos rfl,eu];omega
  rw[e,Ah,c1] at this;rw[c1];exact this
 | false =>
  have h0:¬ n<0:=by simpa using c1
  have eu:I U n=n:=by rw[B6];omega
  obtain⟨k1,k2⟩:=Mg (u:=I U n) (by rw[eu];omega);refine kS n c1 ?_;have:=EO (neg:=false) k1 (by simp);have e:rv false [I Ac (I U n),I Ac (d (I U n) (2^(min (A 32) (Am .u64))))]=n:=by
   unfold rv;rw[if_neg (by decide),k2,eu]
  rw[e,Ah,c1] at this;rw[c1];exact this
theorem Apu(neg:Bool)(xs:LI)(a r:Int)(h1:RQ 143 [o [D neg,sL lm xs]] (Ax [D (B (a<0)),H ((M (E a)).length) (lm (M (E a)))]))(h2:RQ 152 [D (B (a<0)),H (M (E a)).length (lm (M (E a)))] (o [D (B (r<0)),H ((M (E r)).length) (lm (M (E r)))]))(hal:Bh (lm (M (E a)))=(M (E a)).length*1)(han:(M (E a)).length<=1048576):RQ 113 [o [D neg,sL lm xs]] (o [D (B (r<0)),H ((M (E r)).length) (lm (M (E r)))]):=Bx (ps:=[RQ 143 [o [D neg,sL lm xs]] (Ax [D (B (a<0)),H ((M (E a)).length) (lm (M (E a)))]),Bh (lm (M (E a)))=((M (E a)).length)*1,((M (E a)).length)<=35184372088832,RQ 152 [D (B (a<0)),H ((M (E a)).length) (lm (M (E a)))] (o [D (B (r<0)),H ((M (E r)).length) (lm (M (E r)))])]) Cl rfl 300 rfl [.r (Ax [D (B (a<0)),H ((M (E a)).length) (lm (M (E a)))]),.r (o [D (B (r<0)),H ((M (E r)).length) (lm (M (E r)))])] (by kernel_rfl) ⟨h1,hal,(Be han (by decide)),h2,trivial⟩
theorem Apv(neg:Bool)(xs:LI)(a r:Int)(h1:RQ 143 [o [D neg,sL lm xs]] (Ax [D (B (a<0)),H ((M (E a)).length) (lm (M (E a)))]))(h2:RQ 152 [D (!(decide (a<0))),H (M (E a)).length (lm (M (E a)))] (o [D (B (r<0)),H ((M (E r)).length) (lm (M (E r)))]))(hal:Bh (lm (M (E a)))=(M (E a)).length*1)(han:(M (E a)).length<=1048576):RQ 131 [o [D neg,sL lm xs]] (o [D (B (r<0)),H ((M (E r)).length) (lm (M (E r)))]):=Bx (ps:=[RQ 143 [o [D neg,sL lm xs]] (Ax [D (B (a<0)),H ((M (E a)).length) (lm (M (E a)))]),Bh (lm (M (E a)))=((M (E a)).length)*1,((M (E a)).length)<=35184372088832,RQ 152 [D (!(decide (a<0))),H ((M (E a)).length) (lm (M (E a)))] (o [D (B (r<0)),H ((M (E r)).length) (lm (M (E r)))])]) Cl rfl 300 rfl [.r (Ax [D (B (a<0)),H ((M (E a)).length) (lm (M (E a)))]),.r (o [D (B (r<0)),H ((M (E r)).length) (lm (M (E r)))])] (by kernel_rfl) ⟨h1,hal,(Be han (by decide)),h2,trivial⟩
theorem Ui(xs:LI):Bh (lm xs)=xs.length*1:=by rw [N_,I6]
theorem Azy(n:Int):rv false (M n.natAbs)=(n.natAbs:Int):=by unfold rv;rw [if_neg (by decide),Cr]
theorem sD(n:Int):rv (!decide (n<0)) (M n.natAbs) = -n:=by
 unfold rv;rw[Cr];by_cases h:n<0 <;> simp[h] <;> omega
theorem MS{neg:Bool}{xs:LI}(hu:AP xs)(hN:xs.length<=1048576):RQ 113 [o [D neg,sL lm xs]] (Ah (rv neg xs)):=by
 have hl:(M (rv neg xs).natAbs).length<=1048576:=Be (EM hu) hN;have h2:=EO (neg:=decide (rv neg xs<0)) (BI (rv neg xs).natAbs) hl;rw[F8] at h2;exact Apu neg xs (rv neg xs) (rv neg xs) (Dp hu hN) h2 (Ui _) hl
theorem Yk{neg:Bool}{xs:LI}(hu:AP xs)(hN:xs.length<=1048576):RQ 131 [o [D neg,sL lm xs]] (Ah (-(rv neg xs))):=by
 have hl:(M (rv neg xs).natAbs).length<=1048576:=Be (EM hu) hN;have h2:=EO (neg := !decide (rv neg xs<0)) (BI (rv neg xs).natAbs) hl;rw[sD] at h2;exact Apv neg xs (rv neg xs) (-(rv neg xs)) (Dp hu hN) h2 (Ui _) hl
def Uj(a:Int):AV :=
 match (((M (E a)).length:Nat):Int)==0 with
 | true=>(F O 0)
 | false=>(match decide (a<0) with
 | true=>(F O (-1))
 | false=>(F O 1))
theorem Apw(neg:Bool)(xs:LI)(a:Int)(h1:RQ 143 [o [D neg,sL lm xs]] (Ax [D (B (a<0)),H ((M (E a)).length) (lm (M (E a)))])):RQ 101 [o [D neg,sL lm xs]] (Uj a):=by
 unfold Uj;cases c1:((((M (E a)).length:Nat):Int)==0)
 ·cases c2:(B (a<0))
  ·exact Bx (r := F O 1) (ps:=[RQ 143 [o [D neg,sL lm xs]] (Ax [D (B (a<0)),H ((M (E a)).length) (lm (M (E a)))]),((((M (E a)).length:Nat):Int)==0)=false,(B (a<0))=false]) Cl rfl 300 rfl [.r (Ax [D (B (a<0)),H ((M (E a)).length) (lm (M (E a)))]),.b false,.b false] (by kernel_rfl) ⟨h1,c1,c2,trivial⟩
  ·exact Bx (r := F O (-1)) (ps:=[RQ 143 [o [D neg,sL lm xs]] (Ax [D (B (a<0)),H ((M (E a)).length) (lm (M (E a)))]),((((M (E a)).length:Nat):Int)==0)=false,(B (a<0))=true]) Cl rfl 300 rfl [.r (Ax [D (B (a<0)),H ((M (E a)).length) (lm (M (E a)))]),.b false,.b true] (by kernel_rfl) ⟨h1,c1,c2,trivial⟩
 ·exact Bx (r := F O 0) (ps:=[RQ 143 [o [D neg,sL lm xs]] (Ax [D (B (a<0)),H ((M (E a)).length) (lm (M (E a)))]),((((M (E a)).length:Nat):Int)==0)=true]) Cl rfl 300 rfl [.r (Ax [D (B (a<0)),H ((M (E a)).length) (lm (M (E a)))]),.b true] (by kernel_rfl) ⟨h1,c1,trivial⟩
theorem MT{neg:Bool}{xs:LI}(hu:AP xs)(hN:xs.length<=1048576):RQ 101 [o [D neg,sL lm xs]] (F O (BJ (rv neg xs))):=by
 have h:=Apw neg xs (rv neg xs) (Dp hu hN);have e:Uj (rv neg xs) = F O (BJ (rv neg xs)):=by
  unfold Uj BJ;have hz:=Dg (rv neg xs).natAbs;by_cases h0:rv neg xs=0
  ·rw[h0];rfl
  ·have e1:((((M (rv neg xs).natAbs).length:Nat):Int)==0)=false:=by rw[beq_eq_false_iff_ne];omega
   rw[e1];by_cases h1:rv neg xs<0
   ·simp[h1]
   ·have h2:0<rv neg xs:=by omega
    simp[h1,h2]
 rw[<- e];exact h
def TWA:Cn:=TQ0
theorem AS:Ca AY TWA:=Cl
def Hz(N:Nat)(cs:List AV)(M:Nat)(ds:List AV)(v i:Int):Al:=(C (H N cs)::(C (H M ds)::(Y 2 (C (F O v)::(C (F O i)::(Y 35 []))))))
theorem Apx(N:Nat)(cs:List AV)(M:Nat)(ds:List AV)(v i x y:Int)(c1:B (i>=0)=true)(c2:(x != y)=true)(c3:B (x<y)=true)(n1:0<=i/\i<(N:Int))(n2:Bn (p (A i*1) cs) 0 1 true=some (F Ac x))(n3:0<=i/\i<(M:Int))(n4:Bn (p (A i*1) ds) 0 1 true=some (F Ac y))(n5:0<=i/\i<(N:Int))(n6:Bn (p (A i*1) cs) 0 1 true=some (F Ac x))(n7:0<=i/\i<(M:Int))(n8:Bn (p (A i*1) ds) 0 1 true=some (F Ac y)):Ar MC (Hz N cs M ds v i) .ret (Hz N cs M ds (-1) i):=G AS 300 [.b true,.v (F Ac x),.v (F Ac y),.b true,.v (F Ac x),.v (F Ac y),.b true] [0,1,4,5] (S c1 (S n1 (S n2 (S n3 (S n4 (S c2 (S n5 (S n6 (S n7 (S n8 (S c3 a0))))))))))) (by kernel_rfl)
theorem Apy(N:Nat)(cs:List AV)(M:Nat)(ds:List AV)(v i x y:Int)(c1:B (i>=0)=true)(c2:(x != y)=true)(c3:B (x<y)=false)(n1:0<=i/\i<(N:Int))(n2:Bn (p (A i*1) cs) 0 1 true=some (F Ac x))(n3:0<=i/\i<(M:Int))(n4:Bn (p (A i*1) ds) 0 1 true=some (F Ac y))(n5:0<=i/\i<(N:Int))(n6:Bn (p (A i*1) cs) 0 1 true=some (F Ac x))(n7:0<=i/\i<(M:Int))(n8:Bn (p (A i*1) ds) 0 1 true=some (F Ac y)):Ar MC (Hz N cs M ds v i) .ret (Hz N cs M ds 1 i):=G AS 300 [.b true,.v (F Ac x),.v (F Ac y),.b true,.v (F Ac x),.v (F Ac y),.b false] [0,1,4,5] (S c1 (S n1 (S n2 (S n3 (S n4 (S c2 (S n5 (S n6 (S n7 (S n8 (S c3 a0))))))))))) (by kernel_rfl)
theorem Apz(N:Nat)(cs:List AV)(M:Nat)(ds:List AV)(v i x y:Int)(c1:B (i>=0)=true)(c2:(x != y)=false)(n1:0<=i/\i<(N:Int))(n2:Bn (p (A i*1) cs) 0 1 true=some (F Ac x))(n3:0<=i/\i<(M:Int))(n4:Bn (p (A i*1) ds) 0 1 true=some (F Ac y)):Ar MC (Hz N cs M ds v i) .norm (Hz N cs M ds v (I O (i-1))):=G AS 300 [.b true,.v (F Ac x),.v (F Ac y),.b false] [0,1,4,5] (S c1 (S n1 (S n2 (S n3 (S n4 (S c2 a0)))))) (by kernel_rfl)
theorem Aqa(N:Nat)(cs:List AV)(M:Nat)(ds:List AV)(v i:Int)(c1:B (i>=0)=false):Ar MC (Hz N cs M ds v i) (.exit 0) (Hz N cs M ds v i):=G AS 300 [.b false] [0,1,4,5] (S c1 a0) (by kernel_rfl)
theorem xQ(xs ys:LI)(hN:xs.length<=1048576)(hl:xs.length=ys.length):∀ m,m<=xs.length ->
  (JC xs ys m=0/\Ar (.loop MC) (Hz xs.length (lm xs) ys.length (lm ys) 0 ((m:Int)-1)) (.exit 0) (Hz xs.length (lm xs) ys.length (lm ys) 0 (-1))) \/
  (JC xs ys m ≠ 0/\∃ j,Ar (.loop MC) (Hz xs.length (lm xs) ys.length (lm ys) 0 ((m:Int)-1)) .ret (Hz xs.length (lm xs) ys.length (lm ys) (JC xs ys m) j)):=by
 intro m;induction m with
 | zero =>
  intro _;left;refine⟨rfl,?_⟩;exact Ao (Aqa xs.length (lm xs) ys.length (lm ys) 0 (((0:Nat):Int)-1) (by simp)) (by nofun)
 | succ m ih =>
  intro hm;have e0:((m+1:Nat):Int)-1=(m:Int):=by omega
  have e1:I O ((m:Int)-1)=(m:Int)-1:=Bl (by omega) (by omega);have hx:=Ed (xs:=xs) (i:=m) (by omega);have hy:=Ed (xs:=ys) (i:=m) (by omega);rw[e0];simp only[JC];by_cases h:xs.getD m 0=ys.getD m 0
  ·rw[if_pos h];have h1:=Apz xs.length (lm xs) ys.length (lm ys) 0 (m:Int) (xs.getD m 0) (ys.getD m 0) (by simp) (by simpa using h) (by omega) (by rw[R];exact hx) (by omega) (by rw[R];exact hy);rw[e1] at h1;rcases ih (by omega) with ⟨k1,k2⟩ | ⟨k1,j,k2⟩
   ·exact .inl ⟨k1,Cv.loop h1 k2⟩
   ·exact .inr ⟨k1,j,Cv.loop h1 k2⟩
  ·rw[if_neg h];right;by_cases hlt:xs.getD m 0<ys.getD m 0
   ·rw[if_pos hlt];refine⟨by decide,(m:Int),?_⟩;exact Ao (Apx xs.length (lm xs) ys.length (lm ys) 0 (m:Int) (xs.getD m 0) (ys.getD m 0) (by simp) (by simpa using h) (by simpa using hlt) (by omega) (by rw[R];exact hx) (by omega) (by rw[R];exact hy) (by omega) (by rw[R];exact hx) (by omega) (by rw[R];exact hy)) (by nofun)
   ·rw[if_neg hlt];refine⟨by decide,(m:Int),?_⟩;exact Ao (Apy xs.length (lm xs) ys.length (lm ys) 0 (m:Int) (xs.getD m 0) (ys.getD m 0) (by simp) (by simpa using h) (by simpa using hlt) (by omega) (by rw[R];exact hx) (by omega) (by rw[R];exact hy) (by omega) (by rw[R];exact hx) (by omega) (by rw[R];exact hy)) (by nofun)
theorem dF(xs ys:LI)(h:((xs.length:Int) != (ys.length:Int))=true)(h2:(B ((xs.length:Int)<(ys.length:Int)))=true):RQ 151 [sL lm xs,sL lm ys] (F O (-1)):=Bx (ps:=[((xs.length:Int) != (ys.length:Int))=true,(B ((xs.length:Int)<(ys.length:Int)))=true]) AS rfl 300 rfl [.b true,.b true] (by kernel_rfl) ⟨h,h2,trivial⟩
theorem dG(xs ys:LI)(h:((xs.length:Int) != (ys.length:Int))=true)(h2:(B ((xs.length:Int)<(ys.length:Int)))=false):RQ 151 [sL lm xs,sL lm ys] (F O 1):=Bx (ps:=[((xs.length:Int) != (ys.length:Int))=true,(B ((xs.length:Int)<(ys.length:Int)))=false]) AS rfl 300 rfl [.b true,.b false] (by kernel_rfl) ⟨h,h2,trivial⟩
theorem dH(xs ys:LI)(h:((xs.length:Int) != (ys.length:Int))=false)(hl:Ar (.loop MC) (Hz xs.length (lm xs) ys.length (lm ys) 0 (I O ((xs.length:Int)-1))) (.exit 0) (Hz xs.length (lm xs) ys.length (lm ys) 0 (-1))):RQ 151 [sL lm xs,sL lm ys] (F O 0):=A8 Sf (C (sL lm xs)::(C (sL lm ys)::(Y 2 (C (F O 0)::(C (F O (-1))::(Y 35 [])))))) (Cv.seq (G (t:=(vl xs::(vl ys::(Y 2 (vi 0::(Y 36 [])))))) AS 300 [] [0,1,4] a0) (Cv.seq (G (t:=(vl xs::(vl ys::(Y 2 (vi 0::(Y 1 (vl xs::(vi (xs.length:Int)::(vl ys::(vi (ys.length:Int)::(C (D ((xs.length:Int) != (ys.length:Int)))::(Y 30 [])))))))))))) AS 300 [.b false] [0,1,4,6,7,8,9,10] (S (show ((xs.length:Int) != (ys.length:Int))=false from h) a0)) (Cv.seq (Cv.seq (G (t:=(vl xs::(vl ys::(Y 2 (vi 0::(vi (I O ((xs.length:Int)-1))::(Y 35 []))))))) AS 300 [] [0,1,4,5] a0) (Cv.block hl)) (G (t:=(vl xs::(vl ys::(Y 2 (vi 0::(vi (-1)::(Y 35 []))))))) (ex := .ret) AS 300 [] [0,1,4,5] a0))))
theorem dI(xs ys:LI)(r j:Int)(h:((xs.length:Int) != (ys.length:Int))=false)(hl:Ar (.loop MC) (Hz xs.length (lm xs) ys.length (lm ys) 0 (I O ((xs.length:Int)-1))) .ret (Hz xs.length (lm xs) ys.length (lm ys) r j)):RQ 151 [sL lm xs,sL lm ys] (F O r):=A8 Sf (C (sL lm xs)::(C (sL lm ys)::(Y 2 (C (F O r)::(C (F O j)::(Y 35 [])))))) (Cv.seq (G (t:=(vl xs::(vl ys::(Y 2 (vi 0::(Y 36 [])))))) AS 300 [] [0,1,4] a0) (Cv.seq (G (t:=(vl xs::(vl ys::(Y 2 (vi 0::(Y 1 (vl xs::(vi (xs.length:Int)::(vl ys::(vi (ys.length:Int)::(C (D ((xs.length:Int) != (ys.length:Int)))::(Y 30 [])))))))))))) AS 300 [.b false] [0,1,4,6,7,8,9,10] (S (show ((xs.length:Int) != (ys.length:Int))=false from h) a0)) (AJ (Cv.seq (G (t:=(vl xs::(vl ys::(Y 2 (vi 0::(vi (I O ((xs.length:Int)-1))::(Y 35 []))))))) AS 300 [] [0,1,4,5] a0) (CJ hl)) (by nofun))))
theorem Jd{xs ys:LI}(hx:F1 xs)(hy:F1 ys)(hN:xs.length<=1048576):RQ 151 [sL lm xs,sL lm ys] (F O (CI (Ab xs) (Ab ys))):=by
 by_cases hl:xs.length=ys.length
 ·have h:((xs.length:Int) != (ys.length:Int))=false:=by rw[hl];simp
  have hg:=Yc hx.1 hy.1 xs.length (Ap _) (by omega);rw[EK,hl,EK,<- hl] at hg;have e1:I O ((xs.length:Int)-1)=(xs.length:Int)-1:=Bl (by omega) (by omega);rcases xQ xs ys hN hl xs.length (Ap _) with ⟨k1,k2⟩ | ⟨k1,j,k2⟩
  ·rw[<- hg,k1];exact dH xs ys h (by rw[e1];exact k2)
  ·rw[<- hg];exact dI xs ys _ j h (by rw[e1];exact k2)
 ·have h:((xs.length:Int) != (ys.length:Int))=true:=by simp;omega
  by_cases hlt:xs.length<ys.length
  ·have e:CI (Ab xs) (Ab ys) = -1:=by unfold CI;rw[if_pos (IJ hx hy hlt)]
   rw[e];exact dF xs ys h (by simp;omega)
  ·have:=IJ hy hx (by omega);have e:CI (Ab xs) (Ab ys)=1:=by unfold CI;rw[if_neg (by omega),if_pos this]
   rw[e];exact dG xs ys h (by simp;omega)
def It(la:Nat)(xa:List AV)(lb:Nat)(xb:List AV)(n:Nat)(cs:List AV)(c:Int)(m:Int)(i:Int):Al:=(C (H la xa)::(C (H lb xb)::(Y 2 (X 1 0 []::(X 1 n cs::(C (F U c)::(Y 14 (C (F O m)::(C (F O i)::(Y 35 []))))))))))
theorem Aqb(la:Nat)(xa:List AV)(lb:Nat)(xb:List AV)(n:Nat)(cs:List AV)(c:Int)(m:Int)(i:Int)(ds:List AV)(x y:Int)(c1:B (i<m)=true)(c2:B (i<(lb:Int))=true)(n1:0<=i/\i<(la:Int))(n2:Bn (p (A i*1) xa) 0 1 true=some (F Ac x))(n3:0<=i/\i<(lb:Int))(n4:Bn (p (A i*1) xb) 0 1 true=some (F Ac y))(n5:0<=i/\i<(n:Int))(n6:C4 cs (A i*1) [F Ac (I Ac (I U ((I U ((I U x)+c))+(I U y))))]=some ds):Ar NW (It la xa lb xb n cs c m i) .norm (It la xa lb xb n ds (d (I U ((I U ((I U x)+c))+(I U y))) (2^(min (A 32) (Am .u64)))) m (I O (i+1))):=G AS 300 [.b true,.v (F Ac x),.b true,.v (F Ac y),.l ds] [0,1,4,5,6,21,22] (S c1 (S n1 (S n2 (S c2 (S n3 (S n4 (S Ie (S n5 (S n6 a0))))))))) (by kernel_rfl)
theorem Aqc(la:Nat)(xa:List AV)(lb:Nat)(xb:List AV)(n:Nat)(cs:List AV)(c:Int)(m:Int)(i:Int)(ds:List AV)(x:Int)(c1:B (i<m)=true)(c2:B (i<(lb:Int))=false)(n1:0<=i/\i<(la:Int))(n2:Bn (p (A i*1) xa) 0 1 true=some (F Ac x))(n3:0<=i/\i<(n:Int))(n4:C4 cs (A i*1) [F Ac (I Ac (I U ((I U x)+c)))]=some ds):Ar NW (It la xa lb xb n cs c m i) .norm (It la xa lb xb n ds (d (I U ((I U x)+c)) (2^(min (A 32) (Am .u64)))) m (I O (i+1))):=G AS 300 [.b true,.v (F Ac x),.b false,.l ds] [0,1,4,5,6,21,22] (S c1 (S n1 (S n2 (S c2 (S Ie (S n3 (S n4 a0))))))) (by kernel_rfl)
theorem Aqd(la:Nat)(xa:List AV)(lb:Nat)(xb:List AV)(n:Nat)(cs:List AV)(c:Int)(m:Int)(i:Int)(c1:B (i<m)=false):Ar NW (It la xa lb xb n cs c m i) (.exit 0) (It la xa lb xb n cs c m i):=G AS 300 [.b false] [0,1,4,5,6,21,22] (S c1 a0) (by kernel_rfl)
theorem xR(xs ys:LI)(hx:AP xs)(hy:AP ys)(n:Nat)(hn:n<=1048576)(hxn:xs.length<=n):∀ (r i:Nat) (o:LI) (c:Int),r+i=xs.length->o.length=n->AP o->0<=c/\c<=1 ->
  Ar (.loop NW) (It xs.length (lm xs) ys.length (lm ys) n (lm o) c (xs.length:Int) (i:Int)) (.exit 0)
   (It xs.length (lm xs) ys.length (lm ys) n (lm (Is xs ys r i o c).1) (Is xs ys r i o c).2 (xs.length:Int) (xs.length:Int)):=by
 intro r;induction r with
 | zero =>
  intro i o c hi _ _ _;have hi':i=xs.length:=by omega
  subst hi';exact Ao (Aqd xs.length (lm xs) ys.length (lm ys) n (lm o) c (xs.length:Int) (xs.length:Int) (by simp)) (by nofun)
 | succ r ih =>
  intro i o c hi hlo hu hc;have h1:=AG hx i;have h2:=AG hy i;have ei:I O ((i:Int)+1)=((i+1:Nat):Int):=by rw[Bl (by omega) (by omega)];omega
  have hxi:=Ed (xs:=xs) (i:=i) (by omega);have hst:=Ir (xs:=o) (i:=i) (v:=(xs.getD i 0+c+ys.getD i 0) % 4294967296) (by omega);by_cases hy2:i<ys.length
  ·have hyi:=Ed (xs:=ys) (i:=i) hy2;have eW:I Ac (I U (I U (I U (xs.getD i 0)+c)+I U (ys.getD i 0)))=(xs.getD i 0+c+ys.getD i 0) % 4294967296:=by rw[DW,B6,B6,B6,B6];omega
   have eC:d (I U (I U (I U (xs.getD i 0)+c)+I U (ys.getD i 0))) (2^(min (A 32) (Am .u64)))=((xs.getD i 0+c+ys.getD i 0) / 4294967296):=by
    show d _ 4294967296=_;rw[t _ (by omega),B6,B6,B6,B6];omega
   have k:=Aqb xs.length (lm xs) ys.length (lm ys) n (lm o) c (xs.length:Int) (i:Int) (lm (o.set i ((xs.getD i 0+c+ys.getD i 0) % 4294967296))) (xs.getD i 0) (ys.getD i 0)
    (by simp;omega) (by simp;omega) (by omega) (by rw[R];exact hxi) (by omega) (by rw[R];exact hyi) (by omega) (by rw[R,eW];exact hst)
   rw[eC,ei] at k;exact Cv.loop k (ih (i+1) _ _ (by omega) (by simpa using hlo) (Cw hu (by omega)) (by omega))
  ·have hy0:=Bw (xs:=ys) (i:=i) (by omega);have eW:I Ac (I U (I U (xs.getD i 0)+c))=(xs.getD i 0+c+ys.getD i 0) % 4294967296:=by rw[DW,B6,B6];omega
   have eC:d (I U (I U (xs.getD i 0)+c)) (2^(min (A 32) (Am .u64)))=((xs.getD i 0+c+ys.getD i 0) / 4294967296):=by
    show d _ 4294967296=_;rw[t _ (by omega),B6,B6];omega
   have k:=Aqc xs.length (lm xs) ys.length (lm ys) n (lm o) c (xs.length:Int) (i:Int) (lm (o.set i ((xs.getD i 0+c+ys.getD i 0) % 4294967296))) (xs.getD i 0)
    (by simp;omega) (by simp;omega) (by omega) (by rw[R];exact hxi) (by omega) (by rw[R,eW];exact hst)
   rw[eC,ei] at k;exact Cv.loop k (ih (i+1) _ _ (by omega) (by simpa using hlo) (Cw hu (by omega)) (by omega))
def LH(la:Nat)(xa:List AV)(lb:Nat)(xb:List AV)(n:Nat)(cs:List AV)(c:Int)(m:Int)(i:Int):Al:=(C (H la xa)::(C (H lb xb)::(Y 2 (X 1 0 []::(X 1 n cs::(C (F U c)::(Y 6 (C (F O m)::(C (F O i)::(Y 29 []))))))))))
theorem Aqe(la:Nat)(xa:List AV)(lb:Nat)(xb:List AV)(n:Nat)(cs:List AV)(c:Int)(m:Int)(i:Int)(ds:List AV)(x y:Int)(c1:B (i<m)=true)(c2:B (i<(lb:Int))=true)(n1:0<=i/\i<(la:Int))(n2:Bn (p (A i*1) xa) 0 1 true=some (F Ac x))(n3:0<=i/\i<(lb:Int))(n4:Bn (p (A i*1) xb) 0 1 true=some (F Ac y))(n5:0<=i/\i<(n:Int))(n6:C4 cs (A i*1) [F Ac (I Ac (I U ((I U ((I U x)-c))-(I U y))))]=some ds):Ar Sl (LH la xa lb xb n cs c m i) .norm (LH la xa lb xb n ds (d (I U ((I U ((I U x)-c))-(I U y))) (2^(min (A 63) (Am .u64)))) m (I O (i+1))):=G AS 300 [.b true,.v (F Ac x),.b true,.v (F Ac y),.l ds] [0,1,4,5,6,13,14] (S c1 (S n1 (S n2 (S c2 (S n3 (S n4 (S WZ (S n5 (S n6 a0))))))))) (by kernel_rfl)
theorem Aqf(la:Nat)(xa:List AV)(lb:Nat)(xb:List AV)(n:Nat)(cs:List AV)(c:Int)(m:Int)(i:Int)(ds:List AV)(x:Int)(c1:B (i<m)=true)(c2:B (i<(lb:Int))=false)(n1:0<=i/\i<(la:Int))(n2:Bn (p (A i*1) xa) 0 1 true=some (F Ac x))(n3:0<=i/\i<(n:Int))(n4:C4 cs (A i*1) [F Ac (I Ac (I U ((I U x)-c)))]=some ds):Ar Sl (LH la xa lb xb n cs c m i) .norm (LH la xa lb xb n ds (d (I U ((I U x)-c)) (2^(min (A 63) (Am .u64)))) m (I O (i+1))):=G AS 300 [.b true,.v (F Ac x),.b false,.l ds] [0,1,4,5,6,13,14] (S c1 (S n1 (S n2 (S c2 (S WZ (S n3 (S n4 a0))))))) (by kernel_rfl)
theorem Aqg(la:Nat)(xa:List AV)(lb:Nat)(xb:List AV)(n:Nat)(cs:List AV)(c:Int)(m:Int)(i:Int)(c1:B (i<m)=false):Ar Sl (LH la xa lb xb n cs c m i) (.exit 0) (LH la xa lb xb n cs c m i):=G AS 300 [.b false] [0,1,4,5,6,13,14] (S c1 a0) (by kernel_rfl)
theorem xS(xs ys:LI)(hx:AP xs)(hy:AP ys)(n:Nat)(hn:n<=1048576)(hxn:xs.length<=n):∀ (r i:Nat) (o:LI) (c:Int),r+i=xs.length->o.length=n->AP o->0<=c/\c<=1 ->
  Ar (.loop Sl) (LH xs.length (lm xs) ys.length (lm ys) n (lm o) c (xs.length:Int) (i:Int)) (.exit 0)
   (LH xs.length (lm xs) ys.length (lm ys) n (lm (IK xs ys r i o c).1) (IK xs ys r i o c).2 (xs.length:Int) (xs.length:Int)):=by
 intro r;induction r with
 | zero =>
  intro i o c hi _ _ _;have hi':i=xs.length:=by omega
  subst hi';exact Ao (Aqg xs.length (lm xs) ys.length (lm ys) n (lm o) c (xs.length:Int) (xs.length:Int) (by simp)) (by nofun)
 | succ r ih =>
  intro i o c hi hlo hu hc;have h1:=AG hx i;have h2:=AG hy i;have ei:I O ((i:Int)+1)=((i+1:Nat):Int):=by rw[Bl (by omega) (by omega)];omega
  have hxi:=Ed (xs:=xs) (i:=i) (by omega);have hst:=Ir (xs:=o) (i:=i) (v:=(xs.getD i 0-c-ys.getD i 0) % 4294967296) (by omega);by_cases hy2:i<ys.length
  ·have hyi:=Ed (xs:=ys) (i:=i) hy2;have eW:I Ac (I U (I U (I U (xs.getD i 0)-c)-I U (ys.getD i 0)))=(xs.getD i 0-c-ys.getD i 0) % 4294967296:=by rw[DW,B6,B6,B6,B6];omega
   have eC:d (I U (I U (I U (xs.getD i 0)-c)-I U (ys.getD i 0))) (2^(min (A 63) (Am .u64)))=(-((xs.getD i 0-c-ys.getD i 0) / 4294967296)):=by
    show d _ 9223372036854775808=_;rw[t _ (by omega),B6,B6,B6,B6];omega
   have k:=Aqe xs.length (lm xs) ys.length (lm ys) n (lm o) c (xs.length:Int) (i:Int) (lm (o.set i ((xs.getD i 0-c-ys.getD i 0) % 4294967296))) (xs.getD i 0) (ys.getD i 0)
    (by simp;omega) (by simp;omega) (by omega) (by rw[R];exact hxi) (by omega) (by rw[R];exact hyi) (by omega) (by rw[R,eW];exact hst)
   rw[eC,ei] at k;exact Cv.loop k (ih (i+1) _ _ (by omega) (by simpa using hlo) (Cw hu (by omega)) (by omega))
  ·have hy0:=Bw (xs:=ys) (i:=i) (by omega);have eW:I Ac (I U (I U (xs.getD i 0)-c))=(xs.getD i 0-c-ys.getD i 0) % 4294967296:=by rw[DW,B6,B6];omega
   have eC:d (I U (I U (xs.getD i 0)-c)) (2^(min (A 63) (Am .u64)))=(-((xs.getD i 0-c-ys.getD i 0) / 4294967296)):=by
    show d _ 9223372036854775808=_;rw[t _ (by omega),B6,B6];omega
   have k:=Aqf xs.length (lm xs) ys.length (lm ys) n (lm o) c (xs.length:Int) (i:Int) (lm (o.set i ((xs.getD i 0-c-ys.getD i 0) % 4294967296))) (xs.getD i 0)
    (by simp;omega) (by simp;omega) (by omega) (by rw[R];exact hxi) (by omega) (by rw[R,eW];exact hst)
   rw[eC,ei] at k;exact Cv.loop k (ih (i+1) _ _ (by omega) (by simpa using hlo) (Cw hu (by omega)) (by omega))
theorem dJ(xs ys o:LI)(c:Int)(h:(B ((xs.length:Int)<(ys.length:Int)))=true)(hmk:0<=I O ((ys.length:Int)+1)/\I O ((ys.length:Int)+1)<=1048576)(hl:Ar (.loop NW) (It ys.length (lm ys) xs.length (lm xs) (A (I O ((ys.length:Int)+1))) (Cu [F Ac 0] (A (I O ((ys.length:Int)+1)))) 0 (ys.length:Int) 0) (.exit 0) (It ys.length (lm ys) xs.length (lm xs) (A (I O ((ys.length:Int)+1))) (lm o) c (ys.length:Int) (ys.length:Int)))(hix:0<=(ys.length:Int)/\(ys.length:Int)<(((A (I O ((ys.length:Int)+1))):Nat):Int))(hst:C4 (lm o) (A (ys.length:Int)*1) [F Ac (I Ac c)]=some (lm (o.set ys.length c))):RQ 178 [sL lm xs,sL lm ys] (L 1 (A (I O ((ys.length:Int)+1))) (lm (o.set ys.length c))):=A8 Sk (C (sL lm ys)::(C (sL lm xs)::(Y 2 (X 1 (A (I O ((ys.length:Int)+1))) (lm (o.set ys.length c))::(Y 1 (C (F U c)::(Y 14 (C (F O (ys.length:Int))::(C (F O (ys.length:Int))::(Y 28 (.dup 5::(C (sL lm ys)::(C (F O (ys.length:Int))::(C (F U c)::(C (F Ac (I Ac c))::(.ptr 5 (A (ys.length:Int)*1)::(Y 1 []))))))))))))))))) (Cv.seq (G (t:=(vl xs::(vl ys::(Y 2 (X 1 0 []::(Y 53 [])))))) AS 300 [] [0,1,4] a0) (Cv.seq (G (t:=(vl ys::(vl xs::(Y 2 (X 1 0 []::(Y 4 (vl xs::(vi (xs.length:Int)::(vl ys::(vi (ys.length:Int)::(C (D (B ((xs.length:Int)<(ys.length:Int))))::(vl ys::(vl xs::(Y 42 [])))))))))))))) AS 300 [.b true] [0,1,4,9,10,11,12,13,14,15] (S (show (B ((xs.length:Int)<(ys.length:Int)))=true from h) a0)) (Cv.seq (G (t:=(vl ys::(vl xs::(Y 2 (X 1 0 []::(X 1 (A (I O ((ys.length:Int)+1))) (Cu [F Ac 0] (A (I O ((ys.length:Int)+1))))::(Y 3 (vl xs::(vi (xs.length:Int)::(vl ys::(vi (ys.length:Int)::(C (D (B ((xs.length:Int)<(ys.length:Int))))::(vl ys::(vl xs::(vl ys::(vi (ys.length:Int)::(vi (I O ((ys.length:Int)+1))::(Y 39 [])))))))))))))))))) AS 300 [] [0,1,4,5,9,10,11,12,13,14,15,16,17,18] (S (show 0<=(I O ((ys.length:Int)+1))/\(I O ((ys.length:Int)+1))<=1048576 from hmk) a0)) (Cv.seq (G (t:=(vl ys::(vl xs::(Y 2 (X 1 0 []::(X 1 (A (I O ((ys.length:Int)+1))) (Cu [F Ac 0] (A (I O ((ys.length:Int)+1))))::(C (F U 0)::(Y 2 (vl xs::(vi (xs.length:Int)::(vl ys::(vi (ys.length:Int)::(C (D (B ((xs.length:Int)<(ys.length:Int))))::(vl ys::(vl xs::(vl ys::(vi (ys.length:Int)::(vi (I O ((ys.length:Int)+1))::(Y 39 []))))))))))))))))))) AS 300 [] [0,1,4,5,6,9,10,11,12,13,14,15,16,17,18] a0) (Cv.seq (Cv.seq (G (t:=(vl ys::(vl xs::(Y 2 (X 1 0 []::(X 1 (A (I O ((ys.length:Int)+1))) (Cu [F Ac 0] (A (I O ((ys.length:Int)+1))))::(C (F U 0)::(Y 14 (vi (ys.length:Int)::(vi 0::(Y 35 []))))))))))) AS 300 [] [0,1,4,5,6,21,22] a0) (Cv.block hl)) (G (t:=(vl ys::(vl xs::(Y 2 (X 1 (A (I O ((ys.length:Int)+1))) (lm (o.set ys.length c))::(Y 1 (C (F U c)::(Y 14 (vi (ys.length:Int)::(vi (ys.length:Int)::(Y 28 (.dup 5::(vl ys::(vi (ys.length:Int)::(C (F U c)::(C (F Ac (I Ac c))::(.ptr 5 (A (ys.length:Int)*1)::(Y 1 [])))))))))))))))))) (ex := .ret) AS 300 [.l (lm (o.set ys.length c))] [0,1,4,6,21,22,51,52,53,54,55,56] (S (show 0<=(ys.length:Int)/\(ys.length:Int)<(((A (I O ((ys.length:Int)+1))):Nat):Int) from hix) (S (show C4 (lm o) (A (ys.length:Int)*1) [F Ac (I Ac c)]=some (lm (o.set ys.length c)) from hst) a0))))))))
theorem dK(xs ys o:LI)(c:Int)(h:(B ((xs.length:Int)<(ys.length:Int)))=false)(hmk:0<=I O ((xs.length:Int)+1)/\I O ((xs.length:Int)+1)<=1048576)(hl:Ar (.loop NW) (It xs.length (lm xs) ys.length (lm ys) (A (I O ((xs.length:Int)+1))) (Cu [F Ac 0] (A (I O ((xs.length:Int)+1)))) 0 (xs.length:Int) 0) (.exit 0) (It xs.length (lm xs) ys.length (lm ys) (A (I O ((xs.length:Int)+1))) (lm o) c (xs.length:Int) (xs.length:Int)))(hix:0<=(xs.length:Int)/\(xs.length:Int)<(((A (I O ((xs.length:Int)+1))):Nat):Int))(hst:C4 (lm o) (A (xs.length:Int)*1) [F Ac (I Ac c)]=some (lm (o.set xs.length c))):RQ 178 [sL lm xs,sL lm ys] (L 1 (A (I O ((xs.length:Int)+1))) (lm (o.set xs.length c))):=A8 Sk (C (sL lm xs)::(C (sL lm ys)::(Y 2 (X 1 (A (I O ((xs.length:Int)+1))) (lm (o.set xs.length c))::(Y 1 (C (F U c)::(Y 14 (C (F O (xs.length:Int))::(C (F O (xs.length:Int))::(Y 28 (.dup 5::(C (sL lm xs)::(C (F O (xs.length:Int))::(C (F U c)::(C (F Ac (I Ac c))::(.ptr 5 (A (xs.length:Int)*1)::(Y 1 []))))))))))))))))) (Cv.seq (G (t:=(vl xs::(vl ys::(Y 2 (X 1 0 []::(Y 53 [])))))) AS 300 [] [0,1,4] a0) (Cv.seq (G (t:=(vl xs::(vl ys::(Y 2 (X 1 0 []::(Y 4 (vl xs::(vi (xs.length:Int)::(vl ys::(vi (ys.length:Int)::(C (D (B ((xs.length:Int)<(ys.length:Int))))::(Y 44 [])))))))))))) AS 300 [.b false] [0,1,4,9,10,11,12,13] (S (show (B ((xs.length:Int)<(ys.length:Int)))=false from h) a0)) (Cv.seq (G (t:=(vl xs::(vl ys::(Y 2 (X 1 0 []::(X 1 (A (I O ((xs.length:Int)+1))) (Cu [F Ac 0] (A (I O ((xs.length:Int)+1))))::(Y 3 (vl xs::(vi (xs.length:Int)::(vl ys::(vi (ys.length:Int)::(C (D (B ((xs.length:Int)<(ys.length:Int))))::(Y 2 (vl xs::(vi (xs.length:Int)::(vi (I O ((xs.length:Int)+1))::(Y 39 []))))))))))))))))) AS 300 [] [0,1,4,5,9,10,11,12,13,16,17,18] (S (show 0<=(I O ((xs.length:Int)+1))/\(I O ((xs.length:Int)+1))<=1048576 from hmk) a0)) (Cv.seq (G (t:=(vl xs::(vl ys::(Y 2 (X 1 0 []::(X 1 (A (I O ((xs.length:Int)+1))) (Cu [F Ac 0] (A (I O ((xs.length:Int)+1))))::(C (F U 0)::(Y 2 (vl xs::(vi (xs.length:Int)::(vl ys::(vi (ys.length:Int)::(C (D (B ((xs.length:Int)<(ys.length:Int))))::(Y 2 (vl xs::(vi (xs.length:Int)::(vi (I O ((xs.length:Int)+1))::(Y 39 [])))))))))))))))))) AS 300 [] [0,1,4,5,6,9,10,11,12,13,16,17,18] a0) (Cv.seq (Cv.seq (G (t:=(vl xs::(vl ys::(Y 2 (X 1 0 []::(X 1 (A (I O ((xs.length:Int)+1))) (Cu [F Ac 0] (A (I O ((xs.length:Int)+1))))::(C (F U 0)::(Y 14 (vi (xs.length:Int)::(vi 0::(Y 35 []))))))))))) AS 300 [] [0,1,4,5,6,21,22] a0) (Cv.block hl)) (G (t:=(vl xs::(vl ys::(Y 2 (X 1 (A (I O ((xs.length:Int)+1))) (lm (o.set xs.length c))::(Y 1 (C (F U c)::(Y 14 (vi (xs.length:Int)::(vi (xs.length:Int)::(Y 28 (.dup 5::(vl xs::(vi (xs.length:Int)::(C (F U c)::(C (F Ac (I Ac c))::(.ptr 5 (A (xs.length:Int)*1)::(Y 1 [])))))))))))))))))) (ex := .ret) AS 300 [.l (lm (o.set xs.length c))] [0,1,4,6,21,22,51,52,53,54,55,56] (S (show 0<=(xs.length:Int)/\(xs.length:Int)<(((A (I O ((xs.length:Int)+1))):Nat):Int) from hix) (S (show C4 (lm o) (A (xs.length:Int)*1) [F Ac (I Ac c)]=some (lm (o.set xs.length c)) from hst) a0))))))))
theorem Px{xs ys:LI}(hx:AP xs)(hy:AP ys)(hl:ys.length<=xs.length)(hN:xs.length<1048576):∃ o c,(o:LI).length=xs.length+1/\AP (o.set xs.length c)/\Ab (o.set xs.length c)=Ab xs+Ab ys/\(0<=c/\c<=1) /\
  Ar (.loop NW) (It xs.length (lm xs) ys.length (lm ys) (xs.length+1) (lm (Av (xs.length+1) 0)) 0 (xs.length:Int) 0) (.exit 0) (It xs.length (lm xs) ys.length (lm ys) (xs.length+1) (lm o) c (xs.length:Int) (xs.length:Int)):=by
 have hg:=xR xs ys hx hy (xs.length+1) (by omega) (by omega) xs.length 0 (Av (xs.length+1) 0) 0 (by omega) (by simp) (ES _) (by omega);cases e:Is xs ys xs.length 0 (Av (xs.length+1) 0) 0 with
 | mk o c =>
  obtain⟨g1,g2,g3,g4,g5⟩:=kJ hx hy hl o c e;rw[e] at hg;exact⟨o,c,g1,g4,g5,g3,hg⟩
theorem Xf{xs ys:LI}(hx:AP xs)(hy:AP ys)(h1:xs.length<1048576)(h2:ys.length<1048576):∃ zs,AP zs/\Ab zs=Ab xs+Ab ys/\zs.length<=1048576/\RQ 178 [sL lm xs,sL lm ys] (L 1 zs.length (lm zs)):=by
 by_cases hlt:xs.length<ys.length
 ·obtain⟨o,c,g1,g2,g3,g4,g5⟩:=Px hy hx (by omega) h2;have e1:I O ((ys.length:Int)+1)=((ys.length+1:Nat):Int):=by rw[Bl (by omega) (by omega)];omega
  have e2:A (I O ((ys.length:Int)+1))=ys.length+1:=by rw[e1,R]
  have hst:=Ir (xs:=o) (i:=ys.length) (v:=c) (by omega);have h:=dJ xs ys o c (by simp;omega) (by rw[e1];omega) (by rw[e2,Fc];exact g5) (by rw[e2];omega) (by rw[R,DW,Gh (by omega) (by omega)];exact hst);refine⟨o.set ys.length c,g2,by rw[g3,Ks],by simp;omega,?_⟩;rw[e2] at h;rw[A',g1];exact h
 ·obtain⟨o,c,g1,g2,g3,g4,g5⟩:=Px hx hy (by omega) h1;have e1:I O ((xs.length:Int)+1)=((xs.length+1:Nat):Int):=by rw[Bl (by omega) (by omega)];omega
  have e2:A (I O ((xs.length:Int)+1))=xs.length+1:=by rw[e1,R]
  have hst:=Ir (xs:=o) (i:=xs.length) (v:=c) (by omega);have h:=dK xs ys o c (by simp;omega) (by rw[e1];omega) (by rw[e2,Fc];exact g5) (by rw[e2];omega) (by rw[R,DW,Gh (by omega) (by omega)];exact hst);refine⟨o.set xs.length c,g2,g3,by simp;omega,?_⟩;rw[e2] at h;rw[A',g1];exact h
theorem Aqh(xs ys o:LI)(c:Int)(hmk:0<=(xs.length:Int)/\(xs.length:Int)<=1048576)(hl:Ar (.loop Sl) (LH xs.length (lm xs) ys.length (lm ys) (A (xs.length:Int)) (Cu [F Ac 0] (A (xs.length:Int))) 0 (xs.length:Int) 0) (.exit 0) (LH xs.length (lm xs) ys.length (lm ys) (A (xs.length:Int)) (lm o) c (xs.length:Int) (xs.length:Int))):RQ 179 [sL lm xs,sL lm ys] (L 1 (A (xs.length:Int)) (lm o)):=A8 V3 (C (sL lm xs)::(C (sL lm ys)::(Y 2 (X 1 (A (xs.length:Int)) (lm o)::(Y 1 (C (F U c)::(Y 6 (C (F O (xs.length:Int))::(C (F O (xs.length:Int))::(Y 29 [])))))))))) (Cv.seq (G (t:=(vl xs::(vl ys::(Y 2 (X 1 0 []::(Y 39 [])))))) AS 300 [] [0,1,4] a0) (Cv.seq (G (t:=(vl xs::(vl ys::(Y 2 (X 1 0 []::(X 1 (A (xs.length:Int)) (Cu [F Ac 0] (A (xs.length:Int)))::(Y 3 (vl xs::(vi (xs.length:Int)::(Y 33 [])))))))))) AS 300 [] [0,1,4,5,9,10] (S (show 0<=(xs.length:Int)/\(xs.length:Int)<=1048576 from hmk) a0)) (Cv.seq (G (t:=(vl xs::(vl ys::(Y 2 (X 1 0 []::(X 1 (A (xs.length:Int)) (Cu [F Ac 0] (A (xs.length:Int)))::(C (F U 0)::(Y 2 (vl xs::(vi (xs.length:Int)::(Y 33 []))))))))))) AS 300 [] [0,1,4,5,6,9,10] a0) (Cv.seq (Cv.seq (G (t:=(vl xs::(vl ys::(Y 2 (X 1 0 []::(X 1 (A (xs.length:Int)) (Cu [F Ac 0] (A (xs.length:Int)))::(C (F U 0)::(Y 6 (vi (xs.length:Int)::(vi 0::(Y 29 []))))))))))) AS 300 [] [0,1,4,5,6,13,14] a0) (Cv.block hl)) (G (t:=(vl xs::(vl ys::(Y 2 (X 1 (A (xs.length:Int)) (lm o)::(Y 1 (C (F U c)::(Y 6 (vi (xs.length:Int)::(vi (xs.length:Int)::(Y 29 []))))))))))) (ex := .ret) AS 300 [] [0,1,4,6,13,14] a0)))))
theorem Py{xs ys:LI}(hx:AP xs)(hy:AP ys)(hl:ys.length<=xs.length)(hv:Ab ys<=Ab xs)(hN:xs.length<=1048576):∃ zs,AP zs/\Ab zs=Ab xs-Ab ys/\zs.length<=1048576/\RQ 179 [sL lm xs,sL lm ys] (L 1 zs.length (lm zs)):=by
 have hg:=xS xs ys hx hy xs.length hN (Ap _) xs.length 0 (Av xs.length 0) 0 (by omega) (by simp) (ES _) (by omega);cases e:IK xs ys xs.length 0 (Av xs.length 0) 0 with
 | mk o c =>
  obtain⟨g1,g2,g3⟩:=kK hx hy hl hv o c e;rw[e] at hg;have h:=Aqh xs ys o c (by omega) (by rw[R,Fc];exact hg);rw[R] at h;refine⟨o,g2,g3,by omega,?_⟩;rw[g1];exact h
theorem kT(na:Bool)(p:Nat)(nb:Bool)(q:Nat)(zs:LI)(r:Int)(h:(na==nb)=true)(h1:RQ 178 [H (M p).length (lm (M p)),H (M q).length (lm (M q))] (L 1 zs.length (lm zs)))(h2:RQ 152 [D na,sL lm zs] (o [D (B (r<0)),H ((M (E r)).length) (lm (M (E r)))])):RQ 154 [D na,H ((M p).length) (lm (M p)),D nb,H ((M q).length) (lm (M q))] (o [D (B (r<0)),H ((M (E r)).length) (lm (M (E r)))]):=Bx (ps:=[(na==nb)=true,RQ 178 [H ((M p).length) (lm (M p)),H ((M q).length) (lm (M q))] (L 1 zs.length (lm zs)),RQ 152 [D na,sL lm zs] (o [D (B (r<0)),H ((M (E r)).length) (lm (M (E r)))])]) AS rfl 300 rfl [.b true,.r (L 1 zs.length (lm zs)),.r (o [D (B (r<0)),H ((M (E r)).length) (lm (M (E r)))])] (by kernel_rfl) ⟨h,h1,h2,trivial⟩
theorem kU(na:Bool)(p:Nat)(nb:Bool)(q:Nat)(zs:LI)(r:Int)(k:Int)(h:(na==nb)=false)(h3:RQ 151 [H (M p).length (lm (M p)),H (M q).length (lm (M q))] (F O k))(hk:(B (k>=0))=true)(h1:RQ 179 [H (M p).length (lm (M p)),H (M q).length (lm (M q))] (L 1 zs.length (lm zs)))(h2:RQ 152 [D na,sL lm zs] (o [D (B (r<0)),H ((M (E r)).length) (lm (M (E r)))])):RQ 154 [D na,H ((M p).length) (lm (M p)),D nb,H ((M q).length) (lm (M q))] (o [D (B (r<0)),H ((M (E r)).length) (lm (M (E r)))]):=Bx (ps:=[(na==nb)=false,RQ 151 [H ((M p).length) (lm (M p)),H ((M q).length) (lm (M q))] (F O k),(B (k>=0))=true,RQ 179 [H ((M p).length) (lm (M p)),H ((M q).length) (lm (M q))] (L 1 zs.length (lm zs)),RQ 152 [D na,sL lm zs] (o [D (B (r<0)),H ((M (E r)).length) (lm (M (E r)))])]) AS rfl 300 rfl [.b false,.r (F O k),.b true,.r (L 1 zs.length (lm zs)),.r (o [D (B (r<0)),H ((M (E r)).length) (lm (M (E r)))])] (by kernel_rfl) ⟨h,h3,hk,h1,h2,trivial⟩
theorem kV(na:Bool)(p:Nat)(nb:Bool)(q:Nat)(zs:LI)(r:Int)(k:Int)(h:(na==nb)=false)(h3:RQ 151 [H (M p).length (lm (M p)),H (M q).length (lm (M q))] (F O k))(hk:(B (k>=0))=false)(h1:RQ 179 [H (M q).length (lm (M q)),H (M p).length (lm (M p))] (L 1 zs.length (lm zs)))(h2:RQ 152 [D nb,sL lm zs] (o [D (B (r<0)),H ((M (E r)).length) (lm (M (E r)))])):RQ 154 [D na,H ((M p).length) (lm (M p)),D nb,H ((M q).length) (lm (M q))] (o [D (B (r<0)),H ((M (E r)).length) (lm (M (E r)))]):=Bx (ps:=[(na==nb)=false,RQ 151 [H ((M p).length) (lm (M p)),H ((M q).length) (lm (M q))] (F O k),(B (k>=0))=false,RQ 179 [H ((M q).length) (lm (M q)),H ((M p).length) (lm (M p))] (L 1 zs.length (lm zs)),RQ 152 [D nb,sL lm zs] (o [D (B (r<0)),H ((M (E r)).length) (lm (M (E r)))])]) AS rfl 300 rfl [.b false,.r (F O k),.b false,.r (L 1 zs.length (lm zs)),.r (o [D (B (r<0)),H ((M (E r)).length) (lm (M (E r)))])] (by kernel_rfl) ⟨h,h3,hk,h1,h2,trivial⟩
theorem dL{na nb:Bool}{p q:Nat}(hp:(M p).length<1048576)(hq:(M q).length<1048576):RQ 154 [D na,H (M p).length (lm (M p)),D nb,H (M q).length (lm (M q))] (Ah (rv na (M p)+rv nb (M q))):=by
 have up:=BI p;have uq:=BI q;by_cases e:na=nb
 ·subst e;obtain⟨zs,z1,z2,z3,z4⟩:=Xf up uq hp hq;have h2:=EO (neg:=na) z1 z3;have ev:rv na zs=rv na (M p)+rv na (M q):=by
   unfold rv;rw[z2];cases na <;> simp <;> omega
  rw[ev] at h2;exact kT na p na q zs _ (by simp) z4 h2
 ·have hne:(na==nb)=false:=by simpa using e
  have hc:=Jd (Ci p) (Ci q) (by omega);have hnb:nb = !na:=by cases na <;> cases nb <;> simp_all
  have lenle:∀ {a b:Nat},Ab (M a)<=Ab (M b)->(M a).length<=(M b).length:=by
   intro a b h;rcases Cp (M b).length (M a).length with g | g
   ·have:=IJ (Ci b) (Ci a) g;omega
   ·exact g
  by_cases hk:Ab (M q)<=Ab (M p)
  ·obtain⟨zs,z1,z2,z3,z4⟩:=Py up uq (lenle hk) hk (by omega);have h2:=EO (neg:=na) z1 z3;have ev:rv na zs=rv na (M p)+rv nb (M q):=by
    subst hnb;unfold rv;rw[z2];cases na <;> simp <;> omega
   rw[ev] at h2;refine kU na p nb q zs _ _ hne hc ?_ z4 h2;unfold CI;rw[if_neg (by omega)];split <;> rfl
  ·obtain⟨zs,z1,z2,z3,z4⟩:=Py uq up (lenle (by omega)) (by omega) (by omega);have h2:=EO (neg:=nb) z1 z3;have ev:rv nb zs=rv na (M p)+rv nb (M q):=by
    subst hnb;unfold rv;rw[z2];cases na <;> simp <;> omega
   rw[ev] at h2;refine kV na p nb q zs _ _ hne hc ?_ z4 h2;unfold CI;rw[if_pos (by omega)];rfl
theorem Aqi(na:Bool)(xs:LI)(nb:Bool)(ys:LI)(a b r:Int)(h1:RQ 143 [o [D na,sL lm xs]] (Ax [D (B (a<0)),H (M (E a)).length (lm (M (E a)))]))(h2:RQ 143 [o [D nb,sL lm ys]] (Ax [D (B (b<0)),H (M (E b)).length (lm (M (E b)))]))(h3:RQ 154 [D (B (a<0)),H (M (E a)).length (lm (M (E a))),D (B (b<0)),H (M (E b)).length (lm (M (E b)))] (o [D (B (r<0)),H ((M (E r)).length) (lm (M (E r)))])):RQ 111 [o [D na,sL lm xs],o [D nb,sL lm ys]] (o [D (B (r<0)),H ((M (E r)).length) (lm (M (E r)))]):=Bx (ps:=[RQ 143 [o [D na,sL lm xs]] (Ax [D (B (a<0)),H ((M (E a)).length) (lm (M (E a)))]),RQ 143 [o [D nb,sL lm ys]] (Ax [D (B (b<0)),H ((M (E b)).length) (lm (M (E b)))]),RQ 154 [D (B (a<0)),H ((M (E a)).length) (lm (M (E a))),D (B (b<0)),H ((M (E b)).length) (lm (M (E b)))] (o [D (B (r<0)),H ((M (E r)).length) (lm (M (E r)))])]) AS rfl 300 rfl [.r (Ax [D (B (a<0)),H ((M (E a)).length) (lm (M (E a)))]),.r (Ax [D (B (b<0)),H ((M (E b)).length) (lm (M (E b)))]),.r (o [D (B (r<0)),H ((M (E r)).length) (lm (M (E r)))])] (by kernel_rfl) ⟨h1,h2,h3,trivial⟩
theorem OS{na nb:Bool}{xs ys:LI}(hx:AP xs)(hy:AP ys)(h1:xs.length<1048576)(h2:ys.length<1048576):RQ 111 [o [D na,sL lm xs],o [D nb,sL lm ys]] (Ah (rv na xs+rv nb ys)):=by
 have l1:=Dt (EM (neg:=na) hx) h1;have l2:=Dt (EM (neg:=nb) hy) h2;have h3:=dL (na:=decide (rv na xs<0)) (nb:=decide (rv nb ys<0)) l1 l2;rw[F8,F8] at h3;exact Aqi na xs nb ys (rv na xs) (rv nb ys) _ (Dp hx (by omega)) (Dp hy (by omega)) h3
theorem xT{a b:Int}(h1:(M a.natAbs).length<1048576)(h2:(M b.natAbs).length<1048576):RQ 111 [Ah a,Ah b] (Ah (a+b)):=by
 have:=OS (na:=decide (a<0)) (nb:=decide (b<0)) (BI a.natAbs) (BI b.natAbs) h1 h2;rwa [F8,F8] at this
theorem Aqj(na:Bool)(xs:LI)(nb:Bool)(ys:LI)(a b r:Int)(h1:RQ 143 [o [D na,sL lm xs]] (Ax [D (B (a<0)),H (M (E a)).length (lm (M (E a)))]))(h2:RQ 143 [o [D nb,sL lm ys]] (Ax [D (B (b<0)),H (M (E b)).length (lm (M (E b)))]))(h3:RQ 154 [D (B (a<0)),H (M (E a)).length (lm (M (E a))),D (!(decide (b<0))),H (M (E b)).length (lm (M (E b)))] (o [D (B (r<0)),H ((M (E r)).length) (lm (M (E r)))])):RQ 127 [o [D na,sL lm xs],o [D nb,sL lm ys]] (o [D (B (r<0)),H ((M (E r)).length) (lm (M (E r)))]):=Bx (ps:=[RQ 143 [o [D na,sL lm xs]] (Ax [D (B (a<0)),H ((M (E a)).length) (lm (M (E a)))]),RQ 143 [o [D nb,sL lm ys]] (Ax [D (B (b<0)),H ((M (E b)).length) (lm (M (E b)))]),RQ 154 [D (B (a<0)),H ((M (E a)).length) (lm (M (E a))),D (!(decide (b<0))),H ((M (E b)).length) (lm (M (E b)))] (o [D (B (r<0)),H ((M (E r)).length) (lm (M (E r)))])]) AS rfl 300 rfl [.r (Ax [D (B (a<0)),H ((M (E a)).length) (lm (M (E a)))]),.r (Ax [D (B (b<0)),H ((M (E b)).length) (lm (M (E b)))]),.r (o [D (B (r<0)),H ((M (E r)).length) (lm (M (E r)))])] (by kernel_rfl) ⟨h1,h2,h3,trivial⟩
theorem xU{na nb:Bool}{xs ys:LI}(hx:AP xs)(hy:AP ys)(h1:xs.length<1048576)(h2:ys.length<1048576):RQ 127 [o [D na,sL lm xs],o [D nb,sL lm ys]] (Ah (rv na xs-rv nb ys)):=by
 have l1:=Dt (EM (neg:=na) hx) h1;have l2:=Dt (EM (neg:=nb) hy) h2;have h3:=dL (na:=decide (rv na xs<0)) (nb := !decide (rv nb ys<0)) l1 l2;rw[F8,sD,<- Int.sub_eq_add_neg] at h3;exact Aqj na xs nb ys (rv na xs) (rv nb ys) _ (Dp hx (by omega)) (Dp hy (by omega)) h3
def TWB:Cn:=TWA
theorem m:Ca AY TWB:=AS
end Go.Proofs.YtajompaehjkgkaaGreat
namespace Go.Ai
open Int renaming add_zero->B5,ediv_lt_of_lt_mul->K4,ediv_nonneg->J3,emod_eq_of_lt->Gh,emod_lt_of_pos->Ey,emod_nonneg->FE,eq_of_mul_eq_mul_left->I2,le_of_lt->A7,lt_of_lt_of_le->jA,mul_add->CW,mul_assoc->AH,mul_comm->AA,mul_ediv_add_emod->G2,mul_le_mul->DJ,mul_le_mul_of_nonneg_left->Ak,mul_le_mul_of_nonneg_right->Ae,mul_lt_mul_of_pos_left->JS,mul_neg->EV,mul_nonneg->A6,mul_sub->Hu,mul_zero->AM,not_le->Jl,not_lt->KD,pow_add->BB,pow_succ->A2,sub_self->Tt,zero_add->DK,zero_mul->DF
open List renaming drop_drop->LS,drop_zero->Fe,ext_getElem?->Gg,getD_eq_getElem?_getD->Z,getElem?_drop->Bu,getElem?_eq_getElem->Af,getElem?_eq_none->AE,getElem?_take_of_lt->B1,length_set->A',length_take->AB,mem_of_mem_drop->E',mem_of_mem_take->C3,take_append_drop->X3
open Nat renaming add_comm->JW,le_of_lt->WN,le_refl->Ap,lt_or_ge->Cp,zero_add->B_
section
variable {prog:Nat->Option IFunc}
theorem dM{c:ICode}{ex:Ex}{s t t':Al}(ks:List Nat)(h:Cv prog c s ex t)(e:VF ks t=t'):Cv prog c s ex t':=e ▸ Cv.weak h (GQ.refl _) (XU ks t)
theorem FB{c:ICode}{ex:Ex}{fin:Al}(st:Nat->Al)(n:Nat)(hex:ex ≠ .norm)(out:Cv prog c (st n) ex fin):∀ i,i<=n->(∀ t,i<=t->t<n->Cv prog c (st t) .norm (st (t+1)))->Cv prog (.loop c) (st i) ex fin:=by
 intro i hi;obtain⟨r,hr⟩:∃ r,i+r=n:=⟨n-i,by omega⟩;induction r generalizing i with
 | zero =>
  intro _;have:i=n:=by omega
  subst this;exact Ao out hex
 | succ r ih =>
  intro hs;exact Cv.loop (hs i (Ap _) (by omega)) (ih (i+1) (by omega) (by omega) (fun t h1 h2=>hs t (by omega) h2))
theorem Ju(f:Nat->Bool)(m:Nat):∀ r i,i+r=m->(∀ j,i<=j->j<m->f j=false)\/∃ j,i<=j/\j<m/\f j=true/\∀ t,i<=t->t<j->f t=false:=by
 intro r;induction r with
 | zero=>intro i hi;left;intro j h1 h2;omega
 | succ r ih =>
  intro i hi;cases hf:f i with
  | true=>right;exact⟨i,Ap _,by omega,hf,fun t h1 h2=>by omega⟩
  | false =>
   rcases ih (i+1) (by omega) with h | ⟨j,h1,h2,h3,h4⟩
   ·left;intro j h1 h2;by_cases e:j=i
    ·rw[e];exact hf
    ·exact h j (by omega) h2
   ·right;refine⟨j,by omega,h2,h3,fun t h5 h6 => ?_⟩;by_cases e:t=i
    ·rw[e];exact hf
    ·exact h4 t (by omega) h6
end
theorem Dq(us:LI){j:Nat}(h:j<=us.length):Ab us=Ab (us.take j)+4294967296^j*Ab (us.drop j):=by
 have:=Gu (us.take j) (us.drop j);rw[X3,AB,Nat.min_eq_left h] at this;exact this
theorem xV{us ws:LI}{j:Nat}(hl:ws.length=us.length)(h:∀ t,t<j->ws.getD t 0=us.getD t 0):ws.take j=us.take j:=by
 apply Gg;intro t;rcases Cp t j with g | g
 ·rw[B1 g,B1 g];have:=h t g;rw[Z,Z] at this;rcases Cp t us.length with k | k
  ·rw[Af k,Af (by omega)] at this |-;simpa using this
  ·rw[AE k,AE (by omega)]
 ·rw[AE (by simp;omega),AE (by simp;omega)]
theorem Fg{us:LI}(h:AP us)(j:Nat):AP (us.drop j):=fun x hx=>h x (E' hx)
theorem DS{us:LI}(h:AP us)(j:Nat):AP (us.take j):=fun x hx=>h x (C3 hx)
theorem Jv{us:LI}(hu:AP us){n:Nat}{V:Int}(hV:V<=4294967296^n)(h:Ab us<V):Ab (us.drop n)=0:=by
 have h0:=AZ (Fg hu n);rcases Cp n us.length with g | g
 ·have e:=Dq us (WN g);have h1:=AZ (DS hu n);have hp:=Cy n;apply Int.le_antisymm ?_ h0;apply KD.1;intro hc;have:=Ak (show 1<=Ab (us.drop n) by omega) (show (0:Int)<=4294967296^n by omega);omega
 ·exact DQ g
theorem Ge{us:LI}(hu:AP us)(n:Nat):Ab (us.take n)<4294967296^n:=by
 have h:=DI (DS hu n);exact jA h (Gl (by simp;omega))
def FL(g:Int)(vs:LI)(j:Nat):Nat->Nat->LI->Int->Int->LI × Int × Int
 | 0,_,us,b,c=>(us,b,c)
 | r+1,i,us,b,c=>FL g vs j r (i+1) (us.set (i+j) ((us.getD (i+j) 0-(g*vs.getD i 0+c) % 4294967296-b) % 4294967296))
   (if us.getD (i+j) 0-(g*vs.getD i 0+c) % 4294967296-b<0 then 1 else 0) ((g*vs.getD i 0+c) / 4294967296)
theorem VW{g v c:Int}(hg:0<=g/\g<4294967296)(hv:0<=v/\v<4294967296)(hc:0<=c/\c<4294967296):0<=g*v+c/\g*v+c<18446744073709551616:=by
 have h1:=A6 hg.1 hv.1;have h2:=DJ (show g<=4294967295 by omega) (show v<=4294967295 by omega) hv.1 (by omega);omega
theorem VX{g:Int}{vs:LI}{j:Nat}(hg:0<=g/\g<4294967296)(hv:AP vs):∀ (r i:Nat) (us:LI) (b c:Int),r+i=vs.length->j+vs.length<=us.length->AP us->0<=b/\b<=1->0<=c/\c<4294967296 ->
  (FL g vs j r i us b c).1.length=us.length/\AP (FL g vs j r i us b c).1/\(0<=(FL g vs j r i us b c).2.1/\(FL g vs j r i us b c).2.1<=1)/\(0<=(FL g vs j r i us b c).2.2/\(FL g vs j r i us b c).2.2<4294967296) /\
  Ab (FL g vs j r i us b c).1=Ab us-4294967296^(i+j)*(g*Ab (vs.drop i)+b+c)+4294967296^(j+vs.length)*((FL g vs j r i us b c).2.1+(FL g vs j r i us b c).2.2) /\
  ∀ t,t<i+j\/j+vs.length<=t->(FL g vs j r i us b c).1.getD t 0=us.getD t 0:=by
 intro r;induction r with
 | zero =>
  intro i us b c hi _ hu hb hc;refine⟨rfl,hu,hb,hc,?_,fun t _=>rfl⟩;have:i=vs.length:=by omega
  subst this;rw[DQ (Ap _),JW];simp only[FL,AM,DK];omega
 | succ r ih =>
  intro i us b c hi hl hu hb hc;have hvi:=AG hv i;have hui:=AG hu (i+j);have hw:=VW hg hvi hc;simp only[FL];generalize hp:g*vs.getD i 0+c=p at *
  generalize hd:us.getD (i+j) 0-p % 4294967296-b=d at *
  obtain⟨g1,g2,g3,g4,g5,g6⟩:=ih (i+1) (us.set (i+j) (d % 4294967296)) (if d<0 then 1 else 0) (p / 4294967296) (by omega) (by simpa using hl) (Cw hu (by omega)) (by split <;> omega) (by omega);refine⟨by simpa using g1,g2,g3,g4,?_,fun t ht => ?_⟩
  ·rw[g5,DP _ _ _ (by omega),C5 vs i,show i+1+j=(i+j)+1 by omega,A2];generalize (4294967296:Int)^(i+j)=P at *
   generalize Ab (vs.drop (i+1))=V at *
   have e1:d % 4294967296=d+4294967296*(if d<0 then 1 else 0):=by split <;> omega
   rw[e1];generalize (if d<0 then (1:Int) else 0)=k at *
   have e2:p=4294967296*(p / 4294967296)+p % 4294967296:=by omega
   generalize p / 4294967296=ph at *
   generalize p % 4294967296=pl at *
   generalize us.getD (i+j) 0=u at *
   generalize vs.getD i 0=v at *
   have e3:d=u-pl-b:=by omega
   have e4:c=4294967296*ph+pl-g*v:=by omega
   subst e3;rw[e4];grind
  ·rw[g6 t (by omega),Cs (by omega)]
def HW(vs:LI)(j:Nat):Nat->Nat->LI->Int->LI × Int
 | 0,_,us,c=>(us,c)
 | r+1,i,us,c=>HW vs j r (i+1) (us.set (i+j) ((us.getD (i+j) 0+vs.getD i 0+c) % 4294967296)) ((us.getD (i+j) 0+vs.getD i 0+c) / 4294967296)
theorem VY{vs:LI}{j:Nat}(hv:AP vs):∀ (r i:Nat) (us:LI) (c:Int),r+i=vs.length->j+vs.length<=us.length->AP us->0<=c/\c<=1 ->
  (HW vs j r i us c).1.length=us.length/\AP (HW vs j r i us c).1/\(0<=(HW vs j r i us c).2/\(HW vs j r i us c).2<=1) /\
  Ab (HW vs j r i us c).1=Ab us+4294967296^(i+j)*(Ab (vs.drop i)+c)-4294967296^(j+vs.length)*(HW vs j r i us c).2 /\
  ∀ t,t<i+j\/j+vs.length<=t->(HW vs j r i us c).1.getD t 0=us.getD t 0:=by
 intro r;induction r with
 | zero =>
  intro i us c hi _ hu hc;refine⟨rfl,hu,hc,?_,fun t _=>rfl⟩;have:i=vs.length:=by omega
  subst this;rw[DQ (Ap _),JW];simp only[HW,DK];omega
 | succ r ih =>
  intro i us c hi hl hu hc;have hvi:=AG hv i;have hui:=AG hu (i+j);simp only[HW];generalize hd:us.getD (i+j) 0+vs.getD i 0+c=d at *
  obtain⟨g1,g2,g3,g4,g5⟩:=ih (i+1) (us.set (i+j) (d % 4294967296)) (d / 4294967296) (by omega) (by simpa using hl) (Cw hu (by omega)) (by omega);refine⟨by simpa using g1,g2,g3,?_,fun t ht => ?_⟩
  ·rw[g4,DP _ _ _ (by omega),C5 vs i,show i+1+j=(i+j)+1 by omega,A2];generalize (4294967296:Int)^(i+j)=P at *
   generalize Ab (vs.drop (i+1))=V at *
   have e2:d=4294967296*(d / 4294967296)+d % 4294967296:=by omega
   generalize d / 4294967296=ph at *
   generalize d % 4294967296=pl at *
   generalize us.getD (i+j) 0=u at *
   generalize vs.getD i 0=v at *
   have e3:c=4294967296*ph+pl-u-v:=by omega
   rw[e3];grind
  ·rw[g5 t (by omega),Cs (by omega)]
structure Dig (n:Nat) (V W w nxt x y z:Int):Prop where
 vlow:0<=V-(w*4294967296+nxt)*4294967296^n/\V-(w*4294967296+nxt)*4294967296^n<4294967296^n
 wlow:0<=W-((x*4294967296+y)*4294967296+z)*4294967296^n/\W-((x*4294967296+y)*4294967296+z)*4294967296^n<4294967296^n
 htop:2147483648<=w/\w<4294967296
 hnxt:0<=nxt/\nxt<4294967296
 hx:0<=x/\x<4294967296
 hy:0<=y/\y<4294967296
 hz:0<=z/\z<4294967296
 small:W<4294967296*V
structure DigI (V W w num g r:Int):Prop where
 sum:g*w+r=num
 r0:0<=r
 g0:0<=g
 up:W<(g+1)*V
 gle:g<=4294967297
section
variable {n:Nat} {V W w nxt x y z:Int}
theorem Dig.x_le(h:Dig n V W w nxt x y z):x<=w:=by
 have hp:=Cy n;obtain⟨h1,h2⟩:=h.vlow;obtain⟨h3,h4⟩:=h.wlow;have:=h.hnxt;have:=h.hy;have:=h.hz;have hs:=h.small;apply KD.1;intro hx;generalize (4294967296:Int)^n=P at *
 have e1:(x*4294967296+y)*4294967296+z>=(w+1)*4294967296*4294967296:=by omega
 have e2:=Ae e1 (show 0<=P by omega);have e3:w*4294967296+nxt+1<=(w+1)*4294967296:=by omega
 have e4:=Ae e3 (show 0<=P by omega);have e5:(w+1)*4294967296*4294967296*P=4294967296*((w+1)*4294967296*P):=by grind
 have e6:(w*4294967296+nxt+1)*P=(w*4294967296+nxt)*P+P:=by grind
 omega
theorem Dig.Vpos(h:Dig n V W w nxt x y z):4294967296*4294967296^n<=V:=by
 have hp:=Cy n;obtain⟨h1,h2⟩:=h.vlow;have:=h.hnxt;have:=h.htop;generalize (4294967296:Int)^n=P at *
 have:=Ae (show (4294967296:Int)<=w*4294967296+nxt by omega) (show 0<=P by omega);omega
theorem Dig.init(h:Dig n V W w nxt x y z):DigI V W w (x*4294967296+y) ((x*4294967296+y) / w) ((x*4294967296+y) % w):=by
 have hxl:=h.x_le;have ht:=h.htop;have hx:=h.hx;have hy:=h.hy;have e:=G2 (x*4294967296+y) w;have r0:=FE (x*4294967296+y) (show w ≠ 0 by omega);have r1:=Ey (x*4294967296+y) (show 0<w by omega);have g0:0<=(x*4294967296+y) / w:=J3 (by omega) (by omega);have g1:(x*4294967296+y) / w<=4294967297:=by
  apply Int.lt_add_one_iff.1;apply K4 (by omega);omega
 generalize hg:(x*4294967296+y) / w=g at *
 generalize hr:(x*4294967296+y) % w=r at *
 refine⟨by rw[AA];exact e,r0,g0,?_,g1⟩;have hp:=Cy n;obtain⟨h1,h2⟩:=h.vlow;obtain⟨h3,h4⟩:=h.wlow;have hnx:=h.hnxt;have hz:=h.hz;generalize (4294967296:Int)^n=P at *
 have e1:x*4294967296+y+1<=(g+1)*w:=by
  have:(g+1)*w=w*g+w:=by grind
  omega
 have e2:(x*4294967296+y)*4294967296+z+1<=(x*4294967296+y+1)*4294967296:=by omega
 have e3:=Ae e2 (show 0<=P by omega);have e4:=Ae e1 (show 0<=4294967296*P by omega);have e5:w*(4294967296*P)<=V:=by
  have:(w*4294967296+nxt)*P=w*(4294967296*P)+nxt*P:=by grind
  have:=A6 hnx.1 (show 0<=P by omega);omega
 have e6:=Ak e5 (show 0<=g+1 by omega);have e7:(g+1)*(w*(4294967296*P))=(g+1)*w*(4294967296*P):=by grind
 have e8:((x*4294967296+y)*4294967296+z+1)*P=((x*4294967296+y)*4294967296+z)*P+P:=by grind
 have e9:(x*4294967296+y+1)*4294967296*P=(x*4294967296+y+1)*(4294967296*P):=by grind
 omega
theorem Dig.step(h:Dig n V W w nxt x y z){g r:Int}(i:DigI V W w (x*4294967296+y) g r)(hc:4294967296<=g\/r*4294967296+z<g*nxt):DigI V W w (x*4294967296+y) (g-1) (r+w):=by
 have ht:=h.htop;have hVp:=h.Vpos;have hp:=Cy n;have e0:(g-1)*w+(r+w)=g*w+r:=by grind
 have hg1:1<=g:=by
  rcases hc with h1 | h1
  ·omega
  ·apply KD.1;intro hg;have:g=0:=by have:=i.g0;omega
   subst this;have:=i.r0;have:=h.hz;omega
 refine⟨by rw[e0];exact i.sum,by have:=i.r0;omega,by omega,?_,by have:=i.gle;omega⟩;rw[Int.sub_add_cancel];obtain⟨h1,h2⟩:=h.vlow;obtain⟨h3,h4⟩:=h.wlow;have hs:=h.small;rcases hc with hc | hc
 ·have:=Ae hc (show 0<=V by omega);omega
 ·have hsum:=i.sum;rw[<- hsum] at h3 h4;generalize (4294967296:Int)^n=P at *
  have e1:(g*w+r)*4294967296+z+1<=g*(w*4294967296+nxt):=by
   have:g*(w*4294967296+nxt)=g*w*4294967296+g*nxt:=by grind
   omega
  have e2:=Ae e1 (show 0<=P by omega);have e3:(w*4294967296+nxt)*P<=V:=by omega
  have e4:=Ak e3 (show 0<=g by omega);have e5:g*(w*4294967296+nxt)*P=g*((w*4294967296+nxt)*P):=by grind
  have e6:((g*w+r)*4294967296+z+1)*P=((g*w+r)*4294967296+z)*P+P:=by grind
  omega
theorem Dig.small_g(h:Dig n V W w nxt x y z){g r:Int}(i:DigI V W w (x*4294967296+y) g r)(hr:4294967296<=r):g<4294967296:=by
 have hxl:=h.x_le;have ht:=h.htop;have hy:=h.hy;apply Jl.1;intro hg;have:=Ae hg (show 0<=w by omega);have:=i.sum;omega
theorem Dig.out(h:Dig n V W w nxt x y z){g r:Int}(i:DigI V W w (x*4294967296+y) g r)(hg:g<4294967296)(hc:4294967296<=r\/g*nxt<=r*4294967296+z):g*V<W+V:=by
 have ht:=h.htop;have hVp:=h.Vpos;have hp:=Cy n;have hnx:=h.hnxt;have hz:=h.hz;have hc':g*nxt<=r*4294967296+z:=by
  rcases hc with hc | hc
  ·have:=DJ (show g<=4294967295 by omega) (show nxt<=4294967295 by omega) hnx.1 (by omega);omega
  ·exact hc
 obtain⟨h1,h2⟩:=h.vlow;obtain⟨h3,h4⟩:=h.wlow;have hsum:=i.sum;have hg0:=i.g0;rw[<- hsum] at h3 h4;generalize (4294967296:Int)^n=P at *
 have e1:g*(w*4294967296+nxt)<=(g*w+r)*4294967296+z:=by
  have:g*(w*4294967296+nxt)=g*w*4294967296+g*nxt:=by grind
  omega
 have e2:=Ae e1 (show 0<=P by omega);have e5:g*(w*4294967296+nxt)*P=g*((w*4294967296+nxt)*P):=by grind
 have e6:=DJ (A7 hg) (show V-(w*4294967296+nxt)*P<=P by omega) (by omega) (show (0:Int)<=4294967296 by omega);have e7:g*(V-(w*4294967296+nxt)*P)=g*V-g*((w*4294967296+nxt)*P):=by grind
 have e8:g*(V-(w*4294967296+nxt)*P)<4294967296*P:=by
  rcases Int.lt_or_eq_of_le hg0 with q | q
  ·have:=JS h2 q;have:=Ae (A7 hg) (show 0<=P by omega);omega
  ·rw[<- q,DF];omega
 omega
end
theorem sE{us vs:LI}{j m:Nat}(hu:AP us)(hv:AP vs)(hm:vs.length=m+2)(hj:j+m+2<us.length)(ht:2147483648<=vs.getD (m+1) 0)(hW:Ab (us.drop (j+1))<Ab vs) :
  Dig m (Ab vs) (Ab (us.drop j)) (vs.getD (m+1) 0) (vs.getD m 0) (us.getD (j+m+2) 0) (us.getD (j+m+1) 0) (us.getD (j+m) 0):=by
 have hV:=DI hv;have z:=Jv (Fg hu (j+1)) (n:=m+2) (V:=Ab vs) (by rw[hm] at hV;omega) hW;rw[LS] at z;have e1:=Dq (us.drop j) (j:=m) (by simp;omega);rw[LS] at e1;have d1:=C5 us (j+m);have d2:=C5 us (j+m+1);have d3:=C5 us (j+m+2);rw[show j+m+2+1=j+1+(m+2) by omega,z] at d3;have l1:=Ge (Fg hu j) m;have l0:=AZ (DS (Fg hu j) m);have f1:=Dq vs (j:=m) (by omega);have c1:=C5 vs m;have c2:=C5 vs (m+1);have c3:=DQ (xs:=vs) (i:=m+1+1) (by omega);rw[c3] at c2;have k1:=Ge hv m;have k0:=AZ (DS hv m);have g1:=C5 us j;have gj:=AG hu j;refine⟨?_,?_,⟨ht,(AG hv _).2⟩,AG hv _,AG hu _,AG hu _,AG hu _,by omega⟩
 ·rw[f1,c1,c2,AA (_+_) (4294967296^m)];simp only[AM,B5];rw[show vs.getD (m+1) 0*4294967296+vs.getD m 0=vs.getD m 0+4294967296*vs.getD (m+1) 0 by omega];omega
 ·rw[e1,d1,d2,d3,AA (_+_) (4294967296^m)];simp only[AM,B5];rw[show (us.getD (j+m+2) 0*4294967296+us.getD (j+m+1) 0)*4294967296+us.getD (j+m) 0=us.getD (j+m) 0+4294967296*(us.getD (j+m+1) 0+4294967296*us.getD (j+m+2) 0) by omega];omega
structure StepOk (us vs ws:List Int) (j:Nat) (q:Int):Prop where
 len:ws.length=us.length
 u32:AP ws
 val:Ab ws=Ab us-4294967296^j*(q*Ab vs)
 low:Ab (ws.drop j)<Ab vs
theorem dN{j:Nat}{a b:Int}(h:4294967296^j*a=4294967296^j*b):a=b:=I2 (by have:=Cy j;omega) h
theorem VZ{us ws:LI}{j:Nat}{k:Int}(hl:ws.length=us.length)(hj:j<=us.length)(h:∀ t,t<j->ws.getD t 0=us.getD t 0)(hv:Ab ws=Ab us+4294967296^j*k):Ab (ws.drop j)=Ab (us.drop j)+k:=by
 have e1:=Dq us hj;have e2:=Dq ws (j:=j) (by omega);rw[xV hl h] at e2;apply dN (j:=j);rw[CW];omega
theorem dO{us:LI}{j n:Nat}(hj:j+n<us.length)(hz:Ab (us.drop (j+n+1))=0):Ab (us.drop j)=Ab ((us.drop j).take n)+4294967296^n*us.getD (j+n) 0:=by
 have e1:=Dq (us.drop j) (j:=n) (by simp;omega);rw[LS] at e1;have d1:=C5 us (j+n);rw[hz,AM,B5] at d1;rw[e1,d1]
theorem Ts{us vs:LI}{j:Nat}(hu:AP us)(hv:AP vs)(hj:j+vs.length<us.length)(hW:Ab (us.drop (j+1))<Ab vs){g:Int}(hg:0<=g/\g<4294967296)
  (h1:Ab (us.drop j)<(g+1)*Ab vs) (h2:g*Ab vs<Ab (us.drop j)+Ab vs) :
  let m:=FL g vs j vs.length 0 us 0 0
  let d:=m.1.getD (j+vs.length) 0-m.2.2-m.2.1
  (d>=0->StepOk us vs (m.1.set (j+vs.length) (d % 4294967296)) j g) /\
  (d<0->StepOk us vs ((HW vs j vs.length 0 (m.1.set (j+vs.length) (d % 4294967296)) 0).1.set (j+vs.length) (((HW vs j vs.length 0 (m.1.set (j+vs.length) (d % 4294967296)) 0).1.getD (j+vs.length) 0+(HW vs j vs.length 0 (m.1.set (j+vs.length) (d % 4294967296)) 0).2) % 4294967296)) j (g-1)/\1<=g):=by
 intro m d;have hVlt:=DI hv;have z:=Jv (Fg hu (j+1)) (n:=vs.length) (V:=Ab vs) (by omega) hW;rw[LS,show j+1+vs.length=j+vs.length+1 by omega] at z;obtain⟨m1,m2,m3,m4,m5,m6⟩:=VX hg hv vs.length 0 us 0 0 (by omega) (show j+vs.length<=us.length by omega) hu (by omega) (by omega);change m.1.length=us.length at m1;change AP m.1 at m2;change 0<=m.2.1/\m.2.1<=1 at m3;change 0<=m.2.2/\m.2.2<4294967296 at m4;change Ab m.1=Ab us-4294967296^(0+j)*(g*Ab (vs.drop 0)+0+0)+4294967296^(j+vs.length)*(m.2.1+m.2.2) at m5;change ∀ t,t<0+j\/j+vs.length<=t->m.1.getD t 0=us.getD t 0 at m6;have hd:d=m.1.getD (j+vs.length) 0-m.2.2-m.2.1:=rfl;clear_value d;generalize hms:m.1=ms at *
 generalize m.2.1=b at *
 generalize m.2.2=c at *
 rw[B_,Fe,B5,B5] at m5;have m6':=m6 (j+vs.length) (by omega);have w1:Ab (ms.drop j)=Ab (us.drop j)+(4294967296^vs.length*(b+c)-g*Ab vs):=by
  apply VZ m1 (by omega) (fun t ht=>m6 t (by omega));rw[m5,BB,Hu,AH];omega
 have zz:Ab (ms.drop (j+vs.length+1))=0:=by
  have:ms.drop (j+vs.length+1)=us.drop (j+vs.length+1):=by
   apply Gg;intro t;rw[Bu,Bu];have:=m6 (j+vs.length+1+t) (by omega);rw[Z,Z] at this;rcases Cp (j+vs.length+1+t) us.length with k | k
   ·rw[Af k,Af (by omega)] at this |-;simpa using this
   ·rw[AE k,AE (by omega)]
  rw[this];exact z
 have w2:=dO (us:=ms) (j:=j) (n:=vs.length) (by omega) zz;have lo:=Ge (Fg m2 j) vs.length;have lo0:=AZ (DS (Fg m2 j) vs.length);have hx:=AG m2 (j+vs.length);have hX:ms.getD (j+vs.length) 0=d+b+c:=by omega
 rw[hX] at w2;have hp:=Cy vs.length;generalize hP:(4294967296:Int)^vs.length=P at *
 generalize hL:Ab ((ms.drop j).take vs.length)=L at *
 have w3:Ab (us.drop j)-g*Ab vs=L+P*d:=by
  rw[w1] at w2;have e:P*(d+b+c)=P*d+P*(b+c):=by grind
  omega
 have e2:(g+1)*Ab vs=g*Ab vs+Ab vs:=by grind
 have lset:∀ v:Int,Ab (ms.set (j+vs.length) v)=Ab us-4294967296^j*(g*Ab vs)+4294967296^j*(P*(v-d)):=by
  intro v;rw[DP _ _ _ (by omega),m5,hX,BB,hP];grind
 refine⟨fun hge => ?_,fun hlt => ?_⟩
 ·have hd0:d=0\/1<=d:=by omega
  have hd1:d<4294967296:=by omega
  refine⟨by simpa using m1,Cw m2 (by omega),?_,?_⟩
  ·rw[lset,Gh hge hd1,Tt,AM,AM,B5]
  ·rw[VZ (us:=us) (k := -(g*Ab vs)) (by simpa using m1) (by omega) (fun t ht=>by rw[Cs (by omega)];exact m6 t (by omega)) (by rw[lset,Gh hge hd1,Tt,AM,AM,B5,EV];omega)];omega
 ·have hg1:1<=g:=by
   apply KD.1;intro hh;have hg':g=0:=by omega
   have:=AZ (Fg hu j);rw[hg',DF] at w3;have:=Ak (show d <= -1 by omega) (show 0<=P by omega);omega
  refine⟨?_,hg1⟩;have hu2:AP (ms.set (j+vs.length) (d % 4294967296)):=Cw m2 (by omega);obtain⟨a1,a2,a3,a4,a5⟩:=VY hv vs.length 0 (ms.set (j+vs.length) (d % 4294967296)) 0 (by omega) (show j+vs.length<=_ by rw[A'];omega) hu2 (by omega);generalize HW vs j vs.length 0 (ms.set (j+vs.length) (d % 4294967296)) 0=A at *
  have a6:=a5 (j+vs.length) (by omega);have hlen:A.1.length=us.length:=by rw[a1,A',m1]
  have hget:(ms.set (j+vs.length) (d % 4294967296)).getD (j+vs.length) 0=d % 4294967296:=by
   simp[Z,show j+vs.length<ms.length by omega]
  rw[hget] at a6;rw[a6];rw[B_,Fe,B5,lset,BB,hP] at a4;have aset:∀ v:Int,Ab (A.1.set (j+vs.length) v)=Ab us-4294967296^j*((g-1)*Ab vs)+4294967296^j*(P*(v-d-A.2)):=by
   intro v;rw[DP _ _ _ (by omega),a4,a6,BB,hP];grind
  have hwA:∀ v:Int,Ab ((A.1.set (j+vs.length) v).drop j)=Ab (us.drop j)-(g-1)*Ab vs+P*(v-d-A.2):=by
   intro v;have:=VZ (us:=us) (ws:=A.1.set (j+vs.length) v) (j:=j) (k:=P*(v-d-A.2)-(g-1)*Ab vs) (by simpa using hlen) (by omega) (fun t ht=>by rw[Cs (by omega),a5 t (by omega),Cs (by omega)];exact m6 t (by omega)) (by rw[aset];grind);omega
  have hge0:0<=Ab (us.drop j)-(g-1)*Ab vs:=by
   have:(g-1)*Ab vs=g*Ab vs-Ab vs:=by grind
   omega
  have hltV:Ab (us.drop j)-(g-1)*Ab vs<Ab vs:=by
   have h3:(g-1)*Ab vs=g*Ab vs-Ab vs:=by grind
   have h4:=Ak (show d <= -1 by omega) (show 0<=P by omega);omega
  have hz3:A.2 = -d:=by
   have q0:=hwA 0;have q1:=AZ (Fg (Cw a2 (i:=j+vs.length) (v:=0) (by omega)) j);have zz2:Ab ((A.1.set (j+vs.length) 0).drop (j+vs.length+1))=0:=by
    have:(A.1.set (j+vs.length) 0).drop (j+vs.length+1)=ms.drop (j+vs.length+1):=by
     apply Gg;intro t;rw[Bu,Bu];have h5:=a5 (j+vs.length+1+t) (by omega);rw[Cs (by omega)] at h5;have h6:(A.1.set (j+vs.length) 0).getD (j+vs.length+1+t) 0=ms.getD (j+vs.length+1+t) 0:=by rw[Cs (by omega)];exact h5
     rw[Z,Z] at h6;rcases Cp (j+vs.length+1+t) us.length with k | k
     ·rw[Af (by simp;omega),Af (by omega)] at h6 |-;simpa using h6
     ·rw[AE (by simp;omega),AE (by omega)]
    rw[this];exact zz
   have q2:=dO (us:=A.1.set (j+vs.length) 0) (j:=j) (n:=vs.length) (by simp;omega) zz2;have q3:(A.1.set (j+vs.length) 0).getD (j+vs.length) 0=0:=by simp[Z,show j+vs.length<A.1.length by omega]
   have q4:=Ge (Fg (Cw a2 (i:=j+vs.length) (v:=0) (by omega)) j) vs.length;rw[hP] at q2 q4;rw[q3,AM,B5] at q2;rw[q0] at q1 q2;rw[<- q2] at q4;generalize Ab (us.drop j)-(g-1)*Ab vs=X at *
   have e5:P*(0-d-A.2)=P*(-d-A.2):=by rw[Int.zero_sub]
   rw[e5] at q1 q4;have c1 : -d-A.2<1:=by
    apply Jl.1;intro hc;have:=Ak hc (show 0<=P by omega);omega
   have c2 : -1 < -d-A.2:=by
    apply Jl.1;intro hc;have:=Ak hc (show 0<=P by omega);omega
   omega
  have hv0:(d % 4294967296+A.2) % 4294967296=0:=by omega
  rw[hv0];refine⟨by simpa using hlen,Cw a2 (by omega),?_,?_⟩
  ·rw[aset,show (0:Int)-d-A.2=0 by omega,AM,AM,B5]
  ·rw[hwA,show (0:Int)-d-A.2=0 by omega,AM,B5];exact hltV
end Go.Ai
namespace Go.Proofs.YtajompaehjkgkaaGreat
open Go.Ai
set_option maxRecDepth 100000
open BitVec renaming ofInt->T,ofInt_natCast->Kl,or_comm->TW,toNat_ofNat->IZ,toNat_or->iT
open Bool renaming false_and->I8,false_eq_true->Cf
open Decidable renaming decide->B
open Go.Ai.AV renaming agg->o,bool->D,fresh->L,int->F,sl->H,tup->Ax
open Go.Ai.Reg renaming own->X,val->C
open Go.IntKind renaming bits->Am,i64->O,signed->jY,u32->Ac,u64->U,wrap->I
open Int renaming add_mul_ediv_right->A5s,add_zero->B5,ediv_eq_zero_of_lt->GK,emod_nonneg->FE,fdiv->d,fdiv_eq_ediv_of_nonneg->t,mul_comm->AA,mul_emod_mul_of_pos->A5p,mul_le_mul->DJ,mul_lt_mul_of_pos_right->Cx,mul_nonneg->A6,mul_zero->AM,natCast_ediv->Aqo,natCast_mul->CQ,natCast_pow->C6,pow_add->BB,pow_nonneg->N4,tdiv->Aw,tmod->AD,toNat->A,toNat_natCast->R,zero_add->DK
open List renaming all_eq_true->BA,drop->p,length->Bh,length_pos_iff->An,range->Aq,take->B3
open Nat renaming add_mul->D',log2->Cg,log2_eq_iff->Qx,log2_lt->LJ,lt_or_ge->Cp,mod_eq_of_lt->F3,mul_comm->CS,mul_le_mul_right->AF,one_mul->Fk,pow_add->De,pow_le_pow_right->BF,two_pow_add_eq_or_of_lt->Awg,two_pow_pos->Awc
theorem Q'{n:Int}(h:0<=n/\n<4294967296):I Ac n=n:=by rw [DW];omega
theorem C8{n:Int}(h:0<=n/\n<18446744073709551616):I U n=n:=by rw [B6];omega
theorem p32:(2:Int)^(min (A 32) (Am .u64))=4294967296:=by decide
theorem p63:(2:Int)^(min (A 63) (Am .u64))=9223372036854775808:=by decide
theorem Yl(s:Int):d s (2^(min (A 32) (Am .u64)))=s / 4294967296:=by
 rw[p32,t _ (by decide)]
theorem Aqk(s:Int):d s (2^(min (A 63) (Am .u64)))=s / 9223372036854775808:=by
 rw[p63,t _ (by decide)]
theorem MU{r x:Int}(hr:0<=r/\r<4294967296)(hx:0<=x/\x<4294967296) :
  I U ((T (Am .u64) (I U (r*2^(min (A 32) (Am .u64)))) ||| T (Am .u64) (I U x)).toNat)=r*4294967296+x:=by
 rw[p32,C8 (n:=r*4294967296) (by omega),C8 (n:=x) (by omega)];have:=Apl (q:=r) (c:=x) (s:=32) hr.1 (by rw[show (2:Int)^32=4294967296 by decide];omega) (by omega) (by rw[show (2:Int)^32=4294967296 by decide];exact hx);rw[show (2:Int)^32=4294967296 by decide] at this;exact this
theorem Aql{q c:Int}{s:Nat}(hq:0<=q)(hs:q*2^s<4294967296)(hs':s<=32)(hc:0<=c/\c<2^s) :
  I Ac ((T (Am .u32) c ||| T (Am .u32) (q*2^s)).toNat)=q*2^s+c:=by
 obtain⟨a,rfl⟩:∃ a:Nat,q=a:=⟨q.toNat,by omega⟩;obtain⟨b,rfl⟩:∃ b:Nat,c=b:=⟨c.toNat,by omega⟩;have e1:(a:Int)*2^s=((a*2^s:Nat):Int):=by rw[CQ,C6];rfl
 have hb:b<2^s:=by
  have:(b:Int)<((2^s:Nat):Int):=by rw[C6];exact hc.2
  omega
 have h64:2^s<=2^32:=BF (by decide) hs';have e64:2^32=4294967296:=by decide
 rw[e1] at hs |-;show I Ac ((T 32 (b:Int) ||| T 32 ((a*2^s:Nat):Int)).toNat:Int)=_;rw[TW,iT,Kl,Kl,IZ,IZ,F3 (by omega),F3 (by omega),CS a,<- Awg hb,CS (2^s) a,DW];have hsum:a*2^s+b<4294967296:=by
  have hd:a*2^s+2^s<=2^32:=by
   have hk:2^32=2^(32-s)*2^s:=by rw[<- De];congr 1;omega
   have h1:a<2^(32-s):=by
    rcases Cp a (2^(32-s)) with g | g
    ·exact g
    ·have:=AF (2^s) g;omega
   have h2:=AF (2^s) (show a+1<=2^(32-s) by omega);rw[D',Fk] at h2;omega
  omega
 omega
theorem Q_{s:Nat}(hs:s<=32):(4294967296:Int)=2^(32-s)*2^s:=by rw [<- BB,show 32-s+s=32 by omega];decide
theorem V'{x:Int}{s:Nat}(hx:0<=x/\x<4294967296)(hs:s<32) :
  0<=x*2^s/\x*2^s<18446744073709551616/\x*2^s / 4294967296<2^s/\∃ q:Int,0<=q/\x*2^s % 4294967296=q*2^s:=by
 have hp:=BE s;have hp2:(2:Int)^s<=2147483648:=by
  have:=G5 (show s<=31 by omega);rwa [show (2:Int)^31=2147483648 by decide] at this
 have h0:=A6 hx.1 (show (0:Int)<=2^s by omega);have h1:=DJ (show x<=4294967295 by omega) hp2 (by omega) (by omega);have h2:=Cx hx.2 hp;refine⟨h0,by omega,by omega,?_⟩;have e:(4294967296:Int)=2^(32-s)*2^s:=by
  rw[<- BB,show 32-s+s=32 by omega];decide
 refine⟨x % 2^(32-s),FE _ (by have:=BE (32-s);omega),?_⟩;rw[e,AA x,AA (2^(32-s)),A5p _ _ hp,AA]
def Z0(n:Nat):Nat:=if n=0 then 0 else Cg n+1
def HX(i:Int):Int:=(Z0 i.toNat:Nat)
theorem xW:∀ n:Nat,n<256->(EF[n]?).map (fun c=>(c.toNat:Int))=some ((Z0 n:Nat):Int):=by
 have h:(Aq 256).all (fun n=>decide ((EF[n]?).map (fun c=>(c.toNat:Int))=some ((Z0 n:Nat):Int)))=true:=by decide +kernel
 intro n hn;have:=BA.1 h n (by simpa using hn);simpa using this
theorem Ra(x:Int):((if 0<=(IntKind.u8.wrap x) then (EF)[(A (IntKind.u8.wrap x))]? else none).map fun c=>(c.toNat:Int))=some (HX (IntKind.u8.wrap x)):=by
 have hw:0<=IntKind.u8.wrap x/\IntKind.u8.wrap x<256:=by
  simp only[I,Am,jY,I8,Cf,if_false];omega
 rw[if_pos hw.1];exact xW _ (by omega)
def Uk(x:Int):Int :=
 match decide (x>=65536) with
 | true=>(match decide ((d x (2^(min (A 16) (Am .u32))))>=256) with
 | true=>(I O (24+(I O (HX (IntKind.u8.wrap (d (d x (2^(min (A 16) (Am .u32)))) (2^(min (A 8) (Am .u32)))))))))
 | false=>(I O (16+(I O (HX (IntKind.u8.wrap (d x (2^(min (A 16) (Am .u32))))))))))
 | false=>(match decide (x>=256) with
 | true=>(I O (8+(I O (HX (IntKind.u8.wrap (d x (2^(min (A 8) (Am .u32)))))))))
 | false=>(I O (0+(I O (HX (IntKind.u8.wrap x))))))
theorem Aqm(x:Int)  : RQ 150 [F Ac x] (F O (Uk x)):=by
 unfold Uk;cases c1:(B (x>=65536))
 ·cases c2:(B (x>=256))
  ·exact Bx (r := F O (I O (0+(I O (HX (IntKind.u8.wrap x)))))) (ps:=[(B (x>=65536))=false,(B (x>=256))=false,((if 0<=(IntKind.u8.wrap x) then (EF)[(A (IntKind.u8.wrap x))]? else none).map fun c=>(c.toNat:Int))=some (HX (IntKind.u8.wrap x))]) AS rfl 300 rfl [.b false,.b false,.v (F .u8 (HX (IntKind.u8.wrap x)))] (by kernel_rfl) ⟨c1,c2,(Ra _),trivial⟩
  ·exact Bx (r := F O (I O (8+(I O (HX (IntKind.u8.wrap (d x (2^(min (A 8) (Am .u32)))))))))) (ps:=[(B (x>=65536))=false,(B (x>=256))=true,¬ (8:Int)<0,((if 0<=(IntKind.u8.wrap (d x (2^(min (A 8) (Am .u32))))) then (EF)[(A (IntKind.u8.wrap (d x (2^(min (A 8) (Am .u32))))))]? else none).map fun c=>(c.toNat:Int))=some (HX (IntKind.u8.wrap (d x (2^(min (A 8) (Am .u32))))))]) AS rfl 300 rfl [.b false,.b true,.v (F .u8 (HX (IntKind.u8.wrap (d x (2^(min (A 8) (Am .u32)))))))] (by kernel_rfl) ⟨c1,c2,(by decide),(Ra _),trivial⟩
 ·cases c2:(B ((d x (2^(min (A 16) (Am .u32))))>=256))
  ·exact Bx (r := F O (I O (16+(I O (HX (IntKind.u8.wrap (d x (2^(min (A 16) (Am .u32)))))))))) (ps:=[(B (x>=65536))=true,¬ (16:Int)<0,(B ((d x (2^(min (A 16) (Am .u32))))>=256))=false,((if 0<=(IntKind.u8.wrap (d x (2^(min (A 16) (Am .u32))))) then (EF)[(A (IntKind.u8.wrap (d x (2^(min (A 16) (Am .u32))))))]? else none).map fun c=>(c.toNat:Int))=some (HX (IntKind.u8.wrap (d x (2^(min (A 16) (Am .u32))))))]) AS rfl 300 rfl [.b true,.b false,.v (F .u8 (HX (IntKind.u8.wrap (d x (2^(min (A 16) (Am .u32)))))))] (by kernel_rfl) ⟨c1,(by decide),c2,(Ra _),trivial⟩
  ·exact Bx (r := F O (I O (24+(I O (HX (IntKind.u8.wrap (d (d x (2^(min (A 16) (Am .u32)))) (2^(min (A 8) (Am .u32)))))))))) (ps:=[(B (x>=65536))=true,¬ (16:Int)<0,(B ((d x (2^(min (A 16) (Am .u32))))>=256))=true,¬ (8:Int)<0,((if 0<=(IntKind.u8.wrap (d (d x (2^(min (A 16) (Am .u32)))) (2^(min (A 8) (Am .u32))))) then (EF)[(A (IntKind.u8.wrap (d (d x (2^(min (A 16) (Am .u32)))) (2^(min (A 8) (Am .u32))))))]? else none).map fun c=>(c.toNat:Int))=some (HX (IntKind.u8.wrap (d (d x (2^(min (A 16) (Am .u32)))) (2^(min (A 8) (Am .u32))))))]) AS rfl 300 rfl [.b true,.b true,.v (F .u8 (HX (IntKind.u8.wrap (d (d x (2^(min (A 16) (Am .u32)))) (2^(min (A 8) (Am .u32)))))))] (by kernel_rfl) ⟨c1,(by decide),c2,(by decide),(Ra _),trivial⟩
theorem Aqn(x l:Int)(n1:RQ 150 [F Ac x] (F O l)):RQ 188 [F Ac x] (F O (I O (32-l))):=i (fn:=VB) AS rfl 400 rfl [.r (F O l)] (S n1 a0)
theorem A5y(n na:Bool)(xs as1:LI)(v:Int)(n1:Bh (lm as1)=as1.length*1)
  (n2:as1.length<=35184372088832)
  (n3:RQ 143 [o [D n,sL lm xs]] (Ax [D na,sL lm as1]))
  (n4:RQ 152 [D false,sL lm as1] (Ah v)):RQ 160 [o [D n,sL lm xs]] (Ah v) :=
 i (fn:=Vw) AS rfl 400 rfl [.r (Ax [D na,sL lm as1]),.r (Ah v)] (S n3 (S n1 (S n2 (S n4 a0)))) (by kernel_rfl)
theorem A5z(n na:Bool)(xs as1:LI)(n1:RQ 143 [o [D n,sL lm xs]] (Ax [D na,sL lm as1])):RQ 177 [o [D n,sL lm xs]] (F O (as1.length:Int)) :=
 i (fn:=V0) AS rfl 400 rfl [.r (Ax [D na,sL lm as1])] (S n1 a0) (by kernel_rfl)
theorem kW(n na:Bool)(xs as1:LI)(c1:((as1.length:Int)==0)=true)(n1:RQ 143 [o [D n,sL lm xs]] (Ax [D na,sL lm as1])):RQ 102 [o [D n,sL lm xs]] (F O 0):=i (fn:=RN) AS rfl 400 rfl [.r (Ax [D na,sL lm as1]),.b true] (S n1 (S c1 a0))
theorem kX(n na:Bool)(xs as1:LI)(l:Int)(c1:((as1.length:Int)==0)=false)(n1:0<=(I O ((as1.length:Int)-1))/\(I O ((as1.length:Int)-1))<(as1.length:Int))(n2:RQ 143 [o [D n,sL lm xs]] (Ax [D na,sL lm as1]))(n3:RQ 150 [F Ac (as1.getD (A (I O ((as1.length:Int)-1))) 0)] (F O l)):RQ 102 [o [D n,sL lm xs]] (F O (I O ((I O (32*(I O ((as1.length:Int)-1))))+l))):=i (fn:=RN) AS rfl 400 rfl [.r (Ax [D na,sL lm as1]),.b false,.v (F Ac (as1.getD (A (I O ((as1.length:Int)-1))) 0)),.r (F O l)] (S n2 (S c1 (S n1 (S (y n1) (S n3 a0)))))
theorem GU(n k:Nat)(h:n / 2^k ≠ 0):Cg n=Cg (n / 2^k)+k:=by
 have hn:n ≠ 0:=by intro e;subst e;simp at h
 have:=(Qx h).1 rfl;rw[Qx hn];generalize Cg (n / 2^k)=j at *
 have hp:0<2^k:=Awc k;constructor
 ·rw[De];exact (Nat.le_div_iff_mul_le hp).1 this.1
 ·have:n<2^(j+1)*2^k:=(Nat.div_lt_iff_lt_mul hp).1 this.2;rw[<- De] at this;have e:j+k+1=j+1+k:=by omega
  rw[e];exact this
theorem xX(v:Nat)(h:v<256)(h0:v ≠ 0):HX (IntKind.u8.wrap (v:Int))=((Cg v+1:Nat):Int):=by
 have hw:IntKind.u8.wrap (v:Int)=v:=by
  simp only[I,Am,jY,I8,Cf,if_false];omega
 rw[hw];unfold HX Z0;rw[R,if_neg h0]
theorem kY(n:Nat)(k:Nat)(hk:k<=32):d (n:Int) (2^(min (A (k:Int)) (Am .u32)))=((n / 2^k:Nat):Int):=by
 have e:min (A (k:Int)) (Am .u32)=k:=by
  show min (A (k:Int)) 32=k;rw[R];omega
 rw[e,t _ (N4 (by omega))];have:(2:Int)^k=((2^k:Nat):Int):=by simp
 rw[this,<- Aqo]
theorem xY(n:Nat)(h:n<4294967296)(h0:n ≠ 0):Uk (n:Int)=((Cg n+1:Nat):Int):=by
 have s16 (n:Nat):d (n:Int) (2^(min (A 16) (Am .u32)))=((n / 2^16:Nat):Int):=kY n 16 (by omega);have s8 (n:Nat):d (n:Int) (2^(min (A 8) (Am .u32)))=((n / 2^8:Nat):Int):=kY n 8 (by omega);have fin (v c:Nat) (hv:v<256) (hv0:v ≠ 0) (hc:c<=56):I O ((c:Int)+I O (HX (IntKind.u8.wrap (v:Int))))=((Cg v+1+c:Nat):Int):=by
  have:Cg v<8:=(LJ hv0).2 hv;rw[xX v hv hv0,Bl (n:=((Cg v+1:Nat):Int)) (by omega) (by omega),Bl (by omega) (by omega)];omega
 unfold Uk;simp only[s16,s8];by_cases b:n<65536
 ·have b':decide ((n:Int)>=65536)=false:=by simp;omega
  rw[b'];by_cases c:n<256
  ·have c':decide ((n:Int)>=256)=false:=by simp;omega
   rw[c'];exact fin n 0 c h0 (by omega)
  ·have c':decide ((n:Int)>=256)=true:=by simp;omega
   rw[c',GU n 8 (by omega)];have:=fin (n / 2^8) 8 (by omega) (by omega) (by omega);exact this.trans (by omega)
 ·have b':decide ((n:Int)>=65536)=true:=by simp;omega
  rw[b'];dsimp only;by_cases c:n / 2^16<256
  ·have c':decide (((n / 2^16:Nat):Int)>=256)=false:=by simp;omega
   rw[c',GU n 16 (by omega)];have:=fin (n / 2^16) 16 (by omega) (by omega) (by omega);exact this.trans (by omega)
  ·have c':decide (((n / 2^16:Nat):Int)>=256)=true:=by simp;omega
   rw[c',GU n 16 (by omega),GU (n / 2^16) 8 (by omega)];have:=fin (n / 2^16 / 2^8) 24 (by omega) (by omega) (by omega);exact this.trans (by omega)
theorem V_{n:Nat}(h:n<4294967296)(h0:n ≠ 0):RQ 150 [F Ac (n:Nat)] (F O ((Cg n+1:Nat):Int)):=by
 have:=Aqm (n:Nat);rwa [xY n h h0] at this
theorem sF{x:Int}(hx:0<x/\x<4294967296):∃ s:Nat,s<32/\2147483648<=x*2^s/\x*2^s<4294967296/\RQ 188 [F Ac x] (F O (s:Nat)):=by
 obtain⟨n,rfl⟩:∃ n:Nat,x=n:=⟨x.toNat,by omega⟩;have hn0:n ≠ 0:=by omega
 have hl:=(Qx hn0).1 rfl;have hlt:Cg n<32:=(LJ hn0).2 (by omega);refine⟨31-Cg n,by omega,?_,?_,?_⟩
 ·have:2^31<=n*2^(31-Cg n):=by
   have h:=AF (2^(31-Cg n)) hl.1;rwa [<- De,show Cg n+(31-Cg n)=31 by omega] at h
  have e:(n:Int)*2^(31-Cg n)=((n*2^(31-Cg n):Nat):Int):=by rw[CQ,C6];rfl
  rw[e];omega
 ·have:n*2^(31-Cg n)<2^32:=by
   have h:=Nat.mul_lt_mul_of_pos_right hl.2 (Awc (31-Cg n));rwa [<- De,show Cg n+1+(31-Cg n)=32 by omega] at h
  have e:(n:Int)*2^(31-Cg n)=((n*2^(31-Cg n):Nat):Int):=by rw[CQ,C6];rfl
  rw[e];omega
 ·have h:=Aqn (n:Nat) _ (V_ (by omega) hn0);rw[Bl (by omega) (by omega)] at h;rwa [show (32:Int)-((Cg n+1:Nat):Int)=((31-Cg n:Nat):Int) by omega] at h
theorem Wa{neg:Bool}{xs:LI}(hu:AP xs)(hN:xs.length<=1048576):RQ 177 [o [D neg,sL lm xs]] (F O (((M (rv neg xs).natAbs).length:Nat):Int)) :=
 A5z neg _ xs _ (Dp hu hN)
theorem St{neg:Bool}{xs:LI}(hu:AP xs)(hN:xs.length<=1048576):RQ 160 [o [D neg,sL lm xs]] (Ah ((rv neg xs).natAbs:Nat)):=by
 have l1:=EM (neg:=neg) hu;have h:=EO (neg:=false) (BI (rv neg xs).natAbs) (by omega);rw[Azy] at h;exact A5y neg _ xs _ _ (Ui _) (by omega) (Dp hu hN) h
def CR(n:Nat):Nat:=if n=0 then 0 else Cg n+1
theorem Ym{n:Nat}(h:n ≠ 0):1<=(M n).length/\∃ x:Nat,(M n).getD ((M n).length-1) 0=x/\x ≠ 0/\x<4294967296/\n / 2^(32*((M n).length-1))=x:=by
 have hc:=Ci n;have hn0:M n ≠ []:=by rw[Ne,IH];exact h
 have hl:=An.2 hn0;have ht:=AG hc.1 ((M n).length-1);have hz:(M n).getD ((M n).length-1) 0 ≠ 0:=by
  rcases hc.2 with g | g
  ·exact absurd g hn0
  ·exact g
 have hs:=Dq (M n) (j:=(M n).length-1) (by omega);have hd:=C5 (M n) ((M n).length-1);rw[DQ (xs:=M n) (i:=(M n).length-1+1) (by omega),AM,B5] at hd;have h1:=Ge hc.1 ((M n).length-1);have h0:=AZ (DS hc.1 ((M n).length-1));rw[hd,Cr] at hs;generalize (M n).length-1=j at *
 generalize (M n).getD j 0=x at *
 obtain⟨x,rfl⟩:∃ y:Nat,x=y:=⟨x.toNat,by omega⟩;refine⟨hl,x,rfl,by omega,by omega,?_⟩;generalize Ab (B3 j (M n))=L at *
 have e:((n / 2^(32*j):Nat):Int)=(x:Int):=by
  rw[Aqo,C6,show ((2:Nat):Int)^(32*j)=4294967296^j by rw[MR];rfl,hs];have hp:=Cy j;rw[AA (4294967296^j),A5s _ _ (by omega),GK h0 h1,DK]
 omega
theorem MV{neg:Bool}{xs:LI}(hu:AP xs)(hN:xs.length<=1048576):RQ 102 [o [D neg,sL lm xs]] (F O ((CR (rv neg xs).natAbs:Nat):Int)):=by
 have l1:=EM (neg:=neg) hu;have r1:=Dp (neg:=neg) hu hN;generalize rv neg xs=a at *
 by_cases h0:a.natAbs=0
 ·have h:=kW neg _ xs _ (by rw[h0];rfl) r1;rw[show CR a.natAbs=0 by unfold CR;rw[if_pos h0]];exact h
 ·obtain⟨t1,x,t2,t3,t4,t5⟩:=Ym h0;have e1:I O ((((M a.natAbs).length:Nat):Int)-1)=(((M a.natAbs).length-1:Nat):Int):=by rw[Bl (by omega) (by omega)];omega
  have hl:=V_ t4 t3;have h:=kX neg _ xs (M a.natAbs) _ (by rw[beq_eq_false_iff_ne];omega) (by rw[e1];omega) r1 (by rw[e1,R,t2];exact hl);have hlog:Cg x<32:=(LJ t3).2 t4;rw[e1,Bl (n:=32*(((M a.natAbs).length-1:Nat):Int)) (by omega) (by omega),Bl (by omega) (by omega)] at h;have e2:CR a.natAbs=Cg x+1+32*((M a.natAbs).length-1):=by
   unfold CR;rw[if_neg h0,GU a.natAbs (32*((M a.natAbs).length-1)) (by rw[t5];exact t3),t5];omega
  rw[e2];rwa [show 32*(((M a.natAbs).length-1:Nat):Int)+((Cg x+1:Nat):Int)=((Cg x+1+32*((M a.natAbs).length-1):Nat):Int) by omega] at h
def Qb(xs:LI)(d:Int)(k:Nat)(qs:LI)(r:Int)(i:Int):Al:=(C (sL lm xs)::(C (F Ac d)::(Y 4 (X 1 k (lm qs)::(C (F U r)::(C (F O i)::(Y 34 [])))))))
theorem Aqp(xs:LI)(d:Int)(k:Nat)(qs:LI)(r:Int)(i:Int)(c1:B (i>=0)=true)(n1:0<=i/\i<(xs.length:Int))(n2:¬ (I U d)=0)(n3:0<=i/\i<(k:Int))(n4:qs.length=k):Ar V9 (Qb xs d k qs r i) .norm (Qb xs d k (qs.set (A i) (I Ac (I U (Aw (I U ((T (Am .u64) (I U (r*2^(min (A 32) (Am .u64)))) ||| T (Am .u64) (I U (xs.getD (A i) 0))).toNat)) (I U d))))) (AD (I U ((T (Am .u64) (I U (r*2^(min (A 32) (Am .u64)))) ||| T (Am .u64) (I U (xs.getD (A i) 0))).toNat)) (I U d)) (I O (i-1))):=(G m 400 [.b true,.v (F Ac (xs.getD (A i) 0)),.l (lm (qs.set (A i) (I Ac (I U (Aw (I U ((T (Am .u64) (I U (r*2^(min (A 32) (Am .u64)))) ||| T (Am .u64) (I U (xs.getD (A i) 0))).toNat)) (I U d))))))] [0,1,6,7,8] (S c1 (S Ie (S n1 (S (y n1) (S n2 (S n2 (S n3 (S (show C4 (lm qs) (A i*1) [F Ac (I Ac (I U (Aw (I U ((T (Am .u64) (I U (r*2^(min (A 32) (Am .u64)))) ||| T (Am .u64) (I U (xs.getD (A i) 0))).toNat)) (I U d))))]=some (lm (qs.set (A i) (I Ac (I U (Aw (I U ((T (Am .u64) (I U (r*2^(min (A 32) (Am .u64)))) ||| T (Am .u64) (I U (xs.getD (A i) 0))).toNat)) (I U d)))))) from (CY n4 n3)) a0)))))))))
theorem Aqq(xs:LI)(d:Int)(k:Nat)(qs:LI)(r:Int)(i:Int)(c1:B (i>=0)=false):Ar V9 (Qb xs d k qs r i) (.exit 0) (Qb xs d k qs r i):=(G m 400 [.b false] [0,1,6,7,8] (S c1 a0))
theorem Aqr(xs qs:LI)(d r i:Int)(k:Nat)(n1:0<=(xs.length:Int)/\(xs.length:Int)<=1048576)(hl2:Ar (.loop V9) ((C (sL lm xs)::(C (F Ac d)::(Y 4 (X 1 (A (xs.length:Int)) (Cu [F Ac 0] (A (xs.length:Int)))::(C (F U 0)::(C (F O (I O ((xs.length:Int)-1)))::(Y 34 [])))))))) (.exit 0) (Qb xs d k qs r i)):RQ 187 [sL lm xs,F Ac d] (Ax [H k (lm qs),F Ac (I Ac r)]):=A8 VA (Y 1 (C (F Ac d)::(Y 2 (X 1 k (lm qs)::(C (F Ac (I Ac r))::(Y 37 [])))))) (W (W (q (Cv.seq (G m 400 [] [0,1,6,7,8] (S n1 a0)) (Cv.seq (Cv.block hl2) (G m 400 [] [1,4,5] a0))))))
def Qc(xs:LI)(s:Int)(k:Nat)(os:LI)(n:Int)(i:Int):Al:=(Y 1 (C (F O s)::(Y 3 (X 1 k (lm os)::(Y 7 (C (sL lm xs)::(C (F O n)::(C (F O i)::(Y 26 [])))))))))
theorem Aqs(xs:LI)(s:Int)(k:Nat)(os:LI)(n:Int)(i:Int)(c1:B (i<n)=true)(n1:0<=i/\i<(xs.length:Int))(n2:¬ (I U s)<0)(n3:0<=i/\i<(k:Int))(n4:os.length=k)(n5:0<=(I O (i+1))/\(I O (i+1))<(k:Int))(n6:(os.set (A i) (I Ac ((T (Am .u32) (os.getD (A i) 0) ||| T (Am .u32) (I Ac (I U ((I U (xs.getD (A i) 0))*2^(min (A (I U s)) (Am .u64)))))).toNat))).length=k):Ar VC (Qc xs s k os n i) .norm (Qc xs s k ((os.set (A i) (I Ac ((T (Am .u32) (os.getD (A i) 0) ||| T (Am .u32) (I Ac (I U ((I U (xs.getD (A i) 0))*2^(min (A (I U s)) (Am .u64)))))).toNat))).set (A (I O (i+1))) (I Ac (d (I U ((I U (xs.getD (A i) 0))*2^(min (A (I U s)) (Am .u64)))) (2^(min (A 32) (Am .u64)))))) n (I O (i+1))):=(G m 400 [.b true,.v (F Ac (xs.getD (A i) 0)),.v (F Ac (os.getD (A i) 0)),.l (lm (os.set (A i) (I Ac ((T (Am .u32) (os.getD (A i) 0) ||| T (Am .u32) (I Ac (I U ((I U (xs.getD (A i) 0))*2^(min (A (I U s)) (Am .u64)))))).toNat)))),.l (lm ((os.set (A i) (I Ac ((T (Am .u32) (os.getD (A i) 0) ||| T (Am .u32) (I Ac (I U ((I U (xs.getD (A i) 0))*2^(min (A (I U s)) (Am .u64)))))).toNat))).set (A (I O (i+1))) (I Ac (d (I U ((I U (xs.getD (A i) 0))*2^(min (A (I U s)) (Am .u64)))) (2^(min (A 32) (Am .u64)))))))] [1,5,13,14,15] (S c1 (S n1 (S (y n1) (S n2 (S n3 (S (Ck n4 n3) (S n3 (S (show C4 (lm os) (A i*1) [F Ac (I Ac ((T (Am .u32) (os.getD (A i) 0) ||| T (Am .u32) (I Ac (I U ((I U (xs.getD (A i) 0))*2^(min (A (I U s)) (Am .u64)))))).toNat))]=some (lm (os.set (A i) (I Ac ((T (Am .u32) (os.getD (A i) 0) ||| T (Am .u32) (I Ac (I U ((I U (xs.getD (A i) 0))*2^(min (A (I U s)) (Am .u64)))))).toNat)))) from (CY n4 n3)) (S Ie (S n5 (S (show C4 (lm (os.set (A i) (I Ac ((T (Am .u32) (os.getD (A i) 0) ||| T (Am .u32) (I Ac (I U ((I U (xs.getD (A i) 0))*2^(min (A (I U s)) (Am .u64)))))).toNat)))) (A (I O (i+1))*1) [F Ac (I Ac (d (I U ((I U (xs.getD (A i) 0))*2^(min (A (I U s)) (Am .u64)))) (2^(min (A 32) (Am .u64)))))]=some (lm ((os.set (A i) (I Ac ((T (Am .u32) (os.getD (A i) 0) ||| T (Am .u32) (I Ac (I U ((I U (xs.getD (A i) 0))*2^(min (A (I U s)) (Am .u64)))))).toNat))).set (A (I O (i+1))) (I Ac (d (I U ((I U (xs.getD (A i) 0))*2^(min (A (I U s)) (Am .u64)))) (2^(min (A 32) (Am .u64))))))) from (CY n6 n5)) a0))))))))))))
theorem Aqt(xs:LI)(s:Int)(k:Nat)(os:LI)(n:Int)(i:Int)(c1:B (i<n)=false):Ar VC (Qc xs s k os n i) (.exit 0) (Qc xs s k os n i):=(G m 400 [.b false] [1,5,13,14,15] (S c1 a0))
theorem Aqu(xs os:LI)(s n i:Int)(k:Nat)(n1:0<=(I O ((xs.length:Int)+1))/\(I O ((xs.length:Int)+1))<=1048576)(hl2:Ar (.loop VC) ((Y 1 (C (F O s)::(Y 3 (X 1 (A (I O ((xs.length:Int)+1))) (Cu [F Ac 0] (A (I O ((xs.length:Int)+1))))::(Y 7 (C (sL lm xs)::(C (F O (xs.length:Int))::(C (F O 0)::(Y 26 [])))))))))) (.exit 0) (Qc xs s k os n i)):RQ 189 [sL lm xs,F O s] (L 1 k (lm os)):=A8 VE (Y 1 (C (F O s)::(Y 2 (X 1 k (lm os)::(Y 37 []))))) (W (q (Cv.seq (G m 400 [] [1,5,13,14,15] (S n1 a0)) (Cv.seq (Cv.block hl2) (G m 400 [] [1,4] a0)))))
def Et(k:Nat)(us:LI)(vs:LI)(n:Int)(t:Int)(t2:Int)(kq:Nat)(qs:LI)(s:Int)(j:Int)(g:Int)(r:Int):Al:=(Y 4 (X 1 kq (lm qs)::(Y 3 (C (F O s)::(X 1 k (lm us)::(C (sL lm vs)::(C (F O n)::(Y 1 (C (F U t)::(C (F U t2)::(C (F O j)::(Y 1 (C (F U g)::(C (F U r)::(Y 263 [])))))))))))))))
theorem xZ(k:Nat)(us:LI)(vs:LI)(n:Int)(t:Int)(t2:Int)(kq:Nat)(qs:LI)(s:Int)(j:Int)(g:Int)(r:Int)(c1:B (g>=4294967296)=true)(c2:B ((I U (r+t))>=4294967296)=true):Ar HG (Et k us vs n t t2 kq qs s j g r) (.exit 2) (Et k us vs n t t2 kq qs s j (I U (g-1)) (I U (r+t))):=(G m 400 [.b true,.b true,.b true] [4,8,9,10,11,13,14,15,17,18] (S c1 (S Ip (S c2 a0))))
theorem yA(k:Nat)(us:LI)(vs:LI)(n:Int)(t:Int)(t2:Int)(kq:Nat)(qs:LI)(s:Int)(j:Int)(g:Int)(r:Int)(c1:B (g>=4294967296)=true)(c2:B ((I U (r+t))>=4294967296)=false):Ar HG (Et k us vs n t t2 kq qs s j g r) .norm (Et k us vs n t t2 kq qs s j (I U (g-1)) (I U (r+t))):=(G m 400 [.b true,.b true,.b false] [4,8,9,10,11,13,14,15,17,18] (S c1 (S Ip (S c2 a0))))
theorem yB(k:Nat)(us:LI)(vs:LI)(n:Int)(t:Int)(t2:Int)(kq:Nat)(qs:LI)(s:Int)(j:Int)(g:Int)(r:Int)(c1:B (g>=4294967296)=false)(c2:(B ((I U (g*t2))>(I U ((T (Am .u64) (I U (r*2^(min (A 32) (Am .u64)))) ||| T (Am .u64) (I U (us.getD (A (I O ((I O (j+n))-2))) 0))).toNat))))=true)(c3:B ((I U (r+t))>=4294967296)=true)(n1:0<=(I O ((I O (j+n))-2))/\(I O ((I O (j+n))-2))<(k:Int))(n2:us.length=k):Ar HG (Et k us vs n t t2 kq qs s j g r) (.exit 2) (Et k us vs n t t2 kq qs s j (I U (g-1)) (I U (r+t))):=(G m 400 [.b false,.v (F Ac (us.getD (A (I O ((I O (j+n))-2))) 0)),.b true,.b true] [4,8,9,10,11,13,14,15,17,18] (S c1 (S Ie (S n1 (S (Ck n2 n1) (S c2 (S c3 a0)))))))
theorem yC(k:Nat)(us:LI)(vs:LI)(n:Int)(t:Int)(t2:Int)(kq:Nat)(qs:LI)(s:Int)(j:Int)(g:Int)(r:Int)(c1:B (g>=4294967296)=false)(c2:(B ((I U (g*t2))>(I U ((T (Am .u64) (I U (r*2^(min (A 32) (Am .u64)))) ||| T (Am .u64) (I U (us.getD (A (I O ((I O (j+n))-2))) 0))).toNat))))=true)(c3:B ((I U (r+t))>=4294967296)=false)(n1:0<=(I O ((I O (j+n))-2))/\(I O ((I O (j+n))-2))<(k:Int))(n2:us.length=k):Ar HG (Et k us vs n t t2 kq qs s j g r) .norm (Et k us vs n t t2 kq qs s j (I U (g-1)) (I U (r+t))):=(G m 400 [.b false,.v (F Ac (us.getD (A (I O ((I O (j+n))-2))) 0)),.b true,.b false] [4,8,9,10,11,13,14,15,17,18] (S c1 (S Ie (S n1 (S (Ck n2 n1) (S c2 (S c3 a0)))))))
theorem Yn(k:Nat)(us:LI)(vs:LI)(n:Int)(t:Int)(t2:Int)(kq:Nat)(qs:LI)(s:Int)(j:Int)(g:Int)(r:Int)(c1:B (g>=4294967296)=false)(c2:(B ((I U (g*t2))>(I U ((T (Am .u64) (I U (r*2^(min (A 32) (Am .u64)))) ||| T (Am .u64) (I U (us.getD (A (I O ((I O (j+n))-2))) 0))).toNat))))=false)(n1:0<=(I O ((I O (j+n))-2))/\(I O ((I O (j+n))-2))<(k:Int))(n2:us.length=k):Ar HG (Et k us vs n t t2 kq qs s j g r) (.exit 2) (Et k us vs n t t2 kq qs s j g r):=(G m 400 [.b false,.v (F Ac (us.getD (A (I O ((I O (j+n))-2))) 0)),.b false] [4,8,9,10,11,13,14,15,17,18] (S c1 (S Ie (S n1 (S (Ck n2 n1) (S c2 a0))))))
def Je(k:Nat)(us:LI)(vs:LI)(n:Int)(t:Int)(t2:Int)(kq:Nat)(qs:LI)(s:Int)(j:Int)(g:Int)(b:Int)(c:Int)(i:Int):Al:=(Y 4 (X 1 kq (lm qs)::(Y 3 (C (F O s)::(X 1 k (lm us)::(C (sL lm vs)::(C (F O n)::(Y 1 (C (F U t)::(C (F U t2)::(C (F O j)::(Y 1 (C (F U g)::(Y 1 (C (F U b)::(C (F U c)::(C (F O i)::(Y 260 []))))))))))))))))))
theorem yD(k:Nat)(us:LI)(vs:LI)(n:Int)(t:Int)(t2:Int)(kq:Nat)(qs:LI)(s:Int)(j:Int)(g:Int)(b:Int)(c:Int)(i:Int)(c1:B (i<n)=true)(n1:0<=i/\i<(vs.length:Int))(n2:0<=(I O (i+j))/\(I O (i+j))<(k:Int))(n3:us.length=k):Ar ON (Je k us vs n t t2 kq qs s j g b c i) .norm (Je k (us.set (A (I O (i+j))) (I Ac (I U ((I U ((I U (us.getD (A (I O (i+j))) 0))-(I U (I Ac (I U ((I U (g*(I U (vs.getD (A i) 0))))+c))))))-b)))) vs n t t2 kq qs s j g (d (I U ((I U ((I U (us.getD (A (I O (i+j))) 0))-(I U (I Ac (I U ((I U (g*(I U (vs.getD (A i) 0))))+c))))))-b)) (2^(min (A 63) (Am .u64)))) (d (I U ((I U (g*(I U (vs.getD (A i) 0))))+c)) (2^(min (A 32) (Am .u64)))) (I O (i+1))):=(G m 400 [.b true,.v (F Ac (vs.getD (A i) 0)),.v (F Ac (us.getD (A (I O (i+j))) 0)),.l (lm (us.set (A (I O (i+j))) (I Ac (I U ((I U ((I U (us.getD (A (I O (i+j))) 0))-(I U (I Ac (I U ((I U (g*(I U (vs.getD (A i) 0))))+c))))))-b)))))] [4,8,9,10,11,13,14,15,17,19,20,21] (S c1 (S n1 (S (y n1) (S Ie (S n2 (S (Ck n3 n2) (S WZ (S n2 (S (show C4 (lm us) (A (I O (i+j))*1) [F Ac (I Ac (I U ((I U ((I U (us.getD (A (I O (i+j))) 0))-(I U (I Ac (I U ((I U (g*(I U (vs.getD (A i) 0))))+c))))))-b)))]=some (lm (us.set (A (I O (i+j))) (I Ac (I U ((I U ((I U (us.getD (A (I O (i+j))) 0))-(I U (I Ac (I U ((I U (g*(I U (vs.getD (A i) 0))))+c))))))-b))))) from (CY n3 n2)) a0))))))))))
theorem yE(k:Nat)(us:LI)(vs:LI)(n:Int)(t:Int)(t2:Int)(kq:Nat)(qs:LI)(s:Int)(j:Int)(g:Int)(b:Int)(c:Int)(i:Int)(c1:B (i<n)=false):Ar ON (Je k us vs n t t2 kq qs s j g b c i) (.exit 4) (Je k us vs n t t2 kq qs s j g b c i):=(G m 400 [.b false] [4,8,9,10,11,13,14,15,17,19,20,21] (S c1 a0))
def Lh(k:Nat)(us:LI)(vs:LI)(n:Int)(t:Int)(t2:Int)(kq:Nat)(qs:LI)(s:Int)(j:Int)(g:Int)(c:Int)(i:Int):Al:=(Y 4 (X 1 kq (lm qs)::(Y 3 (C (F O s)::(X 1 k (lm us)::(C (sL lm vs)::(C (F O n)::(Y 1 (C (F U t)::(C (F U t2)::(C (F O j)::(Y 1 (C (F U g)::(Y 7 (C (F U c)::(C (F O i)::(Y 255 [])))))))))))))))))
theorem yF(k:Nat)(us:LI)(vs:LI)(n:Int)(t:Int)(t2:Int)(kq:Nat)(qs:LI)(s:Int)(j:Int)(g:Int)(c:Int)(i:Int)(c1:B (i<n)=true)(n1:0<=(I O (i+j))/\(I O (i+j))<(k:Int))(n2:us.length=k)(n3:0<=i/\i<(vs.length:Int)):Ar QR (Lh k us vs n t t2 kq qs s j g c i) .norm (Lh k (us.set (A (I O (i+j))) (I Ac (I U ((I U ((I U (us.getD (A (I O (i+j))) 0))+(I U (vs.getD (A i) 0))))+c)))) vs n t t2 kq qs s j g (d (I U ((I U ((I U (us.getD (A (I O (i+j))) 0))+(I U (vs.getD (A i) 0))))+c)) (2^(min (A 32) (Am .u64)))) (I O (i+1))):=(G m 400 [.b true,.v (F Ac (us.getD (A (I O (i+j))) 0)),.v (F Ac (vs.getD (A i) 0)),.l (lm (us.set (A (I O (i+j))) (I Ac (I U ((I U ((I U (us.getD (A (I O (i+j))) 0))+(I U (vs.getD (A i) 0))))+c)))))] [4,8,9,10,11,13,14,15,17,25,26] (S c1 (S n1 (S (Ck n2 n1) (S n3 (S (y n3) (S Ie (S n1 (S (show C4 (lm us) (A (I O (i+j))*1) [F Ac (I Ac (I U ((I U ((I U (us.getD (A (I O (i+j))) 0))+(I U (vs.getD (A i) 0))))+c)))]=some (lm (us.set (A (I O (i+j))) (I Ac (I U ((I U ((I U (us.getD (A (I O (i+j))) 0))+(I U (vs.getD (A i) 0))))+c))))) from (CY n2 n1)) a0)))))))))
theorem yG(k:Nat)(us:LI)(vs:LI)(n:Int)(t:Int)(t2:Int)(kq:Nat)(qs:LI)(s:Int)(j:Int)(g:Int)(c:Int)(i:Int)(c1:B (i<n)=false):Ar QR (Lh k us vs n t t2 kq qs s j g c i) (.exit 6) (Lh k us vs n t t2 kq qs s j g c i):=(G m 400 [.b false] [4,8,9,10,11,13,14,15,17,25,26] (S c1 a0))
def H0(k:Nat)(us:LI)(vs:LI)(n:Int)(t:Int)(t2:Int)(kq:Nat)(qs:LI)(s:Int)(j:Int):Al:=(Y 4 (X 1 kq (lm qs)::(Y 3 (C (F O s)::(X 1 k (lm us)::(C (sL lm vs)::(C (F O n)::(Y 1 (C (F U t)::(C (F U t2)::(C (F O j)::(Y 266 []))))))))))))
theorem Aqv(k:Nat)(us:LI)(vs:LI)(n:Int)(t:Int)(t2:Int)(kq:Nat)(qs:LI)(s:Int)(j:Int)(us1 us2:LI)(g r b c cc:Int)(c1:B (j>=0)=true)(c2:((d (I U ((I U ((I U (us1.getD (A (I O (j+n))) 0))-c))-b)) (2^(min (A 63) (Am .u64)))) != 0)=true)(n1:0<=(I O (j+n))/\(I O (j+n))<(k:Int))(n2:us.length=k)(n3:0<=(I O ((I O (j+n))-1))/\(I O ((I O (j+n))-1))<(k:Int))(n4:¬ t=0)(hl5:Ar (.loop HG) (Et k us vs n t t2 kq qs s j (I U (Aw (I U ((T (Am .u64) (I U ((I U (us.getD (A (I O (j+n))) 0))*2^(min (A 32) (Am .u64)))) ||| T (Am .u64) (I U (us.getD (A (I O ((I O (j+n))-1))) 0))).toNat)) t)) (AD (I U ((T (Am .u64) (I U ((I U (us.getD (A (I O (j+n))) 0))*2^(min (A 32) (Am .u64)))) ||| T (Am .u64) (I U (us.getD (A (I O ((I O (j+n))-1))) 0))).toNat)) t)) (.exit 2) (Et k us vs n t t2 kq qs s j g r))(hl6:Ar (.loop ON) (Je k us vs n t t2 kq qs s j g 0 0 0) (.exit 4) (Je k us1 vs n t t2 kq qs s j g b c n))(n7:us1.length=k)(hl8:Ar (.loop QR) (Lh k (us1.set (A (I O (j+n))) (I Ac (I U ((I U ((I U (us1.getD (A (I O (j+n))) 0))-c))-b)))) vs n t t2 kq qs s j (I U (g-1)) 0 0) (.exit 6) (Lh k us2 vs n t t2 kq qs s j (I U (g-1)) cc n))(n9:us2.length=k)(n10:0<=j/\j<(kq:Int))(n11:qs.length=kq):Ar MG (H0 k us vs n t t2 kq qs s j) .norm (H0 k (us2.set (A (I O (j+n))) (I Ac ((us2.getD (A (I O (j+n))) 0)+(I Ac cc)))) vs n t t2 kq (qs.set (A j) (I Ac (I U (g-1)))) s (I O (j-1))):=(Cv.seq (G (t:=(Y 4 (X 1 kq (lm qs)::(Y 3 (vi s::(X 1 k (lm us)::(vl vs::(vi n::(Y 1 (C (F U t)::(C (F U t2)::(vi j::(Y 266 []))))))))))))) m 400 [.b true] [4,8,9,10,11,13,14,15] (S c1 a0)) (Cv.seq (Cd (W (Cv.seq (G m 400 [.v (F Ac (us.getD (A (I O (j+n))) 0)),.v (F Ac (us.getD (A (I O ((I O (j+n))-1))) 0))] [4,8,9,10,11,13,14,15,17,18] (S n1 (S (Ck n2 n1) (S Ie (S n3 (S (Ck n2 n3) (S n4 (S n4 a0)))))))) (Cv.seq (Cv.block hl5) (q (Cv.seq (G m 400 [] [4,8,9,10,11,13,14,15,17,19,20,21] a0) (Cv.seq (Cv.block hl6) (W (q (Cv.seq (G (t:=(Y 4 (X 1 kq (lm qs)::(Y 3 (vi s::(X 1 k (lm (us1.set (A (I O (j+n))) (I Ac (I U ((I U ((I U (us1.getD (A (I O (j+n))) 0))-c))-b)))))::(vl vs::(vi n::(Y 1 (C (F U t)::(C (F U t2)::(vi j::(Y 1 (C (F U g)::(Y 181 (C (D ((d (I U ((I U ((I U (us1.getD (A (I O (j+n))) 0))-c))-b)) (2^(min (A 63) (Am .u64)))) != 0))::(Y 82 []))))))))))))))))) m 400 [.v (F Ac (us1.getD (A (I O (j+n))) 0)),.l (lm (us1.set (A (I O (j+n))) (I Ac (I U ((I U ((I U (us1.getD (A (I O (j+n))) 0))-c))-b)))))] [4,8,9,10,11,13,14,15,17,199] (S n1 (S (Ck n7 n1) (S n1 (S (show C4 (lm us1) (A (I O (j+n))*1) [F Ac (I Ac (I U ((I U ((I U (us1.getD (A (I O (j+n))) 0))-c))-b)))]=some (lm (us1.set (A (I O (j+n))) (I Ac (I U ((I U ((I U (us1.getD (A (I O (j+n))) 0))-c))-b))))) from (CY n7 n1)) (S WZ a0)))))) (Cv.seq (Jb (by rfl) c2 (W (q (Cv.seq (G m 400 [] [4,8,9,10,11,13,14,15,17,25,26] a0) (Cv.seq (Cv.block hl8) (G (t:=(Y 4 (X 1 kq (lm qs)::(Y 3 (vi s::(X 1 k (lm (us2.set (A (I O (j+n))) (I Ac ((us2.getD (A (I O (j+n))) 0)+(I Ac cc)))))::(vl vs::(vi n::(Y 1 (C (F U t)::(C (F U t2)::(vi j::(Y 1 (C (F U (I U (g-1)))::(Y 264 []))))))))))))))) m 400 [.v (F Ac (us2.getD (A (I O (j+n))) 0)),.l (lm (us2.set (A (I O (j+n))) (I Ac ((us2.getD (A (I O (j+n))) 0)+(I Ac cc)))))] [4,8,9,10,11,13,14,15,17] (S n1 (S (Ck n9 n1) (S n1 (S (show C4 (lm us2) (A (I O (j+n))*1) [F Ac (I Ac ((us2.getD (A (I O (j+n))) 0)+(I Ac cc)))]=some (lm (us2.set (A (I O (j+n))) (I Ac ((us2.getD (A (I O (j+n))) 0)+(I Ac cc))))) from (CY n9 n1)) a0)))))))))) (G (t:=(Y 4 (X 1 kq (lm (qs.set (A j) (I Ac (I U (g-1)))))::(Y 3 (vi s::(X 1 k (lm (us2.set (A (I O (j+n))) (I Ac ((us2.getD (A (I O (j+n))) 0)+(I Ac cc)))))::(vl vs::(vi n::(Y 1 (C (F U t)::(C (F U t2)::(vi j::(Y 266 []))))))))))))) m 400 [.l (lm (qs.set (A j) (I Ac (I U (g-1)))))] [4,8,9,10,11,13,14,15] (S n10 (S (show C4 (lm qs) (A j*1) [F Ac (I Ac (I U (g-1)))]=some (lm (qs.set (A j) (I Ac (I U (g-1))))) from (CY n11 n10)) a0)))))))))))))) (G m 400 [] [4,8,9,10,11,13,14,15] a0)))
theorem Aqw(k:Nat)(us:LI)(vs:LI)(n:Int)(t:Int)(t2:Int)(kq:Nat)(qs:LI)(s:Int)(j:Int)(us1:LI)(g r b c:Int)(c1:B (j>=0)=true)(c2:((d (I U ((I U ((I U (us1.getD (A (I O (j+n))) 0))-c))-b)) (2^(min (A 63) (Am .u64)))) != 0)=false)(n1:0<=(I O (j+n))/\(I O (j+n))<(k:Int))(n2:us.length=k)(n3:0<=(I O ((I O (j+n))-1))/\(I O ((I O (j+n))-1))<(k:Int))(n4:¬ t=0)(hl5:Ar (.loop HG) (Et k us vs n t t2 kq qs s j (I U (Aw (I U ((T (Am .u64) (I U ((I U (us.getD (A (I O (j+n))) 0))*2^(min (A 32) (Am .u64)))) ||| T (Am .u64) (I U (us.getD (A (I O ((I O (j+n))-1))) 0))).toNat)) t)) (AD (I U ((T (Am .u64) (I U ((I U (us.getD (A (I O (j+n))) 0))*2^(min (A 32) (Am .u64)))) ||| T (Am .u64) (I U (us.getD (A (I O ((I O (j+n))-1))) 0))).toNat)) t)) (.exit 2) (Et k us vs n t t2 kq qs s j g r))(hl6:Ar (.loop ON) (Je k us vs n t t2 kq qs s j g 0 0 0) (.exit 4) (Je k us1 vs n t t2 kq qs s j g b c n))(n7:us1.length=k)(n8:0<=j/\j<(kq:Int))(n9:qs.length=kq):Ar MG (H0 k us vs n t t2 kq qs s j) .norm (H0 k (us1.set (A (I O (j+n))) (I Ac (I U ((I U ((I U (us1.getD (A (I O (j+n))) 0))-c))-b)))) vs n t t2 kq (qs.set (A j) (I Ac g)) s (I O (j-1))):=(Cv.seq (G (t:=(Y 4 (X 1 kq (lm qs)::(Y 3 (vi s::(X 1 k (lm us)::(vl vs::(vi n::(Y 1 (C (F U t)::(C (F U t2)::(vi j::(Y 266 []))))))))))))) m 400 [.b true] [4,8,9,10,11,13,14,15] (S c1 a0)) (Cv.seq (Cd (W (Cv.seq (G m 400 [.v (F Ac (us.getD (A (I O (j+n))) 0)),.v (F Ac (us.getD (A (I O ((I O (j+n))-1))) 0))] [4,8,9,10,11,13,14,15,17,18] (S n1 (S (Ck n2 n1) (S Ie (S n3 (S (Ck n2 n3) (S n4 (S n4 a0)))))))) (Cv.seq (Cv.block hl5) (q (Cv.seq (G m 400 [] [4,8,9,10,11,13,14,15,17,19,20,21] a0) (Cv.seq (Cv.block hl6) (W (q (Cv.seq (G (t:=(Y 4 (X 1 kq (lm qs)::(Y 3 (vi s::(X 1 k (lm (us1.set (A (I O (j+n))) (I Ac (I U ((I U ((I U (us1.getD (A (I O (j+n))) 0))-c))-b)))))::(vl vs::(vi n::(Y 1 (C (F U t)::(C (F U t2)::(vi j::(Y 1 (C (F U g)::(Y 181 (C (D ((d (I U ((I U ((I U (us1.getD (A (I O (j+n))) 0))-c))-b)) (2^(min (A 63) (Am .u64)))) != 0))::(Y 82 []))))))))))))))))) m 400 [.v (F Ac (us1.getD (A (I O (j+n))) 0)),.l (lm (us1.set (A (I O (j+n))) (I Ac (I U ((I U ((I U (us1.getD (A (I O (j+n))) 0))-c))-b)))))] [4,8,9,10,11,13,14,15,17,199] (S n1 (S (Ck n7 n1) (S n1 (S (show C4 (lm us1) (A (I O (j+n))*1) [F Ac (I Ac (I U ((I U ((I U (us1.getD (A (I O (j+n))) 0))-c))-b)))]=some (lm (us1.set (A (I O (j+n))) (I Ac (I U ((I U ((I U (us1.getD (A (I O (j+n))) 0))-c))-b))))) from (CY n7 n1)) (S WZ a0)))))) (Cv.seq (Jc (by rfl) c2 (G (t:=(Y 4 (X 1 kq (lm qs)::(Y 3 (vi s::(X 1 k (lm (us1.set (A (I O (j+n))) (I Ac (I U ((I U ((I U (us1.getD (A (I O (j+n))) 0))-c))-b)))))::(vl vs::(vi n::(Y 1 (C (F U t)::(C (F U t2)::(vi j::(Y 1 (C (F U g)::(Y 264 []))))))))))))))) m 400 [] [4,8,9,10,11,13,14,15,17] a0)) (G (t:=(Y 4 (X 1 kq (lm (qs.set (A j) (I Ac g)))::(Y 3 (vi s::(X 1 k (lm (us1.set (A (I O (j+n))) (I Ac (I U ((I U ((I U (us1.getD (A (I O (j+n))) 0))-c))-b)))))::(vl vs::(vi n::(Y 1 (C (F U t)::(C (F U t2)::(vi j::(Y 266 []))))))))))))) m 400 [.l (lm (qs.set (A j) (I Ac g)))] [4,8,9,10,11,13,14,15] (S n8 (S (show C4 (lm qs) (A j*1) [F Ac (I Ac g)]=some (lm (qs.set (A j) (I Ac g))) from (CY n9 n8)) a0)))))))))))))) (G m 400 [] [4,8,9,10,11,13,14,15] a0)))
theorem Aqx(k:Nat)(us:LI)(vs:LI)(n:Int)(t:Int)(t2:Int)(kq:Nat)(qs:LI)(s:Int)(j:Int)(c1:B (j>=0)=false):Ar MG (H0 k us vs n t t2 kq qs s j) (.exit 0) (H0 k us vs n t t2 kq qs s j):=(AJ (G m 400 [.b false] [4,8,9,10,11,13,14,15] (S c1 a0)) (by nofun))
def Iu(k:Nat)(us:LI)(n:Int)(kq:Nat)(qs:LI)(kr:Nat)(rs:LI)(s:Int)(i:Int):Al:=(Y 4 (X 1 kq (lm qs)::(X 1 kr (lm rs)::(Y 2 (C (F O s)::(X 1 k (lm us)::(Y 1 (C (F O n)::(Y 16 (C (F O i)::(Y 253 [])))))))))))
theorem yH(k:Nat)(us:LI)(n:Int)(kq:Nat)(qs:LI)(kr:Nat)(rs:LI)(s:Int)(i:Int)(c1:B (i<n)=true)(c2:B (s>0)=true)(n1:0<=i/\i<(k:Int))(n2:us.length=k)(n3:¬ (I U s)<0)(n4:0<=i/\i<(kr:Int))(n5:rs.length=kr)(n6:(rs.set (A i) (d (us.getD (A i) 0) (2^(min (A (I U s)) (Am .u32))))).length=kr)(n7:0<=(I O (i+1))/\(I O (i+1))<(k:Int))(n8:¬ (I U (I O (32-s)))<0):Ar MF (Iu k us n kq qs kr rs s i) .norm (Iu k us n kq qs kr ((rs.set (A i) (d (us.getD (A i) 0) (2^(min (A (I U s)) (Am .u32))))).set (A i) (I Ac ((T (Am .u32) ((rs.set (A i) (d (us.getD (A i) 0) (2^(min (A (I U s)) (Am .u32))))).getD (A i) 0) ||| T (Am .u32) (I Ac ((us.getD (A (I O (i+1))) 0)*2^(min (A (I U (I O (32-s)))) (Am .u32))))).toNat))) s (I O (i+1))):=(G m 400 [.b true,.v (F Ac (us.getD (A i) 0)),.l (lm (rs.set (A i) (d (us.getD (A i) 0) (2^(min (A (I U s)) (Am .u32)))))),.b true,.v (F Ac ((rs.set (A i) (d (us.getD (A i) 0) (2^(min (A (I U s)) (Am .u32))))).getD (A i) 0)),.v (F Ac (us.getD (A (I O (i+1))) 0)),.l (lm ((rs.set (A i) (d (us.getD (A i) 0) (2^(min (A (I U s)) (Am .u32))))).set (A i) (I Ac ((T (Am .u32) ((rs.set (A i) (d (us.getD (A i) 0) (2^(min (A (I U s)) (Am .u32))))).getD (A i) 0) ||| T (Am .u32) (I Ac ((us.getD (A (I O (i+1))) 0)*2^(min (A (I U (I O (32-s)))) (Am .u32))))).toNat))))] [4,5,8,9,11,28] (S c1 (S n1 (S (Ck n2 n1) (S n3 (S n4 (S (show C4 (lm rs) (A i*1) [F Ac (d (us.getD (A i) 0) (2^(min (A (I U s)) (Am .u32))))]=some (lm (rs.set (A i) (d (us.getD (A i) 0) (2^(min (A (I U s)) (Am .u32)))))) from (CY n5 n4)) (S c2 (S n4 (S (Ck n6 n4) (S n7 (S (Ck n2 n7) (S n8 (S n4 (S (show C4 (lm (rs.set (A i) (d (us.getD (A i) 0) (2^(min (A (I U s)) (Am .u32)))))) (A i*1) [F Ac (I Ac ((T (Am .u32) ((rs.set (A i) (d (us.getD (A i) 0) (2^(min (A (I U s)) (Am .u32))))).getD (A i) 0) ||| T (Am .u32) (I Ac ((us.getD (A (I O (i+1))) 0)*2^(min (A (I U (I O (32-s)))) (Am .u32))))).toNat))]=some (lm ((rs.set (A i) (d (us.getD (A i) 0) (2^(min (A (I U s)) (Am .u32))))).set (A i) (I Ac ((T (Am .u32) ((rs.set (A i) (d (us.getD (A i) 0) (2^(min (A (I U s)) (Am .u32))))).getD (A i) 0) ||| T (Am .u32) (I Ac ((us.getD (A (I O (i+1))) 0)*2^(min (A (I U (I O (32-s)))) (Am .u32))))).toNat)))) from (CY n6 n4)) a0)))))))))))))))
theorem yI(k:Nat)(us:LI)(n:Int)(kq:Nat)(qs:LI)(kr:Nat)(rs:LI)(s:Int)(i:Int)(c1:B (i<n)=true)(c2:B (s>0)=false)(n1:0<=i/\i<(k:Int))(n2:us.length=k)(n3:¬ (I U s)<0)(n4:0<=i/\i<(kr:Int))(n5:rs.length=kr):Ar MF (Iu k us n kq qs kr rs s i) .norm (Iu k us n kq qs kr (rs.set (A i) (d (us.getD (A i) 0) (2^(min (A (I U s)) (Am .u32))))) s (I O (i+1))):=(G m 400 [.b true,.v (F Ac (us.getD (A i) 0)),.l (lm (rs.set (A i) (d (us.getD (A i) 0) (2^(min (A (I U s)) (Am .u32)))))),.b false] [4,5,8,9,11,28] (S c1 (S n1 (S (Ck n2 n1) (S n3 (S n4 (S (show C4 (lm rs) (A i*1) [F Ac (d (us.getD (A i) 0) (2^(min (A (I U s)) (Am .u32))))]=some (lm (rs.set (A i) (d (us.getD (A i) 0) (2^(min (A (I U s)) (Am .u32)))))) from (CY n5 n4)) (S c2 a0))))))))
theorem yJ(k:Nat)(us:LI)(n:Int)(kq:Nat)(qs:LI)(kr:Nat)(rs:LI)(s:Int)(i:Int)(c1:B (i<n)=false):Ar MF (Iu k us n kq qs kr rs s i) (.exit 8) (Iu k us n kq qs kr rs s i):=(G m 400 [.b false] [4,5,8,9,11,28] (S c1 a0))
theorem kZ(xs ys:LI)(cm:Int)(c1:B (cm<0)=true)(n1:Bh (lm xs)=xs.length*1)(n2:xs.length<=35184372088832)(n3:RQ 151 [sL lm xs,sL lm ys] (F O cm)):RQ 180 [sL lm xs,sL lm ys] (Ax [H 0 [],sL lm xs]):=A8 PU (Y 1 (C (sL lm ys)::(Y 2 (X 1 0 []::(X 1 xs.length (lm xs)::(Y 276 [])))))) (W (W (W (W (W (W (W (q (AJ (G m 400 [.r (F O cm),.b true] [1,4,5] (S n3 (S c1 (S n1 (S n2 a0))))) (by nofun))))))))))
theorem lA(xs ys zs:LI)(cm rr:Int)(c1:B (cm<0)=false)(c2:((ys.length:Int)==1)=true)(n1:RQ 151 [sL lm xs,sL lm ys] (F O cm))(n2:0<=(0:Int)/\(0:Int)<(ys.length:Int))(n3:RQ 187 [sL lm xs,F Ac (ys.getD (A 0) 0)] (Ax [sL lm zs,F Ac rr])):RQ 180 [sL lm xs,sL lm ys] (Ax [sL lm zs,H 1 [F Ac rr]]):=A8 PU (Y 1 (C (sL lm ys)::(Y 2 (C (sL lm zs)::(X 1 1 [F Ac rr]::(Y 276 [])))))) (W (W (W (W (W (W (W (q (AJ (G m 400 [.r (F O cm),.b false,.b true,.v (F Ac (ys.getD (A 0) 0)),.r (Ax [sL lm zs,F Ac rr])] [1,4,5] (S n1 (S c1 (S c2 (S n2 (S (y n2) (S n3 a0))))))) (by nofun))))))))))
theorem lB(xs ys us ws us1 vs qs rs:LI)(cm s n t t2 j:Int)(k kq kr:Nat)(c1:B (cm<0)=false)(c2:((ys.length:Int)==1)=false)(n1:RQ 151 [sL lm xs,sL lm ys] (F O cm))(n2:0<=(I O ((ys.length:Int)-1))/\(I O ((ys.length:Int)-1))<(ys.length:Int))(n3:RQ 188 [F Ac (ys.getD (A (I O ((ys.length:Int)-1))) 0)] (F O s))(n4:0<=(ys.length:Int))(n5:0<=(A (ys.length:Int))/\(A (ys.length:Int))<=ws.length/\ws.length<=ws.length/\(false=true->true=true))(n6:RQ 189 [sL lm xs,F O s] (L 1 us.length (lm us)))(n7:RQ 189 [sL lm ys,F O s] (L 1 ws.length (lm ws)))(n8:0<=(I O ((I O ((xs.length:Int)-(ys.length:Int)))+1))/\(I O ((I O ((xs.length:Int)-(ys.length:Int)))+1))<=1048576)(n9:0<=(I O ((ys.length:Int)-1))/\(I O ((ys.length:Int)-1))<((((A (ys.length:Int))-0):Nat):Int))(n10:0<=(I O ((ys.length:Int)-2))/\(I O ((ys.length:Int)-2))<((((A (ys.length:Int))-0):Nat):Int))(hl11:Ar (.loop MG) ((Y 4 (X 1 (A (I O ((I O ((xs.length:Int)-(ys.length:Int)))+1))) (Cu [F Ac 0] (A (I O ((I O ((xs.length:Int)-(ys.length:Int)))+1))))::(Y 3 (C (F O s)::(X 1 us.length (lm us)::(C (H ((A (ys.length:Int))-0) (B3 (((A (ys.length:Int))-0)*1) (p (0*1) (lm ws))))::(C (F O (ys.length:Int))::(Y 1 (C (F U (I U (((ws.drop 0).take ((A (ys.length:Int))-0)).getD (A (I O ((ys.length:Int)-1))) 0)))::(C (F U (I U (((ws.drop 0).take ((A (ys.length:Int))-0)).getD (A (I O ((ys.length:Int)-2))) 0)))::(C (F O (I O ((xs.length:Int)-(ys.length:Int))))::(Y 266 []))))))))))))) (.exit 0) (H0 k us1 vs n t t2 kq qs s j))(n12:0<=n/\n<=1048576)(hl13:Ar (.loop MF) ((Y 4 (X 1 kq (lm qs)::(X 1 (A n) (Cu [F Ac 0] (A n))::(Y 2 (C (F O s)::(X 1 k (lm us1)::(Y 1 (C (F O n)::(Y 16 (C (F O 0)::(Y 253 [])))))))))))) (.exit 8) (Iu k us1 n kq qs kr rs s n)):RQ 180 [sL lm xs,sL lm ys] (Ax [H kq (lm qs),H kr (lm rs)]):=A8 PU (Y 4 (X 1 kq (lm qs)::(X 1 kr (lm rs)::(Y 276 [])))) (W (W (W (W (W (W (W (q (Cv.seq (G m 400 [.r (F O cm),.b false,.b false,.v (F Ac (ys.getD (A (I O ((ys.length:Int)-1))) 0)),.r (F O s),.r (L 1 us.length (lm us)),.r (L 1 ws.length (lm ws)),.v (F Ac (((ws.drop 0).take ((A (ys.length:Int))-0)).getD (A (I O ((ys.length:Int)-1))) 0)),.v (F Ac (((ws.drop 0).take ((A (ys.length:Int))-0)).getD (A (I O ((ys.length:Int)-2))) 0))] [4,8,9,10,11,13,14,15] (S n1 (S c1 (S c2 (S n2 (S (y n2) (S n3 (S n6 (S n7 (S n4 (S n5 (S n8 (S n9 (S (Tm n9 n5) (S n10 (S (Tm n10 n5) a0)))))))))))))))) (Cv.seq (Cv.block hl11) (q (Cv.seq (G m 400 [] [4,5,8,9,11,28] (S n12 a0)) (Cv.seq (Cv.block hl13) (G m 400 [] [4,5] a0))))))))))))))
def TQA:Cn:=TWB
theorem lC:Ca AY TQA:=m
end Go.Proofs.YtajompaehjkgkaaGreat
