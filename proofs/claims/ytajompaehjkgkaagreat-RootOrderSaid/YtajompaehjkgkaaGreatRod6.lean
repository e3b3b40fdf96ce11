/- Texts of the proof of RootOrder: part 6 of 13. -/
import Derived.Laws.BitsAllLaws
import Derived.KernelRfl
import Derived.Test.YtajompaehjkgkaaGreatRod5
namespace Go.Ai
open Go.RowKit
open BitVec renaming ofInt->U,toNat_and->NH,toNat_ofNat->Ji,toNat_or->kU
open Bool renaming and_eq_true->Af,false_eq_true->Cj
open Decidable renaming decide->A9i
open Go.IntKind renaming bits->An,wrap->I
open Int renaming emod->dU,fdiv->A9q,natCast_pow->CH,ofNat->JJ,ofNat_eq_natCast->J5,sub->A7d,tdiv->Av,tmod->AC
open List renaming ext_getElem->Zx,getD_eq_getElem?_getD->Z,getElem?_append_left->AN,getElem?_append_right->AT,getElem?_eq_getElem->Ah,getElem?_replicate->Lj,rec->bJ,replicate->At
open Nat renaming beq->C_,ble->uC,ble_eq_true_of_le->kZ,blt->Fm,div->IL,eq_of_beq_eq_true->CU,le_of_ble_eq_true->lC,le_refl->Ap,mod->PN,mod_eq_of_lt->F1,rec->N9,sub_zero->Kk,succ->NA,zero_le->By
open Option renaming getD_some->GJ,map_some->A9
def Uq:Int->Int->Bool
 | .ofNat m,.ofNat n=>Fm m n
 | .ofNat _,.negSucc _=>false
 | .negSucc _,.ofNat _=>true
 | .negSucc m,.negSucc n=>Fm n m
def leI(a b:Int):Bool := !(Uq b a)
def X8:Int->Int->Bool
 | .ofNat m,.ofNat n=>C_ m n
 | .negSucc m,.negSucc n=>C_ m n
 | _,_=>false
theorem J4(m n:Nat):Fm m n=decide (m<n):=by
 cases h:Fm m n
 ·symm;rw[decide_eq_false_iff_not];intro hlt;have:uC (m+1) n=true:=kZ hlt;rw[Fm] at h;rw[this] at h;cases h
 ·symm;rw[decide_eq_true_iff];exact lC h
theorem U1(a b:Int):Uq a b=decide (a<b):=by
 cases a with
 | ofNat m=>cases b with
  | ofNat n=>simp only[Uq,J4];rw[decide_eq_decide];simp only[J5];omega
  | negSucc n=>simp only[Uq];symm;rw[decide_eq_false_iff_not];simp only[J5];omega
 | negSucc m=>cases b with
  | ofNat n=>simp only[Uq];symm;rw[decide_eq_true_iff];simp only[J5];omega
  | negSucc n=>simp only[Uq,J4];rw[decide_eq_decide];omega
theorem Azo(a b:Int):leI a b=decide (a<=b):=by
 simp only[leI,U1];by_cases h:b<a
 ·rw[decide_eq_true h,decide_eq_false (by omega)];rfl
 ·rw[decide_eq_false h,decide_eq_true (by omega)];rfl
theorem uD(a b:Int):X8 a b=decide (a=b):=by
 cases a with
 | ofNat m=>cases b with
  | ofNat n =>
   simp only[X8];by_cases h:m=n
   ·subst h;simp
   ·have h2:C_ m n=false:=by cases hh:C_ m n with | false=>rfl | true=>exact absurd (CU hh) h
    rw[h2];symm;rw[decide_eq_false_iff_not];intro e;exact h (Int.ofNat.inj e)
  | negSucc n=>simp only[X8];symm;rw[decide_eq_false_iff_not];intro e;cases e
 | negSucc m=>cases b with
  | ofNat n=>simp only[X8];symm;rw[decide_eq_false_iff_not];intro e;cases e
  | negSucc n =>
   simp only[X8];by_cases h:m=n
   ·subst h;simp
   ·have h2:C_ m n=false:=by cases hh:C_ m n with | false=>rfl | true=>exact absurd (CU hh) h
    rw[h2];symm;rw[decide_eq_false_iff_not];intro e;exact h (Int.negSucc.inj e)
def dR(n:Int)(m:Nat):Int:=dU n (JJ m)
def Yw(n:Int)(h m:Nat):Int:=cond (Uq (dU n (JJ m)) (JJ h)) (dU n (JJ m)) (A7d (dU n (JJ m)) (JJ m))
def LV(k:IntKind)(n:Int):Int :=
 match k with
 | .u8=>dR n 256
 | .u16=>dR n 65536
 | .u32=>dR n 4294967296
 | .u64=>dR n 18446744073709551616
 | .i8=>Yw n 128 256
 | .i16=>Yw n 32768 65536
 | .i32=>Yw n 2147483648 4294967296
 | .i64=>Yw n 9223372036854775808 18446744073709551616
theorem Ang(n:Int)(h m:Nat):Yw n h m=if n % (m:Int)>=h then n % (m:Int)-m else n % (m:Int):=by
 unfold Yw;rw[U1];show (cond (A9i (n % (m:Int)<(h:Int))) (n % (m:Int)) (n % (m:Int)-(m:Int)))=_;by_cases hh:n % (m:Int)<h
 ·rw[decide_eq_true hh,if_neg (by omega)];rfl
 ·rw[decide_eq_false hh,if_pos (by omega)];rfl
theorem K5(k:IntKind)(n:Int):LV k n=k.wrap n:=by
 cases k <;> simp[LV,dR,Ang,I,An,IntKind.signed] <;> rfl
section
variable {α:Type}
noncomputable def Ef (n:Nat) (k:Nat->α):α:=N9 (motive:=fun _=>α) (k 0) (fun m _=>k (NA m)) n
noncomputable def SD (i:Int) (k:Int->α):α:=Int.rec (motive:=fun _=>α) (fun n=>Ef n fun n=>k (.ofNat n)) (fun n=>Ef n fun n=>k (.negSucc n)) i
noncomputable def IS (b:Bool) (k:Bool->α):α:=Bool.rec (motive:=fun _=>α) (k false) (k true) b
noncomputable def GK (l:List AV):(List AV->α)->α:=bJ (motive:=fun _=>(List AV->α)->α) (fun k=>k []) (fun x _ ih k=>ih fun xs=>k (x::xs)) l
theorem Gs(n:Nat)(k:Nat->α):Ef n k=k n:=by cases n <;> rfl
theorem ZM(i:Int)(k:Int->α):SD i k=k i:=by cases i <;> simp only [SD,Gs]
theorem LW(b:Bool)(k:Bool->α):IS b k=k b:=by cases b <;> rfl
theorem MV(l:List AV):∀ k:List AV->α,GK l k=k l:=by
 induction l with
 | nil=>intro k;rfl
 | cons x l ih=>intro k;exact ih _
noncomputable def J6 (x:AV) (k:AV->α):α :=
 match x with
 | .int kd n=>SD n fun n=>k (.int kd n)
 | .bool b=>IS b fun b=>k (.bool b)
 | .agg cs=>GK cs fun cs=>k (.agg cs)
 | .sl n cs=>Ef n fun n=>GK cs fun cs=>k (.sl n cs)
 | .fresh m n cs=>Ef n fun n=>GK cs fun cs=>k (.fresh m n cs)
 | .frs (.st b) m n cs=>IS b fun b=>Ef n fun n=>GK cs fun cs=>k (.frs (.st b) m n cs)
 | .frs (.tp b) m n cs=>IS b fun b=>Ef n fun n=>GK cs fun cs=>k (.frs (.tp b) m n cs)
 | .pt cs=>GK cs fun cs=>k (.pt cs)
 | .fnc f cs=>GK cs fun cs=>k (.fnc f cs)
 | .tup cs=>GK cs fun cs=>k (.tup cs)
 | x=>k x
theorem Oq(x:AV)(k:AV->α):J6 x k=k x:=by
 cases x
 case frs b m n cs=>cases b <;> simp only[J6,LW,MV,Gs]
 all_goals simp only[J6,ZM,LW,MV,Gs]
noncomputable def Ph (r:Reg) (k:Reg->α):α :=
 match r with
 | .val x=>J6 x fun x=>k (.val x)
 | .box cs=>GK cs fun cs=>k (.box cs)
 | .ptr d off=>Ef off fun off=>k (.ptr d off)
 | .mem cs=>GK cs fun cs=>k (.mem cs)
 | .own m n cs=>Ef n fun n=>GK cs fun cs=>k (.own m n cs)
 | .agn (.st b) m n cs=>IS b fun b=>Ef n fun n=>GK cs fun cs=>k (.agn (.st b) m n cs)
 | .agn (.tp b) m n cs=>IS b fun b=>Ef n fun n=>GK cs fun cs=>k (.agn (.tp b) m n cs)
 | r=>k r
theorem ZN(r:Reg)(k:Reg->α):Ph r k=k r:=by
 cases r
 case agn b m n cs=>cases b <;> simp only[Ph,LW,MV,Gs]
 all_goals simp only[Ph,Oq,MV,Gs]
end
def Iu(g:Nat->Reg)(o:Opd):Option AV :=
 match o with
 | .t n=>(match g n with | .val x=>some x | _=>none)
 | .c x=>some x
def Anh(g:Nat->Reg):Opd->Reg
 | .t n=>g n
 | .c x => .val x
theorem Rv(s:Al)(o:Opd):Iu (A5 s) o=o.av s:=by cases o <;> rfl
theorem Ani(s:Al)(o:Opd):Anh (A5 s) o=o.reg s:=by cases o <;> rfl
def T7(g:Nat->Reg):List Opd->Option (List AV)
 | []=>some []
 | o::l=>match Iu g o with
  | none=>none
  | some x=>match T7 g l with
   | none=>none
   | some xs=>some (x::xs)
theorem dV(s:Al):∀ l,T7 (A5 s) l=avs s l
 | []=>rfl
 | o::l=>by simp only[T7,avs,Rv,dV s l];rfl
def SE(g:Nat->Reg):List AV->List (Nat × Nat × Opd)->Option (List AV)
 | cs,[]=>some cs
 | cs,(off,n,o)::ps =>
  match Iu g o with
  | none=>none
  | some x=>match Gn x n with
   | none=>none
   | some ys=>match C6 cs off ys with
    | none=>none
    | some cs'=>SE g cs' ps
theorem Yx(s:Al):∀ (ps:List (Nat × Nat × Opd)) (cs:List AV),SE (A5 s) cs ps=FV s cs ps
 | [],cs=>rfl
 | (off,n,o)::ps,cs=>by simp only[SE,FV,Rv,Yx s ps];rfl
def T8(g:Nat->Reg)(d:Nat):Option Opd->Option Nat
 | none=>some d
 | some o=>match Iu g o with
  | some (.int _ i)=>cond (Uq i (.ofNat 0)) none (some i.toNat)
  | _=>none
theorem Anj(s:Al)(d:Nat)(o:Option Opd):T8 (A5 s) d o=GR s d o:=by
 cases o with
 | none=>rfl
 | some o =>
  simp only[T8,GR,Rv];generalize o.av s=x;cases x with
  | none=>rfl
  | some v =>
   cases v <;> first | rfl | skip
   rename_i k i;dsimp only;rw[U1];show cond (A9i (i<0)) _ _=_;by_cases h:i<0
   ·rw[decide_eq_true h,if_neg (by omega)];rfl
   ·rw[decide_eq_false h,if_pos (by omega)];rfl
def isK:IntKind->IntKind->Bool
 | .i8,.i8=>true
 | .i16,.i16=>true
 | .i32,.i32=>true
 | .i64,.i64=>true
 | .u8,.u8=>true
 | .u16,.u16=>true
 | .u32,.u32=>true
 | .u64,.u64=>true
 | _,_=>false
theorem uE(k k':IntKind):isK k k'=decide (k=k'):=by cases k <;> cases k' <;> rfl
def Rw:IntKind->Nat
 | .i8=>256 | .u8=>256 | .i16=>65536 | .u16=>65536 | .i32=>4294967296 | .u32=>4294967296 | .i64=>18446744073709551616 | .u64=>18446744073709551616
theorem We(k:IntKind):Rw k=2^k.bits:=by cases k <;> rfl
def MW(f:Nat->Nat->Nat)(op:BinOp)(k:IntKind)(x y:Int):Option AV :=
 match x,y with
 | .ofNat m,.ofNat n=>cond (Fm m (Rw k)&&Fm n (Rw k)) (some (.int k (LV k (.ofNat (f m n))))) ((LP op k x y).map (.int k))
 | _,_=>(LP op k x y).map (.int k)
theorem EM(w m:Nat)(h:m<2^w):(U w (JJ m)).toNat=m:=by
 have:U w (JJ m)=BitVec.ofNat w m:=by
  apply BitVec.eq_of_toNat_eq;simp
 rw[this,Ji,F1 h]
theorem mF(k:IntKind)(x y:Int):MW Nat.land .and k x y=(LP .and k x y).map (.int k):=by
 unfold MW;split
 ·rename_i m n;cases h:(Fm m (Rw k)&&Fm n (Rw k))
  ·rfl
  ·simp only[J4,Af,decide_eq_true_eq,We] at h;simp only[cond_true,LP,A9,K5,NH,EM _ _ h.1,EM _ _ h.2];rfl
 ·rfl
theorem yX(k:IntKind)(x y:Int):MW Nat.lor .or k x y=(LP .or k x y).map (.int k):=by
 unfold MW;split
 ·rename_i m n;cases h:(Fm m (Rw k)&&Fm n (Rw k))
  ·rfl
  ·simp only[J4,Af,decide_eq_true_eq,We] at h;simp only[cond_true,LP,A9,K5,kU,EM _ _ h.1,EM _ _ h.2];rfl
 ·rfl
theorem mG(k:IntKind)(x y:Int):MW Nat.xor .xor k x y=(LP .xor k x y).map (.int k):=by
 unfold MW;split
 ·rename_i m n;cases h:(Fm m (Rw k)&&Fm n (Rw k))
  ·rfl
  ·simp only[J4,Af,decide_eq_true_eq,We] at h;simp only[cond_true,LP,A9,K5,BitVec.toNat_xor,EM _ _ h.1,EM _ _ h.2];rfl
 ·rfl
def uF(y:Int)(k:IntKind):Int := .ofNat (Nat.pow 2 (cond (uC y.toNat k.bits) y.toNat k.bits))
theorem Ank(y:Int)(k:IntKind):uF y k=2^(min y.toNat k.bits):=by
 unfold uF;have:cond (uC y.toNat k.bits) y.toNat k.bits=min y.toNat k.bits:=by
  cases h:uC y.toNat k.bits
  ·have:¬ y.toNat<=k.bits:=by intro hh;rw[kZ hh] at h;cases h
   simp only[cond_false];omega
  ·have:=lC h;simp only[cond_true];omega
 rw[this];exact CH 2 _
def mH(x y:Int):Int :=
 match x,y with
 | .ofNat m,.ofNat n => .ofNat (IL m n)
 | x,y=>A9q x y
theorem yY(x y:Int):mH x y=A9q x y:=by
 unfold mH;split
 ·rename_i m n;exact (Int.ofNat_fdiv m n)
 ·rfl
def Anl(op:BinOp)(x y:AV):Option AV :=
 match x,y with
 | .int k a,.int k' b=>(match op with
  | .shl=>cond (Uq b (.ofNat 0)) none (some (.int k (LV k (Int.mul a (uF b k)))))
  | .shr=>cond (Uq b (.ofNat 0)) none (some (.int k (mH a (uF b k))))
  | op=>cond (isK k k') (match op with
   | .add=>some (.int k (LV k (Int.add a b)))
   | .sub=>some (.int k (LV k (A7d a b)))
   | .mul=>some (.int k (LV k (Int.mul a b)))
   | .quo=>cond (X8 b (.ofNat 0)) none (some (.int k (LV k (Av a b))))
   | .rem=>cond (X8 b (.ofNat 0)) none (some (.int k (AC a b)))
   | .and=>MW Nat.land .and k a b
   | .or=>MW Nat.lor .or k a b
   | .xor=>MW Nat.xor .xor k a b
   | .eql=>some (.bool (X8 a b))
   | .neq=>some (.bool (!(X8 a b)))
   | .lss=>some (.bool (Uq a b))
   | .leq=>some (.bool (leI a b))
   | .gtr=>some (.bool (Uq b a))
   | .geq=>some (.bool (leI b a))
   | _=>none) none)
 | _,_=>none
theorem Yy{α:Type}(p:Prop)[Decidable p](a b:α):cond (decide p) a b=if p then a else b:=by
 by_cases h:p <;> simp[h]
theorem Anm(a b:Int):(a==b)=decide (a=b):=by
 by_cases h:a=b <;> simp[h]
theorem Ann(op:BinOp)(x y:AV):Anl op x y=Md op x y:=by
 cases x <;> cases y <;> first | rfl | skip
 rename_i k a k' b;cases op <;> simp only[Anl,Md,J1,Cj,if_false,if_true,uE,Yy,bL,Aht,A9,K5,U1,Azo,uD,mF,yX,mG,Q_,Ank,yY,gt_iff_lt,ge_iff_le,Anm,bne];all_goals rfl
def unF(op:UnOp)(x:AV):Option AV :=
 match op,x with
 | .neg,.int k n=>some (.int k (LV k (A7d (.ofNat 0) n)))
 | .not,.bool b=>some (.bool (!b))
 | _,_=>none
theorem Azp(op:UnOp)(x:AV):unF op x=unA op x:=by
 cases op <;> cases x <;> simp only[unF,unA,K5];rfl
def mI(i:Int)(n:Nat):Bool:=match i with | .ofNat m=>Fm m n | .negSucc _=>false
theorem Azq(i:Int)(n:Nat):mI i n=decide (0<=i/\i<(n:Int)):=by
 cases i with
 | ofNat m=>simp only[mI,J4];rw[decide_eq_decide];simp only[J5];omega
 | negSucc m=>simp only[mI];symm;rw[decide_eq_false_iff_not];omega
def Ano(F:BM)(g:Nat->Reg):K->Option (Reg × List (Nat × Reg))
 | .mov x=>match Iu g x with
  | some v=>some (.val v,[])
  | none=>none
 | .pick c a b =>
  match Iu g c with
  | some (.bool true)=>(Iu g a).map fun v=>(.val v,[])
  | some (.bool false)=>(Iu g b).map fun v=>(.val v,[])
  | _=>none
 | .bin op x y =>
  match Iu g x,Iu g y with
  | some a,some b=>(Anl op a b).map fun v=>(.val v,[])
  | _,_=>none
 | .eqb neg x y =>
  match Iu g x,Iu g y with
  | some (.bool a),some (.bool b)=>some (.val (.bool (if neg then !(a==b) else a==b)),[])
  | _,_=>none
 | .un op x=>match Iu g x with
  | some a=>(unF op a).map fun v=>(.val v,[])
  | none=>none
 | .cv k x=>match Iu g x with
  | some (.int _ n)=>some (.val (.int k (LV k n)),[])
  | _=>none
 | .new z kills=>some (.box z,kills.map fun t=>(t,.dead))
 | .box x kills=>match Iu g x with
  | some (.agg cs)=>some (.box cs,kills.map fun t=>(t,.dead))
  | some x=>if Lm x then some (.box [x],kills.map fun t=>(t,.dead)) else none
  | none=>none
 | .bld z ps=>(SE g z ps).map fun cs=>(.val (.agg cs),[])
 | .bls n z ps=>(SE g z ps).map fun cs=>(.val (.sl n cs),[])
 | .adr x d off=>match g x with
  | .box _=>if x=d then some (.ptr d off,[]) else none
  | .ptr d' o=>if d'=d then some (.ptr d (o+off),[]) else none
  | .mem cs=>some (.mem (cs.drop off),[])
  | _=>none
 | .ld x d n one=>match g x with
  | .box cs=>if x=d then (Bv cs 0 n one).map fun v=>(.val v,[]) else none
  | .ptr d' off=>if d'=d then (match g d with
   | .box cs=>(Bv cs off n one).map fun v=>(.val v,[])
   | .own _ _ cs=>(Bv cs off n one).map fun v=>(.val v,[])
   | _=>none) else none
  | .mem cs=>(Bv cs 0 n one).map fun v=>(.val v,[])
  | _=>none
 | .st x d n v=>match Iu g v with
  | none=>none
  | some a=>match Gn a n with
   | none=>none
   | some ys=>match g x with
    | .box cs=>if x=d then (C6 cs 0 ys).map fun cs'=>(.dead,[(d,.box cs')]) else none
    | .ptr d' off=>if d'=d then (match g d with
     | .box cs=>(C6 cs off ys).map fun cs'=>(.dead,[(d,.box cs')])
     | .own k m cs=>(C6 cs off ys).map fun cs'=>(.dead,[(d,.own k m cs')])
     | _=>none) else none
    | _=>none
 | .fld x off n one=>match Iu g x with
  | some (.agg cs)=>(Bv cs off n one).map fun v=>(.val v,[])
  | _=>none
 | .ixa x i k=>match Iu g i with
  | some (.int _ i)=>(match g x with
   | .val (.sl n cs)=>cond (mI i n) (some (.mem (cs.drop (i.toNat*k)),[])) none
   | _=>none)
  | _=>none
 | .six x i=>match Iu g x,Iu g i with
  | some (.str b),some (.int _ i)=>(if 0<=i then b[i.toNat]? else none).map fun c=>(.val (.int .u8 c.toNat),[])
  | _,_=>none
 | .ext x i=>match Iu g x with
  | some (.tup vs)=>(vs[i]?).map fun v=>(.val v,[])
  | _=>none
 | .len x=>match Iu g x with
  | some .nil=>some (.val (.int .i64 0),[])
  | some (.sl n _)=>some (.val (.int .i64 n),[])
  | _=>none
 | .mx xs=>match T7 g xs with
  | some (.int k n::l)=>(Ya k n l).map fun m=>(.val (.int k m),[])
  | _=>none
 | .mn xs=>match T7 g xs with
  | some (.int k n::l)=>(Yb k n l).map fun m=>(.val (.int k m),[])
  | _=>none
 | .call f xs=>match T7 g xs with
  | some vs=>(F f vs).map fun v=>(.val (KK v),[])
  | none=>none
 | .clo f xs=>match T7 g xs with
  | some vs=>(F f vs).map fun v=>(Ln v,[])
  | none=>none
 | .brw f x d=>match g x with
  | .dup d'=>if d'=d then (match g d with
   | .own _ n cs=>if cs.all (fun c => !UI c) then (match F f [.sl n cs] with
    | some y=>if G9 (KK y) then some (.val (KK y),[]) else none
    | none=>none) else none
   | _=>none) else none
  | _=>none
 | .cpy x=>match g x with
  | .val v=>some (.val v,[])
  | .own _ _ _=>some (.dup x,[])
  | _=>none
 | .tra x=>match g x with
  | .val v=>some (.val v,[])
  | .own k n cs=>some (.own k n cs,[(x,.dead)])
  | .agn b k n cs=>some (.agn b k n cs,[(x,.dead)])
  | _=>none
 | .frz x=>match g x with
  | .val v=>some (.val v,[])
  | .own _ n cs=>some (.val (.sl n cs),[(x,.val (.sl n cs))])
  | _=>none
 | .mks z n=>match Iu g n with
  | some (.int _ m)=>cond (mI m 1048577) (some (.own z.length m.toNat (Cz z m.toNat),[])) none
  | _=>none
 | .blo k n z ps=>(SE g z ps).map fun cs=>(.own k n cs,[])
 | .apd ow x y k B=>match Iu g y with
  | some .nil=>(match Anh g x with
   | .val .nil=>some (.val .nil,[])
   | .own k' n cs=>if k'=k then some (if ow then .own k n cs else .val (.sl n cs),Qg x) else none
   | _=>none)
  | some (.sl m ys)=>if ys.length=m*k then (match Anh g x with
   | .val .nil=>if m<=B then some (if ow then .own k m ys else .val (.sl m ys),[]) else none
   | .own k' n cs=>if k'=k/\n+m<=B then some (if ow then .own k (n+m) (cs++ys) else .val (.sl (n+m) (cs++ys)),Qg x) else none
   | _=>none) else none
  | _=>none
 | .sli x lo hi mx k=>match Iu g x with
  | some .nil=>(match T8 g 0 mx,T8 g 0 hi,T8 g 0 lo with
   | some 0,some 0,some 0=>if mx.isSome->hi.isSome then some (.val .nil,[]) else none
   | _,_,_=>none)
  | some (.sl n cs)=>(match T8 g n mx,T8 g n hi,T8 g 0 lo with
   | some m,some h,some l=>if l<=h/\h<=m/\m<=n/\(mx.isSome->hi.isSome) then some (.val (.sl (h-l) ((cs.drop (l*k)).take ((h-l)*k))),[]) else none
   | _,_,_=>none)
  | _=>none
 | .ixo x d i k=>match Iu g i with
  | some (.int _ i)=>(match g x with
   | .val (.sl n cs)=>cond (mI i n) (some (.mem (cs.drop (i.toNat*k)),[])) none
   | .dup d'=>if d'=d then (match g d with
    | .own k' n _=>if k'=k then cond (mI i n) (some (.ptr d (i.toNat*k),[])) none else none
    | _=>none) else none
   | _=>none)
  | _=>none
 | .lno x d=>match g x with
  | .val .nil=>some (.val (.int .i64 0),[])
  | .val (.sl n _)=>some (.val (.int .i64 n),[])
  | .dup d'=>if d'=d then (match g d with
   | .own _ n _=>some (.val (.int .i64 n),[])
   | _=>none) else none
  | _=>none
 | .nlo k=>some (.own k 0 [],[])
 | .bdo a x l=>match Iu g a with
  | some (.bool b)=>(match g x with
   | .own k n cs=>if l.all (fun t=>Gm (g t)) then some (.agn (.st b) k n cs,[(x,.dead)]) else none
   | _=>none)
  | _=>none
 | .cln f xs l=>match T7 g xs with
  | some vs=>if l.all (fun t=>Gm (g t)) then (F f vs).map fun v=>(Ln v,[]) else none
  | none=>none
 | .stl x v=>match g x with
  | .box cs=>(match g v with
   | .agn (.st _) _ _ _=>if cs.length=2 then some (.dead,[(x,.bxl v)]) else none
   | _=>none)
  | _=>none
 | .fdo x=>match g x with
  | .agn (.st _) k n cs=>some (.own k n cs,[(x,.dead)])
  | _=>none
 | .exo x=>match g x with
  | .agn (.tp b) k n cs=>some (.own k n cs,[(x,.val (.tup [.sl n [],.bool b]))])
  | _=>none
 | .slo x hi k=>match Iu g hi with
  | some (.int _ h)=>(match g x with
   | .own k' n cs=>if k'=k/\0<=h/\h<=n then some (.own k h.toNat (cs.take (h.toNat*k)),[(x,.dead)]) else none
   | _=>none)
  | _=>none
 | .bad=>none
theorem Anp(F:BM)(s:Al)(k:K):Ano F (A5 s) k=BJ F s k:=by
 cases k <;> simp only[Ano,BJ,Rv,dV,Yx,Ani,Anj,Ann,Azp,K5,Azq,Yy]
 case mov x=>cases x.av s <;> rfl
 case mks z n =>
  generalize n.av s=x;cases x with
  | none=>rfl
  | some v =>
   cases v <;> first | rfl | skip
   rename_i k m;have:(0<=m/\m<((1048577:Nat):Int))↔(0<=m/\m<=1048576):=by omega
   simp only[this]
 case ixo x d i k =>
  generalize i.av s=y;cases y with
  | none=>rfl
  | some v =>
   cases v <;> first | rfl | skip
   rename_i kk m;generalize A5 s x=r;cases r <;> first | rfl | skip
   ·rename_i v;cases v <;> rfl
   ·rename_i d';dsimp only;by_cases hd:d'=d
    ·rw[if_pos hd,if_pos hd];generalize A5 s d=r2;cases r2 <;> first | rfl | skip
     rename_i k' n cs;by_cases hk:k'=k <;> simp[hk]
    ·rw[if_neg hd,if_neg hd]
 all_goals rfl
inductive Tr where
 | e
 | n (l:Tr) (v:Reg) (r:Tr)
noncomputable def Tr.get (t:Tr):Nat->Reg :=
 Tr.rec (motive:=fun _=>Nat->Reg) (fun _ => .dead) (fun _ v _ gl gr i=>N9 (motive:=fun _=>Reg) v (fun j _=>cond (C_ (PN j 2) 0) (gl (IL j 2)) (gr (IL j 2))) i) t
theorem yZ(i:Nat):Tr.e.get i = .dead:=rfl
theorem ZO(l:Tr)(v:Reg)(r:Tr):(Tr.n l v r).get 0=v:=rfl
theorem I2(l:Tr)(v:Reg)(r:Tr)(j:Nat):(Tr.n l v r).get (j+1)=cond (C_ (j % 2) 0) (l.get (j / 2)) (r.get (j / 2)):=rfl
section
variable {α:Type}
noncomputable def Rx (f:Nat):Tr->Nat->Reg->(Tr->Option α)->Option α :=
 N9 (motive:=fun _=>Tr->Nat->Reg->(Tr->Option α)->Option α) (fun _ _ _ _=>none)
  (fun _ ih t i x k=>Tr.rec (motive:=fun _=>Option α)
   (N9 (motive:=fun _=>Option α) (k (.n .e x .e)) (fun j _=>cond (C_ (PN j 2) 0) (Ef (IL j 2) fun j=>ih .e j x fun l'=>k (.n l' .dead .e)) (Ef (IL j 2) fun j=>ih .e j x fun r'=>k (.n .e .dead r'))) i)
   (fun l v r _ _=>N9 (motive:=fun _=>Option α) (k (.n l x r)) (fun j _=>cond (C_ (PN j 2) 0) (Ef (IL j 2) fun j=>ih l j x fun l'=>k (.n l' v r)) (Ef (IL j 2) fun j=>ih r j x fun r'=>k (.n l v r'))) i) t) f
theorem Yz{i j:Nat}(h1:i % 2=j % 2)(h2:i / 2=j / 2):i=j:=by omega
theorem dW:∀ (f:Nat) (t:Tr) (i:Nat) (x:Reg) (k:Tr->Option α) (y:α),Rx f t i x k=some y->∃ t',k t'=some y/\∀ u,t'.get u=if u=i then x else t.get u:=by
 intro f;induction f with
 | zero=>intro t i x k y h;cases h
 | succ f ih =>
  intro t i x k y h;have key:∀ (l r:Tr) (v:Reg),(∀ u,(Tr.n l v r).get u=t.get u) ->
    (match i with
     | 0=>k (.n l x r)
     | j+1=>cond (C_ (PN j 2) 0) (Ef (IL j 2) fun j=>Rx f l j x fun l'=>k (.n l' v r)) (Ef (IL j 2) fun j=>Rx f r j x fun r'=>k (.n l v r')))=some y ->
    ∃ t',k t'=some y/\∀ u,t'.get u=if u=i then x else t.get u:=by
   intro l r v ht h;cases i with
   | zero =>
    refine⟨_,h,fun u => ?_⟩;cases u with
    | zero=>simp[ZO]
    | succ u=>rw[if_neg (by omega),<- ht];rfl
   | succ j =>
    dsimp only at h;cases hj:C_ (PN j 2) 0
    ·rw[hj] at h;simp only[cond_false,Gs] at h;obtain⟨r',h1,h2⟩:=ih r _ x _ y h;have hj':j % 2=1:=by
      have:¬ j % 2=0:=fun e=>by
       have:C_ (PN j 2) 0=true:=by show C_ (j % 2) 0=true;rw[e];rfl
       rw[this] at hj;cases hj
      omega
     refine⟨_,h1,fun u => ?_⟩;cases u with
     | zero=>rw[if_neg (by omega),<- ht];rfl
     | succ u =>
      rw[<- ht,I2,I2,h2];cases hu:C_ (u % 2) 0
      ·have hu':u % 2=1:=by
        have:¬ u % 2=0:=fun e=>by rw[e] at hu;cases hu
        omega
       simp only[cond_false];show (if u / 2=j / 2 then _ else _)=_;by_cases hh:u / 2=j / 2
       ·have:u=j:=Yz (by omega) hh;rw[if_pos hh,if_pos (by omega)]
       ·rw[if_neg hh,if_neg (by omega)]
      ·have hu':u % 2=0:=CU hu;simp only[cond_true];rw[if_neg (by omega)]
    ·rw[hj] at h;simp only[cond_true,Gs] at h;obtain⟨l',h1,h2⟩:=ih l _ x _ y h;have hj':j % 2=0:=CU hj;refine⟨_,h1,fun u => ?_⟩;cases u with
     | zero=>rw[if_neg (by omega),<- ht];rfl
     | succ u =>
      rw[<- ht,I2,I2,h2];cases hu:C_ (u % 2) 0
      ·have hu':u % 2=1:=by
        have:¬ u % 2=0:=fun e=>by rw[e] at hu;cases hu
        omega
       simp only[cond_false];rw[if_neg (by omega)]
      ·have hu':u % 2=0:=CU hu;simp only[cond_true];show (if u / 2=j / 2 then _ else _)=_;by_cases hh:u / 2=j / 2
       ·have:u=j:=Yz (by omega) hh;rw[if_pos hh,if_pos (by omega)]
       ·rw[if_neg hh,if_neg (by omega)]
  cases t with
  | e =>
   refine key .e .e .dead (fun u => ?_) (by cases i <;> exact h);cases u with
   | zero=>rfl
   | succ u=>rw[I2];cases C_ (u % 2) 0 <;> rfl
  | n l v r=>exact key l r v (fun _=>rfl) (by cases i <;> exact h)
def Ly(t:Tr)(s:Al):Prop:=∀ u,t.get u=A5 s u
noncomputable def Wf (m:Nat) (t:Tr) (d:Nat) (r:Reg) (k:Tr->Option α):Option α:=cond (Fm d m) (Ph r fun r=>Rx 12 t d r k) none
theorem Wg{m:Nat}{t:Tr}{s:Al}{d:Nat}{r:Reg}{k:Tr->Option α}{y:α}(hs:s.length=m)(ht:Ly t s)(h:Wf m t d r k=some y):∃ t',k t'=some y/\Ly t' (s.set d r):=by
 unfold Wf at h;cases hd:Fm d m
 ·rw[hd] at h;cases h
 ·rw[hd] at h;simp only[cond_true,ZN] at h;obtain⟨t',h1,h2⟩:=dW 12 t d r k y h;refine⟨t',h1,fun u => ?_⟩;simp only[J4,decide_eq_true_eq] at hd;rw[h2,D0];by_cases hu:u=d
  ·subst hu;rw[if_pos rfl,if_pos ⟨rfl,by omega⟩]
  ·rw[if_neg hu,if_neg (fun e=>hu e.1.symm)];exact ht u
noncomputable def ZP (m:Nat) (l:List (Nat × Reg)):Tr->(Tr->Option α)->Option α :=
 bJ (motive:=fun _=>Tr->(Tr->Option α)->Option α) (fun t k=>k t) (fun p _ ih t k=>Wf m t p.1 p.2 fun t=>ih t k) l
theorem SF{m:Nat}:∀ {l:List (Nat × Reg)} {t:Tr} {s:Al} {k:Tr->Option α} {y:α},s.length=m->Ly t s->ZP m l t k=some y->∃ t',k t'=some y/\Ly t' (Cd s l)
 | [],t,s,k,y,_,ht,h=>⟨t,h,ht⟩
 | (d,r)::l,t,s,k,y,hs,ht,h=>by
  obtain⟨t',h1,h2⟩:=Wg hs ht h;exact SF (l:=l) (by simp[hs]) h2 (show ZP m l t' k=some y from h1)
noncomputable def Anq (m:Nat) (t:Tr) (d:Option Nat) (r:Reg) (k:Tr->Option α):Option α :=
 match d with
 | none=>k t
 | some d=>Wf m t d r k
theorem dX{m:Nat}{t:Tr}{s:Al}{d:Option Nat}{r:Reg}{k:Tr->Option α}{y:α}(hs:s.length=m)(ht:Ly t s)(h:Anq m t d r k=some y):∃ t',k t'=some y/\Ly t' (Ea s d r):=by
 cases d with
 | none=>exact⟨t,h,ht⟩
 | some d=>exact Wg hs ht h
def Anr(g:Nat->Reg):Option (Nat × Bool)->Option Bool
 | none=>some true
 | some (t,b)=>match g t with
  | .val (.bool c)=>some (c==b)
  | .val .undef=>some false
  | _=>none
theorem zA(s:Al)(g:Option (Nat × Bool)):Anr (A5 s) g=GS s g:=by cases g <;> rfl
noncomputable def fOp (F:BM) (m:Nat) (o:IOp) (t:Tr) (k:Tr->Option α):Option α :=
 ZP m (o.ks.map fun u=>(u,Reg.dead)) t fun t =>
  match Anr t.get o.g with
  | none=>none
  | some false=>Anq m t o.dst (.val .undef) k
  | some true=>match Ano F t.get o.k with
   | none=>none
   | some (r,l)=>ZP m l t fun t=>Anq m t o.dst r k
theorem Azr{F:BM}{m:Nat}{o:IOp}{t:Tr}{s:Al}{k:Tr->Option α}{y:α}(hs:s.length=m)(ht:Ly t s)(h:fOp F m o t k=some y):∃ s' t',FW F o s=some s'/\s'.length=m/\Ly t' s'/\k t'=some y:=by
 unfold fOp at h;obtain⟨t1,h1,h2⟩:=SF hs ht h;have hs1:(kill s o.ks).length=m:=by rw[kill,FI];exact hs
 have e1:t1.get=A5 (kill s o.ks):=funext h2;rw[e1,zA] at h1;simp only[FW,Iw];have hl:∀ (s:Al) (d:Option Nat) (r:Reg),(Ea s d r).length=s.length:=by intro s d r;cases d <;> simp[Ea]
 split at h1
 ·cases h1
 ·rename_i hw;rw[hw];obtain⟨t2,h3,h4⟩:=dX hs1 h2 h1;exact⟨_,t2,rfl,by rw[hl];exact hs1,h4,h3⟩
 ·rename_i hw;rw[hw];rw[Anp] at h1;split at h1
  ·cases h1
  ·rename_i r l hk;obtain⟨t2,h3,h4⟩:=SF hs1 h2 h1;obtain⟨t3,h5,h6⟩:=dX (by rw[FI];exact hs1) h4 h3;refine⟨_,t3,by simp only[hk],by rw[hl,FI];exact hs1,h6,h5⟩
noncomputable def A7e (F:BM) (m:Nat) (l:List IOp):Tr->(Tr->Option α)->Option α :=
 bJ (motive:=fun _=>Tr->(Tr->Option α)->Option α) (fun t k=>k t) (fun o _ ih t k=>fOp F m o t fun t=>ih t k) l
theorem dY{F:BM}{m:Nat}:∀ {l:List IOp} {t:Tr} {s:Al} {k:Tr->Option α} {y:α},s.length=m->Ly t s->A7e F m l t k=some y->∃ s' t',Ej F l s=some s'/\s'.length=m/\Ly t' s'/\k t'=some y
 | [],t,s,k,y,hs,ht,h=>⟨s,t,rfl,hs,ht,h⟩
 | o::l,t,s,k,y,hs,ht,h=>by
  obtain⟨s1,t1,h1,h2,h3,h4⟩:=Azr hs ht h;obtain⟨s2,t2,h5,h6,h7,h8⟩:=dY h2 h3 h4;exact⟨s2,t2,by simp only[Ej,h1];exact h5,h6,h7,h8⟩
noncomputable def fC (F:BM) (m:Nat) (n:Nat):ICode->Tr->(Ex->Tr->Option α)->Option α :=
 N9 (motive:=fun _=>ICode->Tr->(Ex->Tr->Option α)->Option α) (fun _ _ _=>none) (fun _ ih c t k =>
  match c with
  | .skip=>k .norm t
  | .region _ ops=>A7e F m ops t fun t=>k .norm t
  | .seq a b=>ih a t fun ex t=>(match ex with | .norm=>ih b t k | .exit i=>k (.exit i) t | .ret=>k .ret t)
  | .cond c a b=>(match Iu t.get c with | some (.bool true)=>ih a t k | some (.bool false)=>ih b t k | _=>none)
  | .block id c=>ih c t fun ex t=>(match ex with | .norm=>k .norm t | .exit i=>cond (C_ i id) (k .norm t) (k (.exit i) t) | .ret=>k .ret t)
  | .loop c=>ih c t fun ex t=>(match ex with | .norm=>ih (.loop c) t k | .exit i=>k (.exit i) t | .ret=>k .ret t)
  | .scope c=>ih c t k
  | .exit id=>k (.exit id) t
  | .ret=>k .ret t) n
theorem A8c{F:BM}{m:Nat}:∀ (n:Nat) {c:ICode} {t:Tr} {s:Al} {k:Ex->Tr->Option α} {y:α},s.length=m->Ly t s->fC F m n c t k=some y->∃ ex s' t',Cr F n c s=some (ex,s')/\s'.length=m/\Ly t' s'/\k ex t'=some y:=by
 intro n;induction n with
 | zero=>intro c t s k y _ _ h;cases h
 | succ n ih =>
  intro c t s k y hs ht h;cases c with
  | skip=>exact⟨.norm,s,t,rfl,hs,ht,h⟩
  | region d ops =>
   obtain⟨s',t',h1,h2,h3,h4⟩:=dY hs ht h;exact⟨.norm,s',t',by simp only[Cr,h1,A9],h2,h3,h4⟩
  | seq a b =>
   obtain⟨ex,s1,t1,h1,h2,h3,h4⟩:=ih (c:=a) hs ht h;cases ex with
   | norm =>
    obtain⟨ex,s2,t2,h5,h6,h7,h8⟩:=ih (c:=b) h2 h3 h4;exact⟨ex,s2,t2,by simp only[Cr,h1];exact h5,h6,h7,h8⟩
   | exit i=>exact⟨.exit i,s1,t1,by simp only[Cr,h1],h2,h3,h4⟩
   | ret=>exact⟨.ret,s1,t1,by simp only[Cr,h1],h2,h3,h4⟩
  | cond o a b =>
   have e1:t.get=A5 s:=funext ht;have h':(match Iu t.get o with | some (.bool true)=>fC F m n a t k | some (.bool false)=>fC F m n b t k | _=>none)=some y:=h
   rw[e1,Rv] at h';split at h'
   ·rename_i hc;obtain⟨ex,s1,t1,h1,h2,h3,h4⟩:=ih (c:=a) hs ht h';exact⟨ex,s1,t1,by simp only[Cr,JM,hc];exact h1,h2,h3,h4⟩
   ·rename_i hc;obtain⟨ex,s1,t1,h1,h2,h3,h4⟩:=ih (c:=b) hs ht h';exact⟨ex,s1,t1,by simp only[Cr,JM,hc];exact h1,h2,h3,h4⟩
   ·cases h'
  | block id c =>
   obtain⟨ex,s1,t1,h1,h2,h3,h4⟩:=ih (c:=c) hs ht h;cases ex with
   | norm=>exact⟨.norm,s1,t1,by simp only[Cr,h1],h2,h3,h4⟩
   | ret=>exact⟨.ret,s1,t1,by simp only[Cr,h1],h2,h3,h4⟩
   | exit i =>
    by_cases hi:i=id
    ·subst hi;have:C_ i i=true:=Nat.beq_refl i;simp only[this,cond_true] at h4;exact⟨.norm,s1,t1,by simp only[Cr,h1,if_true],h2,h3,h4⟩
    ·have:C_ i id=false:=by cases hh:C_ i id with | false=>rfl | true=>exact absurd (CU hh) hi
     simp only[this,cond_false] at h4;exact⟨.exit i,s1,t1,by simp only[Cr,h1,if_neg hi],h2,h3,h4⟩
  | loop c =>
   obtain⟨ex,s1,t1,h1,h2,h3,h4⟩:=ih (c:=c) hs ht h;cases ex with
   | norm =>
    obtain⟨ex,s2,t2,h5,h6,h7,h8⟩:=ih (c := .loop c) h2 h3 h4;exact⟨ex,s2,t2,by simp only[Cr,h1];exact h5,h6,h7,h8⟩
   | exit i=>exact⟨.exit i,s1,t1,by simp only[Cr,h1],h2,h3,h4⟩
   | ret=>exact⟨.ret,s1,t1,by simp only[Cr,h1],h2,h3,h4⟩
  | scope c =>
   obtain⟨ex,s1,t1,h1,h2,h3,h4⟩:=ih (c:=c) hs ht h;exact⟨ex,s1,t1,by simp only[Cr];exact h1,h2,h3,h4⟩
  | exit id=>exact⟨.exit id,s,t,rfl,hs,ht,h⟩
  | ret=>exact⟨.ret,s,t,rfl,hs,ht,h⟩
end
def A7f(g:Nat->Reg):IRes->Option AV
 | .tmp t=>match g t with
  | .val x=>some x
  | .own _ n cs=>some (.sl n cs)
  | _=>none
 | .cell t n one=>match g t with
  | .box cs=>Bv cs 0 n one
  | _=>none
def ZQ(g:Nat->Reg):List IRes->Option (List AV)
 | []=>some []
 | r::l=>match A7f g r with
  | none=>none
  | some x=>match ZQ g l with
   | none=>none
   | some xs=>some (x::xs)
def uG(g:Nat->Reg):List IRes->Option AV
 | [.tmp t]=>match g t with
  | .own k n cs=>some (.fresh k n cs)
  | .agn b k n cs=>some (.frs b k n cs)
  | _=>none
 | [.tmp t,.tmp u]=>match g t with
  | .own k n cs=>(match g u with
   | .val (.bool b)=>some (.frs (.tp b) k n cs)
   | _=>none)
  | _=>none
 | [.cell t n one]=>match g t with
  | .bxl d=>(match g d with
   | .agn (.st b) k m cs=>if n=2/\one=false then some (.frs (.st b) k m cs) else none
   | _=>none)
  | _=>none
 | _=>none
def Mn(g:Nat->Reg)(l:List IRes):Option AV :=
 match uG g l with
 | some x=>some x
 | none=>match ZQ g l with
  | some [x]=>some x
  | some xs=>some (.tup xs)
  | none=>none
theorem Ans(s:Al)(r:IRes):A7f (A5 s) r=ER s r:=by cases r <;> rfl
theorem Y0(s:Al):∀ l,ZQ (A5 s) l=DU s l
 | []=>rfl
 | r::l=>by simp only[ZQ,DU,Ans,Y0 s l];rfl
theorem mJ(s:Al)(l:List IRes):uG (A5 s) l=HS s l:=by
 cases l with
 | nil=>rfl
 | cons r l=>cases r <;> cases l <;> rfl
theorem T9(s:Al)(l:List IRes):Mn (A5 s) l=HJ s l:=by simp only [Mn,HJ,mJ,Y0];rfl
inductive Pr where
 | e
 | n (l:Pr) (v:Option IFunc) (r:Pr)
noncomputable def Pr.get (t:Pr):Nat->Option IFunc :=
 Pr.rec (motive:=fun _=>Nat->Option IFunc) (fun _=>none) (fun _ v _ gl gr i=>N9 (motive:=fun _=>Option IFunc) v (fun j _=>cond (C_ (PN j 2) 0) (gl (IL j 2)) (gr (IL j 2))) i) t
noncomputable def ZR {α:Type} (m:Nat) (l:List AV):Nat->Tr->(Tr->Option α)->Option α :=
 bJ (motive:=fun _=>Nat->Tr->(Tr->Option α)->Option α) (fun _ t k=>k t) (fun x _ ih i t k=>Wf m t i (Lo x) fun t=>ih (NA i) t k) l
theorem Y1{α:Type}{m:Nat}:∀ {l:List AV} {i:Nat} {t:Tr} {s:Al} {k:Tr->Option α} {y:α},s.length=m->Ly t s->ZR m l i t k=some y->∃ t' s',k t'=some y/\Ly t' s'/\s'.length=m/\(l=[]\/i+l.length<=m)/\∀ u,A5 s' u=if h:i<=u/\u-i<l.length then Lo (l[u-i]'h.2) else A5 s u
 | [],i,t,s,k,y,hs,ht,h=>⟨t,s,h,ht,hs,.inl rfl,fun u=>by rw[dif_neg (by simp)]⟩
 | x::l,i,t,s,k,y,hs,ht,h=>by
  have hlt:i<m:=by
   have h':Wf m t i (Lo x) (fun t=>ZR m l (NA i) t k)=some y:=h;unfold Wf at h';cases hd:Fm i m
   ·rw[hd] at h';cases h'
   ·simpa [J4] using hd
  obtain⟨t1,h1,h2⟩:=Wg hs ht h;obtain⟨t2,s2,h3,h4,h5,h7,h6⟩:=Y1 (l:=l) (i:=NA i) (by simp[hs]) h2 h1;refine⟨t2,s2,h3,h4,h5,.inr ?_,fun u => ?_⟩
  ·rcases h7 with rfl | h7
   ·simp;omega
   ·simp;omega
  rw[h6];by_cases hu:u=i
  ·subst hu;rw[dif_neg (by omega),dif_pos ⟨Ap _,by simp⟩,D0,if_pos ⟨rfl,by omega⟩];simp
  ·rw[D0,if_neg (fun e=>hu e.1.symm)];by_cases hc:NA i<=u/\u-NA i<l.length
   ·rw[dif_pos hc,dif_pos ⟨by omega,by simp;omega⟩];have:u-i=(u-NA i)+1:=by omega
    simp[this]
   ·rw[dif_neg hc,dif_neg (by simp;omega)]
theorem mK{s s':Al}(hl:s.length=s'.length)(h:∀ u,A5 s u=A5 s' u):s=s':=by
 apply Zx hl;intro i h1 h2;have:=h i;simp only[A5,Z,Ah h1,Ah h2,GJ] at this;exact this
noncomputable def fF (T:Pr) (M:BM) (n:Nat):BM :=
 N9 (motive:=fun _=>BM) (fun _ _=>none) (fun n ih f args =>
  match M f args with
  | some r=>some r
  | none=>match T.get f with
   | none=>none
   | some fn=>cond (C_ args.length fn.params) (ZR fn.slots args 0 .e fun t=>fC ih fn.slots n fn.body t fun ex t=>(match ex with
    | .exit _=>none
    | .norm=>(Mn t.get fn.res).bind fun x=>J6 x some
    | .ret=>(Mn t.get fn.res).bind fun x=>J6 x some)) none) n
theorem Bo{prog:Nat->Option IFunc}{T:Pr}{M:BM}(hT:∀ f fn,T.get f=some fn->prog f=some fn)(hM:Oc prog M):∀ n,Oc prog (fF T M n):=by
 intro n;induction n with
 | zero=>intro f args r h;cases h
 | succ n ih =>
  intro f args r h;have h':(match M f args with
   | some r=>some r
   | none=>match T.get f with
    | none=>none
    | some fn=>cond (C_ args.length fn.params) (ZR fn.slots args 0 .e fun t=>fC (fF T M n) fn.slots n fn.body t fun ex t=>(match ex with
     | .exit _=>none
     | .norm=>(Mn t.get fn.res).bind fun x=>J6 x some
     | .ret=>(Mn t.get fn.res).bind fun x=>J6 x some)) none)=some r:=h
  split at h'
  ·rename_i r' hr;cases h';exact hM f args r hr
  ·split at h'
   ·cases h'
   ·rename_i fn hfn;cases hp:C_ args.length fn.params
    ·rw[hp] at h';cases h'
    ·rw[hp] at h';simp only[cond_true] at h';have hpar:args.length=fn.params:=CU hp;obtain⟨t1,s1,h1,h2,h3,h9,h4⟩:=Y1 (s:=At fn.slots .dead) (by simp) (fun u=>by
      simp only[yZ,A5,Z,Lj];split <;> rfl) h'
     obtain⟨ex,s2,t2,h5,h6,h7,h8⟩:=A8c n h3 h2 h1;have hle:args.length<=fn.slots:=by
      rcases h9 with rfl | h9
      ·simp
      ·omega
     have hinit:s1=H' fn args:=by
      refine mK (by rw[h3];simp[H'];omega) (fun u => ?_);rw[h4];simp only[By,true_and,Kk];simp only[A5,H',Z];by_cases hu:u<args.length
      ·rw[dif_pos hu,AN (by simpa using hu)];simp[hu]
      ·rw[dif_neg hu,AT (by simpa using hu)];simp only[Lj];split <;> split <;> rfl
     subst hinit;have e2:t2.get=A5 s2:=funext h7;have hbody:=UU ih n h5;cases ex with
     | exit i=>cases h8
     | norm =>
      dsimp only at h8;rw[e2,T9] at h8;simp only[Oq] at h8;exact HM (hT f fn hfn) hpar hbody (fun i e=>by cases e) (by simpa using h8)
     | ret =>
      dsimp only at h8;rw[e2,T9] at h8;simp only[Oq] at h8;exact HM (hT f fn hfn) hpar hbody (fun i e=>by cases e) (by simpa using h8)
def U2(p:Nat->IFunc->Prop):Pr->(Nat->Nat)->Prop
 | .e,_=>True
 | .n l v r,φ=>(∀ fn,v=some fn->p (φ 0) fn)/\U2 p l (fun j=>φ (2*j+1))/\U2 p r (fun j=>φ (2*j+2))
theorem Ot{p:Nat->IFunc->Prop}:∀ {t:Pr} {φ:Nat->Nat} {f:Nat} {fn:IFunc},U2 p t φ->t.get f=some fn->p (φ f) fn
 | .e,φ,f,fn,_,h=>by cases h
 | .n l v r,φ,f,fn,ha,h=>by
  cases f with
  | zero=>exact ha.1 fn h
  | succ j =>
   have h':(cond (C_ (j % 2) 0) (l.get (j / 2)) (r.get (j / 2)))=some fn:=h;cases hj:C_ (j % 2) 0
   ·rw[hj] at h';have hj':j % 2=1:=by
     have:¬ j % 2=0:=fun e=>by rw[e] at hj;cases hj
     omega
    have:=Ot ha.2.2 h';have e:2*(j / 2)+2=j+1:=by omega
    simp only[e] at this;exact this
   ·rw[hj] at h';have hj':j % 2=0:=CU hj;have:=Ot ha.2.1 h';have e:2*(j / 2)+1=j+1:=by omega
    simp only[e] at this;exact this
def TA(f:AV->AV->Bool):List AV->List AV->Bool
 | [],[]=>true
 | x::xs,y::ys=>f x y&&TA f xs ys
 | _,_=>false
def Q6:Nat->AV->AV->Bool
 | 0,_,_=>false
 | n+1,x,y=>match x,y with
  | .int k a,.int k' b=>isK k k'&&X8 a b
  | .bool a,.bool b=>a==b
  | .nil,.nil=>true
  | .undef,.undef=>true
  | .agg xs,.agg ys=>TA (Q6 n) xs ys
  | .tup xs,.tup ys=>TA (Q6 n) xs ys
  | .sl a xs,.sl b ys=>C_ a b&&TA (Q6 n) xs ys
  | _,_=>false
theorem Ou{f:AV->AV->Bool}(h:∀ x y,f x y=true->x=y):∀ {xs ys:List AV},TA f xs ys=true->xs=ys
 | [],[],_=>rfl
 | x::xs,y::ys,hh=>by
  simp only[TA,Af] at hh;rw[h x y hh.1,Ou h hh.2]
 | [],_::_,hh=>by cases hh
 | _::_,[],hh=>by cases hh
theorem zB:∀ (n:Nat) (x y:AV),Q6 n x y=true->x=y:=by
 intro n;induction n with
 | zero=>intro x y h;cases h
 | succ n ih =>
  intro x y h;cases x <;> cases y <;> simp only[Q6,Af,Cj,uE,uD,decide_eq_true_eq,beq_iff_eq] at h
  ·rw[h.1,h.2]
  ·rw[h]
  ·rw[Ou ih h]
  ·rfl
  ·rw[CU h.1,Ou ih h.2]
  ·rw[Ou ih h]
  ·rfl
def A7g(f:Nat)(args:List AV)(r:AV)(M:BM):BM:=fun f' args'=>cond (C_ f' f&&TA (Q6 9) args' args) (some r) (M f' args')
theorem A9u{prog:Nat->Option IFunc}{f:Nat}{args:List AV}{r:AV}{M:BM}(h:Bg prog f args r)(hM:Oc prog M):Oc prog (A7g f args r M):=by
 intro f' args' r' h';unfold A7g at h';cases hc:(C_ f' f&&TA (Q6 9) args' args)
 ·rw[hc] at h';exact hM f' args' r' h'
 ·rw[hc] at h';cases h';rw[Af] at hc;rw[CU hc.1,Ou (zB 9) hc.2];exact h
def Azs:BM:=fun _ _=>none
theorem AAa(prog:Nat->Option IFunc):Oc prog Azs:=fun _ _ _ h=>by cases h
end Go.Ai
namespace Go.Proofs.YtajompaehjkgkaaGreat
open Go.Ai
set_option maxRecDepth 100000
open Go.Proofs.Tryz renaming func4->Ayq,prog->A9p
open List renaming forall_mem_cons->J,mem_cons_of_mem->Bh,mem_cons_self->B4
theorem Azt:A9p.follows .mixedOrders=true:=by kernel_rfl
def Ant:List (Nat × IFunc):=[(4,UZ),(12,tS),(13,U_),(15,Yl),(18,Of),(19,cL),(20,cM),(21,cN),(22,cO),(23,cP),(24,tT),(25,tU),(27,PL),(28,tV),(33,cQ),(46,cR),(47,tW),(49,tX),(50,cT),(51,Ym),(52,cV),(53,cW),(54,Vc),(55,cX),(56,Yo),(57,cY),(62,tY),(63,cZ),(64,Ve),(65,dB),(66,dF),(67,T1),(68,dH),(69,Yq),(70,Yr),(71,Ys),(72,Vf),(73,PM),(74,T3),(75,Yt),(76,Og),(77,tZ),(79,Vh),(80,dJ),(82,Vi),(83,T4),(84,dL),(86,Yu),(95,Vj),(96,dN),(97,dO),(98,uA),(99,dQ),(100,Sl),(101,ZB),(102,Sm),(103,Oh),(104,Sn),(105,Qp),(106,Vl),(108,So),(110,Vn),(111,ZC),(112,Vp),(113,ZD),(114,Iz),(115,Sq),(116,Vr),(117,Vt),(118,Vu),(119,Vv),(120,Qs),(121,Vw),(122,Vy),(123,V0),(124,V3),(125,V4),(126,ZE),(127,ZF),(128,JS),(129,V5),(130,Ss),(131,ZG),(132,ZH),(133,V6),(134,St),(135,Su),(136,V7),(137,V9),(138,VA),(143,Sv),(144,VB),(145,VC),(146,VE),(147,Sw),(148,VF),(149,VG),(150,ZI),(151,S6),(152,S7),(153,VI),(154,ZJ),(155,Qx),(156,VK),(157,VL),(158,VM),(159,S9),(160,VN),(161,VO),(162,VP),(163,SA),(164,VQ),(165,Qz),(177,VR),(178,SB),(179,VS),(180,Q5),(181,VT),(182,VV),(183,VX),(184,ZK),(187,VZ),(188,V_),(189,Wb)]
def AZ(f:Nat):Option IFunc:=Ant.lookup f
theorem Anu:∀ p∈Ant,∃ fn roots,A9p.funcs[p.1]? = some fn/\AY A9p roots fn p.2=true:=by
 unfold Ant;refine J.2 ⟨⟨_,Yr4,Ayq,Azn⟩,?_⟩;refine J.2 ⟨⟨_,A5d,Tryz.func12,Aik⟩,?_⟩;refine J.2 ⟨⟨_,A5e,Tryz.func13,Ail⟩,?_⟩;refine J.2 ⟨⟨_,A5f,Tryz.func15,Aim⟩,?_⟩;refine J.2 ⟨⟨_,A5g,Tryz.func18,Ain⟩,?_⟩;refine J.2 ⟨⟨_,A5h,Tryz.func19,Aio⟩,?_⟩;refine J.2 ⟨⟨_,A5i,Tryz.func20,Aip⟩,?_⟩;refine J.2 ⟨⟨_,A5j,Tryz.func21,Aiq⟩,?_⟩;refine J.2 ⟨⟨_,A5k,Tryz.func22,Air⟩,?_⟩;refine J.2 ⟨⟨_,A5l,Tryz.func23,Ais⟩,?_⟩;refine J.2 ⟨⟨_,A5m,Tryz.func24,Ait⟩,?_⟩;refine J.2 ⟨⟨_,A5n,Tryz.func25,Aiu⟩,?_⟩;refine J.2 ⟨⟨_,A5o,Tryz.func27,Aiv⟩,?_⟩;refine J.2 ⟨⟨_,A5p,Tryz.func28,Aiw⟩,?_⟩;refine J.2 ⟨⟨_,A5q,Tryz.func33,Aix⟩,?_⟩;refine J.2 ⟨⟨_,A5r,Tryz.func46,Aiy⟩,?_⟩;refine J.2 ⟨⟨_,A5s,Tryz.func47,Aiz⟩,?_⟩;refine J.2 ⟨⟨_,A5t,Tryz.func49,Aja⟩,?_⟩;refine J.2 ⟨⟨_,A5u,Tryz.func50,Ajb⟩,?_⟩;refine J.2 ⟨⟨_,A5v,Tryz.func51,Ajc⟩,?_⟩;refine J.2 ⟨⟨_,A5w,Tryz.func52,Ajd⟩,?_⟩;refine J.2 ⟨⟨_,A5x,Tryz.func53,Aje⟩,?_⟩;refine J.2 ⟨⟨_,A5y,Tryz.func54,Ajf⟩,?_⟩;refine J.2 ⟨⟨_,A5z,Tryz.func55,Ajg⟩,?_⟩;refine J.2 ⟨⟨_,A6a,Tryz.func56,Ajh⟩,?_⟩;refine J.2 ⟨⟨_,A6b,Tryz.func57,Aji⟩,?_⟩;refine J.2 ⟨⟨_,A6c,Tryz.func62,Ajj⟩,?_⟩;refine J.2 ⟨⟨_,A6d,Tryz.func63,Ajk⟩,?_⟩;refine J.2 ⟨⟨_,A6e,Tryz.func64,Ajl⟩,?_⟩;refine J.2 ⟨⟨_,A6f,Tryz.func65,Ajm⟩,?_⟩;refine J.2 ⟨⟨_,A6g,Tryz.func66,Ajn⟩,?_⟩;refine J.2 ⟨⟨_,A6h,Tryz.func67,Ajo⟩,?_⟩;refine J.2 ⟨⟨_,A6i,Tryz.func68,Ajp⟩,?_⟩;refine J.2 ⟨⟨_,A6j,Tryz.func69,Ajq⟩,?_⟩;refine J.2 ⟨⟨_,A6k,Tryz.func70,Ajr⟩,?_⟩;refine J.2 ⟨⟨_,A6l,Tryz.func71,Ajs⟩,?_⟩;refine J.2 ⟨⟨_,A6m,Tryz.func72,Ajt⟩,?_⟩;refine J.2 ⟨⟨_,A6n,Tryz.func73,Aju⟩,?_⟩;refine J.2 ⟨⟨_,A6o,Tryz.func74,Ajv⟩,?_⟩;refine J.2 ⟨⟨_,A6p,Tryz.func75,Ajw⟩,?_⟩;refine J.2 ⟨⟨_,A6q,Tryz.func76,Ajx⟩,?_⟩;refine J.2 ⟨⟨_,A6r,Tryz.func77,Ajy⟩,?_⟩;refine J.2 ⟨⟨_,A6s,Tryz.func79,Ajz⟩,?_⟩;refine J.2 ⟨⟨_,A6t,Tryz.func80,Aka⟩,?_⟩;refine J.2 ⟨⟨_,A6u,Tryz.func82,Akb⟩,?_⟩;refine J.2 ⟨⟨_,A6v,Tryz.func83,Akc⟩,?_⟩;refine J.2 ⟨⟨_,A6w,Tryz.func84,Akd⟩,?_⟩;refine J.2 ⟨⟨_,A6x,Tryz.func86,Ake⟩,?_⟩;refine J.2 ⟨⟨_,A6y,Tryz.func95,Akf⟩,?_⟩;refine J.2 ⟨⟨_,A6z,Tryz.func96,Akg⟩,?_⟩;refine J.2 ⟨⟨_,A7a,Tryz.func97,Akh⟩,?_⟩;refine J.2 ⟨⟨_,A7b,Tryz.func98,Aki⟩,?_⟩;refine J.2 ⟨⟨_,A7c,Tryz.func99,Akj⟩,?_⟩;refine J.2 ⟨⟨_,Akk,Tryz.func100,wC⟩,?_⟩;refine J.2 ⟨⟨_,Akl,Tryz.func101,wD⟩,?_⟩;refine J.2 ⟨⟨_,Akm,Tryz.func102,wE⟩,?_⟩;refine J.2 ⟨⟨_,Akn,Tryz.func103,wF⟩,?_⟩;refine J.2 ⟨⟨_,Ako,Tryz.func104,wG⟩,?_⟩;refine J.2 ⟨⟨_,Akp,Tryz.func105,wH⟩,?_⟩;refine J.2 ⟨⟨_,Akq,Tryz.func106,wI⟩,?_⟩;refine J.2 ⟨⟨_,Akr,Tryz.func108,wJ⟩,?_⟩;refine J.2 ⟨⟨_,Aks,Tryz.func110,wK⟩,?_⟩;refine J.2 ⟨⟨_,Akt,Tryz.func111,wL⟩,?_⟩;refine J.2 ⟨⟨_,Aku,Tryz.func112,wM⟩,?_⟩;refine J.2 ⟨⟨_,Akv,Tryz.func113,wN⟩,?_⟩;refine J.2 ⟨⟨_,Akw,Tryz.func114,wO⟩,?_⟩;refine J.2 ⟨⟨_,Akx,Tryz.func115,wP⟩,?_⟩;refine J.2 ⟨⟨_,Aky,Tryz.func116,wQ⟩,?_⟩;refine J.2 ⟨⟨_,Akz,Tryz.func117,wR⟩,?_⟩;refine J.2 ⟨⟨_,Ala,Tryz.func118,wS⟩,?_⟩;refine J.2 ⟨⟨_,Alb,Tryz.func119,wT⟩,?_⟩;refine J.2 ⟨⟨_,Alc,Tryz.func120,wU⟩,?_⟩;refine J.2 ⟨⟨_,Ald,Tryz.func121,wV⟩,?_⟩;refine J.2 ⟨⟨_,Ale,Tryz.func122,wW⟩,?_⟩;refine J.2 ⟨⟨_,Alf,Tryz.func123,wX⟩,?_⟩;refine J.2 ⟨⟨_,Alg,Tryz.func124,wY⟩,?_⟩;refine J.2 ⟨⟨_,Alh,Tryz.func125,wZ⟩,?_⟩;refine J.2 ⟨⟨_,Ali,Tryz.func126,xA⟩,?_⟩;refine J.2 ⟨⟨_,Alj,Tryz.func127,xB⟩,?_⟩;refine J.2 ⟨⟨_,Alk,Tryz.func128,xC⟩,?_⟩;refine J.2 ⟨⟨_,Alm,Tryz.func129,xD⟩,?_⟩;refine J.2 ⟨⟨_,Aln,Tryz.func130,xE⟩,?_⟩;refine J.2 ⟨⟨_,Alo,Tryz.func131,xF⟩,?_⟩;refine J.2 ⟨⟨_,Alp,Tryz.func132,xG⟩,?_⟩;refine J.2 ⟨⟨_,Alq,Tryz.func133,xH⟩,?_⟩;refine J.2 ⟨⟨_,Alr,Tryz.func134,xI⟩,?_⟩;refine J.2 ⟨⟨_,Als,Tryz.func135,xJ⟩,?_⟩;refine J.2 ⟨⟨_,Alt,Tryz.func136,xK⟩,?_⟩;refine J.2 ⟨⟨_,Alu,Tryz.func137,xL⟩,?_⟩;refine J.2 ⟨⟨_,Alv,Tryz.func138,xM⟩,?_⟩;refine J.2 ⟨⟨_,Alw,Tryz.func143,xN⟩,?_⟩;refine J.2 ⟨⟨_,Alx,Tryz.func144,xO⟩,?_⟩;refine J.2 ⟨⟨_,Aly,Tryz.func145,xP⟩,?_⟩;refine J.2 ⟨⟨_,Alz,Tryz.func146,xQ⟩,?_⟩;refine J.2 ⟨⟨_,Ama,Tryz.func147,xR⟩,?_⟩;refine J.2 ⟨⟨_,Amb,Tryz.func148,xS⟩,?_⟩;refine J.2 ⟨⟨_,Amc,Tryz.func149,xT⟩,?_⟩;refine J.2 ⟨⟨_,Amd,Tryz.func150,xU⟩,?_⟩;refine J.2 ⟨⟨_,Ame,Tryz.func151,xV⟩,?_⟩;refine J.2 ⟨⟨_,Amf,Tryz.func152,xW⟩,?_⟩;refine J.2 ⟨⟨_,Amg,Tryz.func153,xX⟩,?_⟩;refine J.2 ⟨⟨_,Amh,Tryz.func154,xY⟩,?_⟩;refine J.2 ⟨⟨_,Ami,Tryz.func155,xZ⟩,?_⟩;refine J.2 ⟨⟨_,Amj,Tryz.func156,yA⟩,?_⟩;refine J.2 ⟨⟨_,Amk,Tryz.func157,yB⟩,?_⟩;refine J.2 ⟨⟨_,Aml,Tryz.func158,yC⟩,?_⟩;refine J.2 ⟨⟨_,Amm,Tryz.func159,yD⟩,?_⟩;refine J.2 ⟨⟨_,Amn,Tryz.func160,yE⟩,?_⟩;refine J.2 ⟨⟨_,Amo,Tryz.func161,yF⟩,?_⟩;refine J.2 ⟨⟨_,Amp,Tryz.func162,yG⟩,?_⟩;refine J.2 ⟨⟨_,Amq,Tryz.func163,yH⟩,?_⟩;refine J.2 ⟨⟨_,Amr,Tryz.func164,yI⟩,?_⟩;refine J.2 ⟨⟨_,Ams,Tryz.func165,yJ⟩,?_⟩;refine J.2 ⟨⟨_,Amt,Tryz.func177,yK⟩,?_⟩;refine J.2 ⟨⟨_,Amu,Tryz.func178,yL⟩,?_⟩;refine J.2 ⟨⟨_,Amv,Tryz.func179,yM⟩,?_⟩;refine J.2 ⟨⟨_,Amw,Tryz.func180,yN⟩,?_⟩;refine J.2 ⟨⟨_,Amx,Tryz.func181,yO⟩,?_⟩;refine J.2 ⟨⟨_,Amy,Tryz.func182,yP⟩,?_⟩;refine J.2 ⟨⟨_,Amz,Tryz.func183,yQ⟩,?_⟩;refine J.2 ⟨⟨_,Ana,Tryz.func184,yR⟩,?_⟩;refine J.2 ⟨⟨_,Anb,Tryz.func187,yS⟩,?_⟩;refine J.2 ⟨⟨_,Anc,Tryz.func188,yT⟩,?_⟩;refine J.2 ⟨⟨_,Ane,Tryz.func189,yU⟩,?_⟩;intro p hp;cases hp
theorem TB{α:Type}{f:Nat}{x:α}:∀ {l:List (Nat × α)},l.lookup f=some x->(f,x)∈l
 | [],h=>by cases h
 | (g,y)::l,h=>by
  simp only[List.lookup] at h;by_cases hg:f=g
  ·subst hg;simp at h;subst h;exact B4
  ·have:(f==g)=false:=by simpa using hg
   rw[this] at h;exact Bh _ (TB h)
theorem Azu:∀ f ifn,AZ f=some ifn->∃ fn roots,A9p.funcs[f]? = some fn/\AY A9p roots fn ifn=true:=fun _ _ h=>Anu _ (TB h)
theorem A8d:AZ 4=some UZ:=by kernel_rfl
theorem Azv:AZ 12=some tS:=by kernel_rfl
theorem Azw:AZ 13=some U_:=by kernel_rfl
theorem Azx:AZ 15=some Yl:=by kernel_rfl
theorem Azy:AZ 18=some Of:=by kernel_rfl
theorem Azz:AZ 19=some cL:=by kernel_rfl
theorem A0a:AZ 20=some cM:=by kernel_rfl
theorem A0b:AZ 21=some cN:=by kernel_rfl
theorem A0c:AZ 22=some cO:=by kernel_rfl
theorem A0d:AZ 23=some cP:=by kernel_rfl
theorem A0e:AZ 24=some tT:=by kernel_rfl
theorem A0f:AZ 25=some tU:=by kernel_rfl
theorem A0g:AZ 27=some PL:=by kernel_rfl
theorem A0h:AZ 28=some tV:=by kernel_rfl
theorem A0i:AZ 33=some cQ:=by kernel_rfl
theorem A0j:AZ 46=some cR:=by kernel_rfl
theorem A0k:AZ 47=some tW:=by kernel_rfl
theorem A0l:AZ 49=some tX:=by kernel_rfl
theorem A0m:AZ 50=some cT:=by kernel_rfl
theorem A0n:AZ 51=some Ym:=by kernel_rfl
theorem A0o:AZ 52=some cV:=by kernel_rfl
theorem A0p:AZ 53=some cW:=by kernel_rfl
theorem A0q:AZ 54=some Vc:=by kernel_rfl
theorem A0r:AZ 55=some cX:=by kernel_rfl
theorem A0s:AZ 56=some Yo:=by kernel_rfl
theorem A0t:AZ 57=some cY:=by kernel_rfl
theorem A0u:AZ 62=some tY:=by kernel_rfl
theorem A0v:AZ 63=some cZ:=by kernel_rfl
theorem A0w:AZ 64=some Ve:=by kernel_rfl
theorem A0x:AZ 65=some dB:=by kernel_rfl
theorem A0y:AZ 66=some dF:=by kernel_rfl
theorem A0z:AZ 67=some T1:=by kernel_rfl
theorem A1a:AZ 68=some dH:=by kernel_rfl
theorem A1b:AZ 69=some Yq:=by kernel_rfl
theorem A1c:AZ 70=some Yr:=by kernel_rfl
theorem A1d:AZ 71=some Ys:=by kernel_rfl
theorem A1e:AZ 72=some Vf:=by kernel_rfl
theorem A1f:AZ 73=some PM:=by kernel_rfl
theorem A1g:AZ 74=some T3:=by kernel_rfl
theorem A1h:AZ 75=some Yt:=by kernel_rfl
theorem A1i:AZ 76=some Og:=by kernel_rfl
theorem A1j:AZ 77=some tZ:=by kernel_rfl
theorem A1k:AZ 79=some Vh:=by kernel_rfl
theorem A1l:AZ 80=some dJ:=by kernel_rfl
theorem A1m:AZ 82=some Vi:=by kernel_rfl
theorem A1n:AZ 83=some T4:=by kernel_rfl
theorem A1o:AZ 84=some dL:=by kernel_rfl
theorem A1p:AZ 86=some Yu:=by kernel_rfl
theorem A1q:AZ 95=some Vj:=by kernel_rfl
theorem A1r:AZ 96=some dN:=by kernel_rfl
theorem A1s:AZ 97=some dO:=by kernel_rfl
theorem A1t:AZ 98=some uA:=by kernel_rfl
theorem A1u:AZ 99=some dQ:=by kernel_rfl
theorem Anv:AZ 100=some Sl:=by kernel_rfl
theorem Anw:AZ 101=some ZB:=by kernel_rfl
theorem Anx:AZ 102=some Sm:=by kernel_rfl
theorem Any:AZ 103=some Oh:=by kernel_rfl
theorem Anz:AZ 104=some Sn:=by kernel_rfl
theorem Aoa:AZ 105=some Qp:=by kernel_rfl
theorem Aob:AZ 106=some Vl:=by kernel_rfl
theorem Aoc:AZ 108=some So:=by kernel_rfl
theorem Aod:AZ 110=some Vn:=by kernel_rfl
theorem Aoe:AZ 111=some ZC:=by kernel_rfl
theorem Aof:AZ 112=some Vp:=by kernel_rfl
theorem Aog:AZ 113=some ZD:=by kernel_rfl
theorem Aoh:AZ 114=some Iz:=by kernel_rfl
theorem Aoi:AZ 115=some Sq:=by kernel_rfl
theorem Aoj:AZ 116=some Vr:=by kernel_rfl
theorem Aok:AZ 117=some Vt:=by kernel_rfl
theorem Aol:AZ 118=some Vu:=by kernel_rfl
theorem Aom:AZ 119=some Vv:=by kernel_rfl
theorem Aon:AZ 120=some Qs:=by kernel_rfl
theorem Aoo:AZ 121=some Vw:=by kernel_rfl
theorem Aop:AZ 122=some Vy:=by kernel_rfl
theorem Aoq:AZ 123=some V0:=by kernel_rfl
theorem Aor:AZ 124=some V3:=by kernel_rfl
theorem Aos:AZ 125=some V4:=by kernel_rfl
theorem Aot:AZ 126=some ZE:=by kernel_rfl
theorem Aou:AZ 127=some ZF:=by kernel_rfl
theorem Aov:AZ 128=some JS:=by kernel_rfl
theorem Aow:AZ 129=some V5:=by kernel_rfl
theorem Aox:AZ 130=some Ss:=by kernel_rfl
theorem Aoy:AZ 131=some ZG:=by kernel_rfl
theorem Aoz:AZ 132=some ZH:=by kernel_rfl
theorem Apa:AZ 133=some V6:=by kernel_rfl
theorem Apb:AZ 134=some St:=by kernel_rfl
theorem Apc:AZ 135=some Su:=by kernel_rfl
theorem Apd:AZ 136=some V7:=by kernel_rfl
theorem Ape:AZ 137=some V9:=by kernel_rfl
theorem Apf:AZ 138=some VA:=by kernel_rfl
theorem Apg:AZ 143=some Sv:=by kernel_rfl
theorem Aph:AZ 144=some VB:=by kernel_rfl
theorem Api:AZ 145=some VC:=by kernel_rfl
theorem Apj:AZ 146=some VE:=by kernel_rfl
theorem Apk:AZ 147=some Sw:=by kernel_rfl
theorem Apl:AZ 148=some VF:=by kernel_rfl
theorem Apm:AZ 149=some VG:=by kernel_rfl
theorem Apn:AZ 150=some ZI:=by kernel_rfl
theorem Apo:AZ 151=some S6:=by kernel_rfl
theorem App:AZ 152=some S7:=by kernel_rfl
theorem Apq:AZ 153=some VI:=by kernel_rfl
theorem Apr:AZ 154=some ZJ:=by kernel_rfl
theorem Aps:AZ 155=some Qx:=by kernel_rfl
theorem Apt:AZ 156=some VK:=by kernel_rfl
theorem Apu:AZ 157=some VL:=by kernel_rfl
theorem Apv:AZ 158=some VM:=by kernel_rfl
theorem Apw:AZ 159=some S9:=by kernel_rfl
theorem Apx:AZ 160=some VN:=by kernel_rfl
theorem Apy:AZ 161=some VO:=by kernel_rfl
theorem Apz:AZ 162=some VP:=by kernel_rfl
theorem Aqa:AZ 163=some SA:=by kernel_rfl
theorem Aqb:AZ 164=some VQ:=by kernel_rfl
theorem Aqc:AZ 165=some Qz:=by kernel_rfl
theorem Aqd:AZ 177=some VR:=by kernel_rfl
theorem Aqe:AZ 178=some SB:=by kernel_rfl
theorem Aqf:AZ 179=some VS:=by kernel_rfl
theorem Aqg:AZ 180=some Q5:=by kernel_rfl
theorem Aqh:AZ 181=some VT:=by kernel_rfl
theorem Aqi:AZ 182=some VV:=by kernel_rfl
theorem Aqj:AZ 183=some VX:=by kernel_rfl
theorem Aqk:AZ 184=some ZK:=by kernel_rfl
theorem Aql:AZ 187=some VZ:=by kernel_rfl
theorem Aqm:AZ 188=some V_:=by kernel_rfl
theorem Aqn:AZ 189=some Wb:=by kernel_rfl
def Ypr:Pr := .n (.n (.n (.n (.n (.n (.n (.n .e (some ZF) .e) (some cZ) .e) none (.n (.n .e (some S9) .e) (some Vj) .e)) (some Yl) (.n (.n (.n .e (some Sv) .e) (some Vh) .e) (some tW) (.n (.n .e none .e) (some ZC) .e))) none (.n (.n (.n (.n .e (some Su) .e) (some Ys) .e) none (.n (.n .e none .e) (some Oh) .e)) (some cP) (.n (.n (.n .e (some S6) .e) none .e) (some cX) (.n (.n .e (some VX) .e) (some Vv) .e)))) none (.n (.n (.n (.n (.n .e (some ZG) .e) (some T1) .e) none (.n (.n .e (some SA) .e) (some dQ) .e)) (some cL) (.n (.n (.n .e (some Sw) .e) (some T4) .e) (some Ym) (.n (.n .e (some VS) .e) (some Sq) .e))) none (.n (.n (.n (.n .e none .e) (some Yt) .e) none (.n (.n .e none .e) none .e)) (some PL) (.n (.n (.n .e (some Qx) .e) none .e) none (.n (.n .e (some VZ) .e) (some V0) .e))))) none (.n (.n (.n (.n (.n (.n .e (some V5) .e) (some dB) .e) (some cQ) (.n (.n .e (some VO) .e) (some dO) .e)) none (.n (.n (.n .e (some VC) .e) none .e) (some tX) (.n (.n .e (some VR) .e) (some ZD) .e))) none (.n (.n (.n (.n .e (some V9) .e) (some PM) .e) none (.n (.n .e none .e) (some Qp) .e)) (some tU) (.n (.n (.n .e (some VI) .e) none .e) (some cY) (.n (.n .e none .e) (some Vw) .e)))) none (.n (.n (.n (.n (.n .e (some V6) .e) (some Yq) .e) none (.n (.n .e (some Qz) .e) (some ZB) .e)) (some cN) (.n (.n (.n .e (some VG) .e) none .e) (some cW) (.n (.n .e (some VT) .e) (some Vt) .e))) (some U_) (.n (.n (.n (.n .e none .e) (some tZ) .e) none (.n (.n .e none .e) none .e)) none (.n (.n (.n .e (some VL) .e) none .e) none (.n (.n .e (some Wb) .e) (some V4) .e)))))) none (.n (.n (.n (.n (.n (.n (.n .e (some JS) .e) (some Ve) .e) none (.n (.n .e (some VN) .e) (some dN) .e)) none (.n (.n (.n .e (some VB) .e) (some dJ) .e) none (.n (.n .e none .e) (some Vp) .e))) none (.n (.n (.n (.n .e (some V7) .e) (some Vf) .e) none (.n (.n .e none .e) (some Sn) .e)) (some tT) (.n (.n (.n .e (some S7) .e) none .e) (some Yo) (.n (.n .e (some ZK) .e) (some Qs) .e)))) (some UZ) (.n (.n (.n (.n (.n .e (some ZH) .e) (some dH) .e) none (.n (.n .e (some VQ) .e) (some Sl) .e)) (some cM) (.n (.n (.n .e (some VF) .e) (some dL) .e) (some cV) (.n (.n .e (some Q5) .e) (some Vr) .e))) (some tS) (.n (.n (.n (.n .e none .e) (some Og) .e) none (.n (.n .e none .e) (some So) .e)) (some tV) (.n (.n (.n .e (some VK) .e) none .e) none (.n (.n .e (some V_) .e) (some V3) .e))))) none (.n (.n (.n (.n (.n (.n .e (some Ss) .e) (some dF) .e) none (.n (.n .e (some VP) .e) (some uA) .e)) (some Of) (.n (.n (.n .e (some VE) .e) (some Vi) .e) (some cT) (.n (.n .e (some SB) .e) (some Iz) .e))) none (.n (.n (.n (.n .e (some VA) .e) (some T3) .e) none (.n (.n .e none .e) (some Vl) .e)) none (.n (.n (.n .e (some ZJ) .e) none .e) none (.n (.n .e none .e) (some Vy) .e)))) none (.n (.n (.n (.n (.n .e (some St) .e) (some Yr) .e) none (.n (.n .e none .e) (some Sm) .e)) (some cO) (.n (.n (.n .e (some ZI) .e) (some Yu) .e) (some Vc) (.n (.n .e (some VV) .e) (some Vu) .e))) none (.n (.n (.n (.n .e none .e) none .e) (some cR) (.n (.n .e none .e) (some Vn) .e)) none (.n (.n (.n .e (some VM) .e) none .e) (some tY) (.n .e (some ZE) .e))))))
theorem Aqo:U2 (fun f fn=>AZ f=some fn) Ypr id:=⟨(fun _ h=>nomatch h),⟨(fun _ h=>nomatch h),⟨(fun _ h=>nomatch h),⟨(fun _ h=>nomatch h),⟨(fun _ h=>Azx.trans h),⟨(fun _ h=>nomatch h),⟨(fun _ h=>A0v.trans h),⟨(fun _ h=>Aou.trans h),trivial,trivial⟩,trivial⟩,⟨(fun _ h=>A1q.trans h),⟨(fun _ h=>Apw.trans h),trivial,trivial⟩,trivial⟩⟩,⟨(fun _ h=>A0k.trans h),⟨(fun _ h=>A1k.trans h),⟨(fun _ h=>Apg.trans h),trivial,trivial⟩,trivial⟩,⟨(fun _ h=>Aoe.trans h),⟨(fun _ h=>nomatch h),trivial,trivial⟩,trivial⟩⟩⟩,⟨(fun _ h=>A0d.trans h),⟨(fun _ h=>nomatch h),⟨(fun _ h=>A1d.trans h),⟨(fun _ h=>Apc.trans h),trivial,trivial⟩,trivial⟩,⟨(fun _ h=>Any.trans h),⟨(fun _ h=>nomatch h),trivial,trivial⟩,trivial⟩⟩,⟨(fun _ h=>A0r.trans h),⟨(fun _ h=>nomatch h),⟨(fun _ h=>Apo.trans h),trivial,trivial⟩,trivial⟩,⟨(fun _ h=>Aom.trans h),⟨(fun _ h=>Aqj.trans h),trivial,trivial⟩,trivial⟩⟩⟩⟩,⟨(fun _ h=>nomatch h),⟨(fun _ h=>Azz.trans h),⟨(fun _ h=>nomatch h),⟨(fun _ h=>A0z.trans h),⟨(fun _ h=>Aoy.trans h),trivial,trivial⟩,trivial⟩,⟨(fun _ h=>A1u.trans h),⟨(fun _ h=>Aqa.trans h),trivial,trivial⟩,trivial⟩⟩,⟨(fun _ h=>A0n.trans h),⟨(fun _ h=>A1n.trans h),⟨(fun _ h=>Apk.trans h),trivial,trivial⟩,trivial⟩,⟨(fun _ h=>Aoi.trans h),⟨(fun _ h=>Aqf.trans h),trivial,trivial⟩,trivial⟩⟩⟩,⟨(fun _ h=>A0g.trans h),⟨(fun _ h=>nomatch h),⟨(fun _ h=>A1h.trans h),⟨(fun _ h=>nomatch h),trivial,trivial⟩,trivial⟩,⟨(fun _ h=>nomatch h),⟨(fun _ h=>nomatch h),trivial,trivial⟩,trivial⟩⟩,⟨(fun _ h=>nomatch h),⟨(fun _ h=>nomatch h),⟨(fun _ h=>Aps.trans h),trivial,trivial⟩,trivial⟩,⟨(fun _ h=>Aoq.trans h),⟨(fun _ h=>Aql.trans h),trivial,trivial⟩,trivial⟩⟩⟩⟩⟩,⟨(fun _ h=>nomatch h),⟨(fun _ h=>nomatch h),⟨(fun _ h=>nomatch h),⟨(fun _ h=>A0i.trans h),⟨(fun _ h=>A0x.trans h),⟨(fun _ h=>Aow.trans h),trivial,trivial⟩,trivial⟩,⟨(fun _ h=>A1s.trans h),⟨(fun _ h=>Apy.trans h),trivial,trivial⟩,trivial⟩⟩,⟨(fun _ h=>A0l.trans h),⟨(fun _ h=>nomatch h),⟨(fun _ h=>Api.trans h),trivial,trivial⟩,trivial⟩,⟨(fun _ h=>Aog.trans h),⟨(fun _ h=>Aqd.trans h),trivial,trivial⟩,trivial⟩⟩⟩,⟨(fun _ h=>A0f.trans h),⟨(fun _ h=>nomatch h),⟨(fun _ h=>A1f.trans h),⟨(fun _ h=>Ape.trans h),trivial,trivial⟩,trivial⟩,⟨(fun _ h=>Aoa.trans h),⟨(fun _ h=>nomatch h),trivial,trivial⟩,trivial⟩⟩,⟨(fun _ h=>A0t.trans h),⟨(fun _ h=>nomatch h),⟨(fun _ h=>Apq.trans h),trivial,trivial⟩,trivial⟩,⟨(fun _ h=>Aoo.trans h),⟨(fun _ h=>nomatch h),trivial,trivial⟩,trivial⟩⟩⟩⟩,⟨(fun _ h=>Azw.trans h),⟨(fun _ h=>A0b.trans h),⟨(fun _ h=>nomatch h),⟨(fun _ h=>A1b.trans h),⟨(fun _ h=>Apa.trans h),trivial,trivial⟩,trivial⟩,⟨(fun _ h=>Anw.trans h),⟨(fun _ h=>Aqc.trans h),trivial,trivial⟩,trivial⟩⟩,⟨(fun _ h=>A0p.trans h),⟨(fun _ h=>nomatch h),⟨(fun _ h=>Apm.trans h),trivial,trivial⟩,trivial⟩,⟨(fun _ h=>Aok.trans h),⟨(fun _ h=>Aqh.trans h),trivial,trivial⟩,trivial⟩⟩⟩,⟨(fun _ h=>nomatch h),⟨(fun _ h=>nomatch h),⟨(fun _ h=>A1j.trans h),⟨(fun _ h=>nomatch h),trivial,trivial⟩,trivial⟩,⟨(fun _ h=>nomatch h),⟨(fun _ h=>nomatch h),trivial,trivial⟩,trivial⟩⟩,⟨(fun _ h=>nomatch h),⟨(fun _ h=>nomatch h),⟨(fun _ h=>Apu.trans h),trivial,trivial⟩,trivial⟩,⟨(fun _ h=>Aos.trans h),⟨(fun _ h=>Aqn.trans h),trivial,trivial⟩,trivial⟩⟩⟩⟩⟩⟩,⟨(fun _ h=>nomatch h),⟨(fun _ h=>A8d.trans h),⟨(fun _ h=>nomatch h),⟨(fun _ h=>nomatch h),⟨(fun _ h=>nomatch h),⟨(fun _ h=>A0w.trans h),⟨(fun _ h=>Aov.trans h),trivial,trivial⟩,trivial⟩,⟨(fun _ h=>A1r.trans h),⟨(fun _ h=>Apx.trans h),trivial,trivial⟩,trivial⟩⟩,⟨(fun _ h=>nomatch h),⟨(fun _ h=>A1l.trans h),⟨(fun _ h=>Aph.trans h),trivial,trivial⟩,trivial⟩,⟨(fun _ h=>Aof.trans h),⟨(fun _ h=>nomatch h),trivial,trivial⟩,trivial⟩⟩⟩,⟨(fun _ h=>A0e.trans h),⟨(fun _ h=>nomatch h),⟨(fun _ h=>A1e.trans h),⟨(fun _ h=>Apd.trans h),trivial,trivial⟩,trivial⟩,⟨(fun _ h=>Anz.trans h),⟨(fun _ h=>nomatch h),trivial,trivial⟩,trivial⟩⟩,⟨(fun _ h=>A0s.trans h),⟨(fun _ h=>nomatch h),⟨(fun _ h=>App.trans h),trivial,trivial⟩,trivial⟩,⟨(fun _ h=>Aon.trans h),⟨(fun _ h=>Aqk.trans h),trivial,trivial⟩,trivial⟩⟩⟩⟩,⟨(fun _ h=>Azv.trans h),⟨(fun _ h=>A0a.trans h),⟨(fun _ h=>nomatch h),⟨(fun _ h=>A1a.trans h),⟨(fun _ h=>Aoz.trans h),trivial,trivial⟩,trivial⟩,⟨(fun _ h=>Anv.trans h),⟨(fun _ h=>Aqb.trans h),trivial,trivial⟩,trivial⟩⟩,⟨(fun _ h=>A0o.trans h),⟨(fun _ h=>A1o.trans h),⟨(fun _ h=>Apl.trans h),trivial,trivial⟩,trivial⟩,⟨(fun _ h=>Aoj.trans h),⟨(fun _ h=>Aqg.trans h),trivial,trivial⟩,trivial⟩⟩⟩,⟨(fun _ h=>A0h.trans h),⟨(fun _ h=>nomatch h),⟨(fun _ h=>A1i.trans h),⟨(fun _ h=>nomatch h),trivial,trivial⟩,trivial⟩,⟨(fun _ h=>Aoc.trans h),⟨(fun _ h=>nomatch h),trivial,trivial⟩,trivial⟩⟩,⟨(fun _ h=>nomatch h),⟨(fun _ h=>nomatch h),⟨(fun _ h=>Apt.trans h),trivial,trivial⟩,trivial⟩,⟨(fun _ h=>Aor.trans h),⟨(fun _ h=>Aqm.trans h),trivial,trivial⟩,trivial⟩⟩⟩⟩⟩,⟨(fun _ h=>nomatch h),⟨(fun _ h=>nomatch h),⟨(fun _ h=>Azy.trans h),⟨(fun _ h=>nomatch h),⟨(fun _ h=>A0y.trans h),⟨(fun _ h=>Aox.trans h),trivial,trivial⟩,trivial⟩,⟨(fun _ h=>A1t.trans h),⟨(fun _ h=>Apz.trans h),trivial,trivial⟩,trivial⟩⟩,⟨(fun _ h=>A0m.trans h),⟨(fun _ h=>A1m.trans h),⟨(fun _ h=>Apj.trans h),trivial,trivial⟩,trivial⟩,⟨(fun _ h=>Aoh.trans h),⟨(fun _ h=>Aqe.trans h),trivial,trivial⟩,trivial⟩⟩⟩,⟨(fun _ h=>nomatch h),⟨(fun _ h=>nomatch h),⟨(fun _ h=>A1g.trans h),⟨(fun _ h=>Apf.trans h),trivial,trivial⟩,trivial⟩,⟨(fun _ h=>Aob.trans h),⟨(fun _ h=>nomatch h),trivial,trivial⟩,trivial⟩⟩,⟨(fun _ h=>nomatch h),⟨(fun _ h=>nomatch h),⟨(fun _ h=>Apr.trans h),trivial,trivial⟩,trivial⟩,⟨(fun _ h=>Aop.trans h),⟨(fun _ h=>nomatch h),trivial,trivial⟩,trivial⟩⟩⟩⟩,⟨(fun _ h=>nomatch h),⟨(fun _ h=>A0c.trans h),⟨(fun _ h=>nomatch h),⟨(fun _ h=>A1c.trans h),⟨(fun _ h=>Apb.trans h),trivial,trivial⟩,trivial⟩,⟨(fun _ h=>Anx.trans h),⟨(fun _ h=>nomatch h),trivial,trivial⟩,trivial⟩⟩,⟨(fun _ h=>A0q.trans h),⟨(fun _ h=>A1p.trans h),⟨(fun _ h=>Apn.trans h),trivial,trivial⟩,trivial⟩,⟨(fun _ h=>Aol.trans h),⟨(fun _ h=>Aqi.trans h),trivial,trivial⟩,trivial⟩⟩⟩,⟨(fun _ h=>nomatch h),⟨(fun _ h=>A0j.trans h),⟨(fun _ h=>nomatch h),⟨(fun _ h=>nomatch h),trivial,trivial⟩,trivial⟩,⟨(fun _ h=>Aod.trans h),⟨(fun _ h=>nomatch h),trivial,trivial⟩,trivial⟩⟩,⟨(fun _ h=>A0u.trans h),⟨(fun _ h=>nomatch h),⟨(fun _ h=>Apv.trans h),trivial,trivial⟩,trivial⟩,⟨(fun _ h=>Aot.trans h),trivial,trivial⟩⟩⟩⟩⟩⟩⟩
theorem BV:∀ f fn,Ypr.get f=some fn->AZ f=some fn:=fun _ _ h=>Ot Aqo h
abbrev RQ:=Bg AZ
abbrev Ar:=C1 AZ
end Go.Proofs.YtajompaehjkgkaaGreat
namespace Go.Ai
open Bool renaming true_and->LX
open Decidable renaming decide->A9i
open Go.Ai.AV renaming int->D
open Int renaming add_zero->BE,le_refl->C',mul_add->CT,mul_assoc->AF,mul_comm->AA,mul_zero->AI,natAbs_mul->BT,natCast_pow->CH,ofNat_lt->A7v,pow_pos->EQ,pow_succ->A2,pow_zero->Da
open List renaming cons_append->Ii,drop->A9v,getD_cons_succ->Ks,getD_cons_zero->Jj,getD_eq_getElem?_getD->Z,getElem?_drop->Bw,getElem?_eq_getElem->Ah,getElem?_map->CL,getElem?_take_of_lt->B9,length_cons->Bz,length_eq_zero_iff->UH,length_singleton->NJ,map_cons->C8,map_set->Ayz,mem_cons->D4,mem_cons_of_mem->Bh,mem_cons_self->B4,mem_of_getElem?->Tq,mem_of_mem_take->C5,replicate->At,replicate_succ->Gg,set_cons_succ->A9b,set_cons_zero->A9a,set_eq_take_append_cons_drop->sZ,take_append_drop->XZ
open Nat renaming add_sub_cancel->IJ,add_zero->FP,le_refl->Ap,lt_of_lt_of_le->EW,lt_or_ge->Cn,mod_lt->HR,mul_one->GI,pow_add->CN,pow_le_pow_right->B8,pow_succ->FL,sub_self->P8
def W(xs:LI):List AV:=xs.map (D .u32)
def AP(xs:LI):Prop:=∀ x∈xs,0<=x/\x<4294967296
def Ab:LI->Int
 | []=>0
 | x::xs=>x+4294967296*Ab xs
theorem Ov(xs:LI):(W xs).length=xs.length:=by simp [W]
theorem dZ{xs:LI}{i:Nat}(h:i<xs.length):(W xs)[i]? = some (.int .u32 (xs.getD i 0)):=by
 simp[W,CL,Ah h,Z]
theorem Eg{xs:LI}{i:Nat}(h:i<xs.length):Bv (A9v (i*1) (W xs)) 0 1 true=some (.int .u32 (xs.getD i 0)):=by
 simp only[Bv,if_true,GI,Bw,FP];exact dZ h
theorem Wh{xs:LI}{i:Nat}(h:i<xs.length):Bv (W xs) (i*1) 1 true=some (.int .u32 (xs.getD i 0)):=by
 simp only[Bv,if_true,GI];exact dZ h
theorem I3{xs:LI}{i:Nat}{v:Int}(h:i<xs.length):C6 (W xs) (i*1) [.int .u32 v]=some (W (xs.set i v)):=by
 unfold C6;rw[if_pos (by simp[Ov];omega)];congr 1;simp only[W,Ayz,GI,NJ];rw[sZ,if_pos (by simpa using h)];simp
theorem EY(n:Nat):Cz [.int .u32 0] n=W (At n 0):=by
 induction n with
 | zero=>rfl
 | succ n ih=>simp only[Cz,ih,W,Gg,C8];rfl
theorem AG{xs:LI}(h:AP xs)(i:Nat):0<=xs.getD i 0/\xs.getD i 0<4294967296:=by
 rw[Z];cases hx:xs[i]? with
 | none=>simp
 | some x=>exact h x (Tq hx)
theorem AW{xs:LI}(h:AP xs):0<=Ab xs:=by
 induction xs with
 | nil=>exact C' _
 | cons x xs ih =>
  have h1:=h x B4;have h2:=ih fun y hy=>h y (Bh _ hy);simp only[Ab];omega
theorem Gt(xs ys:LI):Ab (xs++ys)=Ab xs+4294967296^xs.length*Ab ys:=by
 induction xs with
 | nil=>simp[Ab]
 | cons x xs ih =>
  simp only[Ii,Ab,ih,Bz,A2];rw[CT,<- Int.add_assoc];congr 1;rw[<- AF,AA 4294967296 (4294967296^xs.length)]
theorem ED(n:Nat):Ab (At n 0)=0:=by
 induction n with
 | zero=>rfl
 | succ n ih=>simp[Gg,Ab,ih]
theorem DJ{xs:LI}(h:AP xs):Ab xs<4294967296^xs.length:=by
 induction xs with
 | nil=>simp[Ab]
 | cons x xs ih =>
  have h1:=h x B4;have h2:=ih fun y hy=>h y (Bh _ hy);simp only[Ab,Bz,A2];omega
theorem DP(xs:LI)(i:Nat)(v:Int)(h:i<xs.length):Ab (xs.set i v)=Ab xs+4294967296^i*(v-xs.getD i 0):=by
 induction xs generalizing i with
 | nil=>simp at h
 | cons x xs ih =>
  cases i with
  | zero=>simp only[A9a,Ab,Da,Jj];omega
  | succ i =>
   simp only[A9b,Ab,Ks];rw[ih i (by simpa using h),A2,CT,<- AF,AA 4294967296 (4294967296^i)];omega
theorem C2{xs:LI}(h:AP xs){i:Nat}{v:Int}(hv:0<=v/\v<4294967296):AP (xs.set i v):=by
 intro x hx;rcases List.mem_or_eq_of_mem_set hx with h1 | h1
 ·exact h x h1
 ·rw[h1];exact hv
def A9r(xs:LI):Nat->Nat
 | 0=>0
 | n+1=>if xs.getD n 0=0 then A9r xs n else n+1
def A9l(xs:LI):LI:=xs.take (A9r xs xs.length)
theorem GX(xs:LI)(n:Nat):A9r xs n<=n:=by
 induction n with
 | zero=>exact Ap _
 | succ n ih=>simp only[A9r];split <;> omega
theorem Y2(xs:LI)(n:Nat):A9r xs n=0\/xs.getD (A9r xs n-1) 0 ≠ 0:=by
 induction n with
 | zero=>exact .inl rfl
 | succ n ih =>
  simp only[A9r];split
  ·exact ih
  ·exact .inr (by simpa)
theorem MX(xs:LI)(n:Nat):∀ i,A9r xs n<=i->i<n->xs.getD i 0=0:=by
 induction n with
 | zero=>intro i _ h;omega
 | succ n ih =>
  intro i h1 h2;simp only[A9r] at h1;split at h1
  ·rename_i h0;by_cases hi:i=n
   ·subst hi;exact h0
   ·exact ih i h1 (by omega)
  ·omega
def Ft(xs:LI):Prop:=AP xs/\(xs=[]\/xs.getD (xs.length-1) 0 ≠ 0)
theorem F7{xs:LI}(h:AP xs):Ft (A9l xs):=by
 have hl:=GX xs xs.length;have hlen:(A9l xs).length=A9r xs xs.length:=by simp[A9l];omega
 refine⟨fun x hx=>h x (C5 hx),?_⟩;by_cases hz:A9r xs xs.length=0
 ·left;simp[A9l,hz]
 ·right;have h0:=(Y2 xs xs.length).resolve_left hz;rw[hlen,Z,A9l,B9 (by omega),<- Z];exact h0
theorem Ur{xs:LI}(h:∀ i,i<xs.length->xs.getD i 0=0):Ab xs=0:=by
 induction xs with
 | nil=>rfl
 | cons x xs ih =>
  have h0:=h 0 (by simp);simp only[Jj] at h0;subst h0;simp only[Ab];rw[ih fun i hi=>by simpa using h (i+1) (by simpa using hi)];rfl
theorem Ek(xs:LI):Ab (A9l xs)=Ab xs:=by
 have e:Ab xs=Ab (xs.take (A9r xs xs.length)++xs.drop (A9r xs xs.length)):=by rw[XZ]
 rw[e,Gt];have:Ab (xs.drop (A9r xs xs.length))=0:=by
  apply Ur;intro i hi;have hi':A9r xs xs.length+i<xs.length:=by simp at hi;omega
  have:=MX xs xs.length (A9r xs xs.length+i) (by omega) hi';rw[Z,Bw,<- Z];exact this
 rw[this,AI,BE];rfl
theorem Lz{x:Int}{xs:LI}(h:Ft (x::xs)):Ft xs:=by
 refine⟨fun y hy=>h.1 y (Bh _ hy),?_⟩;cases xs with
 | nil=>exact .inl rfl
 | cons y ys =>
  right;rcases h.2 with h0 | h0
  ·cases h0
  ·simpa using h0
theorem IT:∀ {xs:LI},Ft xs->xs ≠ []->0<Ab xs
 | [],_,h=>absurd rfl h
 | [x],h,_=>by
  have h1:=h.1 x B4;rcases h.2 with h0 | h0
  ·cases h0
  ·simp only[NJ,P8,Jj] at h0;simp only[Ab];omega
 | x::y::ys,h,_=>by
  have h1:=h.1 x B4;have h2:=IT (Lz h) (by simp);simp only[Ab] at h2 |-;omega
theorem SG:∀ {xs ys:LI},Ft xs->Ft ys->Ab xs=Ab ys->xs=ys
 | [],[],_,_,_=>rfl
 | [],y::ys,_,h2,h=>by
  have:=IT h2 (by simp);rw[<- h] at this;simp[Ab] at this
 | x::xs,[],h1,_,h=>by
  have:=IT h1 (by simp);rw[h] at this;simp[Ab] at this
 | x::xs,y::ys,h1,h2,h=>by
  have a1:=h1.1 x B4;have a2:=h2.1 y B4;simp only[Ab] at h;have e1:x=y:=by omega
  have e2:Ab xs=Ab ys:=by omega
  rw[e1,SG (Lz h1) (Lz h2) e2]
def MY:Nat->Nat->LI
 | 0,_=>[]
 | f+1,n=>if n=0 then [] else ((n % 4294967296:Nat):Int)::MY f (n / 4294967296)
def M(n:Nat):LI:=MY (n+1) n
theorem Q7:∀ (f n:Nat),n<f->Ft (MY f n)/\Ab (MY f n)=n/\(MY f n=[]↔n=0):=by
 intro f;induction f with
 | zero=>intro n h;omega
 | succ f ih =>
  intro n h;simp only[MY];by_cases h0:n=0
  ·subst h0;simp[Ab,Ft,AP]
  ·rw[if_neg h0];obtain⟨c1,c2,c3⟩:=ih (n / 4294967296) (by omega);have hm:=HR n (show 0<4294967296 by omega);refine⟨⟨?_,?_⟩,?_,by simp[h0]⟩
   ·intro x hx;rcases D4.1 hx with rfl | hx
    ·omega
    ·exact c1.1 x hx
   ·right;cases hl:MY f (n / 4294967296) with
    | nil =>
     have:=c3.1 hl;simp;omega
    | cons y ys =>
     rcases c1.2 with h1 | h1
     ·rw[hl] at h1;cases h1
     ·rw[hl] at h1;simpa using h1
   ·simp only[Ab,c2];omega
theorem Cl(n:Nat):Ft (M n):=(Q7 _ n (by omega)).1
theorem Cx(n:Nat):Ab (M n)=n:=(Q7 _ n (by omega)).2.1
theorem IU(n:Nat):M n=[]↔n=0:=(Q7 _ n (by omega)).2.2
theorem IV{xs:LI}(h:AP xs):A9l xs=M (Ab xs).toNat:=by
 apply SG (F7 h) (Cl _);rw[Ek,Cx];have:=AW h;omega
def Ag(n:Int):AV := .agg [.bool (A9i (n<0)),.sl (M n.natAbs).length (W (M n.natAbs))]
def CI(n:Int):AV := .frs (.st (A9i (n<0))) 1 (M n.natAbs).length (W (M n.natAbs))
theorem C3(n:Nat):(0:Int)<4294967296^n:=EQ (by decide)
theorem Pi:∀ {xs:LI},Ft xs->xs ≠ []->(4294967296:Int)^(xs.length-1)<=Ab xs
 | [],_,h=>absurd rfl h
 | [x],h,_=>by
  have:=IT h (by simp);simp only[NJ,P8,Da];omega
 | x::y::ys,h,_=>by
  have h1:=h.1 x B4;have h2:=Pi (Lz h) (by simp);simp only[Bz,IJ] at h2 |-;rw[A2];show _<=x+4294967296*Ab (y::ys);omega
theorem         Gj {a b : Nat} (h : a <= b) : (4294967296 : Int) ^ a <= 4294967296 ^ b := by
  induction b with
  | zero => have : a = 0 := by omega
            subst this; exact          C' _
  | succ b ih =>
    by_cases hh : a = b + 1
    · subst hh; exact          C' _
    · have := ih (by omega)
      have hp :=        C3 b
      rw [          A2]; omega
theorem KP{xs:LI}(h:Ft xs){k:Nat}(hv:Ab xs<4294967296^k):xs.length<=k:=by
 by_cases hn:xs=[]
 ·subst hn;simp
 ·have h1:=Pi h hn;rcases Cn k xs.length with h2 | h2
  ·have:=Gj (show k<=xs.length-1 by omega);omega
  ·exact h2
theorem MZ{n k:Nat}(h:(n:Int)<4294967296^k):(M n).length<=k:=KP (Cl n) (by rw [Cx];exact h)
def Br(k:Nat)(n:Int):Prop:=n.natAbs<4294967296^k
theorem Br.len{k:Nat}{n:Int}(h:Br k n):(M n.natAbs).length<=k:=by
 apply MZ;have h1:(n.natAbs:Int)<((4294967296^k:Nat):Int):=A7v.mpr h;rwa [CH] at h1
theorem Br.mono{j k:Nat}{n:Int}(h:Br j n)(hk:j<=k):Br k n:=EW h (B8 (by decide) hk)
theorem Br.mul{j k:Nat}{a b:Int}(ha:Br j a)(hb:Br k b):Br (j+k) (a*b):=by
 unfold Br at *
 rw[BT,CN];exact Nat.mul_lt_mul'' ha hb
theorem Br.add{j:Nat}{a b:Int}(ha:Br j a)(hb:Br j b):Br (j+1) (a+b):=by
 unfold Br at *
 rw[FL];have:=Int.natAbs_add_le a b;omega
theorem Br.neg{j:Nat}{a:Int}(ha:Br j a):Br j (-a):=by
 unfold Br at *
 rwa [Int.natAbs_neg]
theorem Pj{n:Int}(h : -9223372036854775808<=n/\n<=9223372036854775807):Br 2 n:=by
 unfold Br;have:(4294967296:Nat)^2=18446744073709551616:=by decide
 omega
def v(neg:Bool)(xs:LI):Int:=if neg then -Ab xs else Ab xs
theorem ZS{neg:Bool}{xs:LI}(hu:AP xs):(v neg xs).natAbs=(Ab xs).toNat:=by
 have:=AW hu;unfold v;cases neg <;> simp <;> omega
theorem Pk{neg:Bool}{xs:LI}(hu:AP xs):A9l xs=M (v neg xs).natAbs:=by
 rw[ZS hu,IV hu]
theorem F8(n:Int):v (A9i (n<0)) (M n.natAbs)=n:=by
 unfold v;rw[Cx];by_cases h:n<0 <;> simp[h] <;> omega
theorem Dp(n:Nat):(M n).length=0↔n=0:=by rw [UH,IU]
theorem uH{neg:Bool}{xs:LI}(hu:AP xs):(neg&&decide (0<(M (v neg xs).natAbs).length))=decide (v neg xs<0):=by
 have h1:=Dp (v neg xs).natAbs;have h2:=AW hu;have h3:=ZS (neg:=neg) hu;unfold v at *
 cases neg
 ·simp;omega
 ·simp only[LX,if_true] at *
  rw[decide_eq_decide];omega
theorem Bp(xs:LI):(A9l xs).length<=xs.length:=by simp [A9l];omega
theorem EG{neg:Bool}{xs:LI}(hu:AP xs):(M (v neg xs).natAbs).length<=xs.length:=by rw [<- Pk hu];exact Bp xs
theorem Wi{neg:Bool}{xs:LI}(hu:AP xs):Br xs.length (v neg xs):=by
 unfold Br;rw[ZS hu];have h1:=AW hu;have h2:=DJ hu;have h3:((4294967296^xs.length:Nat):Int)=(4294967296:Int)^xs.length:=by rw[CH];rfl
 omega
theorem BR(n:Nat):AP (M n):=(Cl n).1
def f(xs : List Int) : Reg := .val (.sl xs.length (W xs))
def m(n : Int) : Reg := .val (.int .i64 n)
end Go.Ai
namespace Go.Proofs.YtajompaehjkgkaaGreat
open Go.Ai
set_option maxRecDepth 100000
open Bool renaming false_and->KR,false_eq_true->Cj
open Decidable renaming decide->A9i
open Go.Ai.AV renaming agg->o,bool->F,fresh->L,int->D,sl->H
open Go.Ai.Reg renaming own->A9n,val->A9j
open Go.IntKind renaming bits->An,i64->O,u32->Ad,u64->B,wrap->I
open Int renaming fdiv->A9q,fdiv_eq_ediv_of_nonneg->AAg,mul_add->CT,mul_le_mul->Eb,mul_le_mul_of_nonneg_left->Aj,mul_nonneg->A6,mul_one->De,natAbs->E,natCast_nonneg->HH,pow_succ->A2,sub_zero->EU,toNat->A,toNat_natCast->R,zero_add->DL
open List renaming drop->A9v,drop_eq_getElem_cons->Df,drop_zero->EZ,eq_of_mem_replicate->Ayy,getD_eq_getElem?_getD->Z,getElem?_eq_getElem->Ah,getElem?_replicate->Lj,getElem?_set_ne->FN,length->Bs,length_eq_zero_iff->UH,map_take->Sh,mem_cons->D4,mem_of_mem_take->C5,not_mem_nil->Uo,replicate->At,take->BD,take_length->EE
open Nat renaming add_assoc->DE,add_zero->FP,le_refl->Ap,le_trans->Bx,sub_zero->Kk
theorem Bg.to{prog:Nat->Option IFunc}{f:Nat}{args:List AV}{r r':AV}(h:Bg prog f args r)(e:r=r'):Bg prog f args r':=e ▸ h
theorem Bl{n:Int}(h1 : -9223372036854775808<=n)(h2:n<=9223372036854775807):I O n=n:=by
 simp only[I,An,IntKind.signed];simp;omega
theorem BF(n:Int):I B n=n % 18446744073709551616:=by
 simp only[I,An,IntKind.signed,KR,Cj,if_false];omega
theorem DW(n:Int):I Ad n=n % 4294967296:=by
 simp only[I,An,IntKind.signed,KR,Cj,if_false];omega
def TB0:Cw:=[]
theorem Fh:Ch AZ TB0:=Ch.nil _
def TC(N:Nat)(cs:List AV)(n:Int):Al:=(A9j (H N cs)::(Ac 1 (A9n 1 0 []::(A9j (D O n)::(Ac 18 [])))))
theorem A1v(N:Nat)(cs:List AV)(n x:Int)(c1:A9i (n>0)=true)(c2:(x==0)=true)(n1:0<=(I O (n-1))/\(I O (n-1))<(N:Int))(n2:Bv (A9v (A (I O (n-1))*1) cs) 0 1 true=some (D Ad x)):Ar dP (TC N cs n) .norm (TC N cs (I O (n-1))):=G Fh 300 [.b true,.v (D Ad x),.b true] [0,2,3] (T c1 (T n1 (T n2 (T c2 a0)))) (by kernel_rfl)
theorem A1w(N:Nat)(cs:List AV)(n x:Int)(c1:A9i (n>0)=true)(c2:(x==0)=false)(n1:0<=(I O (n-1))/\(I O (n-1))<(N:Int))(n2:Bv (A9v (A (I O (n-1))*1) cs) 0 1 true=some (D Ad x)):Ar dP (TC N cs n) (.exit 0) (TC N cs n):=G Fh 300 [.b true,.v (D Ad x),.b false] [0,2,3] (T c1 (T n1 (T n2 (T c2 a0)))) (by kernel_rfl)
theorem A1x(N:Nat)(cs:List AV)(n:Int)(c1:A9i (n>0)=false):Ar dP (TC N cs n) (.exit 0) (TC N cs n):=G Fh 300 [.b false,.b false] [0,2,3] (T c1 (T ES a0)) (by kernel_rfl)
theorem Aqp(xs:LI)(hN:xs.length<=35184372088832):∀ m,m<=xs.length->Ar (.loop dP) (TC xs.length (W xs) (m:Int)) (.exit 0) (TC xs.length (W xs) ((A9r xs m:Nat):Int)):=by
 intro m;induction m with
 | zero =>
  intro _;exact Ao (A1x xs.length (W xs) ((0:Nat):Int) (by simp)) (by nofun)
 | succ m ih =>
  intro hm;have e1:I O (((m+1:Nat):Int)-1)=(m:Int):=by rw[Bl (by omega) (by omega)];omega
  have hx:=Eg (xs:=xs) (i:=m) (by omega);simp only[A9r];by_cases h0:xs.getD m 0=0
  ·rw[if_pos h0];have h1:=A1v xs.length (W xs) ((m+1:Nat):Int) (xs.getD m 0) (by simp) (by rw[h0];rfl) (by rw[e1];omega) (by rw[e1,R];exact hx);rw[e1] at h1;exact C1.loop h1 (ih (by omega))
  ·rw[if_neg h0];exact Ao (A1w xs.length (W xs) ((m+1:Nat):Int) (xs.getD m 0) (by simp) (by simpa using h0) (by rw[e1];omega) (by rw[e1,R];exact hx)) (by nofun)
theorem Eh{xs:LI}(hN:xs.length<=35184372088832):RQ 99 [Y W xs] (L 1 (A9l xs).length (W (A9l xs))):=by
 have hle:=GX xs xs.length;have hlen:(A9l xs).length=A9r xs xs.length:=by simp[A9l];omega
 have hl:=Aqp xs hN xs.length (Ap _);have hsc:0<=(A ((A9r xs xs.length:Nat):Int))/\(A ((A9r xs xs.length:Nat):Int))<=xs.length/\xs.length<=xs.length/\(false=true->true=true):=by rw[R];exact⟨by omega,hle,Ap _,fun h=>by cases h⟩
 have htk:BD ((A ((A9r xs xs.length:Nat):Int)-0)*1) (A9v (0*1) (W xs))=W (A9l xs):=by
  rw[R];simp[W,A9l,Sh]
 have hal:Bs (BD ((A ((A9r xs xs.length:Nat):Int)-0)*1) (A9v (0*1) (W xs)))=(A ((A9r xs xs.length:Nat):Int)-0)*1:=by
  rw[htk,Ov,hlen,R];omega
 have han:(A ((A9r xs xs.length:Nat):Int)-0)<=35184372088832:=by rw[R];omega
 have:=Oo (prog:=AZ) (f:=99) (args:=[Y W xs]) (r := L 1 (A ((A9r xs xs.length:Nat):Int)-0) (BD ((A ((A9r xs xs.length:Nat):Int)-0)*1) (A9v (0*1) (W xs)))) (fn:=dQ) (s:=(A9j (Y W xs)::(Ac 1 (A9n 1 ((A ((A9r xs xs.length:Nat):Int))-0) (BD (((A ((A9r xs xs.length:Nat):Int))-0)*1) (A9v (0*1) (W xs)))::(A9j (D O ((A9r xs xs.length:Nat):Int))::(Ac 14 (A9j (Y W xs)::(A9j (D O ((A9r xs xs.length:Nat):Int))::(A9j (H ((A ((A9r xs xs.length:Nat):Int))-0) (BD (((A ((A9r xs xs.length:Nat):Int))-0)*1) (A9v (0*1) (W xs))))::(Ac 1 [])))))))))) (ex := .ret) rfl rfl
  (C1.seq (DV (t:=(A9j (Y W xs)::(Ac 1 (A9n 1 0 []::(Ac 19 []))))) (ex := .norm) (ps:=[]) Fh 300 [] [0,2] (by kernel_rfl) trivial)
  (C1.seq (DV (t:=(A9j (Y W xs)::(Ac 1 (A9n 1 0 []::(A9j (D O (xs.length:Int))::(Ac 18 [])))))) (ex := .norm) (ps:=[]) Fh 300 [] [0,2,3] (by kernel_rfl) trivial)
  (C1.seq (C1.block hl)
  (DV (t:=(A9j (Y W xs)::(Ac 1 (A9n 1 ((A ((A9r xs xs.length:Nat):Int))-0) (BD (((A ((A9r xs xs.length:Nat):Int))-0)*1) (A9v (0*1) (W xs)))::(A9j (D O ((A9r xs xs.length:Nat):Int))::(Ac 14 (A9j (Y W xs)::(A9j (D O ((A9r xs xs.length:Nat):Int))::(A9j (H ((A ((A9r xs xs.length:Nat):Int))-0) (BD (((A ((A9r xs xs.length:Nat):Int))-0)*1) (A9v (0*1) (W xs))))::(Ac 1 [])))))))))) (ex := .ret) (ps:=[0<=((A9r xs xs.length:Nat):Int),0<=(A ((A9r xs xs.length:Nat):Int))/\(A ((A9r xs xs.length:Nat):Int))<=xs.length/\xs.length<=xs.length/\(false=true->true=true),Bs (BD (((A ((A9r xs xs.length:Nat):Int))-0)*1) (A9v (0*1) (W xs)))=((A ((A9r xs xs.length:Nat):Int))-0)*1,((A ((A9r xs xs.length:Nat):Int))-0)<=35184372088832]) Fh 300 [] [0,2,3,18,19,20] (by kernel_rfl) ⟨(HH _),hsc,hal,han,trivial⟩)))) (by nofun) rfl
 (first|rw[htk,R,Kk,<- hlen] at this|(rw[htk,R,Kk] at this;unfold Y at this;rw[<- hlen] at this));exact this
def Wj(neg:Bool)(xs:LI):AV :=
 match neg with
 | true=>(.frs (.st (A9i ((((A9l xs).length:Nat):Int)>0))) 1 ((A9l xs).length) (W (A9l xs)))
 | false=>(.frs (.st false) 1 ((A9l xs).length) (W (A9l xs)))
theorem A1y(neg:Bool)(xs:LI)(hN:xs.length<=1048576):RQ 98 [F neg,Y W xs] (Wj neg xs):=by
 unfold Wj;cases neg
 ·exact B1 (r := .frs (.st false) 1 ((A9l xs).length) (W (A9l xs))) (ps:=[RQ 99 [Y W xs] (L 1 ((A9l xs).length) (W (A9l xs))),false=false]) Fh rfl 300 rfl [.r (L 1 ((A9l xs).length) (W (A9l xs))),.b false] (by kernel_rfl) ⟨(Eh (Bx hN (by decide))),rfl,trivial⟩
 ·exact B1 (r := .frs (.st (A9i ((((A9l xs).length:Nat):Int)>0))) 1 ((A9l xs).length) (W (A9l xs))) (ps:=[RQ 99 [Y W xs] (L 1 ((A9l xs).length) (W (A9l xs))),true=true]) Fh rfl 300 rfl [.r (L 1 ((A9l xs).length) (W (A9l xs))),.b true] (by kernel_rfl) ⟨(Eh (Bx hN (by decide))),rfl,trivial⟩
theorem Q8{neg:Bool}{xs:LI}(hu:AP xs)(hN:xs.length<=1048576):RQ 98 [F neg,Y W xs] (CI (if neg then -Ab xs else Ab xs)):=by
 have h:=A1y neg xs hN;have e:Wj neg xs=CI (if neg then -Ab xs else Ab xs):=by
  have hv:=AW hu;have ht:=IV hu;have hp:(A9l xs).length=0↔Ab xs=0:=by
   rw[ht,UH,IU];omega
  cases neg with
  | false =>
   have e1:(Ab xs).natAbs=(Ab xs).toNat:=by omega
   have e2:decide (Ab xs<0)=false:=by simp;omega
   simp only[Wj,CI,Cj,if_false,e1,e2,ht]
  | true =>
   have e1:(-Ab xs).natAbs=(Ab xs).toNat:=by omega
   have e2:decide ((((A9l xs).length:Nat):Int)>0)=decide (-Ab xs<0):=by
    rw[decide_eq_decide];omega
   simp only[Wj,CI,if_true,e1,e2,<- ht]
 rw[<- e];exact h
theorem Mo{u:Int}(h:0<=u/\u<18446744073709551616):AP [I Ad u,I Ad (A9q u (2^(min (A 32) (An .u64))))]/\Ab [I Ad u,I Ad (A9q u (2^(min (A 32) (An .u64))))]=u:=by
 have e:A9q u (2^(min (A 32) (An .u64)))=u / 4294967296:=by
  show A9q u 4294967296=_;rw[AAg _ (by omega)]
 rw[e,DW,DW];refine⟨fun x hx => ?_,?_⟩
 ·simp only[D4,Uo,or_false] at hx;rcases hx with rfl | rfl <;> omega
 ·simp only[Ab];omega
theorem zC(n:Int)(c1:decide (n<0)=true)(hcall:RQ 98 [F (A9i (n<0)),H 2 [D Ad (I Ad (I B (0-(I B n)))),D Ad (I Ad (A9q (I B (0-(I B n))) (2^(min (A 32) (An .u64)))))]] (.frs (.st (A9i (n<0))) 1 ((M (E n)).length) (W (M (E n))))):RQ 49 [D O n] (o [F (A9i (n<0)),H ((M (E n)).length) (W (M (E n)))]):=B1 (ps:=[(A9i (n<0))=true,¬ (32:Int)<0,RQ 98 [F (A9i (n<0)),H 2 [D Ad (I Ad (I B (0-(I B n)))),D Ad (I Ad (A9q (I B (0-(I B n))) (2^(min (A 32) (An .u64)))))]] (.frs (.st (A9i (n<0))) 1 ((M (E n)).length) (W (M (E n))))]) Fh rfl 300 rfl [.b true,.r (.frs (.st (A9i (n<0))) 1 ((M (E n)).length) (W (M (E n))))] (by kernel_rfl) ⟨c1,(by decide),hcall,trivial⟩
theorem zF(n:Int)(c1:decide (n<0)=false)(hcall:RQ 98 [F (A9i (n<0)),H 2 [D Ad (I Ad (I B n)),D Ad (I Ad (A9q (I B n) (2^(min (A 32) (An .u64)))))]] (.frs (.st (A9i (n<0))) 1 ((M (E n)).length) (W (M (E n))))):RQ 49 [D O n] (o [F (A9i (n<0)),H ((M (E n)).length) (W (M (E n)))]):=B1 (ps:=[(A9i (n<0))=false,¬ (32:Int)<0,RQ 98 [F (A9i (n<0)),H 2 [D Ad (I Ad (I B n)),D Ad (I Ad (A9q (I B n) (2^(min (A 32) (An .u64)))))]] (.frs (.st (A9i (n<0))) 1 ((M (E n)).length) (W (M (E n))))]) Fh rfl 300 rfl [.b false,.r (.frs (.st (A9i (n<0))) 1 ((M (E n)).length) (W (M (E n))))] (by kernel_rfl) ⟨c1,(by decide),hcall,trivial⟩
theorem U3{n:Int}(hn : -9223372036854775808<=n/\n<=9223372036854775807):RQ 49 [D O n] (Ag n):=by
 cases c1:decide (n<0) with
 | true =>
  have h0:n<0:=by simpa using c1
  have eu:I B (0-I B n) = -n:=by rw[BF,BF];omega
  obtain⟨k1,k2⟩:=Mo (u:=I B (0-I B n)) (by rw[eu];omega);refine zC n c1 ?_;have:=Q8 (neg:=true) k1 (by simp);have e:(if true=true then -Ab [I Ad (I B (0-I B n)),I Ad (A9q (I B (0-I B n)) (2^(min (A 32) (An .u64))))] else Ab [I Ad (I B (0-I B n)),I Ad (A9q (I B (0-I B n)) (2^(min (A 32) (An .u64))))])=n:=by
   rw[k2,if_pos rfl,eu];omega
  rw[e,CI,c1] at this;rw[c1];exact this
 | false =>
  have h0:¬ n<0:=by simpa using c1
  have eu:I B n=n:=by rw[BF];omega
  obtain⟨k1,k2⟩:=Mo (u:=I B n) (by rw[eu];omega);refine zF n c1 ?_;have:=Q8 (neg:=false) k1 (by simp);have e:(if false=true then -Ab [I Ad (I B n),I Ad (A9q (I B n) (2^(min (A 32) (An .u64))))] else Ab [I Ad (I B n),I Ad (A9q (I B n) (2^(min (A 32) (An .u64))))])=n:=by
   rw[if_neg (by decide),k2,eu]
  rw[e,CI,c1] at this;rw[c1];exact this
def TBA:Cw:=TB0
theorem D9:Ch AZ TBA:=Fh
def H9(N:Nat)(cs:List AV)(M:Nat)(ds:List AV)(v i:Int):Al:=(A9j (H N cs)::(A9j (H M ds)::(Ac 2 (A9j (D O v)::(A9j (D O i)::(Ac 35 []))))))
theorem Aqq(N:Nat)(cs:List AV)(M:Nat)(ds:List AV)(v i x y:Int)(c1:A9i (i>=0)=true)(c2:(x != y)=true)(c3:A9i (x<y)=true)(n1:0<=i/\i<(N:Int))(n2:Bv (A9v (A i*1) cs) 0 1 true=some (D Ad x))(n3:0<=i/\i<(M:Int))(n4:Bv (A9v (A i*1) ds) 0 1 true=some (D Ad y))(n5:0<=i/\i<(N:Int))(n6:Bv (A9v (A i*1) cs) 0 1 true=some (D Ad x))(n7:0<=i/\i<(M:Int))(n8:Bv (A9v (A i*1) ds) 0 1 true=some (D Ad y)):Ar MS (H9 N cs M ds v i) .ret (H9 N cs M ds (-1) i):=G D9 300 [.b true,.v (D Ad x),.v (D Ad y),.b true,.v (D Ad x),.v (D Ad y),.b true] [0,1,4,5] (T c1 (T n1 (T n2 (T n3 (T n4 (T c2 (T n5 (T n6 (T n7 (T n8 (T c3 a0))))))))))) (by kernel_rfl)
theorem Aqr(N:Nat)(cs:List AV)(M:Nat)(ds:List AV)(v i x y:Int)(c1:A9i (i>=0)=true)(c2:(x != y)=true)(c3:A9i (x<y)=false)(n1:0<=i/\i<(N:Int))(n2:Bv (A9v (A i*1) cs) 0 1 true=some (D Ad x))(n3:0<=i/\i<(M:Int))(n4:Bv (A9v (A i*1) ds) 0 1 true=some (D Ad y))(n5:0<=i/\i<(N:Int))(n6:Bv (A9v (A i*1) cs) 0 1 true=some (D Ad x))(n7:0<=i/\i<(M:Int))(n8:Bv (A9v (A i*1) ds) 0 1 true=some (D Ad y)):Ar MS (H9 N cs M ds v i) .ret (H9 N cs M ds 1 i):=G D9 300 [.b true,.v (D Ad x),.v (D Ad y),.b true,.v (D Ad x),.v (D Ad y),.b false] [0,1,4,5] (T c1 (T n1 (T n2 (T n3 (T n4 (T c2 (T n5 (T n6 (T n7 (T n8 (T c3 a0))))))))))) (by kernel_rfl)
theorem Aqs(N:Nat)(cs:List AV)(M:Nat)(ds:List AV)(v i x y:Int)(c1:A9i (i>=0)=true)(c2:(x != y)=false)(n1:0<=i/\i<(N:Int))(n2:Bv (A9v (A i*1) cs) 0 1 true=some (D Ad x))(n3:0<=i/\i<(M:Int))(n4:Bv (A9v (A i*1) ds) 0 1 true=some (D Ad y)):Ar MS (H9 N cs M ds v i) .norm (H9 N cs M ds v (I O (i-1))):=G D9 300 [.b true,.v (D Ad x),.v (D Ad y),.b false] [0,1,4,5] (T c1 (T n1 (T n2 (T n3 (T n4 (T c2 a0)))))) (by kernel_rfl)
theorem Aqt(N:Nat)(cs:List AV)(M:Nat)(ds:List AV)(v i:Int)(c1:A9i (i>=0)=false):Ar MS (H9 N cs M ds v i) (.exit 0) (H9 N cs M ds v i):=G D9 300 [.b false] [0,1,4,5] (T c1 a0) (by kernel_rfl)
def CR(a b:Int):Int:=if a<b then -1 else if b<a then 1 else 0
def BS(n:Int):Int:=if n<0 then -1 else if 0<n then 1 else 0
def JT(xs ys:LI):Nat->Int
 | 0=>0
 | m+1=>if xs.getD m 0=ys.getD m 0 then JT xs ys m else if xs.getD m 0<ys.getD m 0 then -1 else 1
theorem DX(xs:LI)(m:Nat)(h:m<xs.length):Ab (xs.take (m+1))=Ab (xs.take m)+4294967296^m*xs.getD m 0:=by
 rw[List.take_add_one,Ah h,Option.toList_some,Gt];have:(xs.take m).length=m:=by simp;omega
 rw[this];simp[Ab,Z,Ah h]
theorem Y3{A B x y P:Int}(hA:0<=A/\A<P)(hB:0<=B/\B<P)(h:x<y):A+P*x<B+P*y:=by
 have:=Aj (show x+1<=y by omega) (show 0<=P by omega);rw[CT,De] at this;omega
theorem Y4{xs ys:LI}(hx:AP xs)(hy:AP ys):∀ m,m<=xs.length->m<=ys.length->JT xs ys m=CR (Ab (xs.take m)) (Ab (ys.take m)):=by
 intro m;induction m with
 | zero=>intro _ _;simp[JT,CR,Ab]
 | succ m ih =>
  intro h1 h2;simp only[JT];rw[DX xs m (by omega),DX ys m (by omega)];have ux:AP (xs.take m):=fun x hx'=>hx x (C5 hx');have uy:AP (ys.take m):=fun x hx'=>hy x (C5 hx');have a1:=AW ux;have a2:=DJ ux;have b1:=AW uy;have b2:=DJ uy;rw[show (xs.take m).length=m by simp;omega] at a2;rw[show (ys.take m).length=m by simp;omega] at b2;by_cases h:xs.getD m 0=ys.getD m 0
  ·rw[if_pos h,ih (by omega) (by omega),h];unfold CR;congr 1
   ·rw[eq_iff_iff];omega
   ·congr 1;rw[eq_iff_iff];omega
  ·rw[if_neg h];by_cases hlt:xs.getD m 0<ys.getD m 0
   ·rw[if_pos hlt];have:=Y3 ⟨a1,a2⟩ ⟨b1,b2⟩ hlt;unfold CR;rw[if_pos this]
   ·rw[if_neg hlt];have:=Y3 ⟨b1,b2⟩ ⟨a1,a2⟩ (show ys.getD m 0<xs.getD m 0 by omega);unfold CR;rw[if_neg (by omega),if_pos this]
theorem zG(xs ys:LI)(hN:xs.length<=1048576)(hl:xs.length=ys.length):∀ m,m<=xs.length ->
  (JT xs ys m=0/\Ar (.loop MS) (H9 xs.length (W xs) ys.length (W ys) 0 ((m:Int)-1)) (.exit 0) (H9 xs.length (W xs) ys.length (W ys) 0 (-1))) \/
  (JT xs ys m ≠ 0/\∃ j,Ar (.loop MS) (H9 xs.length (W xs) ys.length (W ys) 0 ((m:Int)-1)) .ret (H9 xs.length (W xs) ys.length (W ys) (JT xs ys m) j)):=by
 intro m;induction m with
 | zero =>
  intro _;left;refine⟨rfl,?_⟩;exact Ao (Aqt xs.length (W xs) ys.length (W ys) 0 (((0:Nat):Int)-1) (by simp)) (by nofun)
 | succ m ih =>
  intro hm;have e0:((m+1:Nat):Int)-1=(m:Int):=by omega
  have e1:I O ((m:Int)-1)=(m:Int)-1:=Bl (by omega) (by omega);have hx:=Eg (xs:=xs) (i:=m) (by omega);have hy:=Eg (xs:=ys) (i:=m) (by omega);rw[e0];simp only[JT];by_cases h:xs.getD m 0=ys.getD m 0
  ·rw[if_pos h];have h1:=Aqs xs.length (W xs) ys.length (W ys) 0 (m:Int) (xs.getD m 0) (ys.getD m 0) (by simp) (by simpa using h) (by omega) (by rw[R];exact hx) (by omega) (by rw[R];exact hy);rw[e1] at h1;rcases ih (by omega) with ⟨k1,k2⟩ | ⟨k1,j,k2⟩
   ·exact .inl ⟨k1,C1.loop h1 k2⟩
   ·exact .inr ⟨k1,j,C1.loop h1 k2⟩
  ·rw[if_neg h];right;by_cases hlt:xs.getD m 0<ys.getD m 0
   ·rw[if_pos hlt];refine⟨by decide,(m:Int),?_⟩;exact Ao (Aqq xs.length (W xs) ys.length (W ys) 0 (m:Int) (xs.getD m 0) (ys.getD m 0) (by simp) (by simpa using h) (by simpa using hlt) (by omega) (by rw[R];exact hx) (by omega) (by rw[R];exact hy) (by omega) (by rw[R];exact hx) (by omega) (by rw[R];exact hy)) (by nofun)
   ·rw[if_neg hlt];refine⟨by decide,(m:Int),?_⟩;exact Ao (Aqr xs.length (W xs) ys.length (W ys) 0 (m:Int) (xs.getD m 0) (ys.getD m 0) (by simp) (by simpa using h) (by simpa using hlt) (by omega) (by rw[R];exact hx) (by omega) (by rw[R];exact hy) (by omega) (by rw[R];exact hx) (by omega) (by rw[R];exact hy)) (by nofun)
theorem eA(xs ys:LI)(h:((xs.length:Int) != (ys.length:Int))=true)(h2:(A9i ((xs.length:Int)<(ys.length:Int)))=true):RQ 134 [Y W xs,Y W ys] (D O (-1)):=B1 (ps:=[((xs.length:Int) != (ys.length:Int))=true,(A9i ((xs.length:Int)<(ys.length:Int)))=true]) D9 rfl 300 rfl [.b true,.b true] (by kernel_rfl) ⟨h,h2,trivial⟩
theorem eB(xs ys:LI)(h:((xs.length:Int) != (ys.length:Int))=true)(h2:(A9i ((xs.length:Int)<(ys.length:Int)))=false):RQ 134 [Y W xs,Y W ys] (D O 1):=B1 (ps:=[((xs.length:Int) != (ys.length:Int))=true,(A9i ((xs.length:Int)<(ys.length:Int)))=false]) D9 rfl 300 rfl [.b true,.b false] (by kernel_rfl) ⟨h,h2,trivial⟩
theorem eE(xs ys:LI)(h:((xs.length:Int) != (ys.length:Int))=false)(hl:Ar (.loop MS) (H9 xs.length (W xs) ys.length (W ys) 0 (I O ((xs.length:Int)-1))) (.exit 0) (H9 xs.length (W xs) ys.length (W ys) 0 (-1))):RQ 134 [Y W xs,Y W ys] (D O 0):=A9g St (A9j (Y W xs)::(A9j (Y W ys)::(Ac 2 (A9j (D O 0)::(A9j (D O (-1))::(Ac 35 [])))))) (C1.seq (G (t:=(f xs::(f ys::(Ac 2 (m 0::(Ac 36 [])))))) D9 300 [] [0,1,4] a0) (C1.seq (G (t:=(f xs::(f ys::(Ac 2 (m 0::(Ac 1 (f xs::(m (xs.length:Int)::(f ys::(m (ys.length:Int)::(A9j (F ((xs.length:Int) != (ys.length:Int)))::(Ac 30 [])))))))))))) D9 300 [.b false] [0,1,4,6,7,8,9,10] (T (show ((xs.length:Int) != (ys.length:Int))=false from h) a0)) (C1.seq (C1.seq (G (t:=(f xs::(f ys::(Ac 2 (m 0::(m (I O ((xs.length:Int)-1))::(Ac 35 []))))))) D9 300 [] [0,1,4,5] a0) (C1.block hl)) (G (t:=(f xs::(f ys::(Ac 2 (m 0::(m (-1)::(Ac 35 []))))))) (ex := .ret) D9 300 [] [0,1,4,5] a0))))
theorem eF(xs ys:LI)(r j:Int)(h:((xs.length:Int) != (ys.length:Int))=false)(hl:Ar (.loop MS) (H9 xs.length (W xs) ys.length (W ys) 0 (I O ((xs.length:Int)-1))) .ret (H9 xs.length (W xs) ys.length (W ys) r j)):RQ 134 [Y W xs,Y W ys] (D O r):=A9g St (A9j (Y W xs)::(A9j (Y W ys)::(Ac 2 (A9j (D O r)::(A9j (D O j)::(Ac 35 [])))))) (C1.seq (G (t:=(f xs::(f ys::(Ac 2 (m 0::(Ac 36 [])))))) D9 300 [] [0,1,4] a0) (C1.seq (G (t:=(f xs::(f ys::(Ac 2 (m 0::(Ac 1 (f xs::(m (xs.length:Int)::(f ys::(m (ys.length:Int)::(A9j (F ((xs.length:Int) != (ys.length:Int)))::(Ac 30 [])))))))))))) D9 300 [.b false] [0,1,4,6,7,8,9,10] (T (show ((xs.length:Int) != (ys.length:Int))=false from h) a0)) (A8 (C1.seq (G (t:=(f xs::(f ys::(Ac 2 (m 0::(m (I O ((xs.length:Int)-1))::(Ac 35 []))))))) D9 300 [] [0,1,4,5] a0) (Ct hl)) (by nofun))))
theorem IW{xs ys:LI}(hx:Ft xs)(hy:Ft ys)(h:xs.length<ys.length):Ab xs<Ab ys:=by
 have h1:=DJ hx.1;have h2:=Pi hy (by intro e;rw[e] at h;simp at h);have:=Gj (show xs.length<=ys.length-1 by omega);omega
theorem Ow{xs ys:LI}(hx:Ft xs)(hy:Ft ys)(hN:xs.length<=1048576):RQ 134 [Y W xs,Y W ys] (D O (CR (Ab xs) (Ab ys))):=by
 by_cases hl:xs.length=ys.length
 ·have h:((xs.length:Int) != (ys.length:Int))=false:=by rw[hl];simp
  have hg:=Y4 hx.1 hy.1 xs.length (Ap _) (by omega);rw[EE,hl,EE,<- hl] at hg;have e1:I O ((xs.length:Int)-1)=(xs.length:Int)-1:=Bl (by omega) (by omega);rcases zG xs ys hN hl xs.length (Ap _) with ⟨k1,k2⟩ | ⟨k1,j,k2⟩
  ·rw[<- hg,k1];exact eE xs ys h (by rw[e1];exact k2)
  ·rw[<- hg];exact eF xs ys _ j h (by rw[e1];exact k2)
 ·have h:((xs.length:Int) != (ys.length:Int))=true:=by simp;omega
  by_cases hlt:xs.length<ys.length
  ·have e:CR (Ab xs) (Ab ys) = -1:=by unfold CR;rw[if_pos (IW hx hy hlt)]
   rw[e];exact eA xs ys h (by simp;omega)
  ·have:=IW hy hx (by omega);have e:CR (Ab xs) (Ab ys)=1:=by unfold CR;rw[if_neg (by omega),if_pos this]
   rw[e];exact eB xs ys h (by simp;omega)
theorem ZT(n:Nat):A9l (M n)=M n:=by
 have:=IV (Cl n).1;rw[this,Cx,R]
theorem Q9{n:Nat}(hN:(M n).length<=1048576):RQ 99 [H (M n).length (W (M n))] (L 1 (M n).length (W (M n))):=by
 have:=Eh (Bx hN (by decide));rwa [ZT] at this
def ZU(neg:Bool)(m:Nat):AV :=
 match (((M m).length:Nat):Int)==0 with
 | true=>(D O 0)
 | false=>(match neg with
 | true=>(D O (-1))
 | false=>(D O 1))
theorem A1z(neg:Bool)(m:Nat)(hN:(M m).length<=1048576):RQ 79 [o [F neg,H ((M m).length) (W (M m))]] (ZU neg m):=by
 unfold ZU;cases c1:((((M m).length:Nat):Int)==0)
 ·cases neg
  ·exact B1 (r := D O 1) (ps:=[RQ 99 [H ((M m).length) (W (M m))] (L 1 ((M m).length) (W (M m))),((((M m).length:Nat):Int)==0)=false,false=false]) D9 rfl 300 rfl [.r (L 1 ((M m).length) (W (M m))),.b false,.b false] (by kernel_rfl) ⟨(Q9 hN),c1,rfl,trivial⟩
  ·exact B1 (r := D O (-1)) (ps:=[RQ 99 [H ((M m).length) (W (M m))] (L 1 ((M m).length) (W (M m))),((((M m).length:Nat):Int)==0)=false,true=true]) D9 rfl 300 rfl [.r (L 1 ((M m).length) (W (M m))),.b false,.b true] (by kernel_rfl) ⟨(Q9 hN),c1,rfl,trivial⟩
 ·exact B1 (r := D O 0) (ps:=[RQ 99 [H ((M m).length) (W (M m))] (L 1 ((M m).length) (W (M m))),((((M m).length:Nat):Int)==0)=true]) D9 rfl 300 rfl [.r (L 1 ((M m).length) (W (M m))),.b true] (by kernel_rfl) ⟨(Q9 hN),c1,trivial⟩
def eG(neg:Bool)(m:Nat):Int:=if m=0 then 0 else if neg then -1 else 1
theorem zH{neg:Bool}{m:Nat}(hN:(M m).length<=1048576):RQ 79 [o [F neg,H (M m).length (W (M m))]] (D O (eG neg m)):=by
 have h:=A1z neg m hN;have e:ZU neg m = D O (eG neg m):=by
  unfold ZU eG;have hz:(M m).length=0↔m=0:=by rw[UH,IU]
  by_cases h0:m=0
  ·have e1:((((M m).length:Nat):Int)==0)=true:=by rw[beq_iff_eq];omega
   rw[e1,if_pos h0]
  ·have e1:((((M m).length:Nat):Int)==0)=false:=by rw[beq_eq_false_iff_ne];omega
   rw[e1,if_neg h0];cases neg <;> rfl
 rw[<- e];exact h
theorem Aqu(n:Int):eG (A9i (n<0)) n.natAbs=BS n:=by
 unfold eG BS;by_cases h0:n=0
 ·subst h0;rfl
 ·rw[if_neg (by omega)];by_cases h1:n<0
  ·simp[h1]
  ·have h2:0<n:=by omega
   simp[h1,h2]
theorem Y5{n:Int}(hN:(M n.natAbs).length<=1048576):RQ 79 [Ag n] (D O (BS n)):=by
 have:=zH (neg:=decide (n<0)) hN;rwa [Aqu] at this
def TBB:Cw:=TBA
theorem Ez:Ch AZ TBB:=D9
def L0(la:Nat)(xa:List AV)(lb:Nat)(bs:List AV)(n:Nat)(cs:List AV)(i:Int):Al:=(A9j (H la xa)::(A9j (H lb bs)::(Ac 2 (A9n 1 0 []::(A9n 1 n cs::(A9j (D O i)::(Ac 59 [])))))))
def L1(la:Nat)(xa:List AV)(lb:Nat)(bs:List AV)(n:Nat)(cs:List AV)(i c k:Int):Al:=(A9j (H la xa)::(A9j (H lb bs)::(Ac 2 (A9n 1 0 []::(A9n 1 n cs::(A9j (D O i)::(A9j (D B c)::(A9j (D O k)::(Ac 57 [])))))))))
theorem zI(la:Nat)(xa:List AV)(lb:Nat)(bs:List AV)(n:Nat)(cs ds:List AV)(i c k x y z:Int)(c1:A9i (k<(lb:Int))=true)(n1:0<=(I O (i+k))/\(I O (i+k))<(n:Int))(n2:Bv cs (A (I O (i+k))*1) 1 true=some (D Ad z))(n3:0<=i/\i<(la:Int))(n4:Bv (A9v (A i*1) xa) 0 1 true=some (D Ad x))(n5:0<=k/\k<(lb:Int))(n6:Bv (A9v (A k*1) bs) 0 1 true=some (D Ad y))(n7:0<=(I O (i+k))/\(I O (i+k))<(n:Int))(n8:C6 cs (A (I O (i+k))*1) [D Ad (I Ad (I B (c+(I B ((I B z)+(I B ((I B x)*(I B y))))))))]=some ds):Ar Rl (L1 la xa lb bs n cs i c k) .norm (L1 la xa lb bs n ds i (A9q (I B (c+(I B ((I B z)+(I B ((I B x)*(I B y))))))) (2^(min (A 32) (An .u64)))) (I O (k+1))):=G Ez 300 [.b true,.v (D Ad z),.v (D Ad x),.v (D Ad y),.l ds] [0,1,4,5,6,7,8] (T c1 (T n1 (T n2 (T n3 (T n4 (T n5 (T n6 (T n7 (T n8 (T It a0)))))))))) (by kernel_rfl)
theorem zJ(la:Nat)(xa:List AV)(lb:Nat)(bs:List AV)(n:Nat)(cs:List AV)(i c k:Int)(c1:A9i (k<(lb:Int))=false):Ar Rl (L1 la xa lb bs n cs i c k) (.exit 2) (L1 la xa lb bs n cs i c k):=G Ez 300 [.b false] [0,1,4,5,6,7,8] (T c1 a0) (by kernel_rfl)
theorem mL(la:Nat)(xa:List AV)(lb:Nat)(bs:List AV)(n:Nat)(cs:List AV)(i:Int)(h:(A9i (i<(la:Int)))=false):Ar Rm (L0 la xa lb bs n cs i) (.exit 0) (L0 la xa lb bs n cs i):=G Ez 300 [.b false] [0,1,4,5,6] (T (show (A9i (i<(la:Int)))=false from h) a0) (by kernel_rfl)
theorem eH(la:Nat)(xa:List AV)(lb:Nat)(bs:List AV)(n:Nat)(cs ds es:List AV)(i c k:Int)(h:(A9i (i<(la:Int)))=true)(hl:Ar (.loop Rl) (L1 la xa lb bs n cs i 0 0) (.exit 2) (L1 la xa lb bs n ds i c k))(hix:0<=I O (i+(lb:Int))/\I O (i+(lb:Int))<(n:Int))(hst:C6 ds (A (I O (i+(lb:Int)))*1) [D Ad (I Ad c)]=some es):Ar Rm (L0 la xa lb bs n cs i) .norm (L0 la xa lb bs n es (I O (i+1))):=(C1.seq (G (t:=(A9j (H la xa)::(A9j (H lb bs)::(Ac 2 (A9n 1 0 []::(A9n 1 n cs::(m i::(Ac 8 (m i::(A9j (H la xa)::(m (la:Int)::(A9j (F (A9i (i<(la:Int))))::(Ac 47 []))))))))))))) Ez 300 [.b true] [0,1,4,5,6,15,16,17,18] (T (show (A9i (i<(la:Int)))=true from h) a0)) (C1.seq (B_ (C1.seq (G (t:=(A9j (H la xa)::(A9j (H lb bs)::(Ac 2 (A9n 1 0 []::(A9n 1 n cs::(m i::(A9j (D B 0)::(Ac 7 (m i::(A9j (H la xa)::(m (la:Int)::(A9j (F (A9i (i<(la:Int))))::(Ac 47 [])))))))))))))) Ez 300 [] [0,1,4,5,6,7,15,16,17,18] a0) (C1.seq (C1.seq (G (t:=(A9j (H la xa)::(A9j (H lb bs)::(Ac 2 (A9n 1 0 []::(A9n 1 n cs::(m i::(A9j (D B 0)::(m 0::(Ac 57 [])))))))))) Ez 300 [] [0,1,4,5,6,7,8] a0) (C1.block hl)) (G (t:=(A9j (H la xa)::(A9j (H lb bs)::(Ac 2 (A9n 1 0 []::(A9n 1 n es::(m i::(A9j (D B c)::(m k::(Ac 48 (.dup 5::(m i::(A9j (H lb bs)::(m (lb:Int)::(m (I O (i+(lb:Int)))::(A9j (D B c)::(A9j (D Ad (I Ad c))::(.ptr 5 (A (I O (i+(lb:Int)))*1)::(Ac 1 []))))))))))))))))))) Ez 300 [.l es] [0,1,4,5,6,7,8,57,58,59,60,61,62,63,64] (T (show 0<=(I O (i+(lb:Int)))/\(I O (i+(lb:Int)))<(n:Int) from hix) (T (show C6 ds (A (I O (i+(lb:Int)))*1) [D Ad (I Ad c)]=some es from hst) a0)))))) (G (t:=(A9j (H la xa)::(A9j (H lb bs)::(Ac 2 (A9n 1 0 []::(A9n 1 n es::(m (I O (i+1))::(Ac 59 [])))))))) Ez 300 [] [0,1,4,5,6] a0)))
def HA(a:Int)(bs:LI)(i:Nat):Nat->Nat->LI->Int->LI × Int
 | 0,_,out,c=>(out,c)
 | r+1,k,out,c=>HA a bs i r (k+1) (out.set (i+k) ((c+(out.getD (i+k) 0+a*bs.getD k 0)) % 4294967296)) ((c+(out.getD (i+k) 0+a*bs.getD k 0)) / 4294967296)
theorem Wk{a b c o:Int}(ha:0<=a/\a<4294967296)(hb:0<=b/\b<4294967296)(hc:0<=c/\c<4294967296)(ho:0<=o/\o<4294967296) :
  0<=a*b/\a*b<=18446744065119617025/\0<=c+(o+a*b)/\c+(o+a*b)<18446744073709551616:=by
 have h1:=A6 ha.1 hb.1;have h2:a*b<=4294967295*4294967295:=Eb (by omega) (by omega) hb.1 (by omega);omega
theorem M'{xs:LI}{i j:Nat}{v:Int}(h:i ≠ j):(xs.set i v).getD j 0=xs.getD j 0:=by
 simp only[Z,FN h]
theorem Y6{a:Int}{bs:LI}{i:Nat}(ha:0<=a/\a<4294967296)(hb:AP bs):∀ (r k:Nat) (out:LI) (c:Int),r+k=bs.length->i+bs.length<=out.length->AP out->0<=c/\c<4294967296 ->
  (HA a bs i r k out c).1.length=out.length/\AP (HA a bs i r k out c).1/\(0<=(HA a bs i r k out c).2/\(HA a bs i r k out c).2<4294967296) /\
  Ab (HA a bs i r k out c).1+4294967296^(i+bs.length)*(HA a bs i r k out c).2=Ab out+4294967296^(i+k)*(c+a*Ab (bs.drop k)) /\
  ∀ j,i+bs.length<=j->(HA a bs i r k out c).1.getD j 0=out.getD j 0:=by
 intro r;induction r with
 | zero =>
  intro k out c hk _ hu hc;have hk':k=bs.length:=by omega
  subst hk';refine⟨rfl,hu,hc,?_,fun _ _=>rfl⟩;simp[HA,Ab]
 | succ r ih =>
  intro k out c hk hl hu hc;have hbk:=AG hb k;have hok:=AG hu (i+k);obtain⟨w1,w2,w3,w4⟩:=Wk ha hbk hc hok;have hlt:i+k<out.length:=by omega
  simp only[HA];generalize hW:c+(out.getD (i+k) 0+a*bs.getD k 0)=W at *
  have hm:0<=W % 4294967296/\W % 4294967296<4294967296:=by omega
  obtain⟨g1,g2,g3,g4,g5⟩:=ih (k+1) (out.set (i+k) (W % 4294967296)) (W / 4294967296) (by omega) (by simpa using hl) (C2 hu hm) (by omega);refine⟨by simpa using g1,g2,g3,?_,fun j hj => ?_⟩
  ·rw[g4,DP out (i+k) _ hlt];have hd:Ab (bs.drop k)=bs.getD k 0+4294967296*Ab (bs.drop (k+1)):=by
    rw[Df (show k<bs.length by omega)];simp[Ab,Z,Ah (show k<bs.length by omega)]
   rw[hd];have hp:(4294967296:Int)^(i+(k+1))=4294967296^(i+k)*4294967296:=by rw[<- DE,A2]
   rw[hp];generalize (4294967296:Int)^(i+k)=p at *
   generalize Ab (bs.drop (k+1))=V at *
   have e1:W=4294967296*(W / 4294967296)+W % 4294967296:=by omega
   have e2:c=W-out.getD (i+k) 0-a*bs.getD k 0:=by omega
   rw[e2];generalize W / 4294967296=q at *
   generalize W % 4294967296=m at *
   generalize out.getD (i+k) 0=o at *
   generalize bs.getD k 0=b at *
   subst e1;grind
  ·rw[g5 j hj,M' (by omega)]
theorem mM(xa bs:LI)(ha:AP xa)(hb:AP bs)(n i:Nat)(hn:n<=1048576)(hi:i<xa.length)(hib:i+bs.length<=n):∀ (r k:Nat) (out:LI) (c:Int),r+k=bs.length->out.length=n->AP out->0<=c/\c<4294967296 ->
  Ar (.loop Rl) (L1 xa.length (W xa) bs.length (W bs) n (W out) (i:Int) c (k:Int)) (.exit 2)
   (L1 xa.length (W xa) bs.length (W bs) n (W (HA (xa.getD i 0) bs i r k out c).1) (i:Int) (HA (xa.getD i 0) bs i r k out c).2 (bs.length:Int)):=by
 intro r;induction r with
 | zero =>
  intro k out c hk _ _ _;have hk':k=bs.length:=by omega
  subst hk';exact Ao (zJ xa.length (W xa) bs.length (W bs) n (W out) (i:Int) c (bs.length:Int) (by simp)) (by nofun)
 | succ r ih =>
  intro k out c hk hl hu hc;have hai:=AG ha i;have hbk:=AG hb k;have hok:=AG hu (i+k);obtain⟨w1,w2,w3,w4⟩:=Wk hai hbk hc hok;have ei:I O ((i:Int)+(k:Int))=((i+k:Nat):Int):=by rw[Bl (by omega) (by omega)];omega
  have ek:I O ((k:Int)+1)=((k+1:Nat):Int):=by rw[Bl (by omega) (by omega)];omega
  have hz:=Wh (xs:=out) (i:=i+k) (by omega);have hx:=Eg (xs:=xa) (i:=i) hi;have hy:=Eg (xs:=bs) (i:=k) (by omega);have hst:=I3 (xs:=out) (i:=i+k) (v:=(c+(out.getD (i+k) 0+xa.getD i 0*bs.getD k 0)) % 4294967296) (by omega);have eW:I B (c+I B (I B (out.getD (i+k) 0)+I B (I B (xa.getD i 0)*I B (bs.getD k 0))))=c+(out.getD (i+k) 0+xa.getD i 0*bs.getD k 0):=by
   have q1:I B (xa.getD i 0)=xa.getD i 0:=by rw[BF];omega
   have q2:I B (bs.getD k 0)=bs.getD k 0:=by rw[BF];omega
   have q3:I B (out.getD (i+k) 0)=out.getD (i+k) 0:=by rw[BF];omega
   rw[q1,q2,q3,BF,BF,BF];omega
  have eS:A9q (c+(out.getD (i+k) 0+xa.getD i 0*bs.getD k 0)) (2^(min (A 32) (An .u64)))=(c+(out.getD (i+k) 0+xa.getD i 0*bs.getD k 0)) / 4294967296:=by
   show A9q _ 4294967296=_;rw[AAg _ (by omega)]
  have h1:=zI xa.length (W xa) bs.length (W bs) n (W out) (W (out.set (i+k) ((c+(out.getD (i+k) 0+xa.getD i 0*bs.getD k 0)) % 4294967296))) (i:Int) c (k:Int) (xa.getD i 0) (bs.getD k 0) (out.getD (i+k) 0)
   (by simp;omega) (by rw[ei];omega) (by rw[ei,R];exact hz) (by omega) (by rw[R];exact hx) (by omega) (by rw[R];exact hy) (by rw[ei];omega) (by rw[ei,R,eW,DW];exact hst)
  rw[eW,eS,ek] at h1;exact C1.loop h1 (ih (k+1) _ _ (by omega) (by simpa using hl) (C2 hu (by omega)) (by omega))
theorem mN(xa bs:LI)(ha:AP xa)(hb:AP bs)(hN:xa.length+bs.length<=1048576):∀ (r i:Nat) (out:LI),r+i=xa.length->out.length=xa.length+bs.length->AP out->(∀ j,i+bs.length<=j->out.getD j 0=0) ->
  ∃ out',out'.length=xa.length+bs.length/\AP out'/\Ab out'=Ab out+4294967296^i*(Ab (xa.drop i)*Ab bs) /\
   Ar (.loop Rm) (L0 xa.length (W xa) bs.length (W bs) (xa.length+bs.length) (W out) (i:Int)) (.exit 0) (L0 xa.length (W xa) bs.length (W bs) (xa.length+bs.length) (W out') (xa.length:Int)):=by
 intro r;induction r with
 | zero =>
  intro i out hi hl hu _;have hi':i=xa.length:=by omega
  subst hi';refine⟨out,hl,hu,by simp[Ab],?_⟩;exact Ao (mL xa.length (W xa) bs.length (W bs) (xa.length+bs.length) (W out) (xa.length:Int) (by simp)) (by nofun)
 | succ r ih =>
  intro i out hi hl hu hz;have hai:=AG ha i;have hlt:i<xa.length:=by omega
  have hin:=mM xa bs ha hb (xa.length+bs.length) i hN hlt (by omega) bs.length 0 out 0 (by omega) hl hu (by omega);obtain⟨g1,g2,g3,g4,g5⟩:=Y6 (i:=i) hai hb bs.length 0 out 0 (by omega) (by omega) hu (by omega);generalize HA (xa.getD i 0) bs i bs.length 0 out 0=q at *
  obtain⟨ds,c⟩:=q;dsimp only at g1 g2 g3 g4 g5 hin;have ei:I O ((i:Int)+(bs.length:Int))=((i+bs.length:Nat):Int):=by rw[Bl (by omega) (by omega)];omega
  have ei1:I O ((i:Int)+1)=((i+1:Nat):Int):=by rw[Bl (by omega) (by omega)];omega
  have ec:I Ad c=c:=by rw[DW];omega
  have hst:=I3 (xs:=ds) (i:=i+bs.length) (v:=c) (by omega);have h1:=eH xa.length (W xa) bs.length (W bs) (xa.length+bs.length) (W out) (W ds) (W (ds.set (i+bs.length) c)) (i:Int) c (bs.length:Int) (by simp;omega) hin (by rw[ei];omega) (by rw[ei,R,ec];exact hst);rw[ei1] at h1;obtain⟨out',k1,k2,k3,k4⟩:=ih (i+1) (ds.set (i+bs.length) c) (by omega) (by simp;omega) (C2 g2 g3) (fun j hj=>by rw[M' (by omega),g5 j (by omega),hz j (by omega)]);refine⟨out',k1,k2,?_,C1.loop h1 k4⟩;have hv:Ab (ds.set (i+bs.length) c)=Ab out+4294967296^i*(xa.getD i 0*Ab bs):=by
   rw[DP ds _ _ (by omega),g5 _ (Ap _),hz _ (Ap _)];simp only[FP,EZ,DL,EU] at g4 |-;exact g4
  have hd:Ab (xa.drop i)=xa.getD i 0+4294967296*Ab (xa.drop (i+1)):=by
   rw[Df hlt];simp[Ab,Z,Ah hlt]
  rw[k3,hv,hd,A2];generalize (4294967296:Int)^i=p at *
  generalize Ab (xa.drop (i+1))=V at *
  grind
theorem eI{xa bs:LI}(ha:AP xa)(hb:AP bs)(hN:xa.length+bs.length<=1048576) :
  ∃ out,out.length=xa.length+bs.length/\AP out/\Ab out=Ab xa*Ab bs/\RQ 146 [Y W xa,Y W bs] (L 1 out.length (W out)):=by
 have en:I O ((xa.length:Int)+(bs.length:Int))=((xa.length+bs.length:Nat):Int):=by rw[Bl (by omega) (by omega)];omega
 have eN:(A (I O ((xa.length:Int)+(bs.length:Int))))=xa.length+bs.length:=by rw[en,R]
 obtain⟨out,h1,h2,h3,h4⟩:=mN xa bs ha hb hN xa.length 0 (At (xa.length+bs.length) 0) (by omega) (by simp) (fun x hx=>by rw[Ayy hx];omega) (fun j _=>by simp[Z,Lj];split <;> rfl);refine⟨out,h1,h2,?_,?_⟩
 ·rw[h3,ED];simp
 have hmk:0<=I O ((xa.length:Int)+(bs.length:Int))/\I O ((xa.length:Int)+(bs.length:Int))<=1048576:=by rw[en];omega
 have hl:Ar (.loop Rm) (L0 xa.length (W xa) bs.length (W bs) (A (I O ((xa.length:Int)+(bs.length:Int)))) (Cz [D Ad 0] (A (I O ((xa.length:Int)+(bs.length:Int))))) 0) (.exit 0) (L0 xa.length (W xa) bs.length (W bs) (A (I O ((xa.length:Int)+(bs.length:Int)))) (W out) (xa.length:Int)):=by
  rw[eN,EY];exact h4
 have:=Oo (prog:=AZ) (f:=146) (args:=[Y W xa,Y W bs]) (r := L 1 (A (I O ((xa.length:Int)+(bs.length:Int)))) (W out)) (fn:=VE) (s:=(A9j (Y W xa)::(A9j (Y W bs)::(Ac 2 (A9n 1 (A (I O ((xa.length:Int)+(bs.length:Int)))) (W out)::(Ac 1 (A9j (D O (xa.length:Int))::(Ac 59 [])))))))) (ex := .ret) rfl rfl
  (C1.seq (DV (t:=(A9j (Y W xa)::(A9j (Y W bs)::(Ac 2 (A9n 1 0 []::(Ac 61 [])))))) (ex := .norm) (ps:=[]) Ez 300 [] [0,1,4] (by kernel_rfl) trivial)
  (C1.seq (DV (t:=(A9j (Y W xa)::(A9j (Y W bs)::(Ac 2 (A9n 1 0 []::(A9n 1 (A (I O ((xa.length:Int)+(bs.length:Int)))) (Cz [D Ad 0] (A (I O ((xa.length:Int)+(bs.length:Int)))))::(Ac 3 (A9j (Y W xa)::(A9j (D O (xa.length:Int))::(A9j (Y W bs)::(A9j (D O (bs.length:Int))::(A9j (D O (I O ((xa.length:Int)+(bs.length:Int))))::(Ac 52 []))))))))))))) (ex := .norm) (ps:=[0<=(I O ((xa.length:Int)+(bs.length:Int)))/\(I O ((xa.length:Int)+(bs.length:Int)))<=1048576]) Ez 300 [] [0,1,4,5,9,10,11,12,13] (by kernel_rfl) ⟨hmk,trivial⟩)
  (C1.seq (C1.seq (DV (t:=(A9j (Y W xa)::(A9j (Y W bs)::(Ac 2 (A9n 1 0 []::(A9n 1 (A (I O ((xa.length:Int)+(bs.length:Int)))) (Cz [D Ad 0] (A (I O ((xa.length:Int)+(bs.length:Int)))))::(A9j (D O 0)::(Ac 59 [])))))))) (ex := .norm) (ps:=[]) Ez 300 [] [0,1,4,5,6] (by kernel_rfl) trivial)
  (C1.block hl))
  (DV (t:=(A9j (Y W xa)::(A9j (Y W bs)::(Ac 2 (A9n 1 (A (I O ((xa.length:Int)+(bs.length:Int)))) (W out)::(Ac 1 (A9j (D O (xa.length:Int))::(Ac 59 [])))))))) (ex := .ret) (ps:=[]) Ez 300 [] [0,1,4,6] (by kernel_rfl) trivial)))) (by nofun) rfl
 rw[eN,<- h1] at this;exact this
def TBC:Cw:=TBB
theorem CB:Ch AZ TBC:=Ez
end Go.Proofs.YtajompaehjkgkaaGreat
namespace Go.Ai
open Bool renaming false_eq_true->Cj
open Decidable renaming decide->A9i
open Int renaming le_of_dvd->A7h,lt_trichotomy->IH,mul_add->CT,mul_eq_zero->Hs,mul_neg->E5,mul_one->De,natAbs->E,pow_succ->A2,pow_zero->Da,sub_zero->EU,toNat->A,zero_add->DL
open List renaming all->tC,all_cons->Ayk,all_eq_true->BY,drop->A9v,drop_eq_getElem_cons->Df,drop_zero->EZ,eq_nil_of_length_eq_zero->A7,eq_of_mem_replicate->Ayy,ext_getElem->Zx,flatMap_cons->Xz,getD_cons_succ->Ks,getD_cons_zero->Jj,getD_eq_getElem?_getD->Z,getElem?_append_right->AT,getElem?_drop->Bw,getElem?_eq_getElem->Ah,getElem?_eq_none->AD,getElem?_map->CL,getElem?_replicate->Lj,getElem?_set_ne->FN,length_append->Bf,length_cons->Bz,length_drop->Es,length_nil->JQ,map_append->Ep,map_map->Aza,map_take->Sh,mem_cons->D4,mem_map->Ec,mem_of_getElem?->Tq,mem_of_mem_take->C5,mem_range->LO,not_mem_nil->Uo,range->Aq,range_succ->H3,replicate->At,replicate_succ->Gg,set_append_right->A7u,set_cons_succ->A9b,set_cons_zero->A9a,set_eq_take_append_cons_drop->sZ,take->BD
open Nat renaming add_assoc->DE,add_comm->GF,add_mul->DY,add_zero->FP,le_refl->Ap,le_trans->Bx,lt_or_ge->Cn,mul_one->GI,one_mul->Fe,pow_pos->C9,zero_add->Cs,zero_le->By
theorem CA:∀ (xs:LI) (i:Nat),Ab (xs.drop i)=xs.getD i 0+4294967296*Ab (xs.drop (i+1))
 | [],i=>by simp[Ab]
 | x::xs,0=>by simp[Ab]
 | x::xs,i+1=>by
  have:=CA xs i;simpa using this
theorem Cy{xs:LI}{i j:Nat}{v:Int}(h:i ≠ j):(xs.set i v).getD j 0=xs.getD j 0:=by
 simp only[Z,FN h]
theorem B0{xs:LI}{i:Nat}(h:xs.length<=i):xs.getD i 0=0:=by
 simp[Z,AD h]
theorem DQ{xs:LI}{i:Nat}(h:xs.length<=i):Ab (xs.drop i)=0:=by
 rw[List.drop_eq_nil_of_le h];rfl
def I4(xs ys:LI):Nat->Nat->LI->Int->LI × Int
 | 0,_,o,c=>(o,c)
 | r+1,i,o,c=>I4 xs ys r (i+1) (o.set i ((xs.getD i 0+c+ys.getD i 0) % 4294967296)) ((xs.getD i 0+c+ys.getD i 0) / 4294967296)
theorem zK{xs ys:LI}(hx:AP xs)(hy:AP ys)(hl:ys.length<=xs.length):∀ (r i:Nat) (o:LI) (c:Int),r+i=xs.length->xs.length<o.length->AP o->0<=c/\c<=1->(∀ j,i<=j->o.getD j 0=0) ->
  (I4 xs ys r i o c).1.length=o.length/\AP (I4 xs ys r i o c).1/\(0<=(I4 xs ys r i o c).2/\(I4 xs ys r i o c).2<=1) /\
  Ab (I4 xs ys r i o c).1+4294967296^xs.length*(I4 xs ys r i o c).2=Ab o+4294967296^i*(c+Ab (xs.drop i)+Ab (ys.drop i)) /\
  ∀ j,xs.length<=j->(I4 xs ys r i o c).1.getD j 0=0:=by
 intro r;induction r with
 | zero =>
  intro i o c hi _ hu hc hz;have hi':i=xs.length:=by omega
  subst hi';refine⟨rfl,hu,hc,?_,fun j hj=>hz j hj⟩;rw[DQ (Ap _),DQ hl];simp[I4]
 | succ r ih =>
  intro i o c hi hlo hu hc hz;have h1:=AG hx i;have h2:=AG hy i;simp only[I4];have ex:=CA xs i;have ey:=CA ys i;have hoz:=hz i (Ap _);generalize hW:xs.getD i 0+c+ys.getD i 0=W at *
  have hm:0<=W % 4294967296/\W % 4294967296<4294967296:=by omega
  obtain⟨g1,g2,g3,g4,g5⟩:=ih (i+1) (o.set i (W % 4294967296)) (W / 4294967296) (by omega) (by simpa using hlo) (C2 hu hm) (by omega) (fun j hj=>by rw[Cy (by omega)];exact hz j (by omega));refine⟨by simpa using g1,g2,g3,?_,g5⟩;rw[g4,DP o i _ (by omega),ex,ey,hoz,A2];generalize (4294967296:Int)^i=p at *
  generalize Ab (xs.drop (i+1))=V at *
  generalize Ab (ys.drop (i+1))=U at *
  have e1:W=4294967296*(W / 4294967296)+W % 4294967296:=by omega
  have e2:c=W-xs.getD i 0-ys.getD i 0:=by omega
  rw[e2];generalize W / 4294967296=q at *
  generalize W % 4294967296=m at *
  generalize xs.getD i 0=a at *
  generalize ys.getD i 0=b at *
  subst e1;grind
def IX(xs ys:LI):Nat->Nat->LI->Int->LI × Int
 | 0,_,o,c=>(o,c)
 | r+1,i,o,c=>IX xs ys r (i+1) (o.set i ((xs.getD i 0-c-ys.getD i 0) % 4294967296)) (-((xs.getD i 0-c-ys.getD i 0) / 4294967296))
theorem zL{xs ys:LI}(hx:AP xs)(hy:AP ys)(hl:ys.length<=xs.length):∀ (r i:Nat) (o:LI) (c:Int),r+i=xs.length->xs.length<=o.length->AP o->0<=c/\c<=1->(∀ j,i<=j->o.getD j 0=0) ->
  (IX xs ys r i o c).1.length=o.length/\AP (IX xs ys r i o c).1/\(0<=(IX xs ys r i o c).2/\(IX xs ys r i o c).2<=1) /\
  Ab (IX xs ys r i o c).1=Ab o+4294967296^i*(Ab (xs.drop i)-Ab (ys.drop i)-c)+4294967296^xs.length*(IX xs ys r i o c).2:=by
 intro r;induction r with
 | zero =>
  intro i o c hi _ hu hc hz;have hi':i=xs.length:=by omega
  subst hi';refine⟨rfl,hu,hc,?_⟩;rw[DQ (Ap _),DQ hl];simp only[IX];generalize (4294967296:Int)^xs.length=p;grind
 | succ r ih =>
  intro i o c hi hlo hu hc hz;have h1:=AG hx i;have h2:=AG hy i;simp only[IX];have ex:=CA xs i;have ey:=CA ys i;have hoz:=hz i (Ap _);generalize hW:xs.getD i 0-c-ys.getD i 0=W at *
  have hm:0<=W % 4294967296/\W % 4294967296<4294967296:=by omega
  obtain⟨g1,g2,g3,g4⟩:=ih (i+1) (o.set i (W % 4294967296)) (-(W / 4294967296)) (by omega) (by simpa using hlo) (C2 hu hm) (by omega) (fun j hj=>by rw[Cy (by omega)];exact hz j (by omega));refine⟨by simpa using g1,g2,g3,?_⟩;rw[g4,DP o i _ (by omega),ex,ey,hoz,A2];generalize (4294967296:Int)^i=p at *
  generalize Ab (xs.drop (i+1))=V at *
  generalize Ab (ys.drop (i+1))=U at *
  have e1:W=4294967296*(W / 4294967296)+W % 4294967296:=by omega
  have e2:c=xs.getD i 0-ys.getD i 0-W:=by omega
  rw[e2];generalize W / 4294967296=q at *
  generalize W % 4294967296=m at *
  generalize xs.getD i 0=a at *
  generalize ys.getD i 0=b at *
  subst e1;grind
theorem DA(n j:Nat):(At n (0:Int)).getD j 0=0:=by
 simp[Z,Lj];split <;> rfl
theorem EN(n:Nat):AP (At n 0):=fun x hx=>by rw [Ayy hx];omega
theorem mO{xs ys:LI}(hx:AP xs)(hy:AP ys)(hl:ys.length<=xs.length)(o:LI)(c:Int)(e:I4 xs ys xs.length 0 (At (xs.length+1) 0) 0=(o,c)) :
  o.length=xs.length+1/\AP o/\(0<=c/\c<=1)/\AP (o.set xs.length c)/\Ab (o.set xs.length c)=Ab xs+Ab ys:=by
 obtain⟨g1,g2,g3,g4,g5⟩:=zK hx hy hl xs.length 0 (At (xs.length+1) 0) 0 (by omega) (by simp) (EN _) (by omega) (fun j _=>DA _ j);rw[e] at g1 g2 g3 g4 g5;dsimp only at g1 g2 g3 g4 g5;have hlo:o.length=xs.length+1:=by simpa using g1
 refine⟨hlo,g2,g3,C2 g2 (by omega),?_⟩;rw[DP o _ _ (by omega),g5 _ (Ap _),EU,g4,ED];simp
theorem mP{xs ys:LI}(hx:AP xs)(hy:AP ys)(hl:ys.length<=xs.length)(hv:Ab ys<=Ab xs)(o:LI)(c:Int)(e:IX xs ys xs.length 0 (At xs.length 0) 0=(o,c)) :
  o.length=xs.length/\AP o/\Ab o=Ab xs-Ab ys:=by
 obtain⟨g1,g2,g3,g4⟩:=zL hx hy hl xs.length 0 (At xs.length 0) 0 (by omega) (by simp) (EN _) (by omega) (fun j _=>DA _ j);rw[e] at g1 g2 g3 g4;dsimp only at g1 g2 g3 g4;have hlo:o.length=xs.length:=by simpa using g1
 refine⟨hlo,g2,?_⟩;rw[ED] at g4;simp at g4;have h1:=DJ g2;rw[hlo] at h1;have hp:=C3 xs.length;rcases (show c=0\/c=1 by omega) with h | h
 ·rw[g4,h];simp
 ·rw[h,De] at g4;omega
abbrev Rn:=Bool × LI
def Q(r:Rn):Int:=v r.1 r.2
def V(n:Int):Rn:=(A9i (n<0),M n.natAbs)
def pc(rs:List Rn):List AV:=rs.flatMap fun r=>[.bool r.1,.sl r.2.length (W r.2)]
def P(rs:List Rn):LI:=rs.map Q
def pk(ps:LI):List AV:=pc (ps.map V)
def z0:Rn:=(false,[])
def AO(K:Nat)(r:Rn):Prop:=AP r.2/\r.2.length<=K
def Ay(r:Rn):AV := .agg [.bool r.1,.sl r.2.length (W r.2)]
theorem A9y(n:Int):Q (V n)=n:=F8 n
theorem Wl:Q z0=0:=rfl
theorem AJ(ps:LI):P (ps.map V)=ps:=by
 unfold P;rw[Aza];have:(Q ∘ V)=id:=funext A9y;rw[this,List.map_id]
theorem BL{k:Nat}{n:Int}(h:Br k n):AO k (V n):=⟨BR _,h.len⟩
theorem Mp(k:Nat):AO k z0:=⟨fun x hx=>(by cases hx),By _⟩
theorem AO.mono{j k:Nat}{r:Rn}(h:AO j r)(hk:j<=k):AO k r:=⟨h.1,Bx h.2 hk⟩
theorem AO.fits{k:Nat}{r:Rn}(h:AO k r):Br k (Q r):=(Wi h.1).mono h.2
theorem Wm(rs:List Rn):(pc rs).length=rs.length*2:=by
 induction rs with
 | nil=>rfl
 | cons r rs ih=>simp only[pc,Xz,Bf,Bz,JQ] at ih |-;omega
theorem Mq(r:Rn)(rs:List Rn):pc (r::rs) = .bool r.1 :: .sl r.2.length (W r.2)::pc rs:=rfl
theorem M_(rs ss:List Rn):pc (rs++ss)=pc rs++pc ss:=by simp [pc]
theorem Ry:∀ (i:Nat) (rs:List Rn),(pc rs).drop (i*2)=pc (rs.drop i)
 | 0,rs=>by simp
 | i+1,[]=>by simp[pc]
 | i+1,r::rs=>by
  rw[Mq,DY,Fe];show (pc rs).drop (i*2)=_;rw[Ry i rs];rfl
theorem eJ:∀ (i:Nat) (rs:List Rn),(pc rs).take (i*2)=pc (rs.take i)
 | 0,rs=>by simp[pc]
 | i+1,[]=>by simp[pc]
 | i+1,r::rs=>by
  rw[Mq,DY,Fe];show _::_::(pc rs).take (i*2)=_;rw[eJ i rs];rfl
theorem Ox{rs:List Rn}{i:Nat}(h:i<rs.length):Bv (A9v (i*2) (pc rs)) 0 2 false=some (Ay (rs.getD i z0)):=by
 rw[Ry,Df h,Mq];simp[Bv,Ay,Z,Ah h]
theorem A2a{rs:List Rn}{i:Nat}(h:i<rs.length):Bv (pc rs) (i*2) 2 false=some (Ay (rs.getD i z0)):=by
 have h1:=Ox h;have hl:=Wm rs;simp only[Bv,Cj,if_false,Cs,EZ,Es] at h1 |-;rw[if_pos (by omega)] at h1;rw[if_pos (by omega)];exact h1
theorem ZV{rs:List Rn}{i:Nat}{r:Rn}(h:i<rs.length):C6 (pc rs) (i*2) [.bool r.1,.sl r.2.length (W r.2)]=some (pc (rs.set i r)):=by
 have hl:=Wm rs;simp only[C6,Bz,JQ];rw[if_pos (by omega)];congr 1;have hs:rs.set i r=rs.take i++r::rs.drop (i+1):=by rw[sZ,if_pos h]
 rw[hs,M_,Mq,eJ];have:(pc rs).drop (i*2+(0+1+1))=pc (rs.drop (i+1)):=by rw[<- Ry];congr 1;omega
 simp only[Cs] at this;rw[this];simp
theorem Oy(n:Nat):Cz [.bool false,.sl 0 []] n=pc (At n z0):=by
 induction n with
 | zero=>rfl
 | succ n ih=>rw[Gg,Mq,<- ih];rfl
theorem uI(rs:List Rn):tC (pc rs) (fun c => !UI c)=true:=by
 rw[BY];intro c hc;simp only[pc,List.mem_flatMap,D4,Uo,or_false] at hc;obtain⟨r,_,rfl | rfl⟩:=hc <;> rfl
theorem Aqv(xs:LI):tC (W xs) UI=true:=by
 rw[BY];intro c hc;simp only[W,Ec] at hc;obtain⟨x,_,rfl⟩:=hc;rfl
theorem PO(n:Int):G9 (Ag n)=true:=by
 simp only[Ag,G9,Ayk,Me,Aqv,List.all_nil,Bool.and_self]
theorem A9z(rs:List Rn):(P rs).length=rs.length:=by simp [P]
theorem CO(rs:List Rn)(i:Nat):(P rs).getD i 0=Q (rs.getD i z0):=by
 simp only[P,Z,CL];cases rs[i]? <;> rfl
theorem Bk{K:Nat}{rs:List Rn}(h:∀ r∈rs,AO K r)(i:Nat):AO K (rs.getD i z0):=by
 rw[Z];cases e:rs[i]? with
 | none=>exact Mp K
 | some r=>exact h r (Tq e)
theorem Mr{k:Nat}{ps:LI}(h:∀ x∈ps,Br k x):∀ r∈ps.map V,AO k r:=fun r hr=>by
 obtain⟨x,hx,rfl⟩:=Ec.1 hr;exact BL (h x hx)
theorem CP{k:Nat}{rs:List Rn}(h:∀ r∈rs,AO k r):∀ x∈P rs,Br k x:=fun x hx=>by
 obtain⟨r,hr,rfl⟩:=Ec.1 hx;exact (h r hr).fits
theorem Y7{xs ys:LI}(h:∀ i,xs.getD i 0=ys.getD i 0):∀ n,A9r xs n=A9r ys n:=by
 intro n;induction n with
 | zero=>rfl
 | succ n ih=>simp only[A9r,h n,ih]
theorem Wn(xs:LI):∀ d,A9r xs (xs.length+d)=A9r xs xs.length:=by
 intro d;induction d with
 | zero=>rfl
 | succ d ih =>
  rw[<- DE];simp only[A9r];rw[B0 (by omega),if_pos rfl,ih]
theorem Dk(xs:LI)(i:Nat):(A9l xs).getD i 0=xs.getD i 0:=by
 unfold A9l;rcases Cn i (A9r xs xs.length) with h | h
 ·simp only[Z,List.getElem?_take,if_pos h]
 ·have e:(xs.take (A9r xs xs.length)).getD i 0=0:=B0 (by simp;omega);rw[e];rcases Cn i xs.length with h2 | h2
  ·exact (MX xs xs.length i h h2).symm
  ·exact (B0 h2).symm
theorem K6{xs ys:LI}(hl:xs.length=ys.length)(h:∀ i,xs.getD i 0=ys.getD i 0):xs=ys:=by
 apply Zx hl;intro i h1 h2;have:=h i;simpa [Z,Ah h1,Ah h2] using this
theorem E'{xs ys:LI}(h:∀ i,xs.getD i 0=ys.getD i 0):A9l xs=A9l ys:=by
 have hlen:(A9l xs).length=(A9l ys).length:=by
  have h1:∀ zs:LI,(A9l zs).length=A9r zs zs.length:=fun zs=>by have:=GX zs zs.length;simp[A9l];omega
  rw[h1,h1];rcases Nat.le_total xs.length ys.length with g | g
  ·have:=Wn xs (ys.length-xs.length);rw[show xs.length+(ys.length-xs.length)=ys.length by omega] at this;rw[<- this,Y7 h]
  ·have:=Wn ys (xs.length-ys.length);rw[show ys.length+(xs.length-ys.length)=xs.length by omega] at this;rw[<- this,Y7 h]
 refine K6 hlen fun i => ?_;rw[Dk,Dk,h i]
theorem F9(xs:LI):(A9l xs).length=A9r xs xs.length:=by have:=GX xs xs.length;simp [A9l];omega
theorem zM{xs:LI}{x:Int}(h:x∈A9l xs):x∈xs:=C5 h
theorem GY(xs:LI):A9l (A9l xs)=A9l xs:=E' (Dk xs)
def Aa:LI->Int->Int
 | [],_=>0
 | p::ps,x=>p+x*Aa ps x
theorem TD{xs:LI}(h:∀ i,xs.getD i 0=0)(x:Int):Aa xs x=0:=by
 induction xs with
 | nil=>rfl
 | cons p ps ih =>
  have h0:=h 0;simp at h0;have:=ih (fun i=>by simpa using h (i+1));simp[Aa,h0,this]
theorem Gu:∀ {xs ys:LI},(∀ i,xs.getD i 0=ys.getD i 0)->∀ x,Aa xs x=Aa ys x
 | [],ys,h,x=>(TD (fun i=>(h i).symm) x).symm
 | p::ps,[],h,x=>TD (fun i=>h i) x
 | p::ps,q::qs,h,x=>by
  have h0:=h 0;simp at h0;simp only[Aa,h0];rw[Gu (fun i=>by simpa using h (i+1)) x]
theorem Ei(xs:LI)(x:Int):Aa (A9l xs) x=Aa xs x:=Gu (Dk xs) x
def EH(g:Nat->Rn)(i r:Nat):List Rn:=(Aq i).map g++At r z0
theorem KS(g:Nat->Rn)(i r:Nat):(EH g i r).length=i+r:=by simp [EH]
theorem Na(g:Nat->Rn)(r:Nat):EH g 0 r=At r z0:=by simp [EH]
theorem Nb(g:Nat->Rn)(i:Nat):EH g i 0=(Aq i).map g:=by simp [EH]
theorem Oz(g:Nat->Rn)(i r:Nat):(EH g i (r+1)).set i (g i)=EH g (i+1) r:=by
 unfold EH;rw[A7u _ _ (by simp),H3,Ep,Gg];simp
theorem mQ(g:Nat->Rn)(i r:Nat):(EH g i (r+1)).getD i z0=z0:=by
 unfold EH;rw[Z,AT (by simp)];simp
theorem J7(g:Nat->Rn)(n i:Nat):(P ((Aq n).map g)).getD i 0=if i<n then Q (g i) else 0:=by
 rw[CO,Z];by_cases h:i<n
 ·simp[h]
 ·simp[h,Wl]
theorem SI(xs:LI):(Aq xs.length).map (fun i=>V (xs.getD i 0))=xs.map V:=by
 apply Zx (by simp);intro i h1 h2;have h3:i<xs.length:=by simpa using h2
 simp[Z,Ah h3]
theorem Nc{K:Nat}{g:Nat->Rn}{n:Nat}(h:∀ i,i<n->AO K (g i)):∀ r∈(Aq n).map g,AO K r:=fun r hr=>by
 obtain⟨i,hi,rfl⟩:=Ec.1 hr;exact h i (LO.1 hi)
theorem GZ(k:Nat):Br k 0:=by unfold Br;simp;exact C9 (by decide)
theorem Wo{k:Nat}{xs:LI}(h:∀ x∈xs,Br k x)(i:Nat):Br k (xs.getD i 0):=by
 rw[Z];cases e:xs[i]? with
 | none=>exact GZ k
 | some x=>exact h x (Tq e)
def DB(ps qs:LI):LI:=A9l ((Aq (max ps.length qs.length)).map fun i=>ps.getD i 0+qs.getD i 0)
def Ci(ps:LI):LI:=ps.map fun x => -x
theorem Dl(ps qs:LI)(i:Nat):(DB ps qs).getD i 0=ps.getD i 0+qs.getD i 0:=by
 unfold DB;rw[Dk,Z];by_cases h:i<max ps.length qs.length
 ·simp[h]
 ·have h1:ps.length<=i:=by omega
  have h2:qs.length<=i:=by omega
  rw[B0 h1,B0 h2];simp[h]
theorem G_(ps:LI)(i:Nat):(Ci ps).getD i 0 = -(ps.getD i 0):=by
 unfold Ci;simp only[Z,CL];cases ps[i]? <;> simp
theorem QA(ps qs:LI):A9l (DB ps qs)=DB ps qs:=GY _
theorem O0(xs:LI)(x:Int):Aa xs x=xs.getD 0 0+x*Aa (xs.drop 1) x:=by
 cases xs <;> simp[Aa]
theorem Us:∀ (n:Nat) (us bs cs:LI),us.length<=n->bs.length<=n->cs.length<=n->(∀ i,cs.getD i 0=us.getD i 0+bs.getD i 0)->∀ x,Aa cs x=Aa us x+Aa bs x:=by
 intro n;induction n with
 | zero =>
  intro us bs cs h1 h2 h3 _ x;rw[A7 (by omega:us.length=0),A7 (by omega:bs.length=0),A7 (by omega:cs.length=0)];rfl
 | succ n ih =>
  intro us bs cs h1 h2 h3 h x;rw[O0 us,O0 bs,O0 cs,h 0,ih (us.drop 1) (bs.drop 1) (cs.drop 1) (by simp;omega) (by simp;omega) (by simp;omega) (fun i=>by
   have:=h (i+1);simpa [Z,GF] using this) x]
  rw[CT];omega
theorem BU(ps qs:LI)(x:Int):Aa (DB ps qs) x=Aa ps x+Aa qs x :=
 Us (max (max ps.length qs.length) (DB ps qs).length) ps qs _ (by omega) (by omega) (by omega) (Dl ps qs) x
theorem J8(ps:LI)(x:Int):Aa (Ci ps) x = -Aa ps x:=by
 induction ps with
 | nil=>rfl
 | cons p ps ih =>
  have:Ci (p::ps) = -p::Ci ps:=rfl;rw[this];simp only[Aa,ih];rw[E5];omega
def vp(rs : List Rn) : Reg := .val (.sl rs.length (pc rs))
def bR(r : Rn) : Reg := .box [.bool r.1, .sl r.2.length (W r.2)]
def bN(n : Int) : Reg := .box [.bool (decide (n < 0)), .sl ((M (E n)).length) (W (M (E n)))]
section
variable {prog:Nat->Option IFunc}
theorem X9{c:Opd}{a b:ICode}{s t:Al}{ex:Ex}(h:c.av s=some (.bool true))(h1:DF prog a s ex t):DF prog (.cond c a b) s ex t:=by
 obtain⟨n,h1⟩:=h1;refine⟨n+1,?_⟩;have e1:=F5 (E7 prog (show n<=n+1 by omega)) (Ap n) h1;simp only[Cr,JM,h,e1]
theorem XA{c:Opd}{a b:ICode}{s t:Al}{ex:Ex}(h:c.av s=some (.bool false))(h1:DF prog b s ex t):DF prog (.cond c a b) s ex t:=by
 obtain⟨n,h1⟩:=h1;refine⟨n+1,?_⟩;have e1:=F5 (E7 prog (show n<=n+1 by omega)) (Ap n) h1;simp only[Cr,JM,h,e1]
theorem Jm{c:Opd}{a b:ICode}{s t:Al}{ex:Ex}{x:Bool}(h:c.av s=some (.bool x))(hx:x=true)(h1:C1 prog a s ex t):C1 prog (.cond c a b) s ex t:=by
 subst hx;obtain⟨u,k1,k2⟩:=h1;exact⟨u,X9 h k1,k2⟩
theorem Jn{c:Opd}{a b:ICode}{s t:Al}{ex:Ex}{x:Bool}(h:c.av s=some (.bool x))(hx:x=false)(h1:C1 prog b s ex t):C1 prog (.cond c a b) s ex t:=by
 subst hx;obtain⟨u,k1,k2⟩:=h1;exact⟨u,XA h k1,k2⟩
theorem zN{id:Nat}{c:ICode}{s t:Al}{i:Nat}(h:C1 prog c s (.exit i) t)(hi:i ≠ id):C1 prog (.block id c) s (.exit i) t:=by
 obtain⟨u,k1,k2⟩:=h;exact⟨u,Ml k1 hi,k2⟩
theorem C1.up{c:ICode}{ex:Ex}{fin:Al}(st:Nat->Al)(n:Nat)(hex:ex ≠ .norm)(step:∀ i,i<n->C1 prog c (st i) .norm (st (i+1)))(out:C1 prog c (st n) ex fin):∀ i,i<=n->C1 prog (.loop c) (st i) ex fin:=by
 have key:∀ r i,i+r=n->C1 prog (.loop c) (st i) ex fin:=by
  intro r;induction r with
  | zero =>
   intro i hi;have:i=n:=by omega
   subst this;exact Ao out hex
  | succ r ih =>
   intro i hi;exact C1.loop (step i (by omega)) (ih (i+1) (by omega))
 intro i hi;exact key (n-i) i (by omega)
theorem C1.to{c:ICode}{ex:Ex}{s t s' t':Al}(h:C1 prog c s ex t)(hs:s=s')(ht:t=t'):C1 prog c s' ex t':=hs ▸ ht ▸ h
end
theorem GB{X:Int}{n:Nat}(h:0<=X/\X<(n:Int)):A X<n:=by omega
theorem AAe{xs:LI}{X:Int}(h:0<=X/\X<(xs.length:Int)):Bv (A9v (A X*1) (W xs)) 0 1 true=some (.int .u32 (xs.getD (A X) 0)):=Eg (GB h)
theorem Y8(ws:LI)(l h:Nat):BD ((h-l)*1) (A9v (l*1) (W ws))=W ((ws.drop l).take (h-l)):=by
 simp[W,Sh,List.map_drop]
theorem TE{ws:LI}{l h m:Nat}{X:Int}{a b:Bool}(hx:0<=X/\X<((h-l:Nat):Int))(hl:l<=h/\h<=m/\m<=ws.length/\(a=true->b=true)):Bv (A9v (A X*1) (BD ((h-l)*1) (A9v (l*1) (W ws)))) 0 1 true=some (.int .u32 (((ws.drop l).take (h-l)).getD (A X) 0)):=by
 rw[Y8];exact Eg (by have:=GB hx;simp;omega)
theorem Co{xs:LI}{n:Nat}(hl:xs.length=n){X:Int}(h:0<=X/\X<(n:Int)):Bv (W xs) (A X*1) 1 true=some (.int .u32 (xs.getD (A X) 0)):=Wh (hl ▸ GB h)
theorem Db{xs:LI}{n:Nat}(hl:xs.length=n){X:Int}(h:0<=X/\X<(n:Int)){v:Int}:C6 (W xs) (A X*1) [.int .u32 v]=some (W (xs.set (A X) v)):=I3 (hl ▸ GB h)
theorem BN{rs:List Rn}{X:Int}(h:0<=X/\X<(rs.length:Int)):Bv (A9v (A X*2) (pc rs)) 0 2 false=some (Ay (rs.getD (A X) z0)):=Ox (GB h)
theorem F_{rs:List Rn}{n:Nat}(hl:rs.length=n){X:Int}(h:0<=X/\X<(n:Int)):Bv (pc rs) (A X*2) 2 false=some (Ay (rs.getD (A X) z0)):=A2a (hl ▸ GB h)
theorem FA{rs:List Rn}{n:Nat}(hl:rs.length=n){X:Int}(h:0<=X/\X<(n:Int)){r:Rn}:C6 (pc rs) (A X*2) [.bool r.1,.sl r.2.length (W r.2)]=some (pc (rs.set (A X) r)):=ZV (hl ▸ GB h)
theorem XB{rs:List Rn}{i:Nat}(h:i<rs.length):A9v (i*2) (pc rs) = .bool (rs.getD i z0).1 :: .sl (rs.getD i z0).2.length (W (rs.getD i z0).2)::pc (rs.drop (i+1)):=by
 rw[Ry,Df h,Mq];simp[Z,Ah h]
theorem Y9{rs:List Rn}{X:Int}(h:0<=X/\X<(rs.length:Int)):Bv (A9v 1 (A9v (A X*2) (pc rs))) 0 1 true=some (.sl (rs.getD (A X) z0).2.length (W (rs.getD (A X) z0).2)):=by
 rw[XB (GB h)];rfl
def z(ps:List (List Rn)):List AV:=ps.map fun rs => Y pc rs
theorem A2b{ps:List (List Rn)}{i:Nat}(h:i<ps.length):(z ps)[i]? = some (.sl (ps.getD i []).length (pc (ps.getD i []))):=by
 simp[z,CL,Ah h,Z]
theorem Fv{ps:List (List Rn)}{X:Int}(h:0<=X/\X<(ps.length:Int)):Bv (A9v (A X*1) (z ps)) 0 1 true=some (.sl (ps.getD (A X) []).length (pc (ps.getD (A X) []))):=by
 simp only[Bv,if_true,GI,Bw,FP];exact A2b (GB h)
theorem Wp(xs:LI)(i:Nat)(v x:Int)(h:i<xs.length):Aa (xs.set i v) x=Aa xs x+x^i*(v-xs.getD i 0):=by
 induction xs generalizing i with
 | nil=>simp at h
 | cons p ps ih =>
  cases i with
  | zero=>simp only[A9a,Aa,Da,Jj];omega
  | succ i =>
   simp only[A9b,Aa,Ks];rw[ih i (by simpa using h),A2];generalize x^i=q;generalize Aa ps x=y;generalize ps.getD i 0=z;grind
theorem Rz(n:Nat)(x:Int):Aa (At n 0) x=0:=by
 induction n with
 | zero=>rfl
 | succ n ih=>simp[Gg,Aa,ih]
theorem Aqw:∀ (d:LI) (b:Int),(∀ x,b<=x->Aa d x=0)->∀ i,d.getD i 0=0
 | [],_,_,i=>by simp
 | c::d,b,h,i=>by
  have hc:c=0:=by
   have h1:=h (max b (c.natAbs+1)) (by omega);simp only[Aa] at h1;have h2:(max b ((c.natAbs:Int)+1))∣c:=⟨-(Aa d (max b ((c.natAbs:Int)+1))),by rw[E5];omega⟩;rcases IH c 0 with g | g | g
   ·have:=A7h (a:=max b ((c.natAbs:Int)+1)) (b := -c) (by omega) ((Int.dvd_neg).2 h2);omega
   ·exact g
   ·have:=A7h (a:=max b ((c.natAbs:Int)+1)) (b:=c) (by omega) h2;omega
  cases i with
  | zero=>simpa using hc
  | succ i =>
   have:=Aqw d (max b 1) (fun x hx=>by
    have h1:=h x (by omega);simp only[Aa,hc,DL] at h1;rcases Hs.1 h1 with g | g
    ·omega
    ·exact g) i
   simpa using this
theorem Dg{p q:LI}(h:∀ x,Aa p x=Aa q x)(i:Nat):p.getD i 0=q.getD i 0:=by
 have:=Aqw (DB p (Ci q)) 0 (fun x _=>by rw[BU,J8,h x];omega) i;rw[Dl,G_] at this;omega
theorem Gv{p q:LI}(h:∀ x,Aa p x=Aa q x):A9l p=A9l q:=E' (Dg h)
def Ms(p q:LI):LI:=DB p (Ci q)
theorem FB(p q:LI)(x:Int):Aa (Ms p q) x=Aa p x-Aa q x:=by rw [Ms,BU,J8];omega
theorem QB(p q:LI)(i:Nat):(Ms p q).getD i 0=p.getD i 0-q.getD i 0:=by rw [Ms,Dl,G_];omega
def A0(a:Int)(q:LI):LI:=q.map fun x=>a*x
theorem Az(a:Int)(q:LI)(x:Int):Aa (A0 a q) x=a*Aa q x:=by
 induction q with
 | nil=>simp[A0,Aa]
 | cons c q ih =>
  have:A0 a (c::q)=a*c::A0 a q:=rfl;rw[this];simp only[Aa,ih];generalize Aa q x=y;grind
theorem AK(a:Int)(q:LI)(i:Nat):(A0 a q).getD i 0=a*q.getD i 0:=by
 unfold A0;simp only[Z,CL];cases q[i]? <;> simp
def BC:LI->LI->LI
 | [],_=>[]
 | a::p,q=>DB (A0 a q) (0::BC p q)
theorem AX(p q:LI)(x:Int):Aa (BC p q) x=Aa p x*Aa q x:=by
 induction p with
 | nil=>simp[BC,Aa]
 | cons a p ih =>
  simp only[BC,BU,Az,Aa,ih];generalize Aa q x=y;generalize Aa p x=z;grind
theorem Wq(p q:LI):A9l (BC p q)=BC p q:=by
 cases p with
 | nil=>rfl
 | cons a p=>exact QA _ _
theorem Hc{k:Nat}{p:LI}(hp:∀ x∈p,Br k x):∀ x∈A9l p,Br k x:=fun x hx=>hp x (zM hx)
theorem YA(p q:LI):(DB p q).length<=max p.length q.length:=by
 have:=Bp ((Aq (max p.length q.length)).map fun i=>p.getD i 0+q.getD i 0);simpa [DB] using this
theorem DR(p:LI):(Ci p).length=p.length:=by simp [Ci]
def hv:LI->Int->Int->Int
 | [],_,_=>0
 | t::ts,x,d=>t*d^ts.length+x*hv ts x d
end Go.Ai
namespace Go.Proofs.YtajompaehjkgkaaGreat
open Go.Ai
set_option maxRecDepth 100000
open BitVec renaming ofInt->U,ofInt_natCast->K2,toNat_ofNat->Ji,toNat_or->kU
open Bool renaming and_true->Lh,false_and->KR,false_eq_true->Cj,true_and->LX
open Decidable renaming decide->A9i
open Go.Ai.AV renaming agg->o,bool->F,fresh->L,int->D,sl->H,tup->Ax
open Go.Ai.Reg renaming box->A9s,own->A9n,val->A9j
open Go.IntKind renaming bits->An,i64->O,u32->Ad,u64->B,wrap->I
open Int renaming add_comm->K7,emod_add_mul_ediv->To,emod_eq_of_lt->Gf,fdiv->A9q,fdiv_eq_ediv_of_nonneg->AAg,lt_of_le_of_lt->zX,mul_le_mul_of_nonneg_left->Aj,mul_le_mul_of_nonneg_right->Ae,mul_nonneg->A6,natAbs->E,natCast_mul->Dj,natCast_nonneg->HH,natCast_pow->CH,one_mul->Dt,pow_add->BG,pow_mul->kX,pow_pos->EQ,pow_succ->A2,pow_zero->Da,sub_zero->EU,tdiv->Av,tdiv_eq_ediv_of_nonneg->BH,tmod->AC,tmod_eq_emod_of_nonneg->Bu,toNat->A,toNat_natCast->R,zero_add->DL
open List renaming append_assoc->N6,append_nil->PC,drop->A9v,drop_zero->EZ,length->Bs,length_append->Bf,length_replicate->Fi,length_set->A_,map_take->Sh,mem_append->Cc,mem_singleton->IF,replicate->At,take->BD,take_length->EE
open Nat renaming add_mul->DY,add_zero->FP,div_add_mod->kS,le_refl->Ap,le_trans->Bx,lt_of_le_of_lt->Dz,lt_or_ge->Cn,mod_eq_of_lt->F1,mul_comm->CZ,mul_le_mul_right->AE,mul_one->GI,one_mul->Fe,pow_add->CN,pow_le_pow_right->B8,two_pow_add_eq_or_of_lt->Ayw
theorem mR(neg:Bool)(xs:LI)(c1:((((A9l xs).length:Nat):Int)==0)=true)(n1:RQ 99 [Y W xs] (L 1 ((A9l xs).length) (W (A9l xs)))):RQ 79 [o [F neg,Y W xs]] (D O 0):=A9x (fn:=Vh) CB rfl 400 rfl [.r (L 1 ((A9l xs).length) (W (A9l xs))),.b true] (T n1 (T c1 a0))
theorem mS(neg:Bool)(xs:LI)(c1:((((A9l xs).length:Nat):Int)==0)=false)(c2:(neg)=true)(n1:RQ 99 [Y W xs] (L 1 ((A9l xs).length) (W (A9l xs)))):RQ 79 [o [F neg,Y W xs]] (D O (-1)):=A9x (fn:=Vh) CB rfl 400 rfl [.r (L 1 ((A9l xs).length) (W (A9l xs))),.b false,.b true] (T n1 (T c1 (T c2 a0)))
theorem mT(neg:Bool)(xs:LI)(c1:((((A9l xs).length:Nat):Int)==0)=false)(c2:(neg)=false)(n1:RQ 99 [Y W xs] (L 1 ((A9l xs).length) (W (A9l xs)))):RQ 79 [o [F neg,Y W xs]] (D O 1):=A9x (fn:=Vh) CB rfl 400 rfl [.r (L 1 ((A9l xs).length) (W (A9l xs))),.b false,.b false] (T n1 (T c1 (T c2 a0)))
theorem Aqx(neg:Bool)(xs:LI)(v:Int)(n1:RQ 98 [F (!neg),Y W xs] (CI v)):RQ 161 [o [F neg,Y W xs]] (Ag v):=A9x (fn:=VO) CB rfl 400 rfl [.r (CI v)] (T n1 a0)
theorem A2c(neg:Bool)(xs:LI)(v:Int)(n1:RQ 98 [F neg,Y W xs] (CI v)):RQ 97 [o [F neg,Y W xs]] (Ag v):=A9x (fn:=dO) CB rfl 400 rfl [.r (CI v)] (T n1 a0)
def HB(xs:LI)(ys:LI)(n:Nat)(cs:List AV)(c:Int)(i:Int):Al:=(A9j (Y W xs)::(A9j (Y W ys)::(Ac 3 (A9n 1 n cs::(A9j (D B c)::(A9j (D O i)::(Ac 46 [])))))))
theorem Aqy(xs:LI)(ys:LI)(n:Nat)(cs:List AV)(c:Int)(i:Int)(c1:A9i (i<(xs.length:Int))=true)(c2:A9i (i<(ys.length:Int))=true)(n1:0<=i/\i<(xs.length:Int))(n2:0<=i/\i<(ys.length:Int))(n3:n+1<=35184372088832):Ar MR (HB xs ys n cs c i) .norm (HB xs ys (n+1) (cs++([D Ad (I Ad (I B ((I B (c+(I B (xs.getD (A i) 0))))+(I B (ys.getD (A i) 0)))))]:List AV)) (A9q (I B ((I B (c+(I B (xs.getD (A i) 0))))+(I B (ys.getD (A i) 0)))) (2^(min (A 32) (An .u64)))) (I O (i+1))):=(G CB 400 [.b true,.b true,.b true,.b true,.v (D Ad (xs.getD (A i) 0)),.b true,.v (D Ad (ys.getD (A i) 0))] [0,1,5,6,7] (T c1 (T Hw (T Hw (T c1 (T n1 (T (AAe n1) (T c2 (T n2 (T (AAe n2) (T (show Bs ([D Ad (I Ad (I B ((I B (c+(I B (xs.getD (A i) 0))))+(I B (ys.getD (A i) 0)))))]:List AV)=1*1 from rfl) (T n3 (T It a0)))))))))))))
theorem Aqz(xs:LI)(ys:LI)(n:Nat)(cs:List AV)(c:Int)(i:Int)(c1:A9i (i<(xs.length:Int))=true)(c2:A9i (i<(ys.length:Int))=false)(n1:0<=i/\i<(xs.length:Int))(n2:n+1<=35184372088832):Ar MR (HB xs ys n cs c i) .norm (HB xs ys (n+1) (cs++([D Ad (I Ad (I B (c+(I B (xs.getD (A i) 0)))))]:List AV)) (A9q (I B (c+(I B (xs.getD (A i) 0)))) (2^(min (A 32) (An .u64)))) (I O (i+1))):=(G CB 400 [.b true,.b true,.b true,.b true,.v (D Ad (xs.getD (A i) 0)),.b false] [0,1,5,6,7] (T c1 (T Hw (T Hw (T c1 (T n1 (T (AAe n1) (T c2 (T (show Bs ([D Ad (I Ad (I B (c+(I B (xs.getD (A i) 0)))))]:List AV)=1*1 from rfl) (T n2 (T It a0)))))))))))
theorem Ara(xs:LI)(ys:LI)(n:Nat)(cs:List AV)(c:Int)(i:Int)(c1:A9i (i<(xs.length:Int))=false)(c2:A9i (i<(ys.length:Int))=true)(n1:0<=i/\i<(ys.length:Int))(n2:n+1<=35184372088832):Ar MR (HB xs ys n cs c i) .norm (HB xs ys (n+1) (cs++([D Ad (I Ad (I B (c+(I B (ys.getD (A i) 0)))))]:List AV)) (A9q (I B (c+(I B (ys.getD (A i) 0)))) (2^(min (A 32) (An .u64)))) (I O (i+1))):=(G CB 400 [.b false,.b true,.b true,.b false,.b true,.v (D Ad (ys.getD (A i) 0))] [0,1,5,6,7] (T c1 (T c2 (T Hw (T c1 (T c2 (T n1 (T (AAe n1) (T (show Bs ([D Ad (I Ad (I B (c+(I B (ys.getD (A i) 0)))))]:List AV)=1*1 from rfl) (T n2 (T It a0)))))))))))
theorem Arb(xs:LI)(ys:LI)(n:Nat)(cs:List AV)(c:Int)(i:Int)(c1:A9i (i<(xs.length:Int))=false)(c2:A9i (i<(ys.length:Int))=false)(c3:A9i (c>0)=true)(n1:n+1<=35184372088832):Ar MR (HB xs ys n cs c i) .norm (HB xs ys (n+1) (cs++([D Ad (I Ad c)]:List AV)) (A9q c (2^(min (A 32) (An .u64)))) (I O (i+1))):=(G CB 400 [.b false,.b false,.b true,.b false,.b false] [0,1,5,6,7] (T c1 (T c2 (T c3 (T c1 (T c2 (T (show Bs ([D Ad (I Ad c)]:List AV)=1*1 from rfl) (T n1 (T It a0)))))))))
theorem eO(xs:LI)(ys:LI)(n:Nat)(cs:List AV)(c:Int)(i:Int)(c1:A9i (i<(xs.length:Int))=false)(c2:A9i (i<(ys.length:Int))=false)(c3:A9i (c>0)=false):Ar MR (HB xs ys n cs c i) (.exit 0) (HB xs ys n cs c i):=(G CB 400 [.b false,.b false,.b false] [0,1,5,6,7] (T c1 (T c2 (T c3 a0))))
theorem Arc(xs ys:LI)(n:Nat)(cs:List AV)(c i:Int)(hl1:Ar (.loop MR) (HB xs ys 0 ([]:List AV) 0 0) (.exit 0) (HB xs ys n cs c i)):RQ 144 [Y W xs,Y W ys] (L 1 n cs):=A9g VB (Ac 1 (A9j (Y W ys)::(Ac 2 (A9n 1 n cs::(Ac 49 []))))) (A9m (A9m (A9t (C1.seq (G CB 400 [] [0,1,5,6,7] a0) (C1.seq (C1.block hl1) (G CB 400 [] [1,4] a0))))))
def JU(xs:LI)(ys:LI)(n:Nat)(cs:List AV)(c:Int)(i:Int):Al:=(A9j (Y W xs)::(A9j (Y W ys)::(Ac 3 (A9n 1 n cs::(A9j (D B c)::(A9j (D O i)::(Ac 34 [])))))))
theorem Ard(xs:LI)(ys:LI)(n:Nat)(cs:List AV)(c:Int)(i:Int)(c1:A9i (i<(xs.length:Int))=true)(c2:A9i (i<(ys.length:Int))=true)(n1:0<=i/\i<(ys.length:Int))(n2:0<=i/\i<(xs.length:Int))(n3:n+1<=35184372088832):Ar Qv (JU xs ys n cs c i) .norm (JU xs ys (n+1) (cs++([D Ad (I Ad (I B ((I B ((I B (xs.getD (A i) 0))-(I B (ys.getD (A i) 0))))-c)))]:List AV)) (A9q (I B ((I B ((I B (xs.getD (A i) 0))-(I B (ys.getD (A i) 0))))-c)) (2^(min (A 63) (An .u64)))) (I O (i+1))):=(G CB 400 [.b true,.b true,.v (D Ad (ys.getD (A i) 0)),.v (D Ad (xs.getD (A i) 0))] [0,1,5,6,7] (T c1 (T c2 (T n1 (T (AAe n1) (T n2 (T (AAe n2) (T (show Bs ([D Ad (I Ad (I B ((I B ((I B (xs.getD (A i) 0))-(I B (ys.getD (A i) 0))))-c)))]:List AV)=1*1 from rfl) (T n3 (T X7 a0))))))))))
theorem Are(xs:LI)(ys:LI)(n:Nat)(cs:List AV)(c:Int)(i:Int)(c1:A9i (i<(xs.length:Int))=true)(c2:A9i (i<(ys.length:Int))=false)(n1:0<=i/\i<(xs.length:Int))(n2:n+1<=35184372088832):Ar Qv (JU xs ys n cs c i) .norm (JU xs ys (n+1) (cs++([D Ad (I Ad (I B ((I B ((I B (xs.getD (A i) 0))-0))-c)))]:List AV)) (A9q (I B ((I B ((I B (xs.getD (A i) 0))-0))-c)) (2^(min (A 63) (An .u64)))) (I O (i+1))):=(G CB 400 [.b true,.b false,.v (D Ad (xs.getD (A i) 0))] [0,1,5,6,7] (T c1 (T c2 (T n1 (T (AAe n1) (T (show Bs ([D Ad (I Ad (I B ((I B ((I B (xs.getD (A i) 0))-0))-c)))]:List AV)=1*1 from rfl) (T n2 (T X7 a0))))))))
theorem Arf(xs:LI)(ys:LI)(n:Nat)(cs:List AV)(c:Int)(i:Int)(c1:A9i (i<(xs.length:Int))=false):Ar Qv (JU xs ys n cs c i) (.exit 0) (JU xs ys n cs c i):=(G CB 400 [.b false] [0,1,5,6,7] (T c1 a0))
theorem Arg(xs ys:LI)(n:Nat)(cs:List AV)(c i:Int)(hl1:Ar (.loop Qv) (JU xs ys 0 ([]:List AV) 0 0) (.exit 0) (JU xs ys n cs c i)):RQ 145 [Y W xs,Y W ys] (L 1 n cs):=A9g VC (Ac 1 (A9j (Y W ys)::(Ac 2 (A9n 1 n cs::(Ac 37 []))))) (A9m (A9m (A9t (C1.seq (G CB 400 [] [0,1,5,6,7] a0) (C1.seq (C1.block hl1) (G CB 400 [] [1,4] a0))))))
theorem HO(xs:LI)(v:Int):W xs++([D Ad v]:List AV)=W (xs++[v]):=by simp [W]
theorem Mt{xs:LI}(h:AP xs){v:Int}(hv:0<=v/\v<4294967296):AP (xs++[v]):=by
 intro x hx;rcases Cc.1 hx with g | g
 ·exact h x g
 ·rw[IF.1 g];exact hv
theorem KT(xs:LI)(v:Int):Ab (xs++[v])=Ab xs+4294967296^xs.length*v:=by rw [Gt];simp [Ab]
theorem eQ{s:Int}:A9q s (2^(min (A 32) (An .u64)))=s / 4294967296:=by
 show A9q s 4294967296=_;rw[AAg _ (by omega)]
theorem A7i{s:Int}:A9q s (2^(min (A 63) (An .u64)))=s / 9223372036854775808:=by
 show A9q s 9223372036854775808=_;rw[AAg _ (by omega)]
theorem zO{xs ys:LI}(hx:AP xs)(hy:AP ys)(h1:xs.length<1048576)(h2:ys.length<1048576):∀ (r i:Nat) (acc:LI) (c:Int),i+r=max xs.length ys.length->acc.length=i->AP acc->0<=c/\c<=1 ->
  ∃ (zs:LI) (c' i':Int),AP zs/\zs.length<=max xs.length ys.length+1/\Ab zs=Ab acc+4294967296^i*(c+Ab (xs.drop i)+Ab (ys.drop i)) /\
   Ar (.loop MR) (HB xs ys i (W acc) c (i:Nat)) (.exit 0) (HB xs ys zs.length (W zs) c' i'):=by
 intro r;induction r with
 | zero =>
  intro i acc c hi hl hu hc;have e1:Ab (xs.drop i)=0:=DQ (by omega);have e2:Ab (ys.drop i)=0:=DQ (by omega);have g1:decide ((i:Int)<(xs.length:Int))=false:=by simp;omega
  have g2:decide ((i:Int)<(ys.length:Int))=false:=by simp;omega
  by_cases hc0:c=0
  ·refine⟨acc,c,i,hu,by omega,by rw[e1,e2,hc0];simp,?_⟩;rw[hl];exact Ao (eO xs ys i (W acc) c (i:Nat) g1 g2 (by simp;omega)) (by nofun)
  ·have hc1:c=1:=by omega
   subst hc1;refine⟨acc++[1],0,I O ((i:Int)+1),Mt hu (by omega),by simp;omega,by rw[KT,e1,e2,hl];simp,?_⟩;have k:=Arb xs ys i (W acc) 1 (i:Nat) g1 g2 (by simp) (by omega);rw[eQ,DW,show (1:Int) % 4294967296=1 by decide,show (1:Int) / 4294967296=0 by decide,HO] at k;have ei:I O ((i:Int)+1)=((i+1:Nat):Int):=by rw[Bl (by omega) (by omega)];omega
   rw[ei] at k |-;have k2:=eO xs ys (i+1) (W (acc++[1])) 0 ((i+1:Nat):Int) (by simp;omega) (by simp;omega) (by simp);have hll:(acc++[1]).length=i+1:=by simp[hl]
   rw[hll];exact C1.loop k (Ao k2 (by nofun))
 | succ r ih =>
  intro i acc c hi hl hu hc;have bx:=AG hx i;have byy:=AG hy i;have ei:I O ((i:Int)+1)=((i+1:Nat):Int):=by rw[Bl (by omega) (by omega)];omega
  have step:Ar MR (HB xs ys i (W acc) c (i:Nat)) .norm (HB xs ys (i+1) (W (acc++[(c+xs.getD i 0+ys.getD i 0) % 4294967296])) ((c+xs.getD i 0+ys.getD i 0) / 4294967296) ((i+1:Nat):Int)):=by
   have wx:I B (xs.getD i 0)=xs.getD i 0:=by rw[BF];omega
   have wy:I B (ys.getD i 0)=ys.getD i 0:=by rw[BF];omega
   by_cases g1:i<xs.length <;> by_cases g2:i<ys.length
   ·have k:=Aqy xs ys i (W acc) c (i:Nat) (by simp;omega) (by simp;omega) (by omega) (by omega) (by omega);have w1:I B (I B (c+xs.getD i 0)+ys.getD i 0)=c+xs.getD i 0+ys.getD i 0:=by rw[BF,BF];omega
    simp only[R,wx,wy,w1,eQ,DW,ei,HO] at k;exact k
   ·have k:=Aqz xs ys i (W acc) c (i:Nat) (by simp;omega) (by simp;omega) (by omega) (by omega);have hz:ys.getD i 0=0:=B0 (by omega);have w1:I B (c+xs.getD i 0)=c+xs.getD i 0+ys.getD i 0:=by rw[BF,hz];omega
    simp only[R,wx,w1,eQ,DW,ei,HO] at k;exact k
   ·have k:=Ara xs ys i (W acc) c (i:Nat) (by simp;omega) (by simp;omega) (by omega) (by omega);have hz:xs.getD i 0=0:=B0 (by omega);have w1:I B (c+ys.getD i 0)=c+xs.getD i 0+ys.getD i 0:=by rw[BF,hz];omega
    simp only[R,wy,w1,eQ,DW,ei,HO] at k;exact k
   ·omega
  obtain⟨zs,c',i',q1,q2,q3,q4⟩:=ih (i+1) (acc++[(c+xs.getD i 0+ys.getD i 0) % 4294967296]) ((c+xs.getD i 0+ys.getD i 0) / 4294967296) (by omega) (by simp[hl]) (Mt hu (by omega)) (by omega);refine⟨zs,c',i',q1,q2,?_,C1.loop step q4⟩;rw[q3,KT,hl,CA xs i,CA ys i,A2];have hd:=To (c+xs.getD i 0+ys.getD i 0) 4294967296;generalize (c+xs.getD i 0+ys.getD i 0) % 4294967296=m at *
  generalize (c+xs.getD i 0+ys.getD i 0) / 4294967296=d at *
  generalize (4294967296:Int)^i=p at *
  generalize Ab (xs.drop (i+1))=X at *
  generalize Ab (ys.drop (i+1))=Y at *
  have:c+(xs.getD i 0+4294967296*X)+(ys.getD i 0+4294967296*Y)=m+4294967296*(d+X+Y):=by omega
  rw[this];grind
theorem eR{xs ys:LI}(hx:AP xs)(hy:AP ys)(h1:xs.length<1048576)(h2:ys.length<1048576):∃ zs,AP zs/\Ab zs=Ab xs+Ab ys/\zs.length<=max xs.length ys.length+1/\RQ 144 [Y W xs,Y W ys] (L 1 zs.length (W zs)):=by
 obtain⟨zs,c',i',q1,q2,q3,q4⟩:=zO hx hy h1 h2 (max xs.length ys.length) 0 [] 0 (by omega) rfl (fun x hx=>by cases hx) (by omega);refine⟨zs,q1,by rw[q3];simp[Ab],q2,?_⟩;exact Arc xs ys _ _ _ _ q4
theorem zP{xs ys:LI}(hx:AP xs)(hy:AP ys)(hl2:ys.length<=xs.length)(h1:xs.length<=1048576):∀ (r i:Nat) (acc:LI) (c:Int),i+r=xs.length->acc.length=i->AP acc->0<=c/\c<=1 ->
  ∃ (zs:LI) (c' i':Int),AP zs/\zs.length=xs.length/\0<=c'/\Ab zs-4294967296^xs.length*c'=Ab acc+4294967296^i*(Ab (xs.drop i)-Ab (ys.drop i)-c) /\
   Ar (.loop Qv) (JU xs ys i (W acc) c (i:Nat)) (.exit 0) (JU xs ys zs.length (W zs) c' i'):=by
 intro r;induction r with
 | zero =>
  intro i acc c hi hl hu hc;have e1:Ab (xs.drop i)=0:=DQ (by omega);have e2:Ab (ys.drop i)=0:=DQ (by omega);have hii:xs.length=i:=by omega
  refine⟨acc,c,i,hu,by omega,hc.1,by rw[e1,e2,hii];grind,?_⟩;rw[hl];exact Ao (Arf xs ys i (W acc) c (i:Nat) (by simp;omega)) (by nofun)
 | succ r ih =>
  intro i acc c hi hl hu hc;have bx:=AG hx i;have byy:=AG hy i;have ei:I O ((i:Int)+1)=((i+1:Nat):Int):=by rw[Bl (by omega) (by omega)];omega
  have step:Ar Qv (JU xs ys i (W acc) c (i:Nat)) .norm (JU xs ys (i+1) (W (acc++[(xs.getD i 0-ys.getD i 0-c) % 4294967296])) (-((xs.getD i 0-ys.getD i 0-c) / 4294967296)) ((i+1:Nat):Int)):=by
   have wx:I B (xs.getD i 0)=xs.getD i 0:=by rw[BF];omega
   have wy:I B (ys.getD i 0)=ys.getD i 0:=by rw[BF];omega
   by_cases g2:i<ys.length
   ·have k:=Ard xs ys i (W acc) c (i:Nat) (by simp;omega) (by simp;omega) (by omega) (by omega) (by omega);have w1:I B (I B (xs.getD i 0-ys.getD i 0)-c) % 4294967296=(xs.getD i 0-ys.getD i 0-c) % 4294967296:=by rw[BF,BF];omega
    have w2:I B (I B (xs.getD i 0-ys.getD i 0)-c) / 9223372036854775808 = -((xs.getD i 0-ys.getD i 0-c) / 4294967296):=by rw[BF,BF];omega
    simp only[R,wx,wy,A7i,DW,w1,w2,ei,HO] at k;exact k
   ·have k:=Are xs ys i (W acc) c (i:Nat) (by simp;omega) (by simp;omega) (by omega) (by omega);have hz:ys.getD i 0=0:=B0 (by omega);have w1:I B (I B (xs.getD i 0-0)-c) % 4294967296=(xs.getD i 0-ys.getD i 0-c) % 4294967296:=by rw[BF,BF,hz];omega
    have w2:I B (I B (xs.getD i 0-0)-c) / 9223372036854775808 = -((xs.getD i 0-ys.getD i 0-c) / 4294967296):=by rw[BF,BF,hz];omega
    simp only[R,wx,A7i,DW,w1,w2,ei,HO] at k;exact k
  obtain⟨zs,c',i',q1,q2,q0,q3,q4⟩:=ih (i+1) (acc++[(xs.getD i 0-ys.getD i 0-c) % 4294967296]) (-((xs.getD i 0-ys.getD i 0-c) / 4294967296)) (by omega) (by simp[hl]) (Mt hu (by omega)) (by omega);refine⟨zs,c',i',q1,q2,q0,?_,C1.loop step q4⟩;rw[q3,KT,hl,CA xs i,CA ys i,A2];have hd:=To (xs.getD i 0-ys.getD i 0-c) 4294967296;generalize (xs.getD i 0-ys.getD i 0-c) % 4294967296=m at *
  generalize (xs.getD i 0-ys.getD i 0-c) / 4294967296=d at *
  generalize (4294967296:Int)^i=p at *
  generalize Ab (xs.drop (i+1))=X at *
  generalize Ab (ys.drop (i+1))=Y at *
  have:xs.getD i 0+4294967296*X-(ys.getD i 0+4294967296*Y)-c=m+4294967296*(d+X-Y):=by omega
  rw[this];grind
theorem TF{xs ys:LI}(hx:AP xs)(hy:AP ys)(hl:ys.length<=xs.length)(hv:Ab ys<=Ab xs)(h1:xs.length<=1048576):∃ zs,AP zs/\Ab zs=Ab xs-Ab ys/\zs.length=xs.length/\RQ 145 [Y W xs,Y W ys] (L 1 zs.length (W zs)):=by
 obtain⟨zs,c',i',q1,q2,q0,q3,q4⟩:=zP hx hy hl h1 xs.length 0 [] 0 (by omega) rfl (fun x hx=>by cases hx) (by omega);simp only[Ab,Da,EZ,Dt,DL,EU] at q3;have hlt:=DJ q1;rw[q2] at hlt;have hp:=C3 xs.length;have hc:c'=0:=by
  generalize (4294967296:Int)^xs.length=p at *
  rcases Int.lt_or_le 0 c' with g | g
  ·have:p*1<=p*c':=Aj (by omega) (by omega);omega
  ·omega
 subst hc;refine⟨zs,q1,by simpa using q3,q2,?_⟩;exact Arg xs ys _ _ _ _ q4
theorem Ga{neg:Bool}{xs:LI}(hu:AP xs)(hN:xs.length<=1048576):RQ 98 [F neg,Y W xs] (CI (v neg xs)):=Q8 hu hN
theorem Gw{neg:Bool}{xs:LI}(hu:AP xs)(hN:xs.length<=1048576):RQ 79 [o [F neg,Y W xs]] (D O (BS (v neg xs))):=by
 have hm:=Eh (Bx hN (by decide));have hz:(A9l xs).length=0↔Ab xs=0:=by
  have:=AW hu;rw[IV hu,Dp];omega
 have hv:=AW hu;by_cases h0:Ab xs=0
 ·have h:=mR neg xs (by rw[beq_iff_eq];omega) hm;have e:BS (v neg xs)=0:=by unfold v;rw[h0];cases neg <;> rfl
  rw[e];exact h
 ·cases neg with
  | true =>
   have h:=mS true xs (by rw[beq_eq_false_iff_ne];omega) rfl hm;have e:BS (v true xs) = -1:=by simp only[v,if_true,BS]; (repeat' split) <;> omega
   rw[e];exact h
  | false =>
   have h:=mT false xs (by rw[beq_eq_false_iff_ne];omega) rfl hm;have e:BS (v false xs)=1:=by simp only[v,Cj,if_false,BS]; (repeat' split) <;> omega
   rw[e];exact h
theorem Arh(neg:Bool)(xs:LI):v (!neg) xs = -(v neg xs):=by unfold v;cases neg <;> simp
theorem SJ{neg:Bool}{xs:LI}(hu:AP xs)(hN:xs.length<=1048576):RQ 161 [o [F neg,Y W xs]] (Ag (-(v neg xs))):=by
 have h:=Ga (neg := !neg) hu hN;rw[Arh] at h;exact Aqx neg xs _ h
theorem Wr{neg:Bool}{xs:LI}(hu:AP xs)(hN:xs.length<=1048576):RQ 97 [o [F neg,Y W xs]] (Ag (v neg xs)):=A2c neg xs _ (Ga hu hN)
theorem Ari(na nb:Bool)(xs ys zs:LI)(v:Int)(n1:RQ 99 [Y W xs] (L 1 ((A9l xs).length) (W (A9l xs))))(n2:RQ 99 [Y W ys] (L 1 ((A9l ys).length) (W (A9l ys))))(n3:RQ 146 [H ((A9l xs).length) (W (A9l xs)),H ((A9l ys).length) (W (A9l ys))] (L 1 zs.length (W zs)))(n4:RQ 98 [F (!(na==nb)),Y W zs] (CI v)):RQ 96 [o [F na,Y W xs],o [F nb,Y W ys]] (Ag v):=A9x (fn:=dN) CB rfl 400 rfl [.r (L 1 ((A9l xs).length) (W (A9l xs))),.r (L 1 ((A9l ys).length) (W (A9l ys))),.r (L 1 zs.length (W zs)),.r (CI v)] (T n1 (T n2 (T n3 (T n4 a0))))
theorem zQ(na nb:Bool)(xs ys zs:LI)(v:Int)(c1:(na==nb)=true)(n1:RQ 99 [Y W xs] (L 1 ((A9l xs).length) (W (A9l xs))))(n2:RQ 99 [Y W ys] (L 1 ((A9l ys).length) (W (A9l ys))))(n3:RQ 144 [H ((A9l xs).length) (W (A9l xs)),H ((A9l ys).length) (W (A9l ys))] (L 1 zs.length (W zs)))(n4:RQ 98 [F na,Y W zs] (CI v)):RQ 95 [o [F na,Y W xs],o [F nb,Y W ys]] (Ag v):=A9x (fn:=Vj) CB rfl 400 rfl [.r (L 1 ((A9l xs).length) (W (A9l xs))),.r (L 1 ((A9l ys).length) (W (A9l ys))),.b true,.r (L 1 zs.length (W zs)),.r (CI v)] (T n1 (T n2 (T c1 (T n3 (T n4 a0)))))
theorem zU(na nb:Bool)(xs ys zs:LI)(v c:Int)(c1:(na==nb)=false)(c2:A9i (c>=0)=true)(n1:RQ 99 [Y W xs] (L 1 ((A9l xs).length) (W (A9l xs))))(n2:RQ 99 [Y W ys] (L 1 ((A9l ys).length) (W (A9l ys))))(n3:RQ 134 [H ((A9l xs).length) (W (A9l xs)),H ((A9l ys).length) (W (A9l ys))] (D O c))(n4:RQ 145 [H ((A9l xs).length) (W (A9l xs)),H ((A9l ys).length) (W (A9l ys))] (L 1 zs.length (W zs)))(n5:RQ 98 [F na,Y W zs] (CI v)):RQ 95 [o [F na,Y W xs],o [F nb,Y W ys]] (Ag v):=A9x (fn:=Vj) CB rfl 400 rfl [.r (L 1 ((A9l xs).length) (W (A9l xs))),.r (L 1 ((A9l ys).length) (W (A9l ys))),.b false,.r (D O c),.b true,.r (L 1 zs.length (W zs)),.r (CI v)] (T n1 (T n2 (T c1 (T n3 (T c2 (T n4 (T n5 a0)))))))
theorem zW(na nb:Bool)(xs ys zs:LI)(v c:Int)(c1:(na==nb)=false)(c2:A9i (c>=0)=false)(n1:RQ 99 [Y W xs] (L 1 ((A9l xs).length) (W (A9l xs))))(n2:RQ 99 [Y W ys] (L 1 ((A9l ys).length) (W (A9l ys))))(n3:RQ 134 [H ((A9l xs).length) (W (A9l xs)),H ((A9l ys).length) (W (A9l ys))] (D O c))(n4:RQ 145 [H ((A9l ys).length) (W (A9l ys)),H ((A9l xs).length) (W (A9l xs))] (L 1 zs.length (W zs)))(n5:RQ 98 [F nb,Y W zs] (CI v)):RQ 95 [o [F na,Y W xs],o [F nb,Y W ys]] (Ag v):=A9x (fn:=Vj) CB rfl 400 rfl [.r (L 1 ((A9l xs).length) (W (A9l xs))),.r (L 1 ((A9l ys).length) (W (A9l ys))),.b false,.r (D O c),.b false,.r (L 1 zs.length (W zs)),.r (CI v)] (T n1 (T n2 (T c1 (T n3 (T c2 (T n4 (T n5 a0)))))))
theorem Arj(na nb:Bool)(xs ys:LI)(v w:Int)(n1:RQ 161 [o [F nb,Y W ys]] (Ag w))(n2:RQ 95 [o [F na,Y W xs],Ag w] (Ag v)):RQ 129 [o [F na,Y W xs],o [F nb,Y W ys]] (Ag v):=A9x (fn:=V5) CB rfl 400 rfl [.r (Ag w),.r (Ag v)] (T n1 (T n2 a0))
theorem Ws(neg:Bool)(xs:LI):v neg (A9l xs)=v neg xs:=by unfold v;rw [Ek]
theorem Pm{xs:LI}(h:AP xs):AP (A9l xs):=(F7 h).1
theorem A2d(na nb:Bool)(xs ys zs:LI)(h:Ab zs=Ab xs*Ab ys):v (!(na==nb)) zs=v na xs*v nb ys:=by
 unfold v;rw[h];generalize Ab xs=X;generalize Ab ys=Y;cases na <;> cases nb <;> simp <;> grind
theorem O1{na nb:Bool}{xs ys:LI}(hx:AP xs)(hy:AP ys)(hN:xs.length+ys.length<=1048576):RQ 96 [o [F na,Y W xs],o [F nb,Y W ys]] (Ag (v na xs*v nb ys)):=by
 have t1:=Bp xs;have t2:=Bp ys;obtain⟨zs,z1,z2,z3,z4⟩:=eI (Pm hx) (Pm hy) (by omega);have hk:=Ga (neg := !(na==nb)) z2 (by omega);rw[A2d na nb (A9l xs) (A9l ys) zs z3,Ws,Ws] at hk;exact Ari na nb xs ys zs _ (Eh (by omega)) (Eh (by omega)) z4 hk
theorem QC{na nb:Bool}{xs ys:LI}(hx:AP xs)(hy:AP ys)(h1:xs.length<1048576)(h2:ys.length<1048576):RQ 95 [o [F na,Y W xs],o [F nb,Y W ys]] (Ag (v na xs+v nb ys)):=by
 have t1:=Bp xs;have t2:=Bp ys;have c1:=F7 hx;have c2:=F7 hy;have m1:=Eh (xs:=xs) (by omega);have m2:=Eh (xs:=ys) (by omega);have hcmp:=Ow c1 c2 (by omega);by_cases hn:na=nb
 ·subst hn;obtain⟨zs,z1,z2,z3,z4⟩:=eR c1.1 c2.1 (by omega) (by omega);have hk:=Ga (neg:=na) z1 (by omega);have e:v na zs=v na xs+v na ys:=by
   unfold v;rw[z2,Ek,Ek];cases na <;> simp;omega
  rw[e] at hk;exact zQ na na xs ys zs _ (by simp) m1 m2 z4 hk
 ·have hb:nb = !na:=by cases na <;> cases nb <;> simp at hn |-
  by_cases hc:CR (Ab (A9l xs)) (Ab (A9l ys))>=0
  ·have hle:Ab (A9l ys)<=Ab (A9l xs):=by unfold CR at hc;split at hc <;> (try split at hc) <;> omega
   have hlen:(A9l ys).length<=(A9l xs).length:=KP c2 (zX hle (DJ c1.1));obtain⟨zs,z1,z2,z3,z4⟩:=TF c1.1 c2.1 hlen hle (by omega);have hk:=Ga (neg:=na) z1 (by omega);have e:v na zs=v na xs+v nb ys:=by
    unfold v;rw[z2,Ek,Ek,hb];cases na <;> simp <;> omega
   rw[e] at hk;exact zU na nb xs ys zs _ _ (by rw[hb];cases na <;> rfl) (by simpa using hc) m1 m2 hcmp z4 hk
  ·have hle:Ab (A9l xs)<=Ab (A9l ys):=by unfold CR at hc;split at hc <;> (try split at hc) <;> omega
   have hlen:(A9l xs).length<=(A9l ys).length:=KP c1 (zX hle (DJ c2.1));obtain⟨zs,z1,z2,z3,z4⟩:=TF c2.1 c1.1 hlen hle (by omega);have hk:=Ga (neg:=nb) z1 (by omega);have e:v nb zs=v na xs+v nb ys:=by
    unfold v;rw[z2,Ek,Ek,hb];cases na <;> simp <;> omega
   rw[e] at hk;exact zW na nb xs ys zs _ _ (by rw[hb];cases na <;> rfl) (by simpa using hc) m1 m2 hcmp z4 hk
theorem TG{na nb:Bool}{xs ys:LI}(hx:AP xs)(hy:AP ys)(h1:xs.length<1048576)(h2:ys.length<1048576):RQ 129 [o [F na,Y W xs],o [F nb,Y W ys]] (Ag (v na xs-v nb ys)):=by
 have hn:=SJ (neg:=nb) hy (by omega);have hl:(M (-(v nb ys)).natAbs).length<1048576:=by rw[Int.natAbs_neg];exact Dz (EG hy) h2
 have h:=QC (na:=na) (nb:=decide (-(v nb ys)<0)) hx (BR (-(v nb ys)).natAbs) h1 hl;rw[F8] at h;exact Arj na nb xs ys _ _ hn h
def TBD:Cw:=TBC
theorem KU:Ch AZ TBD:=CB
theorem Ark{q c:Int}{s:Nat}(hq:0<=q)(hs:q*2^s<18446744073709551616)(hs':s<=64)(hc:0<=c/\c<2^s) :
  I B ((U (An .u64) (q*2^s) ||| U (An .u64) c).toNat)=q*2^s+c:=by
 obtain⟨a,rfl⟩:∃ a:Nat,q=a:=⟨q.toNat,by omega⟩;obtain⟨b,rfl⟩:∃ b:Nat,c=b:=⟨c.toNat,by omega⟩;have e1:(a:Int)*2^s=((a*2^s:Nat):Int):=by rw[Dj,CH];rfl
 have hb:b<2^s:=by
  have:(b:Int)<((2^s:Nat):Int):=by rw[CH];exact hc.2
  omega
 have h64:2^s<=2^64:=B8 (by decide) hs';have e64:2^64=18446744073709551616:=by decide
 rw[e1] at hs |-;show I B ((U 64 ((a*2^s:Nat):Int) ||| U 64 (b:Int)).toNat:Int)=_;rw[kU,K2,K2,Ji,Ji,F1 (by omega),F1 (by omega),CZ a,<- Ayw hb,CZ (2^s) a,BF];have hsum:a*2^s+b<18446744073709551616:=by
  have hd:a*2^s+2^s<=2^64:=by
   have hk:2^64=2^(64-s)*2^s:=by rw[<- CN];congr 1;omega
   have h1:a<2^(64-s):=by
    rcases Cn a (2^(64-s)) with g | g
    ·exact g
    ·have:=AE (2^s) g;omega
   have h2:=AE (2^s) (show a+1<=2^(64-s) by omega);rw[DY,Fe] at h2;omega
  omega
 omega
theorem BP(n:Nat):(0:Int)<2^n:=EQ (by decide)
theorem G6{a b:Nat}(h:a<=b):(2:Int)^a<=2^b:=by
 have h1:2^a<=2^b:=B8 (by decide) h;have e:∀ n:Nat,(2:Int)^n=((2^n:Nat):Int):=fun n=>by rw[CH];rfl
 rw[e,e];omega
theorem Nd(n:Nat):(4294967296:Int)^n=2^(32*n):=by
 rw[kX];rfl
theorem Ij(n:Nat):(2:Int)^n=4294967296^(n / 32)*2^(n % 32):=by
 rw[Nd,<- BG,kS]
def TH(neg:Bool)(xs:LI)(n:Nat)(cs:List AV)(c:Int)(s:Int)(ms:LI)(i:Int):Al:=(Ac 2 (A9s [F neg,Y W xs]::(Ac 1 (A9s [F false,H 0 []]::(A9n 1 n cs::(A9j (D Ad c)::(A9j (D B s)::(A9j (Y W ms)::(A9j (D O i)::(Ac 41 []))))))))))
theorem A2e(neg:Bool)(xs:LI)(n:Nat)(cs:List AV)(c:Int)(s:Int)(ms:LI)(i:Int)(c1:A9i (i<(ms.length:Int))=true)(n1:0<=i/\i<(ms.length:Int))(n2:¬ s<0)(n3:n+1<=35184372088832):Ar dK (TH neg xs n cs c s ms i) .norm (TH neg xs (n+1) (cs++([D Ad (I Ad (I B ((U (An .u64) (I B ((I B (ms.getD (A i) 0))*2^(min (A s) (An .u64)))) ||| U (An .u64) (I B c)).toNat)))]:List AV)) (I Ad (A9q (I B ((U (An .u64) (I B ((I B (ms.getD (A i) 0))*2^(min (A s) (An .u64)))) ||| U (An .u64) (I B c)).toNat)) (2^(min (A 32) (An .u64))))) s ms (I O (i+1))):=(G KU 400 [.b true,.v (D Ad (ms.getD (A i) 0))] [2,4,5,6,7,8,9] (T c1 (T n1 (T (AAe n1) (T n2 (T (show Bs ([D Ad (I Ad (I B ((U (An .u64) (I B ((I B (ms.getD (A i) 0))*2^(min (A s) (An .u64)))) ||| U (An .u64) (I B c)).toNat)))]:List AV)=1*1 from rfl) (T n3 (T It a0))))))))
theorem A2f(neg:Bool)(xs:LI)(n:Nat)(cs:List AV)(c:Int)(s:Int)(ms:LI)(i:Int)(c1:A9i (i<(ms.length:Int))=false):Ar dK (TH neg xs n cs c s ms i) (.exit 0) (TH neg xs n cs c s ms i):=(G KU 400 [.b false] [2,4,5,6,7,8,9] (T c1 a0))
theorem A2g(neg:Bool)(xs:LI)(sh:Int)(n:Nat)(cs:List AV)(c i v:Int)(n1:0<=(I O (Av sh 32))/\(I O (Av sh 32))<=1048576)(n2:RQ 99 [Y W xs] (L 1 ((A9l xs).length) (W (A9l xs))))(hl3:Ar (.loop dK) (TH neg xs (A (I O (Av sh 32))) (Cz [D Ad 0] (A (I O (Av sh 32)))) 0 (I B (AC sh 32)) (A9l xs) 0) (.exit 0) (TH neg xs n cs c (I B (AC sh 32)) (A9l xs) i))(n4:n+1<=35184372088832)(n5:RQ 98 [F neg,H (n+1) (cs++([D Ad c]:List AV))] (CI v)):RQ 84 [o [F neg,Y W xs],D O sh] (CI v):=A9g dL (Ac 4 (.bxl 50::(Ac 45 (.agn (.st (A9i (v<0))) 1 ((M (E v)).length) (W (M (E v)))::[])))) (A9m (A9m (A9m (A9m (A9t (C1.seq (G KU 400 [.r (L 1 ((A9l xs).length) (W (A9l xs)))] [2,4,5,6,7,8,9] (T FO (T n1 (T FO (T n2 a0))))) (C1.seq (C1.block hl3) (G KU 400 [.r (CI v)] [4,50] (T (show Bs ([D Ad c]:List AV)=1*1 from rfl) (T n4 (T n5 a0)))))))))))
theorem eV{x c:Int}{s:Nat}(hx:0<=x/\x<4294967296)(hs:s<32)(hc:0<=c/\c<2^s) :
  I B ((U (An .u64) (I B ((I B x)*2^(min (A (s:Int)) (An .u64)))) ||| U (An .u64) (I B c)).toNat)=x*2^s+c
  /\ 0<=(x*2^s+c) / 4294967296/\(x*2^s+c) / 4294967296<2^s/\(2:Int)^s<=2147483648:=by
 have hp:=BP s;have hp2:(2:Int)^s<=2147483648:=G6 (show s<=31 by omega);have hm:x*2^s<=4294967295*2^s:=Ae (by omega) (by omega);have hm0:0<=x*2^s:=A6 hx.1 (by omega);have hmin:min (A (s:Int)) (An .u64)=s:=by
  rw[R];show min s 64=s;omega
 have w1:I B x=x:=by rw[BF];omega
 have w2:I B (x*2^s)=x*2^s:=by rw[BF];omega
 have w3:I B c=c:=by rw[BF];omega
 refine⟨?_,by omega,by omega,hp2⟩;rw[hmin,w1,w2,w3];exact Ark hx.1 (by omega) (by omega) hc
theorem Arl{neg:Bool}{xs ms pre:LI}(hu:AP ms){s:Nat}(hs:s<32)(hN:pre.length+ms.length<=1048576):∀ (r i:Nat) (acc:LI) (c:Int),i+r=ms.length->acc.length=i->AP acc->0<=c/\c<2^s ->
  ∃ (zs:LI) (c':Int),AP zs/\zs.length=ms.length/\(0<=c'/\c'<2^s)/\Ab zs+4294967296^ms.length*c'=Ab acc+4294967296^i*(c+2^s*Ab (ms.drop i)) /\
   Ar (.loop dK) (TH neg xs (pre.length+i) (W (pre++acc)) c (s:Nat) ms (i:Nat)) (.exit 0) (TH neg xs (pre.length+ms.length) (W (pre++zs)) c' (s:Nat) ms (ms.length:Nat)):=by
 intro r;induction r with
 | zero =>
  intro i acc c hi hl hacc hc;have e1:Ab (ms.drop i)=0:=DQ (by omega);have hi':i=ms.length:=by omega
  refine⟨acc,c,hacc,by omega,hc,by rw[e1,hi'];simp,?_⟩;rw[hi'];exact Ao (A2f neg xs _ _ c (s:Nat) ms (ms.length:Nat) (by simp)) (by nofun)
 | succ r ih =>
  intro i acc c hi hl hacc hc;have bm:=AG hu i;obtain⟨w1,w2,w3,w4⟩:=eV bm hs hc;have ei:I O ((i:Int)+1)=((i+1:Nat):Int):=by rw[Bl (by omega) (by omega)];omega
  have k:=A2e neg xs (pre.length+i) (W (pre++acc)) c (s:Nat) ms (i:Nat) (by simp;omega) (by omega) (by omega) (by omega);have wd:I Ad ((ms.getD i 0*2^s+c) / 4294967296)=(ms.getD i 0*2^s+c) / 4294967296:=by rw[DW];omega
  simp only[R i,w1,eQ,wd,DW (ms.getD i 0*2^s+c),ei,HO,N6] at k;obtain⟨zs,c',q1,q2,q3,q4,q5⟩:=ih (i+1) (acc++[(ms.getD i 0*2^s+c) % 4294967296]) ((ms.getD i 0*2^s+c) / 4294967296) (by omega) (by simp[hl]) (Mt hacc (by omega)) ⟨w2,w3⟩;refine⟨zs,c',q1,q2,q3,?_,C1.loop k q5⟩;rw[q4,KT,hl,CA ms i,A2];have hd:=To (ms.getD i 0*2^s+c) 4294967296;generalize (ms.getD i 0*2^s+c) % 4294967296=m at *
  generalize (ms.getD i 0*2^s+c) / 4294967296=d at *
  generalize (4294967296:Int)^i=p at *
  generalize Ab (ms.drop (i+1))=X at *
  generalize (2:Int)^s=T at *
  generalize ms.getD i 0=y at *
  have:c+T*(y+4294967296*X)=m+4294967296*(d+T*X):=by
   have:c+T*(y+4294967296*X)=(y*T+c)+4294967296*(T*X):=by grind
   omega
  rw[this];grind
theorem YB{neg:Bool}{xs ys:LI}{t:Int}(h:Ab ys=t*Ab xs):v neg ys=v neg xs*t:=by
 unfold v;rw[h];generalize Ab xs=X;cases neg <;> simp <;> grind
theorem R0{neg:Bool}{xs:LI}(hu:AP xs)(n:Nat)(hN:n / 32+xs.length+1<=1048576):RQ 84 [o [F neg,Y W xs],D O (n:Nat)] (CI (v neg xs*2^n)):=by
 have t1:=Bp xs;have e1:I O (Av (n:Int) 32)=((n / 32:Nat):Int):=by
  rw[BH (by omega),Bl (by omega) (by omega)];omega
 have e2:I B (AC (n:Int) 32)=((n % 32:Nat):Int):=by
  rw[Bu (by omega),BF];omega
 obtain⟨zs,c',q1,q2,q3,q4,q5⟩:=Arl (neg:=neg) (xs:=xs) (pre:=At (n / 32) 0) (Pm hu) (s:=n % 32) (by omega) (by simp;omega) (A9l xs).length 0 [] 0 (by omega) rfl (fun x hx=>by cases hx) ⟨by omega,BP _⟩;have w4:(2:Int)^(n % 32)<=2147483648:=G6 (show n % 32<=31 by omega);simp only[Fi,PC,FP,Ab,Da,EZ,Dt,DL] at q4 q5;have huz:AP (At (n / 32) 0++zs++[c']):=by
  refine Mt ?_ (by omega);intro x hx;rcases Cc.1 hx with g | g
  ·exact EN _ x g
  ·exact q1 x g
 have hlen:(At (n / 32) 0++zs++[c']).length=n / 32+(A9l xs).length+1:=by simp[q2];omega
 have hk:=Ga (neg:=neg) huz (by omega);have hval:Ab (At (n / 32) 0++zs++[c'])=2^n*Ab xs:=by
  rw[KT,Gt,ED,Ij n,Bf,Fi,BG,q2];rw[Ek] at q4;generalize (4294967296:Int)^(n / 32)=p at *
  generalize (4294967296:Int)^(A9l xs).length=q at *
  generalize (2:Int)^(n % 32)=T at *
  generalize Ab xs=X at *
  generalize Ab zs=Z at *
  grind
 rw[YB hval] at hk;unfold Y at hk;rw[hlen] at hk;refine A2g neg xs (n:Nat) (n / 32+(A9l xs).length) (W (At (n / 32) 0++zs)) c' ((A9l xs).length:Nat) _ (by rw[e1];omega) (Eh (by omega)) (by rw[e1,e2,R,EY];exact q5) (by omega) (by rw[HO];exact hk)
def TBE:Cw:=TBD
theorem A9w:Ch AZ TBE:=KU
def TQ0:Cw:=[]
theorem Cp:Ch AZ TQ0:=Ch.nil _
def JV(neg:Bool)(N:Nat)(cs:List AV)(n:Int):Al:=(Ac 1 (A9s [F neg,H N cs]::(A9j (F false)::(A9n 1 0 []::(A9j (D O n)::(Ac 26 []))))))
theorem Arm(neg:Bool)(N:Nat)(cs:List AV)(n:Int)(x:Int)(c1:A9i (n>0)=true)(c2:(x==0)=true)(n1:0<=(I O (n-1))/\(I O (n-1))<(N:Int))(n2:Bv (A9v (A (I O (n-1))*1) cs) 0 1 true=some (D Ad x)):Ar Qu (JV neg N cs n) .norm (JV neg N cs (I O (n-1))):=G Cp 300 [.b true,.v (D Ad x),.b true] [1,2,3,4] (T c1 (T n1 (T n2 (T c2 a0)))) (by kernel_rfl)
theorem Arn(neg:Bool)(N:Nat)(cs:List AV)(n:Int)(x:Int)(c1:A9i (n>0)=true)(c2:(x==0)=false)(n1:0<=(I O (n-1))/\(I O (n-1))<(N:Int))(n2:Bv (A9v (A (I O (n-1))*1) cs) 0 1 true=some (D Ad x)):Ar Qu (JV neg N cs n) (.exit 0) (JV neg N cs n):=G Cp 300 [.b true,.v (D Ad x),.b false] [1,2,3,4] (T c1 (T n1 (T n2 (T c2 a0)))) (by kernel_rfl)
theorem Aro(neg:Bool)(N:Nat)(cs:List AV)(n:Int)(c1:A9i (n>0)=false):Ar Qu (JV neg N cs n) (.exit 0) (JV neg N cs n):=G Cp 300 [.b false,.b false] [1,2,3,4] (T c1 (T ES a0)) (by kernel_rfl)
theorem YC(neg:Bool)(xs:LI)(hN:xs.length<=1048576):∀ m,m<=xs.length->Ar (.loop Qu) (JV neg xs.length (W xs) (m:Int)) (.exit 0) (JV neg xs.length (W xs) ((A9r xs m:Nat):Int)):=by
 intro m;induction m with
 | zero =>
  intro _;exact Ao (Aro neg xs.length (W xs) ((0:Nat):Int) (by simp)) (by nofun)
 | succ m ih =>
  intro hm;have e1:I O (((m+1:Nat):Int)-1)=(m:Int):=by rw[Bl (by omega) (by omega)];omega
  have hx:=Eg (xs:=xs) (i:=m) (by omega);simp only[A9r];by_cases h0:xs.getD m 0=0
  ·rw[if_pos h0];have h1:=Arm neg xs.length (W xs) ((m+1:Nat):Int) (xs.getD m 0) (by simp) (by rw[h0];rfl) (by rw[e1];omega) (by rw[e1,R];exact hx);rw[e1] at h1;exact C1.loop h1 (ih (by omega))
  ·rw[if_neg h0];exact Ao (Arn neg xs.length (W xs) ((m+1:Nat):Int) (xs.getD m 0) (by simp) (by simpa using h0) (by rw[e1];omega) (by rw[e1,R];exact hx)) (by nofun)
theorem XC(xs:LI)(hl:Ar (.loop Qu) (JV true xs.length (W xs) (xs.length:Int)) (.exit 0) (JV true xs.length (W xs) ((A9r xs xs.length:Nat):Int)))(hsc:0<=(A ((A9r xs xs.length:Nat):Int))/\(A ((A9r xs xs.length:Nat):Int))<=xs.length/\xs.length<=xs.length/\(false=true->true=true)):RQ 143 [o [F true,Y W xs]] (Ax [F (A9i (((A9r xs xs.length:Nat):Int)>0)),H ((A ((A9r xs xs.length:Nat):Int))-0) (BD (((A ((A9r xs xs.length:Nat):Int))-0)*1) (A9v (0*1) (W xs)))]):=A9g Sv (Ac 1 (A9s [F true,Y W xs]::(A9j (F (A9i (((A9r xs xs.length:Nat):Int)>0)))::(A9j (H ((A ((A9r xs xs.length:Nat):Int))-0) (BD (((A ((A9r xs xs.length:Nat):Int))-0)*1) (A9v (0*1) (W xs))))::(A9j (D O ((A9r xs xs.length:Nat):Int))::(Ac 16 (.ptr 1 0::(A9j (F true)::(A9j (F true)::(A9j (D O ((A9r xs xs.length:Nat):Int))::(A9j (F (A9i (((A9r xs xs.length:Nat):Int)>0)))::(A9j (F (A9i (((A9r xs xs.length:Nat):Int)>0)))::(.ptr 1 1::(A9j (Y W xs)::(A9j (D O ((A9r xs xs.length:Nat):Int))::(A9j (H ((A ((A9r xs xs.length:Nat):Int))-0) (BD (((A ((A9r xs xs.length:Nat):Int))-0)*1) (A9v (0*1) (W xs))))::[])))))))))))))))) (C1.seq (G (t:=(A9j (o [F true,Y W xs])::(A9s [F true,Y W xs]::(A9j (F false)::(A9n 1 0 []::(Ac 27 [])))))) Cp 300 [] [0,1,2,3] a0) (C1.seq (G (t:=(Ac 1 (A9s [F true,Y W xs]::(A9j (F false)::(A9n 1 0 []::(m (xs.length:Int)::(Ac 26 []))))))) Cp 300 [] [1,2,3,4] a0) (C1.seq (C1.block hl) (G (t:=(Ac 1 (A9s [F true,Y W xs]::(A9j (F (A9i (((A9r xs xs.length:Nat):Int)>0)))::(A9j (H ((A ((A9r xs xs.length:Nat):Int))-0) (BD (((A ((A9r xs xs.length:Nat):Int))-0)*1) (A9v (0*1) (W xs))))::(m ((A9r xs xs.length:Nat):Int)::(Ac 16 (.ptr 1 0::(A9j (F true)::(A9j (F true)::(m ((A9r xs xs.length:Nat):Int)::(A9j (F (A9i (((A9r xs xs.length:Nat):Int)>0)))::(A9j (F (A9i (((A9r xs xs.length:Nat):Int)>0)))::(.ptr 1 1::(f xs::(m ((A9r xs xs.length:Nat):Int)::(A9j (H ((A ((A9r xs xs.length:Nat):Int))-0) (BD (((A ((A9r xs xs.length:Nat):Int))-0)*1) (A9v (0*1) (W xs))))::[]))))))))))))))))) (ex := .ret) Cp 300 [.b true] [1,2,3,4,21,22,23,24,25,26,27,28,29,30] (T Hw (T (show 0<=((A9r xs xs.length:Nat):Int) from (HH _)) (T (show 0<=(A ((A9r xs xs.length:Nat):Int))/\(A ((A9r xs xs.length:Nat):Int))<=xs.length/\xs.length<=xs.length/\(false=true->true=true) from hsc) a0)))))))
theorem Wt(xs:LI)(hl:Ar (.loop Qu) (JV false xs.length (W xs) (xs.length:Int)) (.exit 0) (JV false xs.length (W xs) ((A9r xs xs.length:Nat):Int)))(hsc:0<=(A ((A9r xs xs.length:Nat):Int))/\(A ((A9r xs xs.length:Nat):Int))<=xs.length/\xs.length<=xs.length/\(false=true->true=true)):RQ 143 [o [F false,Y W xs]] (Ax [F false,H ((A ((A9r xs xs.length:Nat):Int))-0) (BD (((A ((A9r xs xs.length:Nat):Int))-0)*1) (A9v (0*1) (W xs)))]):=A9g Sv (Ac 1 (A9s [F false,Y W xs]::(A9j (F false)::(A9j (H ((A ((A9r xs xs.length:Nat):Int))-0) (BD (((A ((A9r xs xs.length:Nat):Int))-0)*1) (A9v (0*1) (W xs))))::(A9j (D O ((A9r xs xs.length:Nat):Int))::(Ac 16 (.ptr 1 0::(A9j (F false)::(A9j (F false)::(A9j (.undef)::(A9j (.undef)::(A9j (F false)::(.ptr 1 1::(A9j (Y W xs)::(A9j (D O ((A9r xs xs.length:Nat):Int))::(A9j (H ((A ((A9r xs xs.length:Nat):Int))-0) (BD (((A ((A9r xs xs.length:Nat):Int))-0)*1) (A9v (0*1) (W xs))))::[])))))))))))))))) (C1.seq (G (t:=(A9j (o [F false,Y W xs])::(A9s [F false,Y W xs]::(A9j (F false)::(A9n 1 0 []::(Ac 27 [])))))) Cp 300 [] [0,1,2,3] a0) (C1.seq (G (t:=(Ac 1 (A9s [F false,Y W xs]::(A9j (F false)::(A9n 1 0 []::(m (xs.length:Int)::(Ac 26 []))))))) Cp 300 [] [1,2,3,4] a0) (C1.seq (C1.block hl) (G (t:=(Ac 1 (A9s [F false,Y W xs]::(A9j (F false)::(A9j (H ((A ((A9r xs xs.length:Nat):Int))-0) (BD (((A ((A9r xs xs.length:Nat):Int))-0)*1) (A9v (0*1) (W xs))))::(m ((A9r xs xs.length:Nat):Int)::(Ac 16 (.ptr 1 0::(A9j (F false)::(A9j (F false)::(A9j (.undef)::(A9j (.undef)::(A9j (F false)::(.ptr 1 1::(f xs::(m ((A9r xs xs.length:Nat):Int)::(A9j (H ((A ((A9r xs xs.length:Nat):Int))-0) (BD (((A ((A9r xs xs.length:Nat):Int))-0)*1) (A9v (0*1) (W xs))))::[]))))))))))))))))) (ex := .ret) Cp 300 [.b false] [1,2,3,4,21,22,23,24,25,26,27,28,29,30] (T ES (T (show 0<=((A9r xs xs.length:Nat):Int) from (HH _)) (T (show 0<=(A ((A9r xs xs.length:Nat):Int))/\(A ((A9r xs xs.length:Nat):Int))<=xs.length/\xs.length<=xs.length/\(false=true->true=true) from hsc) a0)))))))
theorem eX(xs:LI):(A ((A9r xs xs.length:Nat):Int)-0)=(A9l xs).length/\(BD ((A ((A9r xs xs.length:Nat):Int)-0)*1) (A9v (0*1) (W xs)))=W (A9l xs)/\(0<=(A ((A9r xs xs.length:Nat):Int))/\(A ((A9r xs xs.length:Nat):Int))<=xs.length/\xs.length<=xs.length/\(false=true->true=true)):=by
 have hle:=GX xs xs.length;rw[R];refine⟨by simp[A9l];omega,by simp[W,A9l,Sh],by omega,hle,Ap _,fun h=>by cases h⟩
theorem Du{neg:Bool}{xs:LI}(hu:AP xs)(hN:xs.length<=1048576):RQ 143 [o [F neg,Y W xs]]
  (Ax [F (A9i (v neg xs<0)),H (M (v neg xs).natAbs).length (W (M (v neg xs).natAbs))]):=by
 obtain⟨e1,e2,e3⟩:=eX xs;have ht:=Pk (neg:=neg) hu;have hn:=uH (neg:=neg) hu;have hlen:(A9l xs).length=A9r xs xs.length:=by rw[<- e1,R];rfl
 cases neg with
 | true =>
  have h:=XC xs (YC true xs hN xs.length (Ap _)) e3;rw[e2,e1,ht] at h;have e4:decide (((A9r xs xs.length:Nat):Int)>0)=decide (v true xs<0):=by
   rw[<- hn,LX,<- ht,hlen,decide_eq_decide];omega
  rw[e4] at h;exact h
 | false =>
  have h:=Wt xs (YC false xs hN xs.length (Ap _)) e3;rw[e2,e1,ht] at h;rw[KR] at hn;rw[<- hn];exact h
def JW(neg:Bool)(N:Nat)(cs:List AV)(n:Int):Al:=(A9j (F neg)::(A9j (H N cs)::(Ac 2 (A9s [F false,H 0 []]::(A9j (D O n)::(Ac 23 []))))))
theorem Arp(neg:Bool)(N:Nat)(cs:List AV)(n:Int)(x:Int)(c1:A9i (n>0)=true)(c2:(x==0)=true)(n1:0<=(I O (n-1))/\(I O (n-1))<(N:Int))(n2:Bv (A9v (A (I O (n-1))*1) cs) 0 1 true=some (D Ad x)):Ar Qw (JW neg N cs n) .norm (JW neg N cs (I O (n-1))):=G Cp 300 [.b true,.v (D Ad x),.b true] [0,1,4,5] (T c1 (T n1 (T n2 (T c2 a0)))) (by kernel_rfl)
theorem Arq(neg:Bool)(N:Nat)(cs:List AV)(n:Int)(x:Int)(c1:A9i (n>0)=true)(c2:(x==0)=false)(n1:0<=(I O (n-1))/\(I O (n-1))<(N:Int))(n2:Bv (A9v (A (I O (n-1))*1) cs) 0 1 true=some (D Ad x)):Ar Qw (JW neg N cs n) (.exit 0) (JW neg N cs n):=G Cp 300 [.b true,.v (D Ad x),.b false] [0,1,4,5] (T c1 (T n1 (T n2 (T c2 a0)))) (by kernel_rfl)
theorem Arr(neg:Bool)(N:Nat)(cs:List AV)(n:Int)(c1:A9i (n>0)=false):Ar Qw (JW neg N cs n) (.exit 0) (JW neg N cs n):=G Cp 300 [.b false,.b false] [0,1,4,5] (T c1 (T ES a0)) (by kernel_rfl)
theorem zY(neg:Bool)(xs:LI)(hN:xs.length<=1048576):∀ m,m<=xs.length->Ar (.loop Qw) (JW neg xs.length (W xs) (m:Int)) (.exit 0) (JW neg xs.length (W xs) ((A9r xs m:Nat):Int)):=by
 intro m;induction m with
 | zero =>
  intro _;exact Ao (Arr neg xs.length (W xs) ((0:Nat):Int) (by simp)) (by nofun)
 | succ m ih =>
  intro hm;have e1:I O (((m+1:Nat):Int)-1)=(m:Int):=by rw[Bl (by omega) (by omega)];omega
  have hx:=Eg (xs:=xs) (i:=m) (by omega);simp only[A9r];by_cases h0:xs.getD m 0=0
  ·rw[if_pos h0];have h1:=Arp neg xs.length (W xs) ((m+1:Nat):Int) (xs.getD m 0) (by simp) (by rw[h0];rfl) (by rw[e1];omega) (by rw[e1,R];exact hx);rw[e1] at h1;exact C1.loop h1 (ih (by omega))
  ·rw[if_neg h0];exact Ao (Arq neg xs.length (W xs) ((m+1:Nat):Int) (xs.getD m 0) (by simp) (by simpa using h0) (by rw[e1];omega) (by rw[e1,R];exact hx)) (by nofun)
theorem mU(neg:Bool)(xs:LI)(hz:(((A9r xs xs.length:Nat):Int)==0)=true)(hl:Ar (.loop Qw) (JW neg xs.length (W xs) (xs.length:Int)) (.exit 0) (JW neg xs.length (W xs) ((A9r xs xs.length:Nat):Int))):RQ 152 [F neg,Y W xs] (o [F false,H 0 []]):=A9g S7 (A9j (F neg)::(A9j (Y W xs)::(Ac 2 (A9s [F false,H 0 []]::(A9j (D O ((A9r xs xs.length:Nat):Int))::(Ac 14 (A9j (D O ((A9r xs xs.length:Nat):Int))::(A9j (F (((A9r xs xs.length:Nat):Int)==0))::(A9j (o [F false,H 0 []])::(Ac 6 [])))))))))) (C1.seq (G (t:=(A9j (F neg)::(f xs::(Ac 2 (A9s [F false,H 0 []]::(Ac 24 [])))))) Cp 300 [] [0,1,4] a0) (C1.seq (G (t:=(A9j (F neg)::(f xs::(Ac 2 (A9s [F false,H 0 []]::(m (xs.length:Int)::(Ac 23 []))))))) Cp 300 [] [0,1,4,5] a0) (C1.seq (C1.block hl) (G (t:=(A9j (F neg)::(f xs::(Ac 2 (A9s [F false,H 0 []]::(m ((A9r xs xs.length:Nat):Int)::(Ac 14 (m ((A9r xs xs.length:Nat):Int)::(A9j (F (((A9r xs xs.length:Nat):Int)==0))::(A9j (o [F false,H 0 []])::(Ac 6 []))))))))))) (ex := .ret) Cp 300 [.b true] [0,1,4,5,20,21,22] (T (show (((A9r xs xs.length:Nat):Int)==0)=true from hz) a0)))))
theorem mV(neg:Bool)(xs:LI)(hz:(((A9r xs xs.length:Nat):Int)==0)=false)(hl:Ar (.loop Qw) (JW neg xs.length (W xs) (xs.length:Int)) (.exit 0) (JW neg xs.length (W xs) ((A9r xs xs.length:Nat):Int)))(hsc:0<=(A ((A9r xs xs.length:Nat):Int))/\(A ((A9r xs xs.length:Nat):Int))<=(A ((A9r xs xs.length:Nat):Int))/\(A ((A9r xs xs.length:Nat):Int))<=xs.length/\(true=true->true=true)):RQ 152 [F neg,Y W xs] (o [F neg,H ((A ((A9r xs xs.length:Nat):Int))-0) (BD (((A ((A9r xs xs.length:Nat):Int))-0)*1) (A9v (0*1) (W xs)))]):=A9g S7 (A9j (F neg)::(A9j (Y W xs)::(Ac 2 (A9s [F neg,H ((A ((A9r xs xs.length:Nat):Int))-0) (BD (((A ((A9r xs xs.length:Nat):Int))-0)*1) (A9v (0*1) (W xs)))]::(A9j (D O ((A9r xs xs.length:Nat):Int))::(Ac 14 (A9j (D O ((A9r xs xs.length:Nat):Int))::(A9j (F (((A9r xs xs.length:Nat):Int)==0))::(Ac 1 (A9j (F neg)::(A9j (Y W xs)::(A9j (D O ((A9r xs xs.length:Nat):Int))::(A9j (D O ((A9r xs xs.length:Nat):Int))::(A9j (H ((A ((A9r xs xs.length:Nat):Int))-0) (BD (((A ((A9r xs xs.length:Nat):Int))-0)*1) (A9v (0*1) (W xs))))::(A9j (o [F neg,H ((A ((A9r xs xs.length:Nat):Int))-0) (BD (((A ((A9r xs xs.length:Nat):Int))-0)*1) (A9v (0*1) (W xs)))])::[]))))))))))))))) (C1.seq (G (t:=(A9j (F neg)::(f xs::(Ac 2 (A9s [F false,H 0 []]::(Ac 24 [])))))) Cp 300 [] [0,1,4] a0) (C1.seq (G (t:=(A9j (F neg)::(f xs::(Ac 2 (A9s [F false,H 0 []]::(m (xs.length:Int)::(Ac 23 []))))))) Cp 300 [] [0,1,4,5] a0) (C1.seq (C1.block hl) (G (t:=(A9j (F neg)::(f xs::(Ac 2 (A9s [F neg,H ((A ((A9r xs xs.length:Nat):Int))-0) (BD (((A ((A9r xs xs.length:Nat):Int))-0)*1) (A9v (0*1) (W xs)))]::(m ((A9r xs xs.length:Nat):Int)::(Ac 14 (m ((A9r xs xs.length:Nat):Int)::(A9j (F (((A9r xs xs.length:Nat):Int)==0))::(Ac 1 (A9j (F neg)::(f xs::(m ((A9r xs xs.length:Nat):Int)::(m ((A9r xs xs.length:Nat):Int)::(A9j (H ((A ((A9r xs xs.length:Nat):Int))-0) (BD (((A ((A9r xs xs.length:Nat):Int))-0)*1) (A9v (0*1) (W xs))))::(A9j (o [F neg,H ((A ((A9r xs xs.length:Nat):Int))-0) (BD (((A ((A9r xs xs.length:Nat):Int))-0)*1) (A9v (0*1) (W xs)))])::[])))))))))))))))) (ex := .ret) Cp 300 [.b false] [0,1,4,5,20,21,23,24,25,26,27,28] (T (show (((A9r xs xs.length:Nat):Int)==0)=false from hz) (T (show 0<=((A9r xs xs.length:Nat):Int) from (HH _)) (T (show 0<=((A9r xs xs.length:Nat):Int) from (HH _)) (T (show 0<=(A ((A9r xs xs.length:Nat):Int))/\(A ((A9r xs xs.length:Nat):Int))<=(A ((A9r xs xs.length:Nat):Int))/\(A ((A9r xs xs.length:Nat):Int))<=xs.length/\(true=true->true=true) from hsc) a0))))))))
theorem EI{neg:Bool}{xs:LI}(hu:AP xs)(hN:xs.length<=1048576):RQ 152 [F neg,Y W xs] (Ag (v neg xs)):=by
 obtain⟨e1,e2,e3⟩:=eX xs;have ht:=Pk (neg:=neg) hu;have hn:=uH (neg:=neg) hu;have hlen:(A9l xs).length=A9r xs xs.length:=by rw[<- e1,R];rfl
 have hl:=zY neg xs hN xs.length (Ap _);by_cases h0:A9r xs xs.length=0
 ·have h:=mU neg xs (by rw[h0];rfl) hl;have hz:(M (v neg xs).natAbs).length=0:=by rw[<- ht,hlen,h0]
  have hv:v neg xs=0:=by have:=(Dp _).1 hz;omega
  rw[hv];exact h
 ·have h:=mV neg xs (by rw[beq_eq_false_iff_ne];omega) hl ⟨e3.1,Ap _,e3.2.1,fun _=>rfl⟩;rw[e2,e1,ht] at h;have hp:decide (0<(M (v neg xs).natAbs).length)=true:=by rw[<- ht,hlen];simp;omega
  rw[hp,Lh] at hn;rw[Ag,<- hn];exact h
theorem mW(n:Int)(c1:decide (n<0)=true)(hcall:RQ 152 [F (A9i (n<0)),H 2 [D Ad (I Ad (I B (0-(I B n)))),D Ad (I Ad (A9q (I B (0-(I B n))) (2^(min (A 32) (An .u64)))))]] (o [F (A9i (n<0)),H ((M (E n)).length) (W (M (E n)))])):RQ 132 [D O n] (o [F (A9i (n<0)),H ((M (E n)).length) (W (M (E n)))]):=B1 (ps:=[(A9i (n<0))=true,¬ (32:Int)<0,RQ 152 [F (A9i (n<0)),H 2 [D Ad (I Ad (I B (0-(I B n)))),D Ad (I Ad (A9q (I B (0-(I B n))) (2^(min (A 32) (An .u64)))))]] (o [F (A9i (n<0)),H ((M (E n)).length) (W (M (E n)))])]) Cp rfl 300 rfl [.b true,.r (o [F (A9i (n<0)),H ((M (E n)).length) (W (M (E n)))])] (by kernel_rfl) ⟨c1,(by decide),hcall,trivial⟩
theorem mX(n:Int)(c1:decide (n<0)=false)(hcall:RQ 152 [F (A9i (n<0)),H 2 [D Ad (I Ad (I B n)),D Ad (I Ad (A9q (I B n) (2^(min (A 32) (An .u64)))))]] (o [F (A9i (n<0)),H ((M (E n)).length) (W (M (E n)))])):RQ 132 [D O n] (o [F (A9i (n<0)),H ((M (E n)).length) (W (M (E n)))]):=B1 (ps:=[(A9i (n<0))=false,¬ (32:Int)<0,RQ 152 [F (A9i (n<0)),H 2 [D Ad (I Ad (I B n)),D Ad (I Ad (A9q (I B n) (2^(min (A 32) (An .u64)))))]] (o [F (A9i (n<0)),H ((M (E n)).length) (W (M (E n)))])]) Cp rfl 300 rfl [.b false,.r (o [F (A9i (n<0)),H ((M (E n)).length) (W (M (E n)))])] (by kernel_rfl) ⟨c1,(by decide),hcall,trivial⟩
theorem Ars{n:Int}(hn : -9223372036854775808<=n/\n<=9223372036854775807):RQ 132 [D O n] (Ag n):=by
 cases c1:decide (n<0) with
 | true =>
  have h0:n<0:=by simpa using c1
  have eu:(I B (0-I B n)) = -n:=by rw[BF,BF];omega
  obtain⟨k1,k2⟩:=Mo (u:=(I B (0-I B n))) (by rw[eu];omega);refine mW n c1 ?_;have:=EI (neg:=true) k1 (by simp);have e:v true [I Ad (I B (0-I B n)),I Ad (A9q (I B (0-I B n)) (2^(min (A 32) (An .u64))))]=n:=by
   unfold v;rw[k2,if_pos rfl,eu];omega
  rw[e,Ag,c1] at this;rw[c1];exact this
 | false =>
  have h0:¬ n<0:=by simpa using c1
  have eu:I B n=n:=by rw[BF];omega
  obtain⟨k1,k2⟩:=Mo (u:=I B n) (by rw[eu];omega);refine mX n c1 ?_;have:=EI (neg:=false) k1 (by simp);have e:v false [I Ad (I B n),I Ad (A9q (I B n) (2^(min (A 32) (An .u64))))]=n:=by
   unfold v;rw[if_neg (by decide),k2,eu]
  rw[e,Ag,c1] at this;rw[c1];exact this
theorem Art(neg:Bool)(xs:LI)(a r:Int)(h1:RQ 143 [o [F neg,Y W xs]] (Ax [F (A9i (a<0)),H ((M (E a)).length) (W (M (E a)))]))(h2:RQ 152 [F (A9i (a<0)),H (M (E a)).length (W (M (E a)))] (o [F (A9i (r<0)),H ((M (E r)).length) (W (M (E r)))]))(hal:Bs (W (M (E a)))=(M (E a)).length*1)(han:(M (E a)).length<=1048576):RQ 113 [o [F neg,Y W xs]] (o [F (A9i (r<0)),H ((M (E r)).length) (W (M (E r)))]):=B1 (ps:=[RQ 143 [o [F neg,Y W xs]] (Ax [F (A9i (a<0)),H ((M (E a)).length) (W (M (E a)))]),Bs (W (M (E a)))=((M (E a)).length)*1,((M (E a)).length)<=35184372088832,RQ 152 [F (A9i (a<0)),H ((M (E a)).length) (W (M (E a)))] (o [F (A9i (r<0)),H ((M (E r)).length) (W (M (E r)))])]) Cp rfl 300 rfl [.r (Ax [F (A9i (a<0)),H ((M (E a)).length) (W (M (E a)))]),.r (o [F (A9i (r<0)),H ((M (E r)).length) (W (M (E r)))])] (by kernel_rfl) ⟨h1,hal,(Bx han (by decide)),h2,trivial⟩
theorem Aru(neg:Bool)(xs:LI)(a r:Int)(h1:RQ 143 [o [F neg,Y W xs]] (Ax [F (A9i (a<0)),H ((M (E a)).length) (W (M (E a)))]))(h2:RQ 152 [F (!(decide (a<0))),H (M (E a)).length (W (M (E a)))] (o [F (A9i (r<0)),H ((M (E r)).length) (W (M (E r)))]))(hal:Bs (W (M (E a)))=(M (E a)).length*1)(han:(M (E a)).length<=1048576):RQ 131 [o [F neg,Y W xs]] (o [F (A9i (r<0)),H ((M (E r)).length) (W (M (E r)))]):=B1 (ps:=[RQ 143 [o [F neg,Y W xs]] (Ax [F (A9i (a<0)),H ((M (E a)).length) (W (M (E a)))]),Bs (W (M (E a)))=((M (E a)).length)*1,((M (E a)).length)<=35184372088832,RQ 152 [F (!(decide (a<0))),H ((M (E a)).length) (W (M (E a)))] (o [F (A9i (r<0)),H ((M (E r)).length) (W (M (E r)))])]) Cp rfl 300 rfl [.r (Ax [F (A9i (a<0)),H ((M (E a)).length) (W (M (E a)))]),.r (o [F (A9i (r<0)),H ((M (E r)).length) (W (M (E r)))])] (by kernel_rfl) ⟨h1,hal,(Bx han (by decide)),h2,trivial⟩
theorem U4(xs:LI):Bs (W xs)=xs.length*1:=by rw [Ov,GI]
theorem A2h(n:Int):v false (M n.natAbs)=(n.natAbs:Int):=by unfold v;rw [if_neg (by decide),Cx]
theorem uJ(n:Int):v (!decide (n<0)) (M n.natAbs) = -n:=by
 unfold v;rw[Cx];by_cases h:n<0 <;> simp[h] <;> omega
theorem Nf{neg:Bool}{xs:LI}(hu:AP xs)(hN:xs.length<=1048576):RQ 113 [o [F neg,Y W xs]] (Ag (v neg xs)):=by
 have hl:(M (v neg xs).natAbs).length<=1048576:=Bx (EG hu) hN;have h2:=EI (neg:=decide (v neg xs<0)) (BR (v neg xs).natAbs) hl;rw[F8] at h2;exact Art neg xs (v neg xs) (v neg xs) (Du hu hN) h2 (U4 _) hl
theorem YD{neg:Bool}{xs:LI}(hu:AP xs)(hN:xs.length<=1048576):RQ 131 [o [F neg,Y W xs]] (Ag (-(v neg xs))):=by
 have hl:(M (v neg xs).natAbs).length<=1048576:=Bx (EG hu) hN;have h2:=EI (neg := !decide (v neg xs<0)) (BR (v neg xs).natAbs) hl;rw[uJ] at h2;exact Aru neg xs (v neg xs) (-(v neg xs)) (Du hu hN) h2 (U4 _) hl
def U5(a:Int):AV :=
 match (((M (E a)).length:Nat):Int)==0 with
 | true=>(D O 0)
 | false=>(match decide (a<0) with
 | true=>(D O (-1))
 | false=>(D O 1))
theorem Arv(neg:Bool)(xs:LI)(a:Int)(h1:RQ 143 [o [F neg,Y W xs]] (Ax [F (A9i (a<0)),H ((M (E a)).length) (W (M (E a)))])):RQ 101 [o [F neg,Y W xs]] (U5 a):=by
 unfold U5;cases c1:((((M (E a)).length:Nat):Int)==0)
 ·cases c2:(A9i (a<0))
  ·exact B1 (r := D O 1) (ps:=[RQ 143 [o [F neg,Y W xs]] (Ax [F (A9i (a<0)),H ((M (E a)).length) (W (M (E a)))]),((((M (E a)).length:Nat):Int)==0)=false,(A9i (a<0))=false]) Cp rfl 300 rfl [.r (Ax [F (A9i (a<0)),H ((M (E a)).length) (W (M (E a)))]),.b false,.b false] (by kernel_rfl) ⟨h1,c1,c2,trivial⟩
  ·exact B1 (r := D O (-1)) (ps:=[RQ 143 [o [F neg,Y W xs]] (Ax [F (A9i (a<0)),H ((M (E a)).length) (W (M (E a)))]),((((M (E a)).length:Nat):Int)==0)=false,(A9i (a<0))=true]) Cp rfl 300 rfl [.r (Ax [F (A9i (a<0)),H ((M (E a)).length) (W (M (E a)))]),.b false,.b true] (by kernel_rfl) ⟨h1,c1,c2,trivial⟩
 ·exact B1 (r := D O 0) (ps:=[RQ 143 [o [F neg,Y W xs]] (Ax [F (A9i (a<0)),H ((M (E a)).length) (W (M (E a)))]),((((M (E a)).length:Nat):Int)==0)=true]) Cp rfl 300 rfl [.r (Ax [F (A9i (a<0)),H ((M (E a)).length) (W (M (E a)))]),.b true] (by kernel_rfl) ⟨h1,c1,trivial⟩
theorem Ng{neg:Bool}{xs:LI}(hu:AP xs)(hN:xs.length<=1048576):RQ 101 [o [F neg,Y W xs]] (D O (BS (v neg xs))):=by
 have h:=Arv neg xs (v neg xs) (Du hu hN);have e:U5 (v neg xs) = D O (BS (v neg xs)):=by
  unfold U5 BS;have hz:=Dp (v neg xs).natAbs;by_cases h0:v neg xs=0
  ·rw[h0];rfl
  ·have e1:((((M (v neg xs).natAbs).length:Nat):Int)==0)=false:=by rw[beq_eq_false_iff_ne];omega
   rw[e1];by_cases h1:v neg xs<0
   ·simp[h1]
   ·have h2:0<v neg xs:=by omega
    simp[h1,h2]
 rw[<- e];exact h
def TWA:Cw:=TQ0
theorem AS:Ch AZ TWA:=Cp
def HC(N:Nat)(cs:List AV)(M:Nat)(ds:List AV)(v i:Int):Al:=(A9j (H N cs)::(A9j (H M ds)::(Ac 2 (A9j (D O v)::(A9j (D O i)::(Ac 35 []))))))
theorem Arw(N:Nat)(cs:List AV)(M:Nat)(ds:List AV)(v i x y:Int)(c1:A9i (i>=0)=true)(c2:(x != y)=true)(c3:A9i (x<y)=true)(n1:0<=i/\i<(N:Int))(n2:Bv (A9v (A i*1) cs) 0 1 true=some (D Ad x))(n3:0<=i/\i<(M:Int))(n4:Bv (A9v (A i*1) ds) 0 1 true=some (D Ad y))(n5:0<=i/\i<(N:Int))(n6:Bv (A9v (A i*1) cs) 0 1 true=some (D Ad x))(n7:0<=i/\i<(M:Int))(n8:Bv (A9v (A i*1) ds) 0 1 true=some (D Ad y)):Ar MQ (HC N cs M ds v i) .ret (HC N cs M ds (-1) i):=G AS 300 [.b true,.v (D Ad x),.v (D Ad y),.b true,.v (D Ad x),.v (D Ad y),.b true] [0,1,4,5] (T c1 (T n1 (T n2 (T n3 (T n4 (T c2 (T n5 (T n6 (T n7 (T n8 (T c3 a0))))))))))) (by kernel_rfl)
theorem Arx(N:Nat)(cs:List AV)(M:Nat)(ds:List AV)(v i x y:Int)(c1:A9i (i>=0)=true)(c2:(x != y)=true)(c3:A9i (x<y)=false)(n1:0<=i/\i<(N:Int))(n2:Bv (A9v (A i*1) cs) 0 1 true=some (D Ad x))(n3:0<=i/\i<(M:Int))(n4:Bv (A9v (A i*1) ds) 0 1 true=some (D Ad y))(n5:0<=i/\i<(N:Int))(n6:Bv (A9v (A i*1) cs) 0 1 true=some (D Ad x))(n7:0<=i/\i<(M:Int))(n8:Bv (A9v (A i*1) ds) 0 1 true=some (D Ad y)):Ar MQ (HC N cs M ds v i) .ret (HC N cs M ds 1 i):=G AS 300 [.b true,.v (D Ad x),.v (D Ad y),.b true,.v (D Ad x),.v (D Ad y),.b false] [0,1,4,5] (T c1 (T n1 (T n2 (T n3 (T n4 (T c2 (T n5 (T n6 (T n7 (T n8 (T c3 a0))))))))))) (by kernel_rfl)
theorem Ary(N:Nat)(cs:List AV)(M:Nat)(ds:List AV)(v i x y:Int)(c1:A9i (i>=0)=true)(c2:(x != y)=false)(n1:0<=i/\i<(N:Int))(n2:Bv (A9v (A i*1) cs) 0 1 true=some (D Ad x))(n3:0<=i/\i<(M:Int))(n4:Bv (A9v (A i*1) ds) 0 1 true=some (D Ad y)):Ar MQ (HC N cs M ds v i) .norm (HC N cs M ds v (I O (i-1))):=G AS 300 [.b true,.v (D Ad x),.v (D Ad y),.b false] [0,1,4,5] (T c1 (T n1 (T n2 (T n3 (T n4 (T c2 a0)))))) (by kernel_rfl)
theorem Arz(N:Nat)(cs:List AV)(M:Nat)(ds:List AV)(v i:Int)(c1:A9i (i>=0)=false):Ar MQ (HC N cs M ds v i) (.exit 0) (HC N cs M ds v i):=G AS 300 [.b false] [0,1,4,5] (T c1 a0) (by kernel_rfl)
theorem zZ(xs ys:LI)(hN:xs.length<=1048576)(hl:xs.length=ys.length):∀ m,m<=xs.length ->
  (JT xs ys m=0/\Ar (.loop MQ) (HC xs.length (W xs) ys.length (W ys) 0 ((m:Int)-1)) (.exit 0) (HC xs.length (W xs) ys.length (W ys) 0 (-1))) \/
  (JT xs ys m ≠ 0/\∃ j,Ar (.loop MQ) (HC xs.length (W xs) ys.length (W ys) 0 ((m:Int)-1)) .ret (HC xs.length (W xs) ys.length (W ys) (JT xs ys m) j)):=by
 intro m;induction m with
 | zero =>
  intro _;left;refine⟨rfl,?_⟩;exact Ao (Arz xs.length (W xs) ys.length (W ys) 0 (((0:Nat):Int)-1) (by simp)) (by nofun)
 | succ m ih =>
  intro hm;have e0:((m+1:Nat):Int)-1=(m:Int):=by omega
  have e1:I O ((m:Int)-1)=(m:Int)-1:=Bl (by omega) (by omega);have hx:=Eg (xs:=xs) (i:=m) (by omega);have hy:=Eg (xs:=ys) (i:=m) (by omega);rw[e0];simp only[JT];by_cases h:xs.getD m 0=ys.getD m 0
  ·rw[if_pos h];have h1:=Ary xs.length (W xs) ys.length (W ys) 0 (m:Int) (xs.getD m 0) (ys.getD m 0) (by simp) (by simpa using h) (by omega) (by rw[R];exact hx) (by omega) (by rw[R];exact hy);rw[e1] at h1;rcases ih (by omega) with ⟨k1,k2⟩ | ⟨k1,j,k2⟩
   ·exact .inl ⟨k1,C1.loop h1 k2⟩
   ·exact .inr ⟨k1,j,C1.loop h1 k2⟩
  ·rw[if_neg h];right;by_cases hlt:xs.getD m 0<ys.getD m 0
   ·rw[if_pos hlt];refine⟨by decide,(m:Int),?_⟩;exact Ao (Arw xs.length (W xs) ys.length (W ys) 0 (m:Int) (xs.getD m 0) (ys.getD m 0) (by simp) (by simpa using h) (by simpa using hlt) (by omega) (by rw[R];exact hx) (by omega) (by rw[R];exact hy) (by omega) (by rw[R];exact hx) (by omega) (by rw[R];exact hy)) (by nofun)
   ·rw[if_neg hlt];refine⟨by decide,(m:Int),?_⟩;exact Ao (Arx xs.length (W xs) ys.length (W ys) 0 (m:Int) (xs.getD m 0) (ys.getD m 0) (by simp) (by simpa using h) (by simpa using hlt) (by omega) (by rw[R];exact hx) (by omega) (by rw[R];exact hy) (by omega) (by rw[R];exact hx) (by omega) (by rw[R];exact hy)) (by nofun)
theorem eY(xs ys:LI)(h:((xs.length:Int) != (ys.length:Int))=true)(h2:(A9i ((xs.length:Int)<(ys.length:Int)))=true):RQ 151 [Y W xs,Y W ys] (D O (-1)):=B1 (ps:=[((xs.length:Int) != (ys.length:Int))=true,(A9i ((xs.length:Int)<(ys.length:Int)))=true]) AS rfl 300 rfl [.b true,.b true] (by kernel_rfl) ⟨h,h2,trivial⟩
theorem eZ(xs ys:LI)(h:((xs.length:Int) != (ys.length:Int))=true)(h2:(A9i ((xs.length:Int)<(ys.length:Int)))=false):RQ 151 [Y W xs,Y W ys] (D O 1):=B1 (ps:=[((xs.length:Int) != (ys.length:Int))=true,(A9i ((xs.length:Int)<(ys.length:Int)))=false]) AS rfl 300 rfl [.b true,.b false] (by kernel_rfl) ⟨h,h2,trivial⟩
theorem fA(xs ys:LI)(h:((xs.length:Int) != (ys.length:Int))=false)(hl:Ar (.loop MQ) (HC xs.length (W xs) ys.length (W ys) 0 (I O ((xs.length:Int)-1))) (.exit 0) (HC xs.length (W xs) ys.length (W ys) 0 (-1))):RQ 151 [Y W xs,Y W ys] (D O 0):=A9g S6 (A9j (Y W xs)::(A9j (Y W ys)::(Ac 2 (A9j (D O 0)::(A9j (D O (-1))::(Ac 35 [])))))) (C1.seq (G (t:=(f xs::(f ys::(Ac 2 (m 0::(Ac 36 [])))))) AS 300 [] [0,1,4] a0) (C1.seq (G (t:=(f xs::(f ys::(Ac 2 (m 0::(Ac 1 (f xs::(m (xs.length:Int)::(f ys::(m (ys.length:Int)::(A9j (F ((xs.length:Int) != (ys.length:Int)))::(Ac 30 [])))))))))))) AS 300 [.b false] [0,1,4,6,7,8,9,10] (T (show ((xs.length:Int) != (ys.length:Int))=false from h) a0)) (C1.seq (C1.seq (G (t:=(f xs::(f ys::(Ac 2 (m 0::(m (I O ((xs.length:Int)-1))::(Ac 35 []))))))) AS 300 [] [0,1,4,5] a0) (C1.block hl)) (G (t:=(f xs::(f ys::(Ac 2 (m 0::(m (-1)::(Ac 35 []))))))) (ex := .ret) AS 300 [] [0,1,4,5] a0))))
theorem fB(xs ys:LI)(r j:Int)(h:((xs.length:Int) != (ys.length:Int))=false)(hl:Ar (.loop MQ) (HC xs.length (W xs) ys.length (W ys) 0 (I O ((xs.length:Int)-1))) .ret (HC xs.length (W xs) ys.length (W ys) r j)):RQ 151 [Y W xs,Y W ys] (D O r):=A9g S6 (A9j (Y W xs)::(A9j (Y W ys)::(Ac 2 (A9j (D O r)::(A9j (D O j)::(Ac 35 [])))))) (C1.seq (G (t:=(f xs::(f ys::(Ac 2 (m 0::(Ac 36 [])))))) AS 300 [] [0,1,4] a0) (C1.seq (G (t:=(f xs::(f ys::(Ac 2 (m 0::(Ac 1 (f xs::(m (xs.length:Int)::(f ys::(m (ys.length:Int)::(A9j (F ((xs.length:Int) != (ys.length:Int)))::(Ac 30 [])))))))))))) AS 300 [.b false] [0,1,4,6,7,8,9,10] (T (show ((xs.length:Int) != (ys.length:Int))=false from h) a0)) (A8 (C1.seq (G (t:=(f xs::(f ys::(Ac 2 (m 0::(m (I O ((xs.length:Int)-1))::(Ac 35 []))))))) AS 300 [] [0,1,4,5] a0) (Ct hl)) (by nofun))))
theorem Jo{xs ys:LI}(hx:Ft xs)(hy:Ft ys)(hN:xs.length<=1048576):RQ 151 [Y W xs,Y W ys] (D O (CR (Ab xs) (Ab ys))):=by
 by_cases hl:xs.length=ys.length
 ·have h:((xs.length:Int) != (ys.length:Int))=false:=by rw[hl];simp
  have hg:=Y4 hx.1 hy.1 xs.length (Ap _) (by omega);rw[EE,hl,EE,<- hl] at hg;have e1:I O ((xs.length:Int)-1)=(xs.length:Int)-1:=Bl (by omega) (by omega);rcases zZ xs ys hN hl xs.length (Ap _) with ⟨k1,k2⟩ | ⟨k1,j,k2⟩
  ·rw[<- hg,k1];exact fA xs ys h (by rw[e1];exact k2)
  ·rw[<- hg];exact fB xs ys _ j h (by rw[e1];exact k2)
 ·have h:((xs.length:Int) != (ys.length:Int))=true:=by simp;omega
  by_cases hlt:xs.length<ys.length
  ·have e:CR (Ab xs) (Ab ys) = -1:=by unfold CR;rw[if_pos (IW hx hy hlt)]
   rw[e];exact eY xs ys h (by simp;omega)
  ·have:=IW hy hx (by omega);have e:CR (Ab xs) (Ab ys)=1:=by unfold CR;rw[if_neg (by omega),if_pos this]
   rw[e];exact eZ xs ys h (by simp;omega)
def I5(la:Nat)(xa:List AV)(lb:Nat)(xb:List AV)(n:Nat)(cs:List AV)(c:Int)(m:Int)(i:Int):Al:=(A9j (H la xa)::(A9j (H lb xb)::(Ac 2 (A9n 1 0 []::(A9n 1 n cs::(A9j (D B c)::(Ac 14 (A9j (D O m)::(A9j (D O i)::(Ac 35 []))))))))))
theorem Asa(la:Nat)(xa:List AV)(lb:Nat)(xb:List AV)(n:Nat)(cs:List AV)(c:Int)(m:Int)(i:Int)(ds:List AV)(x y:Int)(c1:A9i (i<m)=true)(c2:A9i (i<(lb:Int))=true)(n1:0<=i/\i<(la:Int))(n2:Bv (A9v (A i*1) xa) 0 1 true=some (D Ad x))(n3:0<=i/\i<(lb:Int))(n4:Bv (A9v (A i*1) xb) 0 1 true=some (D Ad y))(n5:0<=i/\i<(n:Int))(n6:C6 cs (A i*1) [D Ad (I Ad (I B ((I B ((I B x)+c))+(I B y))))]=some ds):Ar Om (I5 la xa lb xb n cs c m i) .norm (I5 la xa lb xb n ds (A9q (I B ((I B ((I B x)+c))+(I B y))) (2^(min (A 32) (An .u64)))) m (I O (i+1))):=G AS 300 [.b true,.v (D Ad x),.b true,.v (D Ad y),.l ds] [0,1,4,5,6,21,22] (T c1 (T n1 (T n2 (T c2 (T n3 (T n4 (T It (T n5 (T n6 a0))))))))) (by kernel_rfl)
theorem Asb(la:Nat)(xa:List AV)(lb:Nat)(xb:List AV)(n:Nat)(cs:List AV)(c:Int)(m:Int)(i:Int)(ds:List AV)(x:Int)(c1:A9i (i<m)=true)(c2:A9i (i<(lb:Int))=false)(n1:0<=i/\i<(la:Int))(n2:Bv (A9v (A i*1) xa) 0 1 true=some (D Ad x))(n3:0<=i/\i<(n:Int))(n4:C6 cs (A i*1) [D Ad (I Ad (I B ((I B x)+c)))]=some ds):Ar Om (I5 la xa lb xb n cs c m i) .norm (I5 la xa lb xb n ds (A9q (I B ((I B x)+c)) (2^(min (A 32) (An .u64)))) m (I O (i+1))):=G AS 300 [.b true,.v (D Ad x),.b false,.l ds] [0,1,4,5,6,21,22] (T c1 (T n1 (T n2 (T c2 (T It (T n3 (T n4 a0))))))) (by kernel_rfl)
theorem Asc(la:Nat)(xa:List AV)(lb:Nat)(xb:List AV)(n:Nat)(cs:List AV)(c:Int)(m:Int)(i:Int)(c1:A9i (i<m)=false):Ar Om (I5 la xa lb xb n cs c m i) (.exit 0) (I5 la xa lb xb n cs c m i):=G AS 300 [.b false] [0,1,4,5,6,21,22] (T c1 a0) (by kernel_rfl)
theorem Aaa(xs ys:LI)(hx:AP xs)(hy:AP ys)(n:Nat)(hn:n<=1048576)(hxn:xs.length<=n):∀ (r i:Nat) (o:LI) (c:Int),r+i=xs.length->o.length=n->AP o->0<=c/\c<=1 ->
  Ar (.loop Om) (I5 xs.length (W xs) ys.length (W ys) n (W o) c (xs.length:Int) (i:Int)) (.exit 0)
   (I5 xs.length (W xs) ys.length (W ys) n (W (I4 xs ys r i o c).1) (I4 xs ys r i o c).2 (xs.length:Int) (xs.length:Int)):=by
 intro r;induction r with
 | zero =>
  intro i o c hi _ _ _;have hi':i=xs.length:=by omega
  subst hi';exact Ao (Asc xs.length (W xs) ys.length (W ys) n (W o) c (xs.length:Int) (xs.length:Int) (by simp)) (by nofun)
 | succ r ih =>
  intro i o c hi hlo hu hc;have h1:=AG hx i;have h2:=AG hy i;have ei:I O ((i:Int)+1)=((i+1:Nat):Int):=by rw[Bl (by omega) (by omega)];omega
  have hxi:=Eg (xs:=xs) (i:=i) (by omega);have hst:=I3 (xs:=o) (i:=i) (v:=(xs.getD i 0+c+ys.getD i 0) % 4294967296) (by omega);by_cases hy2:i<ys.length
  ·have hyi:=Eg (xs:=ys) (i:=i) hy2;have eW:I Ad (I B (I B (I B (xs.getD i 0)+c)+I B (ys.getD i 0)))=(xs.getD i 0+c+ys.getD i 0) % 4294967296:=by rw[DW,BF,BF,BF,BF];omega
   have eC:A9q (I B (I B (I B (xs.getD i 0)+c)+I B (ys.getD i 0))) (2^(min (A 32) (An .u64)))=((xs.getD i 0+c+ys.getD i 0) / 4294967296):=by
    show A9q _ 4294967296=_;rw[AAg _ (by omega),BF,BF,BF,BF];omega
   have k:=Asa xs.length (W xs) ys.length (W ys) n (W o) c (xs.length:Int) (i:Int) (W (o.set i ((xs.getD i 0+c+ys.getD i 0) % 4294967296))) (xs.getD i 0) (ys.getD i 0)
    (by simp;omega) (by simp;omega) (by omega) (by rw[R];exact hxi) (by omega) (by rw[R];exact hyi) (by omega) (by rw[R,eW];exact hst)
   rw[eC,ei] at k;exact C1.loop k (ih (i+1) _ _ (by omega) (by simpa using hlo) (C2 hu (by omega)) (by omega))
  ·have hy0:=B0 (xs:=ys) (i:=i) (by omega);have eW:I Ad (I B (I B (xs.getD i 0)+c))=(xs.getD i 0+c+ys.getD i 0) % 4294967296:=by rw[DW,BF,BF];omega
   have eC:A9q (I B (I B (xs.getD i 0)+c)) (2^(min (A 32) (An .u64)))=((xs.getD i 0+c+ys.getD i 0) / 4294967296):=by
    show A9q _ 4294967296=_;rw[AAg _ (by omega),BF,BF];omega
   have k:=Asb xs.length (W xs) ys.length (W ys) n (W o) c (xs.length:Int) (i:Int) (W (o.set i ((xs.getD i 0+c+ys.getD i 0) % 4294967296))) (xs.getD i 0)
    (by simp;omega) (by simp;omega) (by omega) (by rw[R];exact hxi) (by omega) (by rw[R,eW];exact hst)
   rw[eC,ei] at k;exact C1.loop k (ih (i+1) _ _ (by omega) (by simpa using hlo) (C2 hu (by omega)) (by omega))
def LY(la:Nat)(xa:List AV)(lb:Nat)(xb:List AV)(n:Nat)(cs:List AV)(c:Int)(m:Int)(i:Int):Al:=(A9j (H la xa)::(A9j (H lb xb)::(Ac 2 (A9n 1 0 []::(A9n 1 n cs::(A9j (D B c)::(Ac 6 (A9j (D O m)::(A9j (D O i)::(Ac 29 []))))))))))
theorem Asd(la:Nat)(xa:List AV)(lb:Nat)(xb:List AV)(n:Nat)(cs:List AV)(c:Int)(m:Int)(i:Int)(ds:List AV)(x y:Int)(c1:A9i (i<m)=true)(c2:A9i (i<(lb:Int))=true)(n1:0<=i/\i<(la:Int))(n2:Bv (A9v (A i*1) xa) 0 1 true=some (D Ad x))(n3:0<=i/\i<(lb:Int))(n4:Bv (A9v (A i*1) xb) 0 1 true=some (D Ad y))(n5:0<=i/\i<(n:Int))(n6:C6 cs (A i*1) [D Ad (I Ad (I B ((I B ((I B x)-c))-(I B y))))]=some ds):Ar SC (LY la xa lb xb n cs c m i) .norm (LY la xa lb xb n ds (A9q (I B ((I B ((I B x)-c))-(I B y))) (2^(min (A 63) (An .u64)))) m (I O (i+1))):=G AS 300 [.b true,.v (D Ad x),.b true,.v (D Ad y),.l ds] [0,1,4,5,6,13,14] (T c1 (T n1 (T n2 (T c2 (T n3 (T n4 (T X7 (T n5 (T n6 a0))))))))) (by kernel_rfl)
theorem Ase(la:Nat)(xa:List AV)(lb:Nat)(xb:List AV)(n:Nat)(cs:List AV)(c:Int)(m:Int)(i:Int)(ds:List AV)(x:Int)(c1:A9i (i<m)=true)(c2:A9i (i<(lb:Int))=false)(n1:0<=i/\i<(la:Int))(n2:Bv (A9v (A i*1) xa) 0 1 true=some (D Ad x))(n3:0<=i/\i<(n:Int))(n4:C6 cs (A i*1) [D Ad (I Ad (I B ((I B x)-c)))]=some ds):Ar SC (LY la xa lb xb n cs c m i) .norm (LY la xa lb xb n ds (A9q (I B ((I B x)-c)) (2^(min (A 63) (An .u64)))) m (I O (i+1))):=G AS 300 [.b true,.v (D Ad x),.b false,.l ds] [0,1,4,5,6,13,14] (T c1 (T n1 (T n2 (T c2 (T X7 (T n3 (T n4 a0))))))) (by kernel_rfl)
theorem Asf(la:Nat)(xa:List AV)(lb:Nat)(xb:List AV)(n:Nat)(cs:List AV)(c:Int)(m:Int)(i:Int)(c1:A9i (i<m)=false):Ar SC (LY la xa lb xb n cs c m i) (.exit 0) (LY la xa lb xb n cs c m i):=G AS 300 [.b false] [0,1,4,5,6,13,14] (T c1 a0) (by kernel_rfl)
theorem Aab(xs ys:LI)(hx:AP xs)(hy:AP ys)(n:Nat)(hn:n<=1048576)(hxn:xs.length<=n):∀ (r i:Nat) (o:LI) (c:Int),r+i=xs.length->o.length=n->AP o->0<=c/\c<=1 ->
  Ar (.loop SC) (LY xs.length (W xs) ys.length (W ys) n (W o) c (xs.length:Int) (i:Int)) (.exit 0)
   (LY xs.length (W xs) ys.length (W ys) n (W (IX xs ys r i o c).1) (IX xs ys r i o c).2 (xs.length:Int) (xs.length:Int)):=by
 intro r;induction r with
 | zero =>
  intro i o c hi _ _ _;have hi':i=xs.length:=by omega
  subst hi';exact Ao (Asf xs.length (W xs) ys.length (W ys) n (W o) c (xs.length:Int) (xs.length:Int) (by simp)) (by nofun)
 | succ r ih =>
  intro i o c hi hlo hu hc;have h1:=AG hx i;have h2:=AG hy i;have ei:I O ((i:Int)+1)=((i+1:Nat):Int):=by rw[Bl (by omega) (by omega)];omega
  have hxi:=Eg (xs:=xs) (i:=i) (by omega);have hst:=I3 (xs:=o) (i:=i) (v:=(xs.getD i 0-c-ys.getD i 0) % 4294967296) (by omega);by_cases hy2:i<ys.length
  ·have hyi:=Eg (xs:=ys) (i:=i) hy2;have eW:I Ad (I B (I B (I B (xs.getD i 0)-c)-I B (ys.getD i 0)))=(xs.getD i 0-c-ys.getD i 0) % 4294967296:=by rw[DW,BF,BF,BF,BF];omega
   have eC:A9q (I B (I B (I B (xs.getD i 0)-c)-I B (ys.getD i 0))) (2^(min (A 63) (An .u64)))=(-((xs.getD i 0-c-ys.getD i 0) / 4294967296)):=by
    show A9q _ 9223372036854775808=_;rw[AAg _ (by omega),BF,BF,BF,BF];omega
   have k:=Asd xs.length (W xs) ys.length (W ys) n (W o) c (xs.length:Int) (i:Int) (W (o.set i ((xs.getD i 0-c-ys.getD i 0) % 4294967296))) (xs.getD i 0) (ys.getD i 0)
    (by simp;omega) (by simp;omega) (by omega) (by rw[R];exact hxi) (by omega) (by rw[R];exact hyi) (by omega) (by rw[R,eW];exact hst)
   rw[eC,ei] at k;exact C1.loop k (ih (i+1) _ _ (by omega) (by simpa using hlo) (C2 hu (by omega)) (by omega))
  ·have hy0:=B0 (xs:=ys) (i:=i) (by omega);have eW:I Ad (I B (I B (xs.getD i 0)-c))=(xs.getD i 0-c-ys.getD i 0) % 4294967296:=by rw[DW,BF,BF];omega
   have eC:A9q (I B (I B (xs.getD i 0)-c)) (2^(min (A 63) (An .u64)))=(-((xs.getD i 0-c-ys.getD i 0) / 4294967296)):=by
    show A9q _ 9223372036854775808=_;rw[AAg _ (by omega),BF,BF];omega
   have k:=Ase xs.length (W xs) ys.length (W ys) n (W o) c (xs.length:Int) (i:Int) (W (o.set i ((xs.getD i 0-c-ys.getD i 0) % 4294967296))) (xs.getD i 0)
    (by simp;omega) (by simp;omega) (by omega) (by rw[R];exact hxi) (by omega) (by rw[R,eW];exact hst)
   rw[eC,ei] at k;exact C1.loop k (ih (i+1) _ _ (by omega) (by simpa using hlo) (C2 hu (by omega)) (by omega))
theorem fD(xs ys o:LI)(c:Int)(h:(A9i ((xs.length:Int)<(ys.length:Int)))=true)(hmk:0<=I O ((ys.length:Int)+1)/\I O ((ys.length:Int)+1)<=1048576)(hl:Ar (.loop Om) (I5 ys.length (W ys) xs.length (W xs) (A (I O ((ys.length:Int)+1))) (Cz [D Ad 0] (A (I O ((ys.length:Int)+1)))) 0 (ys.length:Int) 0) (.exit 0) (I5 ys.length (W ys) xs.length (W xs) (A (I O ((ys.length:Int)+1))) (W o) c (ys.length:Int) (ys.length:Int)))(hix:0<=(ys.length:Int)/\(ys.length:Int)<(((A (I O ((ys.length:Int)+1))):Nat):Int))(hst:C6 (W o) (A (ys.length:Int)*1) [D Ad (I Ad c)]=some (W (o.set ys.length c))):RQ 178 [Y W xs,Y W ys] (L 1 (A (I O ((ys.length:Int)+1))) (W (o.set ys.length c))):=A9g SB (A9j (Y W ys)::(A9j (Y W xs)::(Ac 2 (A9n 1 (A (I O ((ys.length:Int)+1))) (W (o.set ys.length c))::(Ac 1 (A9j (D B c)::(Ac 14 (A9j (D O (ys.length:Int))::(A9j (D O (ys.length:Int))::(Ac 28 (.dup 5::(A9j (Y W ys)::(A9j (D O (ys.length:Int))::(A9j (D B c)::(A9j (D Ad (I Ad c))::(.ptr 5 (A (ys.length:Int)*1)::(Ac 1 []))))))))))))))))) (C1.seq (G (t:=(f xs::(f ys::(Ac 2 (A9n 1 0 []::(Ac 53 [])))))) AS 300 [] [0,1,4] a0) (C1.seq (G (t:=(f ys::(f xs::(Ac 2 (A9n 1 0 []::(Ac 4 (f xs::(m (xs.length:Int)::(f ys::(m (ys.length:Int)::(A9j (F (A9i ((xs.length:Int)<(ys.length:Int))))::(f ys::(f xs::(Ac 42 [])))))))))))))) AS 300 [.b true] [0,1,4,9,10,11,12,13,14,15] (T (show (A9i ((xs.length:Int)<(ys.length:Int)))=true from h) a0)) (C1.seq (G (t:=(f ys::(f xs::(Ac 2 (A9n 1 0 []::(A9n 1 (A (I O ((ys.length:Int)+1))) (Cz [D Ad 0] (A (I O ((ys.length:Int)+1))))::(Ac 3 (f xs::(m (xs.length:Int)::(f ys::(m (ys.length:Int)::(A9j (F (A9i ((xs.length:Int)<(ys.length:Int))))::(f ys::(f xs::(f ys::(m (ys.length:Int)::(m (I O ((ys.length:Int)+1))::(Ac 39 [])))))))))))))))))) AS 300 [] [0,1,4,5,9,10,11,12,13,14,15,16,17,18] (T (show 0<=(I O ((ys.length:Int)+1))/\(I O ((ys.length:Int)+1))<=1048576 from hmk) a0)) (C1.seq (G (t:=(f ys::(f xs::(Ac 2 (A9n 1 0 []::(A9n 1 (A (I O ((ys.length:Int)+1))) (Cz [D Ad 0] (A (I O ((ys.length:Int)+1))))::(A9j (D B 0)::(Ac 2 (f xs::(m (xs.length:Int)::(f ys::(m (ys.length:Int)::(A9j (F (A9i ((xs.length:Int)<(ys.length:Int))))::(f ys::(f xs::(f ys::(m (ys.length:Int)::(m (I O ((ys.length:Int)+1))::(Ac 39 []))))))))))))))))))) AS 300 [] [0,1,4,5,6,9,10,11,12,13,14,15,16,17,18] a0) (C1.seq (C1.seq (G (t:=(f ys::(f xs::(Ac 2 (A9n 1 0 []::(A9n 1 (A (I O ((ys.length:Int)+1))) (Cz [D Ad 0] (A (I O ((ys.length:Int)+1))))::(A9j (D B 0)::(Ac 14 (m (ys.length:Int)::(m 0::(Ac 35 []))))))))))) AS 300 [] [0,1,4,5,6,21,22] a0) (C1.block hl)) (G (t:=(f ys::(f xs::(Ac 2 (A9n 1 (A (I O ((ys.length:Int)+1))) (W (o.set ys.length c))::(Ac 1 (A9j (D B c)::(Ac 14 (m (ys.length:Int)::(m (ys.length:Int)::(Ac 28 (.dup 5::(f ys::(m (ys.length:Int)::(A9j (D B c)::(A9j (D Ad (I Ad c))::(.ptr 5 (A (ys.length:Int)*1)::(Ac 1 [])))))))))))))))))) (ex := .ret) AS 300 [.l (W (o.set ys.length c))] [0,1,4,6,21,22,51,52,53,54,55,56] (T (show 0<=(ys.length:Int)/\(ys.length:Int)<(((A (I O ((ys.length:Int)+1))):Nat):Int) from hix) (T (show C6 (W o) (A (ys.length:Int)*1) [D Ad (I Ad c)]=some (W (o.set ys.length c)) from hst) a0))))))))
theorem fE(xs ys o:LI)(c:Int)(h:(A9i ((xs.length:Int)<(ys.length:Int)))=false)(hmk:0<=I O ((xs.length:Int)+1)/\I O ((xs.length:Int)+1)<=1048576)(hl:Ar (.loop Om) (I5 xs.length (W xs) ys.length (W ys) (A (I O ((xs.length:Int)+1))) (Cz [D Ad 0] (A (I O ((xs.length:Int)+1)))) 0 (xs.length:Int) 0) (.exit 0) (I5 xs.length (W xs) ys.length (W ys) (A (I O ((xs.length:Int)+1))) (W o) c (xs.length:Int) (xs.length:Int)))(hix:0<=(xs.length:Int)/\(xs.length:Int)<(((A (I O ((xs.length:Int)+1))):Nat):Int))(hst:C6 (W o) (A (xs.length:Int)*1) [D Ad (I Ad c)]=some (W (o.set xs.length c))):RQ 178 [Y W xs,Y W ys] (L 1 (A (I O ((xs.length:Int)+1))) (W (o.set xs.length c))):=A9g SB (A9j (Y W xs)::(A9j (Y W ys)::(Ac 2 (A9n 1 (A (I O ((xs.length:Int)+1))) (W (o.set xs.length c))::(Ac 1 (A9j (D B c)::(Ac 14 (A9j (D O (xs.length:Int))::(A9j (D O (xs.length:Int))::(Ac 28 (.dup 5::(A9j (Y W xs)::(A9j (D O (xs.length:Int))::(A9j (D B c)::(A9j (D Ad (I Ad c))::(.ptr 5 (A (xs.length:Int)*1)::(Ac 1 []))))))))))))))))) (C1.seq (G (t:=(f xs::(f ys::(Ac 2 (A9n 1 0 []::(Ac 53 [])))))) AS 300 [] [0,1,4] a0) (C1.seq (G (t:=(f xs::(f ys::(Ac 2 (A9n 1 0 []::(Ac 4 (f xs::(m (xs.length:Int)::(f ys::(m (ys.length:Int)::(A9j (F (A9i ((xs.length:Int)<(ys.length:Int))))::(Ac 44 [])))))))))))) AS 300 [.b false] [0,1,4,9,10,11,12,13] (T (show (A9i ((xs.length:Int)<(ys.length:Int)))=false from h) a0)) (C1.seq (G (t:=(f xs::(f ys::(Ac 2 (A9n 1 0 []::(A9n 1 (A (I O ((xs.length:Int)+1))) (Cz [D Ad 0] (A (I O ((xs.length:Int)+1))))::(Ac 3 (f xs::(m (xs.length:Int)::(f ys::(m (ys.length:Int)::(A9j (F (A9i ((xs.length:Int)<(ys.length:Int))))::(Ac 2 (f xs::(m (xs.length:Int)::(m (I O ((xs.length:Int)+1))::(Ac 39 []))))))))))))))))) AS 300 [] [0,1,4,5,9,10,11,12,13,16,17,18] (T (show 0<=(I O ((xs.length:Int)+1))/\(I O ((xs.length:Int)+1))<=1048576 from hmk) a0)) (C1.seq (G (t:=(f xs::(f ys::(Ac 2 (A9n 1 0 []::(A9n 1 (A (I O ((xs.length:Int)+1))) (Cz [D Ad 0] (A (I O ((xs.length:Int)+1))))::(A9j (D B 0)::(Ac 2 (f xs::(m (xs.length:Int)::(f ys::(m (ys.length:Int)::(A9j (F (A9i ((xs.length:Int)<(ys.length:Int))))::(Ac 2 (f xs::(m (xs.length:Int)::(m (I O ((xs.length:Int)+1))::(Ac 39 [])))))))))))))))))) AS 300 [] [0,1,4,5,6,9,10,11,12,13,16,17,18] a0) (C1.seq (C1.seq (G (t:=(f xs::(f ys::(Ac 2 (A9n 1 0 []::(A9n 1 (A (I O ((xs.length:Int)+1))) (Cz [D Ad 0] (A (I O ((xs.length:Int)+1))))::(A9j (D B 0)::(Ac 14 (m (xs.length:Int)::(m 0::(Ac 35 []))))))))))) AS 300 [] [0,1,4,5,6,21,22] a0) (C1.block hl)) (G (t:=(f xs::(f ys::(Ac 2 (A9n 1 (A (I O ((xs.length:Int)+1))) (W (o.set xs.length c))::(Ac 1 (A9j (D B c)::(Ac 14 (m (xs.length:Int)::(m (xs.length:Int)::(Ac 28 (.dup 5::(f xs::(m (xs.length:Int)::(A9j (D B c)::(A9j (D Ad (I Ad c))::(.ptr 5 (A (xs.length:Int)*1)::(Ac 1 [])))))))))))))))))) (ex := .ret) AS 300 [.l (W (o.set xs.length c))] [0,1,4,6,21,22,51,52,53,54,55,56] (T (show 0<=(xs.length:Int)/\(xs.length:Int)<(((A (I O ((xs.length:Int)+1))):Nat):Int) from hix) (T (show C6 (W o) (A (xs.length:Int)*1) [D Ad (I Ad c)]=some (W (o.set xs.length c)) from hst) a0))))))))
theorem PP{xs ys:LI}(hx:AP xs)(hy:AP ys)(hl:ys.length<=xs.length)(hN:xs.length<1048576):∃ o c,(o:LI).length=xs.length+1/\AP (o.set xs.length c)/\Ab (o.set xs.length c)=Ab xs+Ab ys/\(0<=c/\c<=1) /\
  Ar (.loop Om) (I5 xs.length (W xs) ys.length (W ys) (xs.length+1) (W (At (xs.length+1) 0)) 0 (xs.length:Int) 0) (.exit 0) (I5 xs.length (W xs) ys.length (W ys) (xs.length+1) (W o) c (xs.length:Int) (xs.length:Int)):=by
 have hg:=Aaa xs ys hx hy (xs.length+1) (by omega) (by omega) xs.length 0 (At (xs.length+1) 0) 0 (by omega) (by simp) (EN _) (by omega);cases e:I4 xs ys xs.length 0 (At (xs.length+1) 0) 0 with
 | mk o c =>
  obtain⟨g1,g2,g3,g4,g5⟩:=mO hx hy hl o c e;rw[e] at hg;exact⟨o,c,g1,g4,g5,g3,hg⟩
theorem XD{xs ys:LI}(hx:AP xs)(hy:AP ys)(h1:xs.length<1048576)(h2:ys.length<1048576):∃ zs,AP zs/\Ab zs=Ab xs+Ab ys/\zs.length<=1048576/\RQ 178 [Y W xs,Y W ys] (L 1 zs.length (W zs)):=by
 by_cases hlt:xs.length<ys.length
 ·obtain⟨o,c,g1,g2,g3,g4,g5⟩:=PP hy hx (by omega) h2;have e1:I O ((ys.length:Int)+1)=((ys.length+1:Nat):Int):=by rw[Bl (by omega) (by omega)];omega
  have e2:A (I O ((ys.length:Int)+1))=ys.length+1:=by rw[e1,R]
  have hst:=I3 (xs:=o) (i:=ys.length) (v:=c) (by omega);have h:=fD xs ys o c (by simp;omega) (by rw[e1];omega) (by rw[e2,EY];exact g5) (by rw[e2];omega) (by rw[R,DW,Gf (by omega) (by omega)];exact hst);refine⟨o.set ys.length c,g2,by rw[g3,K7],by simp;omega,?_⟩;rw[e2] at h;rw[A_,g1];exact h
 ·obtain⟨o,c,g1,g2,g3,g4,g5⟩:=PP hx hy (by omega) h1;have e1:I O ((xs.length:Int)+1)=((xs.length+1:Nat):Int):=by rw[Bl (by omega) (by omega)];omega
  have e2:A (I O ((xs.length:Int)+1))=xs.length+1:=by rw[e1,R]
  have hst:=I3 (xs:=o) (i:=xs.length) (v:=c) (by omega);have h:=fE xs ys o c (by simp;omega) (by rw[e1];omega) (by rw[e2,EY];exact g5) (by rw[e2];omega) (by rw[R,DW,Gf (by omega) (by omega)];exact hst);refine⟨o.set xs.length c,g2,g3,by simp;omega,?_⟩;rw[e2] at h;rw[A_,g1];exact h
theorem Asg(xs ys o:LI)(c:Int)(hmk:0<=(xs.length:Int)/\(xs.length:Int)<=1048576)(hl:Ar (.loop SC) (LY xs.length (W xs) ys.length (W ys) (A (xs.length:Int)) (Cz [D Ad 0] (A (xs.length:Int))) 0 (xs.length:Int) 0) (.exit 0) (LY xs.length (W xs) ys.length (W ys) (A (xs.length:Int)) (W o) c (xs.length:Int) (xs.length:Int))):RQ 179 [Y W xs,Y W ys] (L 1 (A (xs.length:Int)) (W o)):=A9g VS (A9j (Y W xs)::(A9j (Y W ys)::(Ac 2 (A9n 1 (A (xs.length:Int)) (W o)::(Ac 1 (A9j (D B c)::(Ac 6 (A9j (D O (xs.length:Int))::(A9j (D O (xs.length:Int))::(Ac 29 [])))))))))) (C1.seq (G (t:=(f xs::(f ys::(Ac 2 (A9n 1 0 []::(Ac 39 [])))))) AS 300 [] [0,1,4] a0) (C1.seq (G (t:=(f xs::(f ys::(Ac 2 (A9n 1 0 []::(A9n 1 (A (xs.length:Int)) (Cz [D Ad 0] (A (xs.length:Int)))::(Ac 3 (f xs::(m (xs.length:Int)::(Ac 33 [])))))))))) AS 300 [] [0,1,4,5,9,10] (T (show 0<=(xs.length:Int)/\(xs.length:Int)<=1048576 from hmk) a0)) (C1.seq (G (t:=(f xs::(f ys::(Ac 2 (A9n 1 0 []::(A9n 1 (A (xs.length:Int)) (Cz [D Ad 0] (A (xs.length:Int)))::(A9j (D B 0)::(Ac 2 (f xs::(m (xs.length:Int)::(Ac 33 []))))))))))) AS 300 [] [0,1,4,5,6,9,10] a0) (C1.seq (C1.seq (G (t:=(f xs::(f ys::(Ac 2 (A9n 1 0 []::(A9n 1 (A (xs.length:Int)) (Cz [D Ad 0] (A (xs.length:Int)))::(A9j (D B 0)::(Ac 6 (m (xs.length:Int)::(m 0::(Ac 29 []))))))))))) AS 300 [] [0,1,4,5,6,13,14] a0) (C1.block hl)) (G (t:=(f xs::(f ys::(Ac 2 (A9n 1 (A (xs.length:Int)) (W o)::(Ac 1 (A9j (D B c)::(Ac 6 (m (xs.length:Int)::(m (xs.length:Int)::(Ac 29 []))))))))))) (ex := .ret) AS 300 [] [0,1,4,6,13,14] a0)))))
theorem PQ{xs ys:LI}(hx:AP xs)(hy:AP ys)(hl:ys.length<=xs.length)(hv:Ab ys<=Ab xs)(hN:xs.length<=1048576):∃ zs,AP zs/\Ab zs=Ab xs-Ab ys/\zs.length<=1048576/\RQ 179 [Y W xs,Y W ys] (L 1 zs.length (W zs)):=by
 have hg:=Aab xs ys hx hy xs.length hN (Ap _) xs.length 0 (At xs.length 0) 0 (by omega) (by simp) (EN _) (by omega);cases e:IX xs ys xs.length 0 (At xs.length 0) 0 with
 | mk o c =>
  obtain⟨g1,g2,g3⟩:=mP hx hy hl hv o c e;rw[e] at hg;have h:=Asg xs ys o c (by omega) (by rw[R,EY];exact hg);rw[R] at h;refine⟨o,g2,g3,by omega,?_⟩;rw[g1];exact h
theorem mY(na:Bool)(p:Nat)(nb:Bool)(q:Nat)(zs:LI)(r:Int)(h:(na==nb)=true)(h1:RQ 178 [H (M p).length (W (M p)),H (M q).length (W (M q))] (L 1 zs.length (W zs)))(h2:RQ 152 [F na,Y W zs] (o [F (A9i (r<0)),H ((M (E r)).length) (W (M (E r)))])):RQ 154 [F na,H ((M p).length) (W (M p)),F nb,H ((M q).length) (W (M q))] (o [F (A9i (r<0)),H ((M (E r)).length) (W (M (E r)))]):=B1 (ps:=[(na==nb)=true,RQ 178 [H ((M p).length) (W (M p)),H ((M q).length) (W (M q))] (L 1 zs.length (W zs)),RQ 152 [F na,Y W zs] (o [F (A9i (r<0)),H ((M (E r)).length) (W (M (E r)))])]) AS rfl 300 rfl [.b true,.r (L 1 zs.length (W zs)),.r (o [F (A9i (r<0)),H ((M (E r)).length) (W (M (E r)))])] (by kernel_rfl) ⟨h,h1,h2,trivial⟩
theorem mZ(na:Bool)(p:Nat)(nb:Bool)(q:Nat)(zs:LI)(r:Int)(k:Int)(h:(na==nb)=false)(h3:RQ 151 [H (M p).length (W (M p)),H (M q).length (W (M q))] (D O k))(hk:(A9i (k>=0))=true)(h1:RQ 179 [H (M p).length (W (M p)),H (M q).length (W (M q))] (L 1 zs.length (W zs)))(h2:RQ 152 [F na,Y W zs] (o [F (A9i (r<0)),H ((M (E r)).length) (W (M (E r)))])):RQ 154 [F na,H ((M p).length) (W (M p)),F nb,H ((M q).length) (W (M q))] (o [F (A9i (r<0)),H ((M (E r)).length) (W (M (E r)))]):=B1 (ps:=[(na==nb)=false,RQ 151 [H ((M p).length) (W (M p)),H ((M q).length) (W (M q))] (D O k),(A9i (k>=0))=true,RQ 179 [H ((M p).length) (W (M p)),H ((M q).length) (W (M q))] (L 1 zs.length (W zs)),RQ 152 [F na,Y W zs] (o [F (A9i (r<0)),H ((M (E r)).length) (W (M (E r)))])]) AS rfl 300 rfl [.b false,.r (D O k),.b true,.r (L 1 zs.length (W zs)),.r (o [F (A9i (r<0)),H ((M (E r)).length) (W (M (E r)))])] (by kernel_rfl) ⟨h,h3,hk,h1,h2,trivial⟩
theorem nA(na:Bool)(p:Nat)(nb:Bool)(q:Nat)(zs:LI)(r:Int)(k:Int)(h:(na==nb)=false)(h3:RQ 151 [H (M p).length (W (M p)),H (M q).length (W (M q))] (D O k))(hk:(A9i (k>=0))=false)(h1:RQ 179 [H (M q).length (W (M q)),H (M p).length (W (M p))] (L 1 zs.length (W zs)))(h2:RQ 152 [F nb,Y W zs] (o [F (A9i (r<0)),H ((M (E r)).length) (W (M (E r)))])):RQ 154 [F na,H ((M p).length) (W (M p)),F nb,H ((M q).length) (W (M q))] (o [F (A9i (r<0)),H ((M (E r)).length) (W (M (E r)))]):=B1 (ps:=[(na==nb)=false,RQ 151 [H ((M p).length) (W (M p)),H ((M q).length) (W (M q))] (D O k),(A9i (k>=0))=false,RQ 179 [H ((M q).length) (W (M q)),H ((M p).length) (W (M p))] (L 1 zs.length (W zs)),RQ 152 [F nb,Y W zs] (o [F (A9i (r<0)),H ((M (E r)).length) (W (M (E r)))])]) AS rfl 300 rfl [.b false,.r (D O k),.b false,.r (L 1 zs.length (W zs)),.r (o [F (A9i (r<0)),H ((M (E r)).length) (W (M (E r)))])] (by kernel_rfl) ⟨h,h3,hk,h1,h2,trivial⟩
theorem fG{na nb:Bool}{p q:Nat}(hp:(M p).length<1048576)(hq:(M q).length<1048576):RQ 154 [F na,H (M p).length (W (M p)),F nb,H (M q).length (W (M q))] (Ag (v na (M p)+v nb (M q))):=by
 have up:=BR p;have uq:=BR q;by_cases e:na=nb
 ·subst e;obtain⟨zs,z1,z2,z3,z4⟩:=XD up uq hp hq;have h2:=EI (neg:=na) z1 z3;have ev:v na zs=v na (M p)+v na (M q):=by
   unfold v;rw[z2];cases na <;> simp <;> omega
  rw[ev] at h2;exact mY na p na q zs _ (by simp) z4 h2
 ·have hne:(na==nb)=false:=by simpa using e
  have hc:=Jo (Cl p) (Cl q) (by omega);have hnb:nb = !na:=by cases na <;> cases nb <;> simp_all
  have lenle:∀ {a b:Nat},Ab (M a)<=Ab (M b)->(M a).length<=(M b).length:=by
   intro a b h;rcases Cn (M b).length (M a).length with g | g
   ·have:=IW (Cl b) (Cl a) g;omega
   ·exact g
  by_cases hk:Ab (M q)<=Ab (M p)
  ·obtain⟨zs,z1,z2,z3,z4⟩:=PQ up uq (lenle hk) hk (by omega);have h2:=EI (neg:=na) z1 z3;have ev:v na zs=v na (M p)+v nb (M q):=by
    subst hnb;unfold v;rw[z2];cases na <;> simp <;> omega
   rw[ev] at h2;refine mZ na p nb q zs _ _ hne hc ?_ z4 h2;unfold CR;rw[if_neg (by omega)];split <;> rfl
  ·obtain⟨zs,z1,z2,z3,z4⟩:=PQ uq up (lenle (by omega)) (by omega) (by omega);have h2:=EI (neg:=nb) z1 z3;have ev:v nb zs=v na (M p)+v nb (M q):=by
    subst hnb;unfold v;rw[z2];cases na <;> simp <;> omega
   rw[ev] at h2;refine nA na p nb q zs _ _ hne hc ?_ z4 h2;unfold CR;rw[if_pos (by omega)];rfl
theorem Ash(na:Bool)(xs:LI)(nb:Bool)(ys:LI)(a b r:Int)(h1:RQ 143 [o [F na,Y W xs]] (Ax [F (A9i (a<0)),H (M (E a)).length (W (M (E a)))]))(h2:RQ 143 [o [F nb,Y W ys]] (Ax [F (A9i (b<0)),H (M (E b)).length (W (M (E b)))]))(h3:RQ 154 [F (A9i (a<0)),H (M (E a)).length (W (M (E a))),F (A9i (b<0)),H (M (E b)).length (W (M (E b)))] (o [F (A9i (r<0)),H ((M (E r)).length) (W (M (E r)))])):RQ 111 [o [F na,Y W xs],o [F nb,Y W ys]] (o [F (A9i (r<0)),H ((M (E r)).length) (W (M (E r)))]):=B1 (ps:=[RQ 143 [o [F na,Y W xs]] (Ax [F (A9i (a<0)),H ((M (E a)).length) (W (M (E a)))]),RQ 143 [o [F nb,Y W ys]] (Ax [F (A9i (b<0)),H ((M (E b)).length) (W (M (E b)))]),RQ 154 [F (A9i (a<0)),H ((M (E a)).length) (W (M (E a))),F (A9i (b<0)),H ((M (E b)).length) (W (M (E b)))] (o [F (A9i (r<0)),H ((M (E r)).length) (W (M (E r)))])]) AS rfl 300 rfl [.r (Ax [F (A9i (a<0)),H ((M (E a)).length) (W (M (E a)))]),.r (Ax [F (A9i (b<0)),H ((M (E b)).length) (W (M (E b)))]),.r (o [F (A9i (r<0)),H ((M (E r)).length) (W (M (E r)))])] (by kernel_rfl) ⟨h1,h2,h3,trivial⟩
theorem Pn{na nb:Bool}{xs ys:LI}(hx:AP xs)(hy:AP ys)(h1:xs.length<1048576)(h2:ys.length<1048576):RQ 111 [o [F na,Y W xs],o [F nb,Y W ys]] (Ag (v na xs+v nb ys)):=by
 have l1:=Dz (EG (neg:=na) hx) h1;have l2:=Dz (EG (neg:=nb) hy) h2;have h3:=fG (na:=decide (v na xs<0)) (nb:=decide (v nb ys<0)) l1 l2;rw[F8,F8] at h3;exact Ash na xs nb ys (v na xs) (v nb ys) _ (Du hx (by omega)) (Du hy (by omega)) h3
theorem Aac{a b:Int}(h1:(M a.natAbs).length<1048576)(h2:(M b.natAbs).length<1048576):RQ 111 [Ag a,Ag b] (Ag (a+b)):=by
 have:=Pn (na:=decide (a<0)) (nb:=decide (b<0)) (BR a.natAbs) (BR b.natAbs) h1 h2;rwa [F8,F8] at this
theorem Asi(na:Bool)(xs:LI)(nb:Bool)(ys:LI)(a b r:Int)(h1:RQ 143 [o [F na,Y W xs]] (Ax [F (A9i (a<0)),H (M (E a)).length (W (M (E a)))]))(h2:RQ 143 [o [F nb,Y W ys]] (Ax [F (A9i (b<0)),H (M (E b)).length (W (M (E b)))]))(h3:RQ 154 [F (A9i (a<0)),H (M (E a)).length (W (M (E a))),F (!(decide (b<0))),H (M (E b)).length (W (M (E b)))] (o [F (A9i (r<0)),H ((M (E r)).length) (W (M (E r)))])):RQ 127 [o [F na,Y W xs],o [F nb,Y W ys]] (o [F (A9i (r<0)),H ((M (E r)).length) (W (M (E r)))]):=B1 (ps:=[RQ 143 [o [F na,Y W xs]] (Ax [F (A9i (a<0)),H ((M (E a)).length) (W (M (E a)))]),RQ 143 [o [F nb,Y W ys]] (Ax [F (A9i (b<0)),H ((M (E b)).length) (W (M (E b)))]),RQ 154 [F (A9i (a<0)),H ((M (E a)).length) (W (M (E a))),F (!(decide (b<0))),H ((M (E b)).length) (W (M (E b)))] (o [F (A9i (r<0)),H ((M (E r)).length) (W (M (E r)))])]) AS rfl 300 rfl [.r (Ax [F (A9i (a<0)),H ((M (E a)).length) (W (M (E a)))]),.r (Ax [F (A9i (b<0)),H ((M (E b)).length) (W (M (E b)))]),.r (o [F (A9i (r<0)),H ((M (E r)).length) (W (M (E r)))])] (by kernel_rfl) ⟨h1,h2,h3,trivial⟩
theorem Aad{na nb:Bool}{xs ys:LI}(hx:AP xs)(hy:AP ys)(h1:xs.length<1048576)(h2:ys.length<1048576):RQ 127 [o [F na,Y W xs],o [F nb,Y W ys]] (Ag (v na xs-v nb ys)):=by
 have l1:=Dz (EG (neg:=na) hx) h1;have l2:=Dz (EG (neg:=nb) hy) h2;have h3:=fG (na:=decide (v na xs<0)) (nb := !decide (v nb ys<0)) l1 l2;rw[F8,uJ,<- Int.sub_eq_add_neg] at h3;exact Asi na xs nb ys (v na xs) (v nb ys) _ (Du hx (by omega)) (Du hy (by omega)) h3
def TWB:Cw:=TWA
theorem AAb:Ch AZ TWB:=AS
end Go.Proofs.YtajompaehjkgkaaGreat
namespace Go.Ai
open Int renaming add_zero->BE,ediv_lt_of_lt_mul->KJ,ediv_nonneg->JI,emod_eq_of_lt->Gf,emod_lt_of_pos->Ew,emod_nonneg->FF,eq_of_mul_eq_mul_left->G8,le_of_lt->Aw,lt_of_lt_of_le->SK,mul_add->CT,mul_assoc->AF,mul_comm->AA,mul_ediv_add_emod->G2,mul_le_mul->Eb,mul_le_mul_of_nonneg_left->Aj,mul_le_mul_of_nonneg_right->Ae,mul_lt_mul_of_pos_left->H6,mul_neg->E5,mul_nonneg->A6,mul_sub->Fr,mul_zero->AI,not_le->GN,not_lt->J0,pow_add->BG,pow_succ->A2,sub_self->P9,zero_add->DL,zero_mul->CX
open List renaming drop_drop->Mb,drop_zero->EZ,ext_getElem?->Ge,getD_eq_getElem?_getD->Z,getElem?_drop->Bw,getElem?_eq_getElem->Ah,getElem?_eq_none->AD,getElem?_take_of_lt->B9,length_set->A_,length_take->AB,mem_of_mem_drop->EV,mem_of_mem_take->C5,take_append_drop->XZ
open Nat renaming add_comm->GF,le_of_lt->nB,le_refl->Ap,lt_or_ge->Cn,zero_add->Cs
section
variable {prog:Nat->Option IFunc}
theorem fH{c:ICode}{ex:Ex}{s t t':Al}(ks:List Nat)(h:C1 prog c s ex t)(e:Wc ks t=t'):C1 prog c s ex t':=e ▸ C1.weak h (GW.refl _) (Yv ks t)
theorem Gk{c:ICode}{ex:Ex}{fin:Al}(st:Nat->Al)(n:Nat)(hex:ex ≠ .norm)(out:C1 prog c (st n) ex fin):∀ i,i<=n->(∀ t,i<=t->t<n->C1 prog c (st t) .norm (st (t+1)))->C1 prog (.loop c) (st i) ex fin:=by
 intro i hi;obtain⟨r,hr⟩:∃ r,i+r=n:=⟨n-i,by omega⟩;induction r generalizing i with
 | zero =>
  intro _;have:i=n:=by omega
  subst this;exact Ao out hex
 | succ r ih =>
  intro hs;exact C1.loop (hs i (Ap _) (by omega)) (ih (i+1) (by omega) (by omega) (fun t h1 h2=>hs t (by omega) h2))
theorem Ik(f:Nat->Bool)(m:Nat):∀ r i,i+r=m->(∀ j,i<=j->j<m->f j=false)\/∃ j,i<=j/\j<m/\f j=true/\∀ t,i<=t->t<j->f t=false:=by
 intro r;induction r with
 | zero=>intro i hi;left;intro j h1 h2;omega
 | succ r ih =>
  intro i hi;cases hf:f i with
  | true=>right;exact⟨i,Ap _,by omega,hf,fun t h1 h2=>by omega⟩
  | false =>
   rcases ih (i+1) (by omega) with h | ⟨j,h1,h2,h3,h4⟩
   ·left;intro j h1 h2;by_cases e:j=i
    ·rw[e];exact hf
    ·exact h j (by omega) h2
   ·right;refine⟨j,by omega,h2,h3,fun t h5 h6 => ?_⟩;by_cases e:t=i
    ·rw[e];exact hf
    ·exact h4 t (by omega) h6
end
theorem Dw(us:LI){j:Nat}(h:j<=us.length):Ab us=Ab (us.take j)+4294967296^j*Ab (us.drop j):=by
 have:=Gt (us.take j) (us.drop j);rw[XZ,AB,Nat.min_eq_left h] at this;exact this
theorem Aae{us ws:LI}{j:Nat}(hl:ws.length=us.length)(h:∀ t,t<j->ws.getD t 0=us.getD t 0):ws.take j=us.take j:=by
 apply Ge;intro t;rcases Cn t j with g | g
 ·rw[B9 g,B9 g];have:=h t g;rw[Z,Z] at this;rcases Cn t us.length with k | k
  ·rw[Ah k,Ah (by omega)] at this |-;simpa using this
  ·rw[AD k,AD (by omega)]
 ·rw[AD (by simp;omega),AD (by simp;omega)]
theorem E_{us:LI}(h:AP us)(j:Nat):AP (us.drop j):=fun x hx=>h x (EV hx)
theorem DS{us:LI}(h:AP us)(j:Nat):AP (us.take j):=fun x hx=>h x (C5 hx)
theorem J9{us:LI}(hu:AP us){n:Nat}{V:Int}(hV:V<=4294967296^n)(h:Ab us<V):Ab (us.drop n)=0:=by
 have h0:=AW (E_ hu n);rcases Cn n us.length with g | g
 ·have e:=Dw us (nB g);have h1:=AW (DS hu n);have hp:=C3 n;apply Int.le_antisymm ?_ h0;apply J0.1;intro hc;have:=Aj (show 1<=Ab (us.drop n) by omega) (show (0:Int)<=4294967296^n by omega);omega
 ·exact DQ g
theorem Gb{us:LI}(hu:AP us)(n:Nat):Ab (us.take n)<4294967296^n:=by
 have h:=DJ (DS hu n);exact SK h (Gj (by simp;omega))
def FK(g:Int)(vs:LI)(j:Nat):Nat->Nat->LI->Int->Int->LI × Int × Int
 | 0,_,us,b,c=>(us,b,c)
 | r+1,i,us,b,c=>FK g vs j r (i+1) (us.set (i+j) ((us.getD (i+j) 0-(g*vs.getD i 0+c) % 4294967296-b) % 4294967296))
   (if us.getD (i+j) 0-(g*vs.getD i 0+c) % 4294967296-b<0 then 1 else 0) ((g*vs.getD i 0+c) / 4294967296)
theorem Wu{g v c:Int}(hg:0<=g/\g<4294967296)(hv:0<=v/\v<4294967296)(hc:0<=c/\c<4294967296):0<=g*v+c/\g*v+c<18446744073709551616:=by
 have h1:=A6 hg.1 hv.1;have h2:=Eb (show g<=4294967295 by omega) (show v<=4294967295 by omega) hv.1 (by omega);omega
theorem Wv{g:Int}{vs:LI}{j:Nat}(hg:0<=g/\g<4294967296)(hv:AP vs):∀ (r i:Nat) (us:LI) (b c:Int),r+i=vs.length->j+vs.length<=us.length->AP us->0<=b/\b<=1->0<=c/\c<4294967296 ->
  (FK g vs j r i us b c).1.length=us.length/\AP (FK g vs j r i us b c).1/\(0<=(FK g vs j r i us b c).2.1/\(FK g vs j r i us b c).2.1<=1)/\(0<=(FK g vs j r i us b c).2.2/\(FK g vs j r i us b c).2.2<4294967296) /\
  Ab (FK g vs j r i us b c).1=Ab us-4294967296^(i+j)*(g*Ab (vs.drop i)+b+c)+4294967296^(j+vs.length)*((FK g vs j r i us b c).2.1+(FK g vs j r i us b c).2.2) /\
  ∀ t,t<i+j\/j+vs.length<=t->(FK g vs j r i us b c).1.getD t 0=us.getD t 0:=by
 intro r;induction r with
 | zero =>
  intro i us b c hi _ hu hb hc;refine⟨rfl,hu,hb,hc,?_,fun t _=>rfl⟩;have:i=vs.length:=by omega
  subst this;rw[DQ (Ap _),GF];simp only[FK,AI,DL];omega
 | succ r ih =>
  intro i us b c hi hl hu hb hc;have hvi:=AG hv i;have hui:=AG hu (i+j);have hw:=Wu hg hvi hc;simp only[FK];generalize hp:g*vs.getD i 0+c=p at *
  generalize hd:us.getD (i+j) 0-p % 4294967296-b=d at *
  obtain⟨g1,g2,g3,g4,g5,g6⟩:=ih (i+1) (us.set (i+j) (d % 4294967296)) (if d<0 then 1 else 0) (p / 4294967296) (by omega) (by simpa using hl) (C2 hu (by omega)) (by split <;> omega) (by omega);refine⟨by simpa using g1,g2,g3,g4,?_,fun t ht => ?_⟩
  ·rw[g5,DP _ _ _ (by omega),CA vs i,show i+1+j=(i+j)+1 by omega,A2];generalize (4294967296:Int)^(i+j)=P at *
   generalize Ab (vs.drop (i+1))=V at *
   have e1:d % 4294967296=d+4294967296*(if d<0 then 1 else 0):=by split <;> omega
   rw[e1];generalize (if d<0 then (1:Int) else 0)=k at *
   have e2:p=4294967296*(p / 4294967296)+p % 4294967296:=by omega
   generalize p / 4294967296=ph at *
   generalize p % 4294967296=pl at *
   generalize us.getD (i+j) 0=u at *
   generalize vs.getD i 0=v at *
   have e3:d=u-pl-b:=by omega
   have e4:c=4294967296*ph+pl-g*v:=by omega
   subst e3;rw[e4];grind
  ·rw[g6 t (by omega),Cy (by omega)]
def Il(vs:LI)(j:Nat):Nat->Nat->LI->Int->LI × Int
 | 0,_,us,c=>(us,c)
 | r+1,i,us,c=>Il vs j r (i+1) (us.set (i+j) ((us.getD (i+j) 0+vs.getD i 0+c) % 4294967296)) ((us.getD (i+j) 0+vs.getD i 0+c) / 4294967296)
theorem Ww{vs:LI}{j:Nat}(hv:AP vs):∀ (r i:Nat) (us:LI) (c:Int),r+i=vs.length->j+vs.length<=us.length->AP us->0<=c/\c<=1 ->
  (Il vs j r i us c).1.length=us.length/\AP (Il vs j r i us c).1/\(0<=(Il vs j r i us c).2/\(Il vs j r i us c).2<=1) /\
  Ab (Il vs j r i us c).1=Ab us+4294967296^(i+j)*(Ab (vs.drop i)+c)-4294967296^(j+vs.length)*(Il vs j r i us c).2 /\
  ∀ t,t<i+j\/j+vs.length<=t->(Il vs j r i us c).1.getD t 0=us.getD t 0:=by
 intro r;induction r with
 | zero =>
  intro i us c hi _ hu hc;refine⟨rfl,hu,hc,?_,fun t _=>rfl⟩;have:i=vs.length:=by omega
  subst this;rw[DQ (Ap _),GF];simp only[Il,DL];omega
 | succ r ih =>
  intro i us c hi hl hu hc;have hvi:=AG hv i;have hui:=AG hu (i+j);simp only[Il];generalize hd:us.getD (i+j) 0+vs.getD i 0+c=d at *
  obtain⟨g1,g2,g3,g4,g5⟩:=ih (i+1) (us.set (i+j) (d % 4294967296)) (d / 4294967296) (by omega) (by simpa using hl) (C2 hu (by omega)) (by omega);refine⟨by simpa using g1,g2,g3,?_,fun t ht => ?_⟩
  ·rw[g4,DP _ _ _ (by omega),CA vs i,show i+1+j=(i+j)+1 by omega,A2];generalize (4294967296:Int)^(i+j)=P at *
   generalize Ab (vs.drop (i+1))=V at *
   have e2:d=4294967296*(d / 4294967296)+d % 4294967296:=by omega
   generalize d / 4294967296=ph at *
   generalize d % 4294967296=pl at *
   generalize us.getD (i+j) 0=u at *
   generalize vs.getD i 0=v at *
   have e3:c=4294967296*ph+pl-u-v:=by omega
   rw[e3];grind
  ·rw[g5 t (by omega),Cy (by omega)]
structure Dig (n:Nat) (V W X nxt x y z:Int):Prop where
 vlow:0<=V-(X*4294967296+nxt)*4294967296^n/\V-(X*4294967296+nxt)*4294967296^n<4294967296^n
 wlow:0<=W-((x*4294967296+y)*4294967296+z)*4294967296^n/\W-((x*4294967296+y)*4294967296+z)*4294967296^n<4294967296^n
 htop:2147483648<=X/\X<4294967296
 hnxt:0<=nxt/\nxt<4294967296
 hx:0<=x/\x<4294967296
 hy:0<=y/\y<4294967296
 hz:0<=z/\z<4294967296
 small:W<4294967296*V
structure DigI (V W X num g r:Int):Prop where
 sum:g*X+r=num
 r0:0<=r
 g0:0<=g
 up:W<(g+1)*V
 gle:g<=4294967297
section
variable {n:Nat} {V W X nxt x y z:Int}
theorem Dig.x_le(h:Dig n V W X nxt x y z):x<=X:=by
 have hp:=C3 n;obtain⟨h1,h2⟩:=h.vlow;obtain⟨h3,h4⟩:=h.wlow;have:=h.hnxt;have:=h.hy;have:=h.hz;have hs:=h.small;apply J0.1;intro hx;generalize (4294967296:Int)^n=P at *
 have e1:(x*4294967296+y)*4294967296+z>=(X+1)*4294967296*4294967296:=by omega
 have e2:=Ae e1 (show 0<=P by omega);have e3:X*4294967296+nxt+1<=(X+1)*4294967296:=by omega
 have e4:=Ae e3 (show 0<=P by omega);have e5:(X+1)*4294967296*4294967296*P=4294967296*((X+1)*4294967296*P):=by grind
 have e6:(X*4294967296+nxt+1)*P=(X*4294967296+nxt)*P+P:=by grind
 omega
theorem Dig.Vpos(h:Dig n V W X nxt x y z):4294967296*4294967296^n<=V:=by
 have hp:=C3 n;obtain⟨h1,h2⟩:=h.vlow;have:=h.hnxt;have:=h.htop;generalize (4294967296:Int)^n=P at *
 have:=Ae (show (4294967296:Int)<=X*4294967296+nxt by omega) (show 0<=P by omega);omega
theorem Dig.init(h:Dig n V W X nxt x y z):DigI V W X (x*4294967296+y) ((x*4294967296+y) / X) ((x*4294967296+y) % X):=by
 have hxl:=h.x_le;have ht:=h.htop;have hx:=h.hx;have hy:=h.hy;have e:=G2 (x*4294967296+y) X;have r0:=FF (x*4294967296+y) (show X ≠ 0 by omega);have r1:=Ew (x*4294967296+y) (show 0<X by omega);have g0:0<=(x*4294967296+y) / X:=JI (by omega) (by omega);have g1:(x*4294967296+y) / X<=4294967297:=by
  apply Int.lt_add_one_iff.1;apply KJ (by omega);omega
 generalize hg:(x*4294967296+y) / X=g at *
 generalize hr:(x*4294967296+y) % X=r at *
 refine⟨by rw[AA];exact e,r0,g0,?_,g1⟩;have hp:=C3 n;obtain⟨h1,h2⟩:=h.vlow;obtain⟨h3,h4⟩:=h.wlow;have hnx:=h.hnxt;have hz:=h.hz;generalize (4294967296:Int)^n=P at *
 have e1:x*4294967296+y+1<=(g+1)*X:=by
  have:(g+1)*X=X*g+X:=by grind
  omega
 have e2:(x*4294967296+y)*4294967296+z+1<=(x*4294967296+y+1)*4294967296:=by omega
 have e3:=Ae e2 (show 0<=P by omega);have e4:=Ae e1 (show 0<=4294967296*P by omega);have e5:X*(4294967296*P)<=V:=by
  have:(X*4294967296+nxt)*P=X*(4294967296*P)+nxt*P:=by grind
  have:=A6 hnx.1 (show 0<=P by omega);omega
 have e6:=Aj e5 (show 0<=g+1 by omega);have e7:(g+1)*(X*(4294967296*P))=(g+1)*X*(4294967296*P):=by grind
 have e8:((x*4294967296+y)*4294967296+z+1)*P=((x*4294967296+y)*4294967296+z)*P+P:=by grind
 have e9:(x*4294967296+y+1)*4294967296*P=(x*4294967296+y+1)*(4294967296*P):=by grind
 omega
theorem Dig.step(h:Dig n V W X nxt x y z){g r:Int}(i:DigI V W X (x*4294967296+y) g r)(hc:4294967296<=g\/r*4294967296+z<g*nxt):DigI V W X (x*4294967296+y) (g-1) (r+X):=by
 have ht:=h.htop;have hVp:=h.Vpos;have hp:=C3 n;have e0:(g-1)*X+(r+X)=g*X+r:=by grind
 have hg1:1<=g:=by
  rcases hc with h1 | h1
  ·omega
  ·apply J0.1;intro hg;have:g=0:=by have:=i.g0;omega
   subst this;have:=i.r0;have:=h.hz;omega
 refine⟨by rw[e0];exact i.sum,by have:=i.r0;omega,by omega,?_,by have:=i.gle;omega⟩;rw[Int.sub_add_cancel];obtain⟨h1,h2⟩:=h.vlow;obtain⟨h3,h4⟩:=h.wlow;have hs:=h.small;rcases hc with hc | hc
 ·have:=Ae hc (show 0<=V by omega);omega
 ·have hsum:=i.sum;rw[<- hsum] at h3 h4;generalize (4294967296:Int)^n=P at *
  have e1:(g*X+r)*4294967296+z+1<=g*(X*4294967296+nxt):=by
   have:g*(X*4294967296+nxt)=g*X*4294967296+g*nxt:=by grind
   omega
  have e2:=Ae e1 (show 0<=P by omega);have e3:(X*4294967296+nxt)*P<=V:=by omega
  have e4:=Aj e3 (show 0<=g by omega);have e5:g*(X*4294967296+nxt)*P=g*((X*4294967296+nxt)*P):=by grind
  have e6:((g*X+r)*4294967296+z+1)*P=((g*X+r)*4294967296+z)*P+P:=by grind
  omega
theorem Dig.small_g(h:Dig n V W X nxt x y z){g r:Int}(i:DigI V W X (x*4294967296+y) g r)(hr:4294967296<=r):g<4294967296:=by
 have hxl:=h.x_le;have ht:=h.htop;have hy:=h.hy;apply GN.1;intro hg;have:=Ae hg (show 0<=X by omega);have:=i.sum;omega
theorem Dig.out(h:Dig n V W X nxt x y z){g r:Int}(i:DigI V W X (x*4294967296+y) g r)(hg:g<4294967296)(hc:4294967296<=r\/g*nxt<=r*4294967296+z):g*V<W+V:=by
 have ht:=h.htop;have hVp:=h.Vpos;have hp:=C3 n;have hnx:=h.hnxt;have hz:=h.hz;have hc':g*nxt<=r*4294967296+z:=by
  rcases hc with hc | hc
  ·have:=Eb (show g<=4294967295 by omega) (show nxt<=4294967295 by omega) hnx.1 (by omega);omega
  ·exact hc
 obtain⟨h1,h2⟩:=h.vlow;obtain⟨h3,h4⟩:=h.wlow;have hsum:=i.sum;have hg0:=i.g0;rw[<- hsum] at h3 h4;generalize (4294967296:Int)^n=P at *
 have e1:g*(X*4294967296+nxt)<=(g*X+r)*4294967296+z:=by
  have:g*(X*4294967296+nxt)=g*X*4294967296+g*nxt:=by grind
  omega
 have e2:=Ae e1 (show 0<=P by omega);have e5:g*(X*4294967296+nxt)*P=g*((X*4294967296+nxt)*P):=by grind
 have e6:=Eb (Aw hg) (show V-(X*4294967296+nxt)*P<=P by omega) (by omega) (show (0:Int)<=4294967296 by omega);have e7:g*(V-(X*4294967296+nxt)*P)=g*V-g*((X*4294967296+nxt)*P):=by grind
 have e8:g*(V-(X*4294967296+nxt)*P)<4294967296*P:=by
  rcases Int.lt_or_eq_of_le hg0 with q | q
  ·have:=H6 h2 q;have:=Ae (Aw hg) (show 0<=P by omega);omega
  ·rw[<- q,CX];omega
 omega
end
theorem uK{us vs:LI}{j m:Nat}(hu:AP us)(hv:AP vs)(hm:vs.length=m+2)(hj:j+m+2<us.length)(ht:2147483648<=vs.getD (m+1) 0)(hW:Ab (us.drop (j+1))<Ab vs) :
  Dig m (Ab vs) (Ab (us.drop j)) (vs.getD (m+1) 0) (vs.getD m 0) (us.getD (j+m+2) 0) (us.getD (j+m+1) 0) (us.getD (j+m) 0):=by
 have hV:=DJ hv;have z:=J9 (E_ hu (j+1)) (n:=m+2) (V:=Ab vs) (by rw[hm] at hV;omega) hW;rw[Mb] at z;have e1:=Dw (us.drop j) (j:=m) (by simp;omega);rw[Mb] at e1;have d1:=CA us (j+m);have d2:=CA us (j+m+1);have d3:=CA us (j+m+2);rw[show j+m+2+1=j+1+(m+2) by omega,z] at d3;have l1:=Gb (E_ hu j) m;have l0:=AW (DS (E_ hu j) m);have f1:=Dw vs (j:=m) (by omega);have c1:=CA vs m;have c2:=CA vs (m+1);have c3:=DQ (xs:=vs) (i:=m+1+1) (by omega);rw[c3] at c2;have k1:=Gb hv m;have k0:=AW (DS hv m);have g1:=CA us j;have gj:=AG hu j;refine⟨?_,?_,⟨ht,(AG hv _).2⟩,AG hv _,AG hu _,AG hu _,AG hu _,by omega⟩
 ·rw[f1,c1,c2,AA (_+_) (4294967296^m)];simp only[AI,BE];rw[show vs.getD (m+1) 0*4294967296+vs.getD m 0=vs.getD m 0+4294967296*vs.getD (m+1) 0 by omega];omega
 ·rw[e1,d1,d2,d3,AA (_+_) (4294967296^m)];simp only[AI,BE];rw[show (us.getD (j+m+2) 0*4294967296+us.getD (j+m+1) 0)*4294967296+us.getD (j+m) 0=us.getD (j+m) 0+4294967296*(us.getD (j+m+1) 0+4294967296*us.getD (j+m+2) 0) by omega];omega
structure StepOk (us vs ws:List Int) (j:Nat) (q:Int):Prop where
 len:ws.length=us.length
 u32:AP ws
 val:Ab ws=Ab us-4294967296^j*(q*Ab vs)
 low:Ab (ws.drop j)<Ab vs
theorem fI{j:Nat}{a b:Int}(h:4294967296^j*a=4294967296^j*b):a=b:=G8 (by have:=C3 j;omega) h
theorem Wx{us ws:LI}{j:Nat}{k:Int}(hl:ws.length=us.length)(hj:j<=us.length)(h:∀ t,t<j->ws.getD t 0=us.getD t 0)(hv:Ab ws=Ab us+4294967296^j*k):Ab (ws.drop j)=Ab (us.drop j)+k:=by
 have e1:=Dw us hj;have e2:=Dw ws (j:=j) (by omega);rw[Aae hl h] at e2;apply fI (j:=j);rw[CT];omega
theorem fJ{us:LI}{j n:Nat}(hj:j+n<us.length)(hz:Ab (us.drop (j+n+1))=0):Ab (us.drop j)=Ab ((us.drop j).take n)+4294967296^n*us.getD (j+n) 0:=by
 have e1:=Dw (us.drop j) (j:=n) (by simp;omega);rw[Mb] at e1;have d1:=CA us (j+n);rw[hz,AI,BE] at d1;rw[e1,d1]
theorem TI{us vs:LI}{j:Nat}(hu:AP us)(hv:AP vs)(hj:j+vs.length<us.length)(hW:Ab (us.drop (j+1))<Ab vs){g:Int}(hg:0<=g/\g<4294967296)
  (h1:Ab (us.drop j)<(g+1)*Ab vs) (h2:g*Ab vs<Ab (us.drop j)+Ab vs) :
  let m:=FK g vs j vs.length 0 us 0 0
  let d:=m.1.getD (j+vs.length) 0-m.2.2-m.2.1
  (d>=0->StepOk us vs (m.1.set (j+vs.length) (d % 4294967296)) j g) /\
  (d<0->StepOk us vs ((Il vs j vs.length 0 (m.1.set (j+vs.length) (d % 4294967296)) 0).1.set (j+vs.length) (((Il vs j vs.length 0 (m.1.set (j+vs.length) (d % 4294967296)) 0).1.getD (j+vs.length) 0+(Il vs j vs.length 0 (m.1.set (j+vs.length) (d % 4294967296)) 0).2) % 4294967296)) j (g-1)/\1<=g):=by
 intro m d;have hVlt:=DJ hv;have z:=J9 (E_ hu (j+1)) (n:=vs.length) (V:=Ab vs) (by omega) hW;rw[Mb,show j+1+vs.length=j+vs.length+1 by omega] at z;obtain⟨m1,m2,m3,m4,m5,m6⟩:=Wv hg hv vs.length 0 us 0 0 (by omega) (show j+vs.length<=us.length by omega) hu (by omega) (by omega);change m.1.length=us.length at m1;change AP m.1 at m2;change 0<=m.2.1/\m.2.1<=1 at m3;change 0<=m.2.2/\m.2.2<4294967296 at m4;change Ab m.1=Ab us-4294967296^(0+j)*(g*Ab (vs.drop 0)+0+0)+4294967296^(j+vs.length)*(m.2.1+m.2.2) at m5;change ∀ t,t<0+j\/j+vs.length<=t->m.1.getD t 0=us.getD t 0 at m6;have hd:d=m.1.getD (j+vs.length) 0-m.2.2-m.2.1:=rfl;clear_value d;generalize hms:m.1=ms at *
 generalize m.2.1=b at *
 generalize m.2.2=c at *
 rw[Cs,EZ,BE,BE] at m5;have m6':=m6 (j+vs.length) (by omega);have w1:Ab (ms.drop j)=Ab (us.drop j)+(4294967296^vs.length*(b+c)-g*Ab vs):=by
  apply Wx m1 (by omega) (fun t ht=>m6 t (by omega));rw[m5,BG,Fr,AF];omega
 have zz:Ab (ms.drop (j+vs.length+1))=0:=by
  have:ms.drop (j+vs.length+1)=us.drop (j+vs.length+1):=by
   apply Ge;intro t;rw[Bw,Bw];have:=m6 (j+vs.length+1+t) (by omega);rw[Z,Z] at this;rcases Cn (j+vs.length+1+t) us.length with k | k
   ·rw[Ah k,Ah (by omega)] at this |-;simpa using this
   ·rw[AD k,AD (by omega)]
  rw[this];exact z
 have w2:=fJ (us:=ms) (j:=j) (n:=vs.length) (by omega) zz;have lo:=Gb (E_ m2 j) vs.length;have lo0:=AW (DS (E_ m2 j) vs.length);have hx:=AG m2 (j+vs.length);have hX:ms.getD (j+vs.length) 0=d+b+c:=by omega
 rw[hX] at w2;have hp:=C3 vs.length;generalize hP:(4294967296:Int)^vs.length=P at *
 generalize hL:Ab ((ms.drop j).take vs.length)=L at *
 have w3:Ab (us.drop j)-g*Ab vs=L+P*d:=by
  rw[w1] at w2;have e:P*(d+b+c)=P*d+P*(b+c):=by grind
  omega
 have e2:(g+1)*Ab vs=g*Ab vs+Ab vs:=by grind
 have lset:∀ v:Int,Ab (ms.set (j+vs.length) v)=Ab us-4294967296^j*(g*Ab vs)+4294967296^j*(P*(v-d)):=by
  intro v;rw[DP _ _ _ (by omega),m5,hX,BG,hP];grind
 refine⟨fun hge => ?_,fun hlt => ?_⟩
 ·have hd0:d=0\/1<=d:=by omega
  have hd1:d<4294967296:=by omega
  refine⟨by simpa using m1,C2 m2 (by omega),?_,?_⟩
  ·rw[lset,Gf hge hd1,P9,AI,AI,BE]
  ·rw[Wx (us:=us) (k := -(g*Ab vs)) (by simpa using m1) (by omega) (fun t ht=>by rw[Cy (by omega)];exact m6 t (by omega)) (by rw[lset,Gf hge hd1,P9,AI,AI,BE,E5];omega)];omega
 ·have hg1:1<=g:=by
   apply J0.1;intro hh;have hg':g=0:=by omega
   have:=AW (E_ hu j);rw[hg',CX] at w3;have:=Aj (show d <= -1 by omega) (show 0<=P by omega);omega
  refine⟨?_,hg1⟩;have hu2:AP (ms.set (j+vs.length) (d % 4294967296)):=C2 m2 (by omega);obtain⟨a1,a2,a3,a4,a5⟩:=Ww hv vs.length 0 (ms.set (j+vs.length) (d % 4294967296)) 0 (by omega) (show j+vs.length<=_ by rw[A_];omega) hu2 (by omega);generalize Il vs j vs.length 0 (ms.set (j+vs.length) (d % 4294967296)) 0=A at *
  have a6:=a5 (j+vs.length) (by omega);have hlen:A.1.length=us.length:=by rw[a1,A_,m1]
  have hget:(ms.set (j+vs.length) (d % 4294967296)).getD (j+vs.length) 0=d % 4294967296:=by
   simp[Z,show j+vs.length<ms.length by omega]
  rw[hget] at a6;rw[a6];rw[Cs,EZ,BE,lset,BG,hP] at a4;have aset:∀ v:Int,Ab (A.1.set (j+vs.length) v)=Ab us-4294967296^j*((g-1)*Ab vs)+4294967296^j*(P*(v-d-A.2)):=by
   intro v;rw[DP _ _ _ (by omega),a4,a6,BG,hP];grind
  have hwA:∀ v:Int,Ab ((A.1.set (j+vs.length) v).drop j)=Ab (us.drop j)-(g-1)*Ab vs+P*(v-d-A.2):=by
   intro v;have:=Wx (us:=us) (ws:=A.1.set (j+vs.length) v) (j:=j) (k:=P*(v-d-A.2)-(g-1)*Ab vs) (by simpa using hlen) (by omega) (fun t ht=>by rw[Cy (by omega),a5 t (by omega),Cy (by omega)];exact m6 t (by omega)) (by rw[aset];grind);omega
  have hge0:0<=Ab (us.drop j)-(g-1)*Ab vs:=by
   have:(g-1)*Ab vs=g*Ab vs-Ab vs:=by grind
   omega
  have hltV:Ab (us.drop j)-(g-1)*Ab vs<Ab vs:=by
   have h3:(g-1)*Ab vs=g*Ab vs-Ab vs:=by grind
   have h4:=Aj (show d <= -1 by omega) (show 0<=P by omega);omega
  have hz3:A.2 = -d:=by
   have q0:=hwA 0;have q1:=AW (E_ (C2 a2 (i:=j+vs.length) (v:=0) (by omega)) j);have zz2:Ab ((A.1.set (j+vs.length) 0).drop (j+vs.length+1))=0:=by
    have:(A.1.set (j+vs.length) 0).drop (j+vs.length+1)=ms.drop (j+vs.length+1):=by
     apply Ge;intro t;rw[Bw,Bw];have h5:=a5 (j+vs.length+1+t) (by omega);rw[Cy (by omega)] at h5;have h6:(A.1.set (j+vs.length) 0).getD (j+vs.length+1+t) 0=ms.getD (j+vs.length+1+t) 0:=by rw[Cy (by omega)];exact h5
     rw[Z,Z] at h6;rcases Cn (j+vs.length+1+t) us.length with k | k
     ·rw[Ah (by simp;omega),Ah (by omega)] at h6 |-;simpa using h6
     ·rw[AD (by simp;omega),AD (by omega)]
    rw[this];exact zz
   have q2:=fJ (us:=A.1.set (j+vs.length) 0) (j:=j) (n:=vs.length) (by simp;omega) zz2;have q3:(A.1.set (j+vs.length) 0).getD (j+vs.length) 0=0:=by simp[Z,show j+vs.length<A.1.length by omega]
   have q4:=Gb (E_ (C2 a2 (i:=j+vs.length) (v:=0) (by omega)) j) vs.length;rw[hP] at q2 q4;rw[q3,AI,BE] at q2;rw[q0] at q1 q2;rw[<- q2] at q4;generalize Ab (us.drop j)-(g-1)*Ab vs=X at *
   have e5:P*(0-d-A.2)=P*(-d-A.2):=by rw[Int.zero_sub]
   rw[e5] at q1 q4;have c1 : -d-A.2<1:=by
    apply GN.1;intro hc;have:=Aj hc (show 0<=P by omega);omega
   have c2 : -1 < -d-A.2:=by
    apply GN.1;intro hc;have:=Aj hc (show 0<=P by omega);omega
   omega
  have hv0:(d % 4294967296+A.2) % 4294967296=0:=by omega
  rw[hv0];refine⟨by simpa using hlen,C2 a2 (by omega),?_,?_⟩
  ·rw[aset,show (0:Int)-d-A.2=0 by omega,AI,AI,BE]
  ·rw[hwA,show (0:Int)-d-A.2=0 by omega,AI,BE];exact hltV
end Go.Ai
namespace Go.Proofs.YtajompaehjkgkaaGreat
open Go.Ai
set_option maxRecDepth 100000
open BitVec renaming ofInt->U,ofInt_natCast->K2,or_comm->Ut,toNat_ofNat->Ji,toNat_or->kU
open Bool renaming false_and->KR,false_eq_true->Cj
open Decidable renaming decide->A9i
open Go.Ai.AV renaming agg->o,bool->F,fresh->L,int->D,sl->H,tup->Ax
open Go.Ai.Reg renaming own->A9n,val->A9j
open Go.IntKind renaming bits->An,i64->O,u32->Ad,u64->B,u8->w,wrap->I
open Int renaming add_mul_ediv_right->A7y,add_zero->BE,ediv_eq_zero_of_lt->GQ,emod_nonneg->FF,fdiv->A9q,fdiv_eq_ediv_of_nonneg->AAg,mul_comm->AA,mul_emod_mul_of_pos->A7w,mul_le_mul->Eb,mul_lt_mul_of_pos_right->AU,mul_nonneg->A6,mul_zero->AI,natCast_ediv->Aso,natCast_mul->Dj,natCast_pow->CH,pow_add->BG,pow_nonneg->NM,tdiv->Av,tmod->AC,toNat->A,toNat_natCast->R,zero_add->DL
open List renaming all_eq_true->BY,drop->A9v,length->Bs,length_pos_iff->Am,range->Aq,take->BD
open Nat renaming add_mul->DY,log2->Ck,log2_eq_iff->QX,log2_lt->PD,lt_or_ge->Cn,mod_eq_of_lt->F1,mul_comm->CZ,mul_le_mul_right->AE,one_mul->Fe,pow_add->CN,pow_le_pow_right->B8,two_pow_add_eq_or_of_lt->Ayw,two_pow_pos->Ays
theorem R1{n:Int}(h:0<=n/\n<4294967296):I Ad n=n:=by rw [DW];omega
theorem CC{n:Int}(h:0<=n/\n<18446744073709551616):I B n=n:=by rw [BF];omega
theorem p32:(2:Int)^(min (A 32) (An .u64))=4294967296:=by decide
theorem p63:(2:Int)^(min (A 63) (An .u64))=9223372036854775808:=by decide
theorem YE(s:Int):A9q s (2^(min (A 32) (An .u64)))=s / 4294967296:=by
 rw[p32,AAg _ (by decide)]
theorem Asj(s:Int):A9q s (2^(min (A 63) (An .u64)))=s / 9223372036854775808:=by
 rw[p63,AAg _ (by decide)]
theorem Nh{r x:Int}(hr:0<=r/\r<4294967296)(hx:0<=x/\x<4294967296) :
  I B ((U (An .u64) (I B (r*2^(min (A 32) (An .u64)))) ||| U (An .u64) (I B x)).toNat)=r*4294967296+x:=by
 rw[p32,CC (n:=r*4294967296) (by omega),CC (n:=x) (by omega)];have:=Ark (q:=r) (c:=x) (s:=32) hr.1 (by rw[show (2:Int)^32=4294967296 by decide];omega) (by omega) (by rw[show (2:Int)^32=4294967296 by decide];exact hx);rw[show (2:Int)^32=4294967296 by decide] at this;exact this
theorem Asl{q c:Int}{s:Nat}(hq:0<=q)(hs:q*2^s<4294967296)(hs':s<=32)(hc:0<=c/\c<2^s) :
  I Ad ((U (An .u32) c ||| U (An .u32) (q*2^s)).toNat)=q*2^s+c:=by
 obtain⟨a,rfl⟩:∃ a:Nat,q=a:=⟨q.toNat,by omega⟩;obtain⟨b,rfl⟩:∃ b:Nat,c=b:=⟨c.toNat,by omega⟩;have e1:(a:Int)*2^s=((a*2^s:Nat):Int):=by rw[Dj,CH];rfl
 have hb:b<2^s:=by
  have:(b:Int)<((2^s:Nat):Int):=by rw[CH];exact hc.2
  omega
 have h64:2^s<=2^32:=B8 (by decide) hs';have e64:2^32=4294967296:=by decide
 rw[e1] at hs |-;show I Ad ((U 32 (b:Int) ||| U 32 ((a*2^s:Nat):Int)).toNat:Int)=_;rw[Ut,kU,K2,K2,Ji,Ji,F1 (by omega),F1 (by omega),CZ a,<- Ayw hb,CZ (2^s) a,DW];have hsum:a*2^s+b<4294967296:=by
  have hd:a*2^s+2^s<=2^32:=by
   have hk:2^32=2^(32-s)*2^s:=by rw[<- CN];congr 1;omega
   have h1:a<2^(32-s):=by
    rcases Cn a (2^(32-s)) with g | g
    ·exact g
    ·have:=AE (2^s) g;omega
   have h2:=AE (2^s) (show a+1<=2^(32-s) by omega);rw[DY,Fe] at h2;omega
  omega
 omega
theorem R2{s:Nat}(hs:s<=32):(4294967296:Int)=2^(32-s)*2^s:=by rw [<- BG,show 32-s+s=32 by omega];decide
theorem Wy{x:Int}{s:Nat}(hx:0<=x/\x<4294967296)(hs:s<32) :
  0<=x*2^s/\x*2^s<18446744073709551616/\x*2^s / 4294967296<2^s/\∃ q:Int,0<=q/\x*2^s % 4294967296=q*2^s:=by
 have hp:=BP s;have hp2:(2:Int)^s<=2147483648:=by
  have:=G6 (show s<=31 by omega);rwa [show (2:Int)^31=2147483648 by decide] at this
 have h0:=A6 hx.1 (show (0:Int)<=2^s by omega);have h1:=Eb (show x<=4294967295 by omega) hp2 (by omega) (by omega);have h2:=AU hx.2 hp;refine⟨h0,by omega,by omega,?_⟩;have e:(4294967296:Int)=2^(32-s)*2^s:=by
  rw[<- BG,show 32-s+s=32 by omega];decide
 refine⟨x % 2^(32-s),FF _ (by have:=BP (32-s);omega),?_⟩;rw[e,AA x,AA (2^(32-s)),A7w _ _ hp,AA]
def ZW(n:Nat):Nat:=if n=0 then 0 else Ck n+1
def Im(i:Int):Int:=(ZW i.toNat:Nat)
theorem Aaf:∀ n:Nat,n<256->(EC[n]?).map (fun c=>(c.toNat:Int))=some ((ZW n:Nat):Int):=by
 have h:(Aq 256).all (fun n=>decide ((EC[n]?).map (fun c=>(c.toNat:Int))=some ((ZW n:Nat):Int)))=true:=by decide +kernel
 intro n hn;have:=BY.1 h n (by simpa using hn);simpa using this
theorem R4(x:Int):((if 0<=(w.wrap x) then (EC)[(A (w.wrap x))]? else none).map fun c=>(c.toNat:Int))=some (Im (w.wrap x)):=by
 have hw:0<=w.wrap x/\w.wrap x<256:=by
  simp only[I,An,IntKind.signed,KR,Cj,if_false];omega
 rw[if_pos hw.1];exact Aaf _ (by omega)
def U6(x:Int):Int :=
 match decide (x>=65536) with
 | true=>(match decide ((A9q x (2^(min (A 16) (An .u32))))>=256) with
 | true=>(I O (24+(I O (Im (w.wrap (A9q (A9q x (2^(min (A 16) (An .u32)))) (2^(min (A 8) (An .u32)))))))))
 | false=>(I O (16+(I O (Im (w.wrap (A9q x (2^(min (A 16) (An .u32))))))))))
 | false=>(match decide (x>=256) with
 | true=>(I O (8+(I O (Im (w.wrap (A9q x (2^(min (A 8) (An .u32)))))))))
 | false=>(I O (0+(I O (Im (w.wrap x))))))
theorem Asm(x:Int)  : RQ 150 [D Ad x] (D O (U6 x)):=by
 unfold U6;cases c1:(A9i (x>=65536))
 ·cases c2:(A9i (x>=256))
  ·exact B1 (r := D O (I O (0+(I O (Im (w.wrap x)))))) (ps:=[(A9i (x>=65536))=false,(A9i (x>=256))=false,((if 0<=(w.wrap x) then (EC)[(A (w.wrap x))]? else none).map fun c=>(c.toNat:Int))=some (Im (w.wrap x))]) AS rfl 300 rfl [.b false,.b false,.v (D .u8 (Im (w.wrap x)))] (by kernel_rfl) ⟨c1,c2,(R4 _),trivial⟩
  ·exact B1 (r := D O (I O (8+(I O (Im (w.wrap (A9q x (2^(min (A 8) (An .u32)))))))))) (ps:=[(A9i (x>=65536))=false,(A9i (x>=256))=true,¬ (8:Int)<0,((if 0<=(w.wrap (A9q x (2^(min (A 8) (An .u32))))) then (EC)[(A (w.wrap (A9q x (2^(min (A 8) (An .u32))))))]? else none).map fun c=>(c.toNat:Int))=some (Im (w.wrap (A9q x (2^(min (A 8) (An .u32))))))]) AS rfl 300 rfl [.b false,.b true,.v (D .u8 (Im (w.wrap (A9q x (2^(min (A 8) (An .u32)))))))] (by kernel_rfl) ⟨c1,c2,(by decide),(R4 _),trivial⟩
 ·cases c2:(A9i ((A9q x (2^(min (A 16) (An .u32))))>=256))
  ·exact B1 (r := D O (I O (16+(I O (Im (w.wrap (A9q x (2^(min (A 16) (An .u32)))))))))) (ps:=[(A9i (x>=65536))=true,¬ (16:Int)<0,(A9i ((A9q x (2^(min (A 16) (An .u32))))>=256))=false,((if 0<=(w.wrap (A9q x (2^(min (A 16) (An .u32))))) then (EC)[(A (w.wrap (A9q x (2^(min (A 16) (An .u32))))))]? else none).map fun c=>(c.toNat:Int))=some (Im (w.wrap (A9q x (2^(min (A 16) (An .u32))))))]) AS rfl 300 rfl [.b true,.b false,.v (D .u8 (Im (w.wrap (A9q x (2^(min (A 16) (An .u32)))))))] (by kernel_rfl) ⟨c1,(by decide),c2,(R4 _),trivial⟩
  ·exact B1 (r := D O (I O (24+(I O (Im (w.wrap (A9q (A9q x (2^(min (A 16) (An .u32)))) (2^(min (A 8) (An .u32)))))))))) (ps:=[(A9i (x>=65536))=true,¬ (16:Int)<0,(A9i ((A9q x (2^(min (A 16) (An .u32))))>=256))=true,¬ (8:Int)<0,((if 0<=(w.wrap (A9q (A9q x (2^(min (A 16) (An .u32)))) (2^(min (A 8) (An .u32))))) then (EC)[(A (w.wrap (A9q (A9q x (2^(min (A 16) (An .u32)))) (2^(min (A 8) (An .u32))))))]? else none).map fun c=>(c.toNat:Int))=some (Im (w.wrap (A9q (A9q x (2^(min (A 16) (An .u32)))) (2^(min (A 8) (An .u32))))))]) AS rfl 300 rfl [.b true,.b true,.v (D .u8 (Im (w.wrap (A9q (A9q x (2^(min (A 16) (An .u32)))) (2^(min (A 8) (An .u32)))))))] (by kernel_rfl) ⟨c1,(by decide),c2,(by decide),(R4 _),trivial⟩
theorem Asn(x l:Int)(n1:RQ 150 [D Ad x] (D O l)):RQ 188 [D Ad x] (D O (I O (32-l))):=A9x (fn:=V_) AS rfl 400 rfl [.r (D O l)] (T n1 a0)
theorem A8e(n na:Bool)(xs as1:LI)(v:Int)(n1:Bs (W as1)=as1.length*1)
  (n2:as1.length<=35184372088832)
  (n3:RQ 143 [o [F n,Y W xs]] (Ax [F na,Y W as1]))
  (n4:RQ 152 [F false,Y W as1] (Ag v)):RQ 160 [o [F n,Y W xs]] (Ag v) :=
 A9x (fn:=VN) AS rfl 400 rfl [.r (Ax [F na,Y W as1]),.r (Ag v)] (T n3 (T n1 (T n2 (T n4 a0)))) (by kernel_rfl)
theorem A8f(n na:Bool)(xs as1:LI)(n1:RQ 143 [o [F n,Y W xs]] (Ax [F na,Y W as1])):RQ 177 [o [F n,Y W xs]] (D O (as1.length:Int)) :=
 A9x (fn:=VR) AS rfl 400 rfl [.r (Ax [F na,Y W as1])] (T n1 a0) (by kernel_rfl)
theorem nC(n na:Bool)(xs as1:LI)(c1:((as1.length:Int)==0)=true)(n1:RQ 143 [o [F n,Y W xs]] (Ax [F na,Y W as1])):RQ 102 [o [F n,Y W xs]] (D O 0):=A9x (fn:=Sm) AS rfl 400 rfl [.r (Ax [F na,Y W as1]),.b true] (T n1 (T c1 a0))
theorem nD(n na:Bool)(xs as1:LI)(l:Int)(c1:((as1.length:Int)==0)=false)(n1:0<=(I O ((as1.length:Int)-1))/\(I O ((as1.length:Int)-1))<(as1.length:Int))(n2:RQ 143 [o [F n,Y W xs]] (Ax [F na,Y W as1]))(n3:RQ 150 [D Ad (as1.getD (A (I O ((as1.length:Int)-1))) 0)] (D O l)):RQ 102 [o [F n,Y W xs]] (D O (I O ((I O (32*(I O ((as1.length:Int)-1))))+l))):=A9x (fn:=Sm) AS rfl 400 rfl [.r (Ax [F na,Y W as1]),.b false,.v (D Ad (as1.getD (A (I O ((as1.length:Int)-1))) 0)),.r (D O l)] (T n2 (T c1 (T n1 (T (AAe n1) (T n3 a0)))))
theorem Hd(n k:Nat)(h:n / 2^k ≠ 0):Ck n=Ck (n / 2^k)+k:=by
 have hn:n ≠ 0:=by intro e;subst e;simp at h
 have:=(QX h).1 rfl;rw[QX hn];generalize Ck (n / 2^k)=j at *
 have hp:0<2^k:=Ays k;constructor
 ·rw[CN];exact (Nat.le_div_iff_mul_le hp).1 this.1
 ·have:n<2^(j+1)*2^k:=(Nat.div_lt_iff_lt_mul hp).1 this.2;rw[<- CN] at this;have e:j+k+1=j+1+k:=by omega
  rw[e];exact this
theorem Aag(v:Nat)(h:v<256)(h0:v ≠ 0):Im (w.wrap (v:Int))=((Ck v+1:Nat):Int):=by
 have hw:w.wrap (v:Int)=v:=by
  simp only[I,An,IntKind.signed,KR,Cj,if_false];omega
 rw[hw];unfold Im ZW;rw[R,if_neg h0]
theorem nE(n:Nat)(k:Nat)(hk:k<=32):A9q (n:Int) (2^(min (A (k:Int)) (An .u32)))=((n / 2^k:Nat):Int):=by
 have e:min (A (k:Int)) (An .u32)=k:=by
  show min (A (k:Int)) 32=k;rw[R];omega
 rw[e,AAg _ (NM (by omega))];have:(2:Int)^k=((2^k:Nat):Int):=by simp
 rw[this,<- Aso]
theorem Aah(n:Nat)(h:n<4294967296)(h0:n ≠ 0):U6 (n:Int)=((Ck n+1:Nat):Int):=by
 have s16 (n:Nat):A9q (n:Int) (2^(min (A 16) (An .u32)))=((n / 2^16:Nat):Int):=nE n 16 (by omega);have s8 (n:Nat):A9q (n:Int) (2^(min (A 8) (An .u32)))=((n / 2^8:Nat):Int):=nE n 8 (by omega);have fin (v c:Nat) (hv:v<256) (hv0:v ≠ 0) (hc:c<=56):I O ((c:Int)+I O (Im (w.wrap (v:Int))))=((Ck v+1+c:Nat):Int):=by
  have:Ck v<8:=(PD hv0).2 hv;rw[Aag v hv hv0,Bl (n:=((Ck v+1:Nat):Int)) (by omega) (by omega),Bl (by omega) (by omega)];omega
 unfold U6;simp only[s16,s8];by_cases b:n<65536
 ·have b':decide ((n:Int)>=65536)=false:=by simp;omega
  rw[b'];by_cases c:n<256
  ·have c':decide ((n:Int)>=256)=false:=by simp;omega
   rw[c'];exact fin n 0 c h0 (by omega)
  ·have c':decide ((n:Int)>=256)=true:=by simp;omega
   rw[c',Hd n 8 (by omega)];have:=fin (n / 2^8) 8 (by omega) (by omega) (by omega);exact this.trans (by omega)
 ·have b':decide ((n:Int)>=65536)=true:=by simp;omega
  rw[b'];dsimp only;by_cases c:n / 2^16<256
  ·have c':decide (((n / 2^16:Nat):Int)>=256)=false:=by simp;omega
   rw[c',Hd n 16 (by omega)];have:=fin (n / 2^16) 16 (by omega) (by omega) (by omega);exact this.trans (by omega)
  ·have c':decide (((n / 2^16:Nat):Int)>=256)=true:=by simp;omega
   rw[c',Hd n 16 (by omega),Hd (n / 2^16) 8 (by omega)];have:=fin (n / 2^16 / 2^8) 24 (by omega) (by omega) (by omega);exact this.trans (by omega)
theorem Wz{n:Nat}(h:n<4294967296)(h0:n ≠ 0):RQ 150 [D Ad (n:Nat)] (D O ((Ck n+1:Nat):Int)):=by
 have:=Asm (n:Nat);rwa [Aah n h h0] at this
theorem uL{x:Int}(hx:0<x/\x<4294967296):∃ s:Nat,s<32/\2147483648<=x*2^s/\x*2^s<4294967296/\RQ 188 [D Ad x] (D O (s:Nat)):=by
 obtain⟨n,rfl⟩:∃ n:Nat,x=n:=⟨x.toNat,by omega⟩;have hn0:n ≠ 0:=by omega
 have hl:=(QX hn0).1 rfl;have hlt:Ck n<32:=(PD hn0).2 (by omega);refine⟨31-Ck n,by omega,?_,?_,?_⟩
 ·have:2^31<=n*2^(31-Ck n):=by
   have h:=AE (2^(31-Ck n)) hl.1;rwa [<- CN,show Ck n+(31-Ck n)=31 by omega] at h
  have e:(n:Int)*2^(31-Ck n)=((n*2^(31-Ck n):Nat):Int):=by rw[Dj,CH];rfl
  rw[e];omega
 ·have:n*2^(31-Ck n)<2^32:=by
   have h:=Nat.mul_lt_mul_of_pos_right hl.2 (Ays (31-Ck n));rwa [<- CN,show Ck n+1+(31-Ck n)=32 by omega] at h
  have e:(n:Int)*2^(31-Ck n)=((n*2^(31-Ck n):Nat):Int):=by rw[Dj,CH];rfl
  rw[e];omega
 ·have h:=Asn (n:Nat) _ (Wz (by omega) hn0);rw[Bl (by omega) (by omega)] at h;rwa [show (32:Int)-((Ck n+1:Nat):Int)=((31-Ck n:Nat):Int) by omega] at h
theorem W0{neg:Bool}{xs:LI}(hu:AP xs)(hN:xs.length<=1048576):RQ 177 [o [F neg,Y W xs]] (D O (((M (v neg xs).natAbs).length:Nat):Int)) :=
 A8f neg _ xs _ (Du hu hN)
theorem SL{neg:Bool}{xs:LI}(hu:AP xs)(hN:xs.length<=1048576):RQ 160 [o [F neg,Y W xs]] (Ag ((v neg xs).natAbs:Nat)):=by
 have l1:=EG (neg:=neg) hu;have h:=EI (neg:=false) (BR (v neg xs).natAbs) (by omega);rw[A2h] at h;exact A8e neg _ xs _ _ (U4 _) (by omega) (Du hu hN) h
def DD(n:Nat):Nat:=if n=0 then 0 else Ck n+1
theorem YF{n:Nat}(h:n ≠ 0):1<=(M n).length/\∃ x:Nat,(M n).getD ((M n).length-1) 0=x/\x ≠ 0/\x<4294967296/\n / 2^(32*((M n).length-1))=x:=by
 have hc:=Cl n;have hn0:M n ≠ []:=by rw[Ne,IU];exact h
 have hl:=Am.2 hn0;have ht:=AG hc.1 ((M n).length-1);have hz:(M n).getD ((M n).length-1) 0 ≠ 0:=by
  rcases hc.2 with g | g
  ·exact absurd g hn0
  ·exact g
 have hs:=Dw (M n) (j:=(M n).length-1) (by omega);have hd:=CA (M n) ((M n).length-1);rw[DQ (xs:=M n) (i:=(M n).length-1+1) (by omega),AI,BE] at hd;have h1:=Gb hc.1 ((M n).length-1);have h0:=AW (DS hc.1 ((M n).length-1));rw[hd,Cx] at hs;generalize (M n).length-1=j at *
 generalize (M n).getD j 0=x at *
 obtain⟨x,rfl⟩:∃ y:Nat,x=y:=⟨x.toNat,by omega⟩;refine⟨hl,x,rfl,by omega,by omega,?_⟩;generalize Ab (BD j (M n))=L at *
 have e:((n / 2^(32*j):Nat):Int)=(x:Int):=by
  rw[Aso,CH,show ((2:Nat):Int)^(32*j)=4294967296^j by rw[Nd];rfl,hs];have hp:=C3 j;rw[AA (4294967296^j),A7y _ _ (by omega),GQ h0 h1,DL]
 omega
theorem Ni{neg:Bool}{xs:LI}(hu:AP xs)(hN:xs.length<=1048576):RQ 102 [o [F neg,Y W xs]] (D O ((DD (v neg xs).natAbs:Nat):Int)):=by
 have l1:=EG (neg:=neg) hu;have r1:=Du (neg:=neg) hu hN;generalize v neg xs=a at *
 by_cases h0:a.natAbs=0
 ·have h:=nC neg _ xs _ (by rw[h0];rfl) r1;rw[show DD a.natAbs=0 by unfold DD;rw[if_pos h0]];exact h
 ·obtain⟨t1,x,t2,t3,t4,t5⟩:=YF h0;have e1:I O ((((M a.natAbs).length:Nat):Int)-1)=(((M a.natAbs).length-1:Nat):Int):=by rw[Bl (by omega) (by omega)];omega
  have hl:=Wz t4 t3;have h:=nD neg _ xs (M a.natAbs) _ (by rw[beq_eq_false_iff_ne];omega) (by rw[e1];omega) r1 (by rw[e1,R,t2];exact hl);have hlog:Ck x<32:=(PD t3).2 t4;rw[e1,Bl (n:=32*(((M a.natAbs).length-1:Nat):Int)) (by omega) (by omega),Bl (by omega) (by omega)] at h;have e2:DD a.natAbs=Ck x+1+32*((M a.natAbs).length-1):=by
   unfold DD;rw[if_neg h0,Hd a.natAbs (32*((M a.natAbs).length-1)) (by rw[t5];exact t3),t5];omega
  rw[e2];rwa [show 32*(((M a.natAbs).length-1:Nat):Int)+((Ck x+1:Nat):Int)=((Ck x+1+32*((M a.natAbs).length-1):Nat):Int) by omega] at h
def QD(xs:LI)(d:Int)(k:Nat)(qs:LI)(r:Int)(i:Int):Al:=(A9j (Y W xs)::(A9j (D Ad d)::(Ac 4 (A9n 1 k (W qs)::(A9j (D B r)::(A9j (D O i)::(Ac 34 [])))))))
theorem Asp(xs:LI)(d:Int)(k:Nat)(qs:LI)(r:Int)(i:Int)(c1:A9i (i>=0)=true)(n1:0<=i/\i<(xs.length:Int))(n2:¬ (I B d)=0)(n3:0<=i/\i<(k:Int))(n4:qs.length=k):Ar VY (QD xs d k qs r i) .norm (QD xs d k (qs.set (A i) (I Ad (I B (Av (I B ((U (An .u64) (I B (r*2^(min (A 32) (An .u64)))) ||| U (An .u64) (I B (xs.getD (A i) 0))).toNat)) (I B d))))) (AC (I B ((U (An .u64) (I B (r*2^(min (A 32) (An .u64)))) ||| U (An .u64) (I B (xs.getD (A i) 0))).toNat)) (I B d)) (I O (i-1))):=(G AAb 400 [.b true,.v (D Ad (xs.getD (A i) 0)),.l (W (qs.set (A i) (I Ad (I B (Av (I B ((U (An .u64) (I B (r*2^(min (A 32) (An .u64)))) ||| U (An .u64) (I B (xs.getD (A i) 0))).toNat)) (I B d))))))] [0,1,6,7,8] (T c1 (T It (T n1 (T (AAe n1) (T n2 (T n2 (T n3 (T (show C6 (W qs) (A i*1) [D Ad (I Ad (I B (Av (I B ((U (An .u64) (I B (r*2^(min (A 32) (An .u64)))) ||| U (An .u64) (I B (xs.getD (A i) 0))).toNat)) (I B d))))]=some (W (qs.set (A i) (I Ad (I B (Av (I B ((U (An .u64) (I B (r*2^(min (A 32) (An .u64)))) ||| U (An .u64) (I B (xs.getD (A i) 0))).toNat)) (I B d)))))) from (Db n4 n3)) a0)))))))))
theorem Asq(xs:LI)(d:Int)(k:Nat)(qs:LI)(r:Int)(i:Int)(c1:A9i (i>=0)=false):Ar VY (QD xs d k qs r i) (.exit 0) (QD xs d k qs r i):=(G AAb 400 [.b false] [0,1,6,7,8] (T c1 a0))
theorem Asr(xs qs:LI)(d r i:Int)(k:Nat)(n1:0<=(xs.length:Int)/\(xs.length:Int)<=1048576)(hl2:Ar (.loop VY) ((A9j (Y W xs)::(A9j (D Ad d)::(Ac 4 (A9n 1 (A (xs.length:Int)) (Cz [D Ad 0] (A (xs.length:Int)))::(A9j (D B 0)::(A9j (D O (I O ((xs.length:Int)-1)))::(Ac 34 [])))))))) (.exit 0) (QD xs d k qs r i)):RQ 187 [Y W xs,D Ad d] (Ax [H k (W qs),D Ad (I Ad r)]):=A9g VZ (Ac 1 (A9j (D Ad d)::(Ac 2 (A9n 1 k (W qs)::(A9j (D Ad (I Ad r))::(Ac 37 [])))))) (A9m (A9m (A9t (C1.seq (G AAb 400 [] [0,1,6,7,8] (T n1 a0)) (C1.seq (C1.block hl2) (G AAb 400 [] [1,4,5] a0))))))
def QE(xs:LI)(s:Int)(k:Nat)(os:LI)(n:Int)(i:Int):Al:=(Ac 1 (A9j (D O s)::(Ac 3 (A9n 1 k (W os)::(Ac 7 (A9j (Y W xs)::(A9j (D O n)::(A9j (D O i)::(Ac 26 [])))))))))
theorem Ass(xs:LI)(s:Int)(k:Nat)(os:LI)(n:Int)(i:Int)(c1:A9i (i<n)=true)(n1:0<=i/\i<(xs.length:Int))(n2:¬ (I B s)<0)(n3:0<=i/\i<(k:Int))(n4:os.length=k)(n5:0<=(I O (i+1))/\(I O (i+1))<(k:Int))(n6:(os.set (A i) (I Ad ((U (An .u32) (os.getD (A i) 0) ||| U (An .u32) (I Ad (I B ((I B (xs.getD (A i) 0))*2^(min (A (I B s)) (An .u64)))))).toNat))).length=k):Ar Wa (QE xs s k os n i) .norm (QE xs s k ((os.set (A i) (I Ad ((U (An .u32) (os.getD (A i) 0) ||| U (An .u32) (I Ad (I B ((I B (xs.getD (A i) 0))*2^(min (A (I B s)) (An .u64)))))).toNat))).set (A (I O (i+1))) (I Ad (A9q (I B ((I B (xs.getD (A i) 0))*2^(min (A (I B s)) (An .u64)))) (2^(min (A 32) (An .u64)))))) n (I O (i+1))):=(G AAb 400 [.b true,.v (D Ad (xs.getD (A i) 0)),.v (D Ad (os.getD (A i) 0)),.l (W (os.set (A i) (I Ad ((U (An .u32) (os.getD (A i) 0) ||| U (An .u32) (I Ad (I B ((I B (xs.getD (A i) 0))*2^(min (A (I B s)) (An .u64)))))).toNat)))),.l (W ((os.set (A i) (I Ad ((U (An .u32) (os.getD (A i) 0) ||| U (An .u32) (I Ad (I B ((I B (xs.getD (A i) 0))*2^(min (A (I B s)) (An .u64)))))).toNat))).set (A (I O (i+1))) (I Ad (A9q (I B ((I B (xs.getD (A i) 0))*2^(min (A (I B s)) (An .u64)))) (2^(min (A 32) (An .u64)))))))] [1,5,13,14,15] (T c1 (T n1 (T (AAe n1) (T n2 (T n3 (T (Co n4 n3) (T n3 (T (show C6 (W os) (A i*1) [D Ad (I Ad ((U (An .u32) (os.getD (A i) 0) ||| U (An .u32) (I Ad (I B ((I B (xs.getD (A i) 0))*2^(min (A (I B s)) (An .u64)))))).toNat))]=some (W (os.set (A i) (I Ad ((U (An .u32) (os.getD (A i) 0) ||| U (An .u32) (I Ad (I B ((I B (xs.getD (A i) 0))*2^(min (A (I B s)) (An .u64)))))).toNat)))) from (Db n4 n3)) (T It (T n5 (T (show C6 (W (os.set (A i) (I Ad ((U (An .u32) (os.getD (A i) 0) ||| U (An .u32) (I Ad (I B ((I B (xs.getD (A i) 0))*2^(min (A (I B s)) (An .u64)))))).toNat)))) (A (I O (i+1))*1) [D Ad (I Ad (A9q (I B ((I B (xs.getD (A i) 0))*2^(min (A (I B s)) (An .u64)))) (2^(min (A 32) (An .u64)))))]=some (W ((os.set (A i) (I Ad ((U (An .u32) (os.getD (A i) 0) ||| U (An .u32) (I Ad (I B ((I B (xs.getD (A i) 0))*2^(min (A (I B s)) (An .u64)))))).toNat))).set (A (I O (i+1))) (I Ad (A9q (I B ((I B (xs.getD (A i) 0))*2^(min (A (I B s)) (An .u64)))) (2^(min (A 32) (An .u64))))))) from (Db n6 n5)) a0))))))))))))
theorem Ast(xs:LI)(s:Int)(k:Nat)(os:LI)(n:Int)(i:Int)(c1:A9i (i<n)=false):Ar Wa (QE xs s k os n i) (.exit 0) (QE xs s k os n i):=(G AAb 400 [.b false] [1,5,13,14,15] (T c1 a0))
theorem Asu(xs os:LI)(s n i:Int)(k:Nat)(n1:0<=(I O ((xs.length:Int)+1))/\(I O ((xs.length:Int)+1))<=1048576)(hl2:Ar (.loop Wa) ((Ac 1 (A9j (D O s)::(Ac 3 (A9n 1 (A (I O ((xs.length:Int)+1))) (Cz [D Ad 0] (A (I O ((xs.length:Int)+1))))::(Ac 7 (A9j (Y W xs)::(A9j (D O (xs.length:Int))::(A9j (D O 0)::(Ac 26 [])))))))))) (.exit 0) (QE xs s k os n i)):RQ 189 [Y W xs,D O s] (L 1 k (W os)):=A9g Wb (Ac 1 (A9j (D O s)::(Ac 2 (A9n 1 k (W os)::(Ac 37 []))))) (A9m (A9t (C1.seq (G AAb 400 [] [1,5,13,14,15] (T n1 a0)) (C1.seq (C1.block hl2) (G AAb 400 [] [1,4] a0)))))
def Eu(k:Nat)(us:LI)(vs:LI)(n:Int)(t:Int)(t2:Int)(kq:Nat)(qs:LI)(s:Int)(j:Int)(g:Int)(r:Int):Al:=(Ac 4 (A9n 1 kq (W qs)::(Ac 3 (A9j (D O s)::(A9n 1 k (W us)::(A9j (Y W vs)::(A9j (D O n)::(Ac 1 (A9j (D B t)::(A9j (D B t2)::(A9j (D O j)::(Ac 1 (A9j (D B g)::(A9j (D B r)::(Ac 263 [])))))))))))))))
theorem Aai(k:Nat)(us:LI)(vs:LI)(n:Int)(t:Int)(t2:Int)(kq:Nat)(qs:LI)(s:Int)(j:Int)(g:Int)(r:Int)(c1:A9i (g>=4294967296)=true)(c2:A9i ((I B (r+t))>=4294967296)=true):Ar HV (Eu k us vs n t t2 kq qs s j g r) (.exit 2) (Eu k us vs n t t2 kq qs s j (I B (g-1)) (I B (r+t))):=(G AAb 400 [.b true,.b true,.b true] [4,8,9,10,11,13,14,15,17,18] (T c1 (T Hw (T c2 a0))))
theorem Aaj(k:Nat)(us:LI)(vs:LI)(n:Int)(t:Int)(t2:Int)(kq:Nat)(qs:LI)(s:Int)(j:Int)(g:Int)(r:Int)(c1:A9i (g>=4294967296)=true)(c2:A9i ((I B (r+t))>=4294967296)=false):Ar HV (Eu k us vs n t t2 kq qs s j g r) .norm (Eu k us vs n t t2 kq qs s j (I B (g-1)) (I B (r+t))):=(G AAb 400 [.b true,.b true,.b false] [4,8,9,10,11,13,14,15,17,18] (T c1 (T Hw (T c2 a0))))
theorem Aak(k:Nat)(us:LI)(vs:LI)(n:Int)(t:Int)(t2:Int)(kq:Nat)(qs:LI)(s:Int)(j:Int)(g:Int)(r:Int)(c1:A9i (g>=4294967296)=false)(c2:(A9i ((I B (g*t2))>(I B ((U (An .u64) (I B (r*2^(min (A 32) (An .u64)))) ||| U (An .u64) (I B (us.getD (A (I O ((I O (j+n))-2))) 0))).toNat))))=true)(c3:A9i ((I B (r+t))>=4294967296)=true)(n1:0<=(I O ((I O (j+n))-2))/\(I O ((I O (j+n))-2))<(k:Int))(n2:us.length=k):Ar HV (Eu k us vs n t t2 kq qs s j g r) (.exit 2) (Eu k us vs n t t2 kq qs s j (I B (g-1)) (I B (r+t))):=(G AAb 400 [.b false,.v (D Ad (us.getD (A (I O ((I O (j+n))-2))) 0)),.b true,.b true] [4,8,9,10,11,13,14,15,17,18] (T c1 (T It (T n1 (T (Co n2 n1) (T c2 (T c3 a0)))))))
theorem Aal(k:Nat)(us:LI)(vs:LI)(n:Int)(t:Int)(t2:Int)(kq:Nat)(qs:LI)(s:Int)(j:Int)(g:Int)(r:Int)(c1:A9i (g>=4294967296)=false)(c2:(A9i ((I B (g*t2))>(I B ((U (An .u64) (I B (r*2^(min (A 32) (An .u64)))) ||| U (An .u64) (I B (us.getD (A (I O ((I O (j+n))-2))) 0))).toNat))))=true)(c3:A9i ((I B (r+t))>=4294967296)=false)(n1:0<=(I O ((I O (j+n))-2))/\(I O ((I O (j+n))-2))<(k:Int))(n2:us.length=k):Ar HV (Eu k us vs n t t2 kq qs s j g r) .norm (Eu k us vs n t t2 kq qs s j (I B (g-1)) (I B (r+t))):=(G AAb 400 [.b false,.v (D Ad (us.getD (A (I O ((I O (j+n))-2))) 0)),.b true,.b false] [4,8,9,10,11,13,14,15,17,18] (T c1 (T It (T n1 (T (Co n2 n1) (T c2 (T c3 a0)))))))
theorem YG(k:Nat)(us:LI)(vs:LI)(n:Int)(t:Int)(t2:Int)(kq:Nat)(qs:LI)(s:Int)(j:Int)(g:Int)(r:Int)(c1:A9i (g>=4294967296)=false)(c2:(A9i ((I B (g*t2))>(I B ((U (An .u64) (I B (r*2^(min (A 32) (An .u64)))) ||| U (An .u64) (I B (us.getD (A (I O ((I O (j+n))-2))) 0))).toNat))))=false)(n1:0<=(I O ((I O (j+n))-2))/\(I O ((I O (j+n))-2))<(k:Int))(n2:us.length=k):Ar HV (Eu k us vs n t t2 kq qs s j g r) (.exit 2) (Eu k us vs n t t2 kq qs s j g r):=(G AAb 400 [.b false,.v (D Ad (us.getD (A (I O ((I O (j+n))-2))) 0)),.b false] [4,8,9,10,11,13,14,15,17,18] (T c1 (T It (T n1 (T (Co n2 n1) (T c2 a0))))))
def Jq(k:Nat)(us:LI)(vs:LI)(n:Int)(t:Int)(t2:Int)(kq:Nat)(qs:LI)(s:Int)(j:Int)(g:Int)(b:Int)(c:Int)(i:Int):Al:=(Ac 4 (A9n 1 kq (W qs)::(Ac 3 (A9j (D O s)::(A9n 1 k (W us)::(A9j (Y W vs)::(A9j (D O n)::(Ac 1 (A9j (D B t)::(A9j (D B t2)::(A9j (D O j)::(Ac 1 (A9j (D B g)::(Ac 1 (A9j (D B b)::(A9j (D B c)::(A9j (D O i)::(Ac 260 []))))))))))))))))))
theorem Aam(k:Nat)(us:LI)(vs:LI)(n:Int)(t:Int)(t2:Int)(kq:Nat)(qs:LI)(s:Int)(j:Int)(g:Int)(b:Int)(c:Int)(i:Int)(c1:A9i (i<n)=true)(n1:0<=i/\i<(vs.length:Int))(n2:0<=(I O (i+j))/\(I O (i+j))<(k:Int))(n3:us.length=k):Ar Pg (Jq k us vs n t t2 kq qs s j g b c i) .norm (Jq k (us.set (A (I O (i+j))) (I Ad (I B ((I B ((I B (us.getD (A (I O (i+j))) 0))-(I B (I Ad (I B ((I B (g*(I B (vs.getD (A i) 0))))+c))))))-b)))) vs n t t2 kq qs s j g (A9q (I B ((I B ((I B (us.getD (A (I O (i+j))) 0))-(I B (I Ad (I B ((I B (g*(I B (vs.getD (A i) 0))))+c))))))-b)) (2^(min (A 63) (An .u64)))) (A9q (I B ((I B (g*(I B (vs.getD (A i) 0))))+c)) (2^(min (A 32) (An .u64)))) (I O (i+1))):=(G AAb 400 [.b true,.v (D Ad (vs.getD (A i) 0)),.v (D Ad (us.getD (A (I O (i+j))) 0)),.l (W (us.set (A (I O (i+j))) (I Ad (I B ((I B ((I B (us.getD (A (I O (i+j))) 0))-(I B (I Ad (I B ((I B (g*(I B (vs.getD (A i) 0))))+c))))))-b)))))] [4,8,9,10,11,13,14,15,17,19,20,21] (T c1 (T n1 (T (AAe n1) (T It (T n2 (T (Co n3 n2) (T X7 (T n2 (T (show C6 (W us) (A (I O (i+j))*1) [D Ad (I Ad (I B ((I B ((I B (us.getD (A (I O (i+j))) 0))-(I B (I Ad (I B ((I B (g*(I B (vs.getD (A i) 0))))+c))))))-b)))]=some (W (us.set (A (I O (i+j))) (I Ad (I B ((I B ((I B (us.getD (A (I O (i+j))) 0))-(I B (I Ad (I B ((I B (g*(I B (vs.getD (A i) 0))))+c))))))-b))))) from (Db n3 n2)) a0))))))))))
theorem Aan(k:Nat)(us:LI)(vs:LI)(n:Int)(t:Int)(t2:Int)(kq:Nat)(qs:LI)(s:Int)(j:Int)(g:Int)(b:Int)(c:Int)(i:Int)(c1:A9i (i<n)=false):Ar Pg (Jq k us vs n t t2 kq qs s j g b c i) (.exit 4) (Jq k us vs n t t2 kq qs s j g b c i):=(G AAb 400 [.b false] [4,8,9,10,11,13,14,15,17,19,20,21] (T c1 a0))
def L2(k:Nat)(us:LI)(vs:LI)(n:Int)(t:Int)(t2:Int)(kq:Nat)(qs:LI)(s:Int)(j:Int)(g:Int)(c:Int)(i:Int):Al:=(Ac 4 (A9n 1 kq (W qs)::(Ac 3 (A9j (D O s)::(A9n 1 k (W us)::(A9j (Y W vs)::(A9j (D O n)::(Ac 1 (A9j (D B t)::(A9j (D B t2)::(A9j (D O j)::(Ac 1 (A9j (D B g)::(Ac 7 (A9j (D B c)::(A9j (D O i)::(Ac 255 [])))))))))))))))))
theorem Aao(k:Nat)(us:LI)(vs:LI)(n:Int)(t:Int)(t2:Int)(kq:Nat)(qs:LI)(s:Int)(j:Int)(g:Int)(c:Int)(i:Int)(c1:A9i (i<n)=true)(n1:0<=(I O (i+j))/\(I O (i+j))<(k:Int))(n2:us.length=k)(n3:0<=i/\i<(vs.length:Int)):Ar Rs (L2 k us vs n t t2 kq qs s j g c i) .norm (L2 k (us.set (A (I O (i+j))) (I Ad (I B ((I B ((I B (us.getD (A (I O (i+j))) 0))+(I B (vs.getD (A i) 0))))+c)))) vs n t t2 kq qs s j g (A9q (I B ((I B ((I B (us.getD (A (I O (i+j))) 0))+(I B (vs.getD (A i) 0))))+c)) (2^(min (A 32) (An .u64)))) (I O (i+1))):=(G AAb 400 [.b true,.v (D Ad (us.getD (A (I O (i+j))) 0)),.v (D Ad (vs.getD (A i) 0)),.l (W (us.set (A (I O (i+j))) (I Ad (I B ((I B ((I B (us.getD (A (I O (i+j))) 0))+(I B (vs.getD (A i) 0))))+c)))))] [4,8,9,10,11,13,14,15,17,25,26] (T c1 (T n1 (T (Co n2 n1) (T n3 (T (AAe n3) (T It (T n1 (T (show C6 (W us) (A (I O (i+j))*1) [D Ad (I Ad (I B ((I B ((I B (us.getD (A (I O (i+j))) 0))+(I B (vs.getD (A i) 0))))+c)))]=some (W (us.set (A (I O (i+j))) (I Ad (I B ((I B ((I B (us.getD (A (I O (i+j))) 0))+(I B (vs.getD (A i) 0))))+c))))) from (Db n2 n1)) a0)))))))))
theorem Aap(k:Nat)(us:LI)(vs:LI)(n:Int)(t:Int)(t2:Int)(kq:Nat)(qs:LI)(s:Int)(j:Int)(g:Int)(c:Int)(i:Int)(c1:A9i (i<n)=false):Ar Rs (L2 k us vs n t t2 kq qs s j g c i) (.exit 6) (L2 k us vs n t t2 kq qs s j g c i):=(G AAb 400 [.b false] [4,8,9,10,11,13,14,15,17,25,26] (T c1 a0))
def HD(k:Nat)(us:LI)(vs:LI)(n:Int)(t:Int)(t2:Int)(kq:Nat)(qs:LI)(s:Int)(j:Int):Al:=(Ac 4 (A9n 1 kq (W qs)::(Ac 3 (A9j (D O s)::(A9n 1 k (W us)::(A9j (Y W vs)::(A9j (D O n)::(Ac 1 (A9j (D B t)::(A9j (D B t2)::(A9j (D O j)::(Ac 266 []))))))))))))
theorem Asv(k:Nat)(us:LI)(vs:LI)(n:Int)(t:Int)(t2:Int)(kq:Nat)(qs:LI)(s:Int)(j:Int)(us1 us2:LI)(g r b c cc:Int)(c1:A9i (j>=0)=true)(c2:((A9q (I B ((I B ((I B (us1.getD (A (I O (j+n))) 0))-c))-b)) (2^(min (A 63) (An .u64)))) != 0)=true)(n1:0<=(I O (j+n))/\(I O (j+n))<(k:Int))(n2:us.length=k)(n3:0<=(I O ((I O (j+n))-1))/\(I O ((I O (j+n))-1))<(k:Int))(n4:¬ t=0)(hl5:Ar (.loop HV) (Eu k us vs n t t2 kq qs s j (I B (Av (I B ((U (An .u64) (I B ((I B (us.getD (A (I O (j+n))) 0))*2^(min (A 32) (An .u64)))) ||| U (An .u64) (I B (us.getD (A (I O ((I O (j+n))-1))) 0))).toNat)) t)) (AC (I B ((U (An .u64) (I B ((I B (us.getD (A (I O (j+n))) 0))*2^(min (A 32) (An .u64)))) ||| U (An .u64) (I B (us.getD (A (I O ((I O (j+n))-1))) 0))).toNat)) t)) (.exit 2) (Eu k us vs n t t2 kq qs s j g r))(hl6:Ar (.loop Pg) (Jq k us vs n t t2 kq qs s j g 0 0 0) (.exit 4) (Jq k us1 vs n t t2 kq qs s j g b c n))(n7:us1.length=k)(hl8:Ar (.loop Rs) (L2 k (us1.set (A (I O (j+n))) (I Ad (I B ((I B ((I B (us1.getD (A (I O (j+n))) 0))-c))-b)))) vs n t t2 kq qs s j (I B (g-1)) 0 0) (.exit 6) (L2 k us2 vs n t t2 kq qs s j (I B (g-1)) cc n))(n9:us2.length=k)(n10:0<=j/\j<(kq:Int))(n11:qs.length=kq):Ar MU (HD k us vs n t t2 kq qs s j) .norm (HD k (us2.set (A (I O (j+n))) (I Ad ((us2.getD (A (I O (j+n))) 0)+(I Ad cc)))) vs n t t2 kq (qs.set (A j) (I Ad (I B (g-1)))) s (I O (j-1))):=(C1.seq (G (t:=(Ac 4 (A9n 1 kq (W qs)::(Ac 3 (m s::(A9n 1 k (W us)::(f vs::(m n::(Ac 1 (A9j (D B t)::(A9j (D B t2)::(m j::(Ac 266 []))))))))))))) AAb 400 [.b true] [4,8,9,10,11,13,14,15] (T c1 a0)) (C1.seq (B_ (A9m (C1.seq (G AAb 400 [.v (D Ad (us.getD (A (I O (j+n))) 0)),.v (D Ad (us.getD (A (I O ((I O (j+n))-1))) 0))] [4,8,9,10,11,13,14,15,17,18] (T n1 (T (Co n2 n1) (T It (T n3 (T (Co n2 n3) (T n4 (T n4 a0)))))))) (C1.seq (C1.block hl5) (A9t (C1.seq (G AAb 400 [] [4,8,9,10,11,13,14,15,17,19,20,21] a0) (C1.seq (C1.block hl6) (A9m (A9t (C1.seq (G (t:=(Ac 4 (A9n 1 kq (W qs)::(Ac 3 (m s::(A9n 1 k (W (us1.set (A (I O (j+n))) (I Ad (I B ((I B ((I B (us1.getD (A (I O (j+n))) 0))-c))-b)))))::(f vs::(m n::(Ac 1 (A9j (D B t)::(A9j (D B t2)::(m j::(Ac 1 (A9j (D B g)::(Ac 181 (A9j (F ((A9q (I B ((I B ((I B (us1.getD (A (I O (j+n))) 0))-c))-b)) (2^(min (A 63) (An .u64)))) != 0))::(Ac 82 []))))))))))))))))) AAb 400 [.v (D Ad (us1.getD (A (I O (j+n))) 0)),.l (W (us1.set (A (I O (j+n))) (I Ad (I B ((I B ((I B (us1.getD (A (I O (j+n))) 0))-c))-b)))))] [4,8,9,10,11,13,14,15,17,199] (T n1 (T (Co n7 n1) (T n1 (T (show C6 (W us1) (A (I O (j+n))*1) [D Ad (I Ad (I B ((I B ((I B (us1.getD (A (I O (j+n))) 0))-c))-b)))]=some (W (us1.set (A (I O (j+n))) (I Ad (I B ((I B ((I B (us1.getD (A (I O (j+n))) 0))-c))-b))))) from (Db n7 n1)) (T X7 a0)))))) (C1.seq (Jm (by rfl) c2 (A9m (A9t (C1.seq (G AAb 400 [] [4,8,9,10,11,13,14,15,17,25,26] a0) (C1.seq (C1.block hl8) (G (t:=(Ac 4 (A9n 1 kq (W qs)::(Ac 3 (m s::(A9n 1 k (W (us2.set (A (I O (j+n))) (I Ad ((us2.getD (A (I O (j+n))) 0)+(I Ad cc)))))::(f vs::(m n::(Ac 1 (A9j (D B t)::(A9j (D B t2)::(m j::(Ac 1 (A9j (D B (I B (g-1)))::(Ac 264 []))))))))))))))) AAb 400 [.v (D Ad (us2.getD (A (I O (j+n))) 0)),.l (W (us2.set (A (I O (j+n))) (I Ad ((us2.getD (A (I O (j+n))) 0)+(I Ad cc)))))] [4,8,9,10,11,13,14,15,17] (T n1 (T (Co n9 n1) (T n1 (T (show C6 (W us2) (A (I O (j+n))*1) [D Ad (I Ad ((us2.getD (A (I O (j+n))) 0)+(I Ad cc)))]=some (W (us2.set (A (I O (j+n))) (I Ad ((us2.getD (A (I O (j+n))) 0)+(I Ad cc))))) from (Db n9 n1)) a0)))))))))) (G (t:=(Ac 4 (A9n 1 kq (W (qs.set (A j) (I Ad (I B (g-1)))))::(Ac 3 (m s::(A9n 1 k (W (us2.set (A (I O (j+n))) (I Ad ((us2.getD (A (I O (j+n))) 0)+(I Ad cc)))))::(f vs::(m n::(Ac 1 (A9j (D B t)::(A9j (D B t2)::(m j::(Ac 266 []))))))))))))) AAb 400 [.l (W (qs.set (A j) (I Ad (I B (g-1)))))] [4,8,9,10,11,13,14,15] (T n10 (T (show C6 (W qs) (A j*1) [D Ad (I Ad (I B (g-1)))]=some (W (qs.set (A j) (I Ad (I B (g-1))))) from (Db n11 n10)) a0)))))))))))))) (G AAb 400 [] [4,8,9,10,11,13,14,15] a0)))
theorem Asw(k:Nat)(us:LI)(vs:LI)(n:Int)(t:Int)(t2:Int)(kq:Nat)(qs:LI)(s:Int)(j:Int)(us1:LI)(g r b c:Int)(c1:A9i (j>=0)=true)(c2:((A9q (I B ((I B ((I B (us1.getD (A (I O (j+n))) 0))-c))-b)) (2^(min (A 63) (An .u64)))) != 0)=false)(n1:0<=(I O (j+n))/\(I O (j+n))<(k:Int))(n2:us.length=k)(n3:0<=(I O ((I O (j+n))-1))/\(I O ((I O (j+n))-1))<(k:Int))(n4:¬ t=0)(hl5:Ar (.loop HV) (Eu k us vs n t t2 kq qs s j (I B (Av (I B ((U (An .u64) (I B ((I B (us.getD (A (I O (j+n))) 0))*2^(min (A 32) (An .u64)))) ||| U (An .u64) (I B (us.getD (A (I O ((I O (j+n))-1))) 0))).toNat)) t)) (AC (I B ((U (An .u64) (I B ((I B (us.getD (A (I O (j+n))) 0))*2^(min (A 32) (An .u64)))) ||| U (An .u64) (I B (us.getD (A (I O ((I O (j+n))-1))) 0))).toNat)) t)) (.exit 2) (Eu k us vs n t t2 kq qs s j g r))(hl6:Ar (.loop Pg) (Jq k us vs n t t2 kq qs s j g 0 0 0) (.exit 4) (Jq k us1 vs n t t2 kq qs s j g b c n))(n7:us1.length=k)(n8:0<=j/\j<(kq:Int))(n9:qs.length=kq):Ar MU (HD k us vs n t t2 kq qs s j) .norm (HD k (us1.set (A (I O (j+n))) (I Ad (I B ((I B ((I B (us1.getD (A (I O (j+n))) 0))-c))-b)))) vs n t t2 kq (qs.set (A j) (I Ad g)) s (I O (j-1))):=(C1.seq (G (t:=(Ac 4 (A9n 1 kq (W qs)::(Ac 3 (m s::(A9n 1 k (W us)::(f vs::(m n::(Ac 1 (A9j (D B t)::(A9j (D B t2)::(m j::(Ac 266 []))))))))))))) AAb 400 [.b true] [4,8,9,10,11,13,14,15] (T c1 a0)) (C1.seq (B_ (A9m (C1.seq (G AAb 400 [.v (D Ad (us.getD (A (I O (j+n))) 0)),.v (D Ad (us.getD (A (I O ((I O (j+n))-1))) 0))] [4,8,9,10,11,13,14,15,17,18] (T n1 (T (Co n2 n1) (T It (T n3 (T (Co n2 n3) (T n4 (T n4 a0)))))))) (C1.seq (C1.block hl5) (A9t (C1.seq (G AAb 400 [] [4,8,9,10,11,13,14,15,17,19,20,21] a0) (C1.seq (C1.block hl6) (A9m (A9t (C1.seq (G (t:=(Ac 4 (A9n 1 kq (W qs)::(Ac 3 (m s::(A9n 1 k (W (us1.set (A (I O (j+n))) (I Ad (I B ((I B ((I B (us1.getD (A (I O (j+n))) 0))-c))-b)))))::(f vs::(m n::(Ac 1 (A9j (D B t)::(A9j (D B t2)::(m j::(Ac 1 (A9j (D B g)::(Ac 181 (A9j (F ((A9q (I B ((I B ((I B (us1.getD (A (I O (j+n))) 0))-c))-b)) (2^(min (A 63) (An .u64)))) != 0))::(Ac 82 []))))))))))))))))) AAb 400 [.v (D Ad (us1.getD (A (I O (j+n))) 0)),.l (W (us1.set (A (I O (j+n))) (I Ad (I B ((I B ((I B (us1.getD (A (I O (j+n))) 0))-c))-b)))))] [4,8,9,10,11,13,14,15,17,199] (T n1 (T (Co n7 n1) (T n1 (T (show C6 (W us1) (A (I O (j+n))*1) [D Ad (I Ad (I B ((I B ((I B (us1.getD (A (I O (j+n))) 0))-c))-b)))]=some (W (us1.set (A (I O (j+n))) (I Ad (I B ((I B ((I B (us1.getD (A (I O (j+n))) 0))-c))-b))))) from (Db n7 n1)) (T X7 a0)))))) (C1.seq (Jn (by rfl) c2 (G (t:=(Ac 4 (A9n 1 kq (W qs)::(Ac 3 (m s::(A9n 1 k (W (us1.set (A (I O (j+n))) (I Ad (I B ((I B ((I B (us1.getD (A (I O (j+n))) 0))-c))-b)))))::(f vs::(m n::(Ac 1 (A9j (D B t)::(A9j (D B t2)::(m j::(Ac 1 (A9j (D B g)::(Ac 264 []))))))))))))))) AAb 400 [] [4,8,9,10,11,13,14,15,17] a0)) (G (t:=(Ac 4 (A9n 1 kq (W (qs.set (A j) (I Ad g)))::(Ac 3 (m s::(A9n 1 k (W (us1.set (A (I O (j+n))) (I Ad (I B ((I B ((I B (us1.getD (A (I O (j+n))) 0))-c))-b)))))::(f vs::(m n::(Ac 1 (A9j (D B t)::(A9j (D B t2)::(m j::(Ac 266 []))))))))))))) AAb 400 [.l (W (qs.set (A j) (I Ad g)))] [4,8,9,10,11,13,14,15] (T n8 (T (show C6 (W qs) (A j*1) [D Ad (I Ad g)]=some (W (qs.set (A j) (I Ad g))) from (Db n9 n8)) a0)))))))))))))) (G AAb 400 [] [4,8,9,10,11,13,14,15] a0)))
theorem Asx(k:Nat)(us:LI)(vs:LI)(n:Int)(t:Int)(t2:Int)(kq:Nat)(qs:LI)(s:Int)(j:Int)(c1:A9i (j>=0)=false):Ar MU (HD k us vs n t t2 kq qs s j) (.exit 0) (HD k us vs n t t2 kq qs s j):=(A8 (G AAb 400 [.b false] [4,8,9,10,11,13,14,15] (T c1 a0)) (by nofun))
def I6(k:Nat)(us:LI)(n:Int)(kq:Nat)(qs:LI)(kr:Nat)(rs:LI)(s:Int)(i:Int):Al:=(Ac 4 (A9n 1 kq (W qs)::(A9n 1 kr (W rs)::(Ac 2 (A9j (D O s)::(A9n 1 k (W us)::(Ac 1 (A9j (D O n)::(Ac 16 (A9j (D O i)::(Ac 253 [])))))))))))
theorem Aaq(k:Nat)(us:LI)(n:Int)(kq:Nat)(qs:LI)(kr:Nat)(rs:LI)(s:Int)(i:Int)(c1:A9i (i<n)=true)(c2:A9i (s>0)=true)(n1:0<=i/\i<(k:Int))(n2:us.length=k)(n3:¬ (I B s)<0)(n4:0<=i/\i<(kr:Int))(n5:rs.length=kr)(n6:(rs.set (A i) (A9q (us.getD (A i) 0) (2^(min (A (I B s)) (An .u32))))).length=kr)(n7:0<=(I O (i+1))/\(I O (i+1))<(k:Int))(n8:¬ (I B (I O (32-s)))<0):Ar MT (I6 k us n kq qs kr rs s i) .norm (I6 k us n kq qs kr ((rs.set (A i) (A9q (us.getD (A i) 0) (2^(min (A (I B s)) (An .u32))))).set (A i) (I Ad ((U (An .u32) ((rs.set (A i) (A9q (us.getD (A i) 0) (2^(min (A (I B s)) (An .u32))))).getD (A i) 0) ||| U (An .u32) (I Ad ((us.getD (A (I O (i+1))) 0)*2^(min (A (I B (I O (32-s)))) (An .u32))))).toNat))) s (I O (i+1))):=(G AAb 400 [.b true,.v (D Ad (us.getD (A i) 0)),.l (W (rs.set (A i) (A9q (us.getD (A i) 0) (2^(min (A (I B s)) (An .u32)))))),.b true,.v (D Ad ((rs.set (A i) (A9q (us.getD (A i) 0) (2^(min (A (I B s)) (An .u32))))).getD (A i) 0)),.v (D Ad (us.getD (A (I O (i+1))) 0)),.l (W ((rs.set (A i) (A9q (us.getD (A i) 0) (2^(min (A (I B s)) (An .u32))))).set (A i) (I Ad ((U (An .u32) ((rs.set (A i) (A9q (us.getD (A i) 0) (2^(min (A (I B s)) (An .u32))))).getD (A i) 0) ||| U (An .u32) (I Ad ((us.getD (A (I O (i+1))) 0)*2^(min (A (I B (I O (32-s)))) (An .u32))))).toNat))))] [4,5,8,9,11,28] (T c1 (T n1 (T (Co n2 n1) (T n3 (T n4 (T (show C6 (W rs) (A i*1) [D Ad (A9q (us.getD (A i) 0) (2^(min (A (I B s)) (An .u32))))]=some (W (rs.set (A i) (A9q (us.getD (A i) 0) (2^(min (A (I B s)) (An .u32)))))) from (Db n5 n4)) (T c2 (T n4 (T (Co n6 n4) (T n7 (T (Co n2 n7) (T n8 (T n4 (T (show C6 (W (rs.set (A i) (A9q (us.getD (A i) 0) (2^(min (A (I B s)) (An .u32)))))) (A i*1) [D Ad (I Ad ((U (An .u32) ((rs.set (A i) (A9q (us.getD (A i) 0) (2^(min (A (I B s)) (An .u32))))).getD (A i) 0) ||| U (An .u32) (I Ad ((us.getD (A (I O (i+1))) 0)*2^(min (A (I B (I O (32-s)))) (An .u32))))).toNat))]=some (W ((rs.set (A i) (A9q (us.getD (A i) 0) (2^(min (A (I B s)) (An .u32))))).set (A i) (I Ad ((U (An .u32) ((rs.set (A i) (A9q (us.getD (A i) 0) (2^(min (A (I B s)) (An .u32))))).getD (A i) 0) ||| U (An .u32) (I Ad ((us.getD (A (I O (i+1))) 0)*2^(min (A (I B (I O (32-s)))) (An .u32))))).toNat)))) from (Db n6 n4)) a0)))))))))))))))
theorem Aar(k:Nat)(us:LI)(n:Int)(kq:Nat)(qs:LI)(kr:Nat)(rs:LI)(s:Int)(i:Int)(c1:A9i (i<n)=true)(c2:A9i (s>0)=false)(n1:0<=i/\i<(k:Int))(n2:us.length=k)(n3:¬ (I B s)<0)(n4:0<=i/\i<(kr:Int))(n5:rs.length=kr):Ar MT (I6 k us n kq qs kr rs s i) .norm (I6 k us n kq qs kr (rs.set (A i) (A9q (us.getD (A i) 0) (2^(min (A (I B s)) (An .u32))))) s (I O (i+1))):=(G AAb 400 [.b true,.v (D Ad (us.getD (A i) 0)),.l (W (rs.set (A i) (A9q (us.getD (A i) 0) (2^(min (A (I B s)) (An .u32)))))),.b false] [4,5,8,9,11,28] (T c1 (T n1 (T (Co n2 n1) (T n3 (T n4 (T (show C6 (W rs) (A i*1) [D Ad (A9q (us.getD (A i) 0) (2^(min (A (I B s)) (An .u32))))]=some (W (rs.set (A i) (A9q (us.getD (A i) 0) (2^(min (A (I B s)) (An .u32)))))) from (Db n5 n4)) (T c2 a0))))))))
theorem Aas(k:Nat)(us:LI)(n:Int)(kq:Nat)(qs:LI)(kr:Nat)(rs:LI)(s:Int)(i:Int)(c1:A9i (i<n)=false):Ar MT (I6 k us n kq qs kr rs s i) (.exit 8) (I6 k us n kq qs kr rs s i):=(G AAb 400 [.b false] [4,5,8,9,11,28] (T c1 a0))
theorem nF(xs ys:LI)(cm:Int)(c1:A9i (cm<0)=true)(n1:Bs (W xs)=xs.length*1)(n2:xs.length<=35184372088832)(n3:RQ 151 [Y W xs,Y W ys] (D O cm)):RQ 180 [Y W xs,Y W ys] (Ax [H 0 [],Y W xs]):=A9g Q5 (Ac 1 (A9j (Y W ys)::(Ac 2 (A9n 1 0 []::(A9n 1 xs.length (W xs)::(Ac 276 [])))))) (A9m (A9m (A9m (A9m (A9m (A9m (A9m (A9t (A8 (G AAb 400 [.r (D O cm),.b true] [1,4,5] (T n3 (T c1 (T n1 (T n2 a0))))) (by nofun))))))))))
theorem nH(xs ys zs:LI)(cm rr:Int)(c1:A9i (cm<0)=false)(c2:((ys.length:Int)==1)=true)(n1:RQ 151 [Y W xs,Y W ys] (D O cm))(n2:0<=(0:Int)/\(0:Int)<(ys.length:Int))(n3:RQ 187 [Y W xs,D Ad (ys.getD (A 0) 0)] (Ax [Y W zs,D Ad rr])):RQ 180 [Y W xs,Y W ys] (Ax [Y W zs,H 1 [D Ad rr]]):=A9g Q5 (Ac 1 (A9j (Y W ys)::(Ac 2 (A9j (Y W zs)::(A9n 1 1 [D Ad rr]::(Ac 276 [])))))) (A9m (A9m (A9m (A9m (A9m (A9m (A9m (A9t (A8 (G AAb 400 [.r (D O cm),.b false,.b true,.v (D Ad (ys.getD (A 0) 0)),.r (Ax [Y W zs,D Ad rr])] [1,4,5] (T n1 (T c1 (T c2 (T n2 (T (AAe n2) (T n3 a0))))))) (by nofun))))))))))
theorem nI(xs ys us ws us1 vs qs rs:LI)(cm s n t t2 j:Int)(k kq kr:Nat)(c1:A9i (cm<0)=false)(c2:((ys.length:Int)==1)=false)(n1:RQ 151 [Y W xs,Y W ys] (D O cm))(n2:0<=(I O ((ys.length:Int)-1))/\(I O ((ys.length:Int)-1))<(ys.length:Int))(n3:RQ 188 [D Ad (ys.getD (A (I O ((ys.length:Int)-1))) 0)] (D O s))(n4:0<=(ys.length:Int))(n5:0<=(A (ys.length:Int))/\(A (ys.length:Int))<=ws.length/\ws.length<=ws.length/\(false=true->true=true))(n6:RQ 189 [Y W xs,D O s] (L 1 us.length (W us)))(n7:RQ 189 [Y W ys,D O s] (L 1 ws.length (W ws)))(n8:0<=(I O ((I O ((xs.length:Int)-(ys.length:Int)))+1))/\(I O ((I O ((xs.length:Int)-(ys.length:Int)))+1))<=1048576)(n9:0<=(I O ((ys.length:Int)-1))/\(I O ((ys.length:Int)-1))<((((A (ys.length:Int))-0):Nat):Int))(n10:0<=(I O ((ys.length:Int)-2))/\(I O ((ys.length:Int)-2))<((((A (ys.length:Int))-0):Nat):Int))(hl11:Ar (.loop MU) ((Ac 4 (A9n 1 (A (I O ((I O ((xs.length:Int)-(ys.length:Int)))+1))) (Cz [D Ad 0] (A (I O ((I O ((xs.length:Int)-(ys.length:Int)))+1))))::(Ac 3 (A9j (D O s)::(A9n 1 us.length (W us)::(A9j (H ((A (ys.length:Int))-0) (BD (((A (ys.length:Int))-0)*1) (A9v (0*1) (W ws))))::(A9j (D O (ys.length:Int))::(Ac 1 (A9j (D B (I B (((ws.drop 0).take ((A (ys.length:Int))-0)).getD (A (I O ((ys.length:Int)-1))) 0)))::(A9j (D B (I B (((ws.drop 0).take ((A (ys.length:Int))-0)).getD (A (I O ((ys.length:Int)-2))) 0)))::(A9j (D O (I O ((xs.length:Int)-(ys.length:Int))))::(Ac 266 []))))))))))))) (.exit 0) (HD k us1 vs n t t2 kq qs s j))(n12:0<=n/\n<=1048576)(hl13:Ar (.loop MT) ((Ac 4 (A9n 1 kq (W qs)::(A9n 1 (A n) (Cz [D Ad 0] (A n))::(Ac 2 (A9j (D O s)::(A9n 1 k (W us1)::(Ac 1 (A9j (D O n)::(Ac 16 (A9j (D O 0)::(Ac 253 [])))))))))))) (.exit 8) (I6 k us1 n kq qs kr rs s n)):RQ 180 [Y W xs,Y W ys] (Ax [H kq (W qs),H kr (W rs)]):=A9g Q5 (Ac 4 (A9n 1 kq (W qs)::(A9n 1 kr (W rs)::(Ac 276 [])))) (A9m (A9m (A9m (A9m (A9m (A9m (A9m (A9t (C1.seq (G AAb 400 [.r (D O cm),.b false,.b false,.v (D Ad (ys.getD (A (I O ((ys.length:Int)-1))) 0)),.r (D O s),.r (L 1 us.length (W us)),.r (L 1 ws.length (W ws)),.v (D Ad (((ws.drop 0).take ((A (ys.length:Int))-0)).getD (A (I O ((ys.length:Int)-1))) 0)),.v (D Ad (((ws.drop 0).take ((A (ys.length:Int))-0)).getD (A (I O ((ys.length:Int)-2))) 0))] [4,8,9,10,11,13,14,15] (T n1 (T c1 (T c2 (T n2 (T (AAe n2) (T n3 (T n6 (T n7 (T n4 (T n5 (T n8 (T n9 (T (TE n9 n5) (T n10 (T (TE n10 n5) a0)))))))))))))))) (C1.seq (C1.block hl11) (A9t (C1.seq (G AAb 400 [] [4,5,8,9,11,28] (T n12 a0)) (C1.seq (C1.block hl13) (G AAb 400 [] [4,5] a0))))))))))))))
def TQA:Cw:=TWB
theorem nJ:Ch AZ TQA:=AAb
end Go.Proofs.YtajompaehjkgkaaGreat
