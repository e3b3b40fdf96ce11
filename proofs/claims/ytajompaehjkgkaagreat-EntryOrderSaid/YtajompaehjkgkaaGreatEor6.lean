/- Texts of the proof of EntryOrder: part 6 of 14. -/
import Derived.Laws.BitsAllLaws
import Derived.KernelRfl
import Derived.Test.YtajompaehjkgkaaGreatEor5
namespace Go.Ai
open Go.RowKit
open BitVec renaming ofInt->T,toNat_and->PV,toNat_ofNat->Ks,toNat_or->rW
open Bool renaming and_eq_true->Af,false_eq_true->B_
open Decidable renaming decide->A
open Go.IntKind renaming bits->An,wrap->I
open Int renaming emod->lR,fdiv->d,natCast_pow->Dp,ofNat->Ld,ofNat_eq_natCast->KM,sub->ABs,tdiv->Ax,tmod->AB
open List renaming ext_getElem->fB,getD_eq_getElem?_getD->Z,getElem?_append_left->AZ,getElem?_append_right->Bk,getElem?_eq_getElem->Ad,getElem?_replicate->ML,rec->jP,replicate->l
open Nat renaming beq->Df,ble->Abs,ble_eq_true_of_le->rZ,blt->F6,div->Nb,eq_of_beq_eq_true->Do,le_of_ble_eq_true->sA,le_refl->Ao,mod->F7,mod_eq_of_lt->EK,rec->S3,sub_zero->NQ,succ->PO,zero_le->AN
open Option renaming getD_some->H7,map_some->AF
def Xa:Int->Int->Bool
 | .ofNat m,.ofNat n=>F6 m n
 | .ofNat _,.negSucc _=>false
 | .negSucc _,.ofNat _=>true
 | .negSucc m,.negSucc n=>F6 n m
def Ju(a b:Int):Bool := !(Xa b a)
def ZR:Int->Int->Bool
 | .ofNat m,.ofNat n=>Df m n
 | .negSucc m,.negSucc n=>Df m n
 | _,_=>false
theorem KL(m n:Nat):F6 m n=decide (m<n):=by
 cases h:F6 m n
 ·symm;rw[decide_eq_false_iff_not];intro hlt;have:Abs (m+1) n=true:=rZ hlt;rw[F6] at h;rw[this] at h;cases h
 ·symm;rw[decide_eq_true_iff];exact sA h
theorem Xn(a b:Int):Xa a b=decide (a<b):=by
 cases a with
 | ofNat m=>cases b with
  | ofNat n=>simp only[Xa,KL];rw[decide_eq_decide];simp only[KM];omega
  | negSucc n=>simp only[Xa];symm;rw[decide_eq_false_iff_not];simp only[KM];omega
 | negSucc m=>cases b with
  | ofNat n=>simp only[Xa];symm;rw[decide_eq_true_iff];simp only[KM];omega
  | negSucc n=>simp only[Xa,KL];rw[decide_eq_decide];omega
theorem A4k(a b:Int):Ju a b=decide (a<=b):=by
 simp only[Ju,Xn];by_cases h:b<a
 ·rw[decide_eq_true h,decide_eq_false (by omega)];rfl
 ·rw[decide_eq_false h,decide_eq_true (by omega)];rfl
theorem Abt(a b:Int):ZR a b=decide (a=b):=by
 cases a with
 | ofNat m=>cases b with
  | ofNat n =>
   simp only[ZR];by_cases h:m=n
   ·subst h;simp
   ·have h2:Df m n=false:=by cases hh:Df m n with | false=>rfl | true=>exact absurd (Do hh) h
    rw[h2];symm;rw[decide_eq_false_iff_not];intro e;exact h (Int.ofNat.inj e)
  | negSucc n=>simp only[ZR];symm;rw[decide_eq_false_iff_not];intro e;cases e
 | negSucc m=>cases b with
  | ofNat n=>simp only[ZR];symm;rw[decide_eq_false_iff_not];intro e;cases e
  | negSucc n =>
   simp only[ZR];by_cases h:m=n
   ·subst h;simp
   ·have h2:Df m n=false:=by cases hh:Df m n with | false=>rfl | true=>exact absurd (Do hh) h
    rw[h2];symm;rw[decide_eq_false_iff_not];intro e;exact h (Int.negSucc.inj e)
def lQ(n:Int)(m:Nat):Int:=lR n (Ld m)
def bL(n:Int)(h m:Nat):Int:=cond (Xa (lR n (Ld m)) (Ld h)) (lR n (Ld m)) (ABs (lR n (Ld m)) (Ld m))
def NG(k:IntKind)(n:Int):Int :=
 match k with
 | .u8=>lQ n 256
 | .u16=>lQ n 65536
 | .u32=>lQ n 4294967296
 | .u64=>lQ n 18446744073709551616
 | .i8=>bL n 128 256
 | .i16=>bL n 32768 65536
 | .i32=>bL n 2147483648 4294967296
 | .i64=>bL n 9223372036854775808 18446744073709551616
theorem Aud(n:Int)(h m:Nat):bL n h m=if n % (m:Int)>=h then n % (m:Int)-m else n % (m:Int):=by
 unfold bL;rw[Xn];show (cond (A (n % (m:Int)<(h:Int))) (n % (m:Int)) (n % (m:Int)-(m:Int)))=_;by_cases hh:n % (m:Int)<h
 ·rw[decide_eq_true hh,if_neg (by omega)];rfl
 ·rw[decide_eq_false hh,if_pos (by omega)];rfl
theorem LZ(k:IntKind)(n:Int):NG k n=k.wrap n:=by
 cases k <;> simp[NG,lQ,Aud,I,An,IntKind.signed] <;> rfl
section
variable {α:Type}
noncomputable def E5 (n:Nat) (k:Nat->α):α:=S3 (motive:=fun _=>α) (k 0) (fun m _=>k (PO m)) n
noncomputable def Vo (i:Int) (k:Int->α):α:=Int.rec (motive:=fun _=>α) (fun n=>E5 n fun n=>k (.ofNat n)) (fun n=>E5 n fun n=>k (.negSucc n)) i
noncomputable def JW (b:Bool) (k:Bool->α):α:=Bool.rec (motive:=fun _=>α) (k false) (k true) b
noncomputable def HA (l:List AV):(List AV->α)->α:=jP (motive:=fun _=>(List AV->α)->α) (fun k=>k []) (fun x _ ih k=>ih fun xs=>k (x::xs)) l
theorem GY(n:Nat)(k:Nat->α):E5 n k=k n:=by cases n <;> rfl
theorem gI(i:Int)(k:Int->α):Vo i k=k i:=by cases i <;> simp only [Vo,GY]
theorem NH(b:Bool)(k:Bool->α):JW b k=k b:=by cases b <;> rfl
theorem OY(l:List AV):∀ k:List AV->α,HA l k=k l:=by
 induction l with
 | nil=>intro k;rfl
 | cons x l ih=>intro k;exact ih _
noncomputable def KN (x:AV) (k:AV->α):α :=
 match x with
 | .int kd n=>Vo n fun n=>k (.int kd n)
 | .bool b=>JW b fun b=>k (.bool b)
 | .agg cs=>HA cs fun cs=>k (.agg cs)
 | .sl n cs=>E5 n fun n=>HA cs fun cs=>k (.sl n cs)
 | .fresh m n cs=>E5 n fun n=>HA cs fun cs=>k (.fresh m n cs)
 | .frs (.st b) m n cs=>JW b fun b=>E5 n fun n=>HA cs fun cs=>k (.frs (.st b) m n cs)
 | .frs (.tp b) m n cs=>JW b fun b=>E5 n fun n=>HA cs fun cs=>k (.frs (.tp b) m n cs)
 | .pt cs=>HA cs fun cs=>k (.pt cs)
 | .fnc f cs=>HA cs fun cs=>k (.fnc f cs)
 | .tup cs=>HA cs fun cs=>k (.tup cs)
 | x=>k x
theorem QI(x:AV)(k:AV->α):KN x k=k x:=by
 cases x
 case frs b m n cs=>cases b <;> simp only[KN,NH,OY,GY]
 all_goals simp only[KN,gI,NH,OY,GY]
noncomputable def RK (r:Reg) (k:Reg->α):α :=
 match r with
 | .val x=>KN x fun x=>k (.val x)
 | .box cs=>HA cs fun cs=>k (.box cs)
 | .ptr d off=>E5 off fun off=>k (.ptr d off)
 | .mem cs=>HA cs fun cs=>k (.mem cs)
 | .own m n cs=>E5 n fun n=>HA cs fun cs=>k (.own m n cs)
 | .agn (.st b) m n cs=>JW b fun b=>E5 n fun n=>HA cs fun cs=>k (.agn (.st b) m n cs)
 | .agn (.tp b) m n cs=>JW b fun b=>E5 n fun n=>HA cs fun cs=>k (.agn (.tp b) m n cs)
 | r=>k r
theorem gJ(r:Reg)(k:Reg->α):RK r k=k r:=by
 cases r
 case agn b m n cs=>cases b <;> simp only[RK,NH,OY,GY]
 all_goals simp only[RK,QI,OY,GY]
end
def IV(g:Nat->Reg)(o:Opd):Option AV :=
 match o with
 | .t n=>(match g n with | .val x=>some x | _=>none)
 | .c x=>some x
def Aue(g:Nat->Reg):Opd->Reg
 | .t n=>g n
 | .c x => .val x
theorem Ug(s:Aj)(o:Opd):IV (A8 s) o=o.av s:=by cases o <;> rfl
theorem Auf(s:Aj)(o:Opd):Aue (A8 s) o=o.reg s:=by cases o <;> rfl
def Wq(g:Nat->Reg):List Opd->Option (List AV)
 | []=>some []
 | o::l=>match IV g o with
  | none=>none
  | some x=>match Wq g l with
   | none=>none
   | some xs=>some (x::xs)
theorem lS(s:Aj):∀ l,Wq (A8 s) l=avs s l
 | []=>rfl
 | o::l=>by simp only[Wq,avs,Ug,lS s l];rfl
def Vp(g:Nat->Reg):List AV->List (Nat × Nat × Opd)->Option (List AV)
 | cs,[]=>some cs
 | cs,(off,n,o)::ps =>
  match IV g o with
  | none=>none
  | some x=>match GU x n with
   | none=>none
   | some ys=>match C5 cs off ys with
    | none=>none
    | some cs'=>Vp g cs' ps
theorem bO(s:Aj):∀ (ps:List (Nat × Nat × Opd)) (cs:List AV),Vp (A8 s) cs ps=G8 s cs ps
 | [],cs=>rfl
 | (off,n,o)::ps,cs=>by simp only[Vp,G8,Ug,bO s ps];rfl
def S4(g:Nat->Reg)(d:Nat):Option Opd->Option Nat
 | none=>some d
 | some o=>match IV g o with
  | some (.int _ i)=>cond (Xa i (.ofNat 0)) none (some i.toNat)
  | _=>none
theorem Aug(s:Aj)(d:Nat)(o:Option Opd):S4 (A8 s) d o=Hm s d o:=by
 cases o with
 | none=>rfl
 | some o =>
  simp only[S4,Hm,Ug];generalize o.av s=x;cases x with
  | none=>rfl
  | some v =>
   cases v <;> first | rfl | skip
   rename_i k i;dsimp only;rw[Xn];show cond (A (i<0)) _ _=_;by_cases h:i<0
   ·rw[decide_eq_true h,if_neg (by omega)];rfl
   ·rw[decide_eq_false h,if_pos (by omega)];rfl
def isK:IntKind->IntKind->Bool
 | .i8,.i8=>true
 | .i16,.i16=>true
 | .i32,.i32=>true
 | .i64,.i64=>true
 | .u8,.u8=>true
 | .u16,.u16=>true
 | .u32,.u32=>true
 | .u64,.u64=>true
 | _,_=>false
theorem Abu(k k':IntKind):isK k k'=decide (k=k'):=by cases k <;> cases k' <;> rfl
def Uh:IntKind->Nat
 | .i8=>256 | .u8=>256 | .i16=>65536 | .u16=>65536 | .i32=>4294967296 | .u32=>4294967296 | .i64=>18446744073709551616 | .u64=>18446744073709551616
theorem Yy(k:IntKind):Uh k=2^k.bits:=by cases k <;> rfl
def OZ(f:Nat->Nat->Nat)(op:BinOp)(k:IntKind)(x y:Int):Option AV :=
 match x,y with
 | .ofNat m,.ofNat n=>cond (F6 m (Uh k)&&F6 n (Uh k)) (some (.int k (NG k (.ofNat (f m n))))) ((N6 op k x y).map (.int k))
 | _,_=>(N6 op k x y).map (.int k)
theorem Fq(w m:Nat)(h:m<2^w):(T w (Ld m)).toNat=m:=by
 have:T w (Ld m)=BitVec.ofNat w m:=by
  apply BitVec.eq_of_toNat_eq;simp
 rw[this,Ks,EK h]
theorem uB(k:IntKind)(x y:Int):OZ Nat.land .and k x y=(N6 .and k x y).map (.int k):=by
 unfold OZ;split
 ·rename_i m n;cases h:(F6 m (Uh k)&&F6 n (Uh k))
  ·rfl
  ·simp only[KL,Af,decide_eq_true_eq,Yy] at h;simp only[cond_true,N6,AF,LZ,PV,Fq _ _ h.1,Fq _ _ h.2];rfl
 ·rfl
theorem Aec(k:IntKind)(x y:Int):OZ Nat.lor .or k x y=(N6 .or k x y).map (.int k):=by
 unfold OZ;split
 ·rename_i m n;cases h:(F6 m (Uh k)&&F6 n (Uh k))
  ·rfl
  ·simp only[KL,Af,decide_eq_true_eq,Yy] at h;simp only[cond_true,N6,AF,LZ,rW,Fq _ _ h.1,Fq _ _ h.2];rfl
 ·rfl
theorem uC(k:IntKind)(x y:Int):OZ Nat.xor .xor k x y=(N6 .xor k x y).map (.int k):=by
 unfold OZ;split
 ·rename_i m n;cases h:(F6 m (Uh k)&&F6 n (Uh k))
  ·rfl
  ·simp only[KL,Af,decide_eq_true_eq,Yy] at h;simp only[cond_true,N6,AF,LZ,BitVec.toNat_xor,Fq _ _ h.1,Fq _ _ h.2];rfl
 ·rfl
def Abv(y:Int)(k:IntKind):Int := .ofNat (Nat.pow 2 (cond (Abs y.toNat k.bits) y.toNat k.bits))
theorem Auh(y:Int)(k:IntKind):Abv y k=2^(min y.toNat k.bits):=by
 unfold Abv;have:cond (Abs y.toNat k.bits) y.toNat k.bits=min y.toNat k.bits:=by
  cases h:Abs y.toNat k.bits
  ·have:¬ y.toNat<=k.bits:=by intro hh;rw[rZ hh] at h;cases h
   simp only[cond_false];omega
  ·have:=sA h;simp only[cond_true];omega
 rw[this];exact Dp 2 _
def uD(x y:Int):Int :=
 match x,y with
 | .ofNat m,.ofNat n => .ofNat (Nb m n)
 | x,y=>d x y
theorem Aed(x y:Int):uD x y=d x y:=by
 unfold uD;split
 ·rename_i m n;exact (Int.ofNat_fdiv m n)
 ·rfl
def Aui(op:BinOp)(x y:AV):Option AV :=
 match x,y with
 | .int k a,.int k' b=>(match op with
  | .shl=>cond (Xa b (.ofNat 0)) none (some (.int k (NG k (Int.mul a (Abv b k)))))
  | .shr=>cond (Xa b (.ofNat 0)) none (some (.int k (uD a (Abv b k))))
  | op=>cond (isK k k') (match op with
   | .add=>some (.int k (NG k (Int.add a b)))
   | .sub=>some (.int k (NG k (ABs a b)))
   | .mul=>some (.int k (NG k (Int.mul a b)))
   | .quo=>cond (ZR b (.ofNat 0)) none (some (.int k (NG k (Ax a b))))
   | .rem=>cond (ZR b (.ofNat 0)) none (some (.int k (AB a b)))
   | .and=>OZ Nat.land .and k a b
   | .or=>OZ Nat.lor .or k a b
   | .xor=>OZ Nat.xor .xor k a b
   | .eql=>some (.bool (ZR a b))
   | .neq=>some (.bool (!(ZR a b)))
   | .lss=>some (.bool (Xa a b))
   | .leq=>some (.bool (Ju a b))
   | .gtr=>some (.bool (Xa b a))
   | .geq=>some (.bool (Ju b a))
   | _=>none) none)
 | _,_=>none
theorem bP{α:Type}(p:Prop)[Decidable p](a b:α):cond (decide p) a b=if p then a else b:=by
 by_cases h:p <;> simp[h]
theorem Auj(a b:Int):(a==b)=decide (a=b):=by
 by_cases h:a=b <;> simp[h]
theorem Auk(op:BinOp)(x y:AV):Aui op x y=NS op x y:=by
 cases x <;> cases y <;> first | rfl | skip
 rename_i k a k' b;cases op <;> simp only[Aui,NS,KG,B_,if_false,if_true,Abu,bP,jR,Aoa,AF,LZ,Xn,A4k,Abt,uB,Aec,uC,TO,Auh,Aed,gt_iff_lt,ge_iff_le,Auj,bne];all_goals rfl
def unF(op:UnOp)(x:AV):Option AV :=
 match op,x with
 | .neg,.int k n=>some (.int k (NG k (ABs (.ofNat 0) n)))
 | .not,.bool b=>some (.bool (!b))
 | _,_=>none
theorem A4l(op:UnOp)(x:AV):unF op x=GW op x:=by
 cases op <;> cases x <;> simp only[unF,GW,LZ];rfl
def uE(i:Int)(n:Nat):Bool:=match i with | .ofNat m=>F6 m n | .negSucc _=>false
theorem A4m(i:Int)(n:Nat):uE i n=decide (0<=i/\i<(n:Int)):=by
 cases i with
 | ofNat m=>simp only[uE,KL];rw[decide_eq_decide];simp only[KM];omega
 | negSucc m=>simp only[uE];symm;rw[decide_eq_false_iff_not];omega
def Aul(F:BL)(g:Nat->Reg):K->Option (Reg × List (Nat × Reg))
 | .mov x=>match IV g x with
  | some v=>some (.val v,[])
  | none=>none
 | .pick c a b =>
  match IV g c with
  | some (.bool true)=>(IV g a).map fun v=>(.val v,[])
  | some (.bool false)=>(IV g b).map fun v=>(.val v,[])
  | _=>none
 | .bin op x y =>
  match IV g x,IV g y with
  | some a,some b=>(Aui op a b).map fun v=>(.val v,[])
  | _,_=>none
 | .eqb neg x y =>
  match IV g x,IV g y with
  | some (.bool a),some (.bool b)=>some (.val (.bool (if neg then !(a==b) else a==b)),[])
  | _,_=>none
 | .un op x=>match IV g x with
  | some a=>(unF op a).map fun v=>(.val v,[])
  | none=>none
 | .cv k x=>match IV g x with
  | some (.int _ n)=>some (.val (.int k (NG k n)),[])
  | _=>none
 | .new z kills=>some (.box z,kills.map fun t=>(t,.dead))
 | .box x kills=>match IV g x with
  | some (.agg cs)=>some (.box cs,kills.map fun t=>(t,.dead))
  | some x=>if MP x then some (.box [x],kills.map fun t=>(t,.dead)) else none
  | none=>none
 | .bld z ps=>(Vp g z ps).map fun cs=>(.val (.agg cs),[])
 | .bls n z ps=>(Vp g z ps).map fun cs=>(.val (.sl n cs),[])
 | .adr x d off=>match g x with
  | .box _=>if x=d then some (.ptr d off,[]) else none
  | .ptr d' o=>if d'=d then some (.ptr d (o+off),[]) else none
  | .mem cs=>some (.mem (cs.drop off),[])
  | _=>none
 | .ld x d n one=>match g x with
  | .box cs=>if x=d then (Bj cs 0 n one).map fun v=>(.val v,[]) else none
  | .ptr d' off=>if d'=d then (match g d with
   | .box cs=>(Bj cs off n one).map fun v=>(.val v,[])
   | .own _ _ cs=>(Bj cs off n one).map fun v=>(.val v,[])
   | _=>none) else none
  | .mem cs=>(Bj cs 0 n one).map fun v=>(.val v,[])
  | _=>none
 | .st x d n v=>match IV g v with
  | none=>none
  | some a=>match GU a n with
   | none=>none
   | some ys=>match g x with
    | .box cs=>if x=d then (C5 cs 0 ys).map fun cs'=>(.dead,[(d,.box cs')]) else none
    | .ptr d' off=>if d'=d then (match g d with
     | .box cs=>(C5 cs off ys).map fun cs'=>(.dead,[(d,.box cs')])
     | .own k m cs=>(C5 cs off ys).map fun cs'=>(.dead,[(d,.own k m cs')])
     | _=>none) else none
    | _=>none
 | .fld x off n one=>match IV g x with
  | some (.agg cs)=>(Bj cs off n one).map fun v=>(.val v,[])
  | _=>none
 | .ixa x i k=>match IV g i with
  | some (.int _ i)=>(match g x with
   | .val (.sl n cs)=>cond (uE i n) (some (.mem (cs.drop (i.toNat*k)),[])) none
   | _=>none)
  | _=>none
 | .six x i=>match IV g x,IV g i with
  | some (.str b),some (.int _ i)=>(if 0<=i then b[i.toNat]? else none).map fun c=>(.val (.int .u8 c.toNat),[])
  | _,_=>none
 | .ext x i=>match IV g x with
  | some (.tup vs)=>(vs[i]?).map fun v=>(.val v,[])
  | _=>none
 | .len x=>match IV g x with
  | some .nil=>some (.val (.int .i64 0),[])
  | some (.sl n _)=>some (.val (.int .i64 n),[])
  | _=>none
 | .mx xs=>match Wq g xs with
  | some (.int k n::l)=>(aS k n l).map fun m=>(.val (.int k m),[])
  | _=>none
 | .mn xs=>match Wq g xs with
  | some (.int k n::l)=>(aT k n l).map fun m=>(.val (.int k m),[])
  | _=>none
 | .call f xs=>match Wq g xs with
  | some vs=>(F f vs).map fun v=>(.val (Mq v),[])
  | none=>none
 | .clo f xs=>match Wq g xs with
  | some vs=>(F f vs).map fun v=>(MQ v,[])
  | none=>none
 | .brw f x d=>match g x with
  | .dup d'=>if d'=d then (match g d with
   | .own _ n cs=>if cs.all (fun c => !X3 c) then (match F f [.sl n cs] with
    | some y=>if Hr (Mq y) then some (.val (Mq y),[]) else none
    | none=>none) else none
   | _=>none) else none
  | _=>none
 | .cpy x=>match g x with
  | .val v=>some (.val v,[])
  | .own _ _ _=>some (.dup x,[])
  | _=>none
 | .tra x=>match g x with
  | .val v=>some (.val v,[])
  | .own k n cs=>some (.own k n cs,[(x,.dead)])
  | .agn b k n cs=>some (.agn b k n cs,[(x,.dead)])
  | _=>none
 | .frz x=>match g x with
  | .val v=>some (.val v,[])
  | .own _ n cs=>some (.val (.sl n cs),[(x,.val (.sl n cs))])
  | _=>none
 | .mks z n=>match IV g n with
  | some (.int _ m)=>cond (uE m 1048577) (some (.own z.length m.toNat (CD z m.toNat),[])) none
  | _=>none
 | .blo k n z ps=>(Vp g z ps).map fun cs=>(.own k n cs,[])
 | .apd ow x y k B=>match IV g y with
  | some .nil=>(match Aue g x with
   | .val .nil=>some (.val .nil,[])
   | .own k' n cs=>if k'=k then some (if ow then .own k n cs else .val (.sl n cs),SM x) else none
   | _=>none)
  | some (.sl m ys)=>if ys.length=m*k then (match Aue g x with
   | .val .nil=>if m<=B then some (if ow then .own k m ys else .val (.sl m ys),[]) else none
   | .own k' n cs=>if k'=k/\n+m<=B then some (if ow then .own k (n+m) (cs++ys) else .val (.sl (n+m) (cs++ys)),SM x) else none
   | _=>none) else none
  | _=>none
 | .sli x lo hi mx k=>match IV g x with
  | some .nil=>(match S4 g 0 mx,S4 g 0 hi,S4 g 0 lo with
   | some 0,some 0,some 0=>if mx.isSome->hi.isSome then some (.val .nil,[]) else none
   | _,_,_=>none)
  | some (.sl n cs)=>(match S4 g n mx,S4 g n hi,S4 g 0 lo with
   | some m,some h,some l=>if l<=h/\h<=m/\m<=n/\(mx.isSome->hi.isSome) then some (.val (.sl (h-l) ((cs.drop (l*k)).take ((h-l)*k))),[]) else none
   | _,_,_=>none)
  | _=>none
 | .ixo x d i k=>match IV g i with
  | some (.int _ i)=>(match g x with
   | .val (.sl n cs)=>cond (uE i n) (some (.mem (cs.drop (i.toNat*k)),[])) none
   | .dup d'=>if d'=d then (match g d with
    | .own k' n _=>if k'=k then cond (uE i n) (some (.ptr d (i.toNat*k),[])) none else none
    | _=>none) else none
   | _=>none)
  | _=>none
 | .lno x d=>match g x with
  | .val .nil=>some (.val (.int .i64 0),[])
  | .val (.sl n _)=>some (.val (.int .i64 n),[])
  | .dup d'=>if d'=d then (match g d with
   | .own _ n _=>some (.val (.int .i64 n),[])
   | _=>none) else none
  | _=>none
 | .nlo k=>some (.own k 0 [],[])
 | .bdo a x l=>match IV g a with
  | some (.bool b)=>(match g x with
   | .own k n cs=>if l.all (fun t=>GT (g t)) then some (.agn (.st b) k n cs,[(x,.dead)]) else none
   | _=>none)
  | _=>none
 | .cln f xs l=>match Wq g xs with
  | some vs=>if l.all (fun t=>GT (g t)) then (F f vs).map fun v=>(MQ v,[]) else none
  | none=>none
 | .stl x v=>match g x with
  | .box cs=>(match g v with
   | .agn (.st _) _ _ _=>if cs.length=2 then some (.dead,[(x,.bxl v)]) else none
   | _=>none)
  | _=>none
 | .fdo x=>match g x with
  | .agn (.st _) k n cs=>some (.own k n cs,[(x,.dead)])
  | _=>none
 | .cpo x=>some (.dup x,[])
 | .exo x=>match g x with
  | .agn (.tp b) k n cs=>some (.own k n cs,[(x,.val (.tup [.sl n [],.bool b]))])
  | _=>none
 | .sub x d lo hi k=>match g x with
  | .dup d'=>if d'=d then (match g d with
   | .own k' n _=>(match S4 g n hi,S4 g 0 lo with
    | some h,some l=>if k'=k/\l<=h/\h<=n then some (.sub d k l h,[]) else none
    | _,_=>none)
   | _=>none) else none
  | _=>none
 | .app ow x d y k=>match g x with
  | .sub d' k' l h=>if d'=d/\k'=k/\l=0 then (match g d with
   | .own k'' n cs=>if k''=k/\h<=n then (match IV g y with
    | some (.sl m ys)=>if ys.length=m*k/\h+m<=1048576 then some (if ow then .own k (h+m) (cs.take (h*k)++ys) else .val (.sl (h+m) (cs.take (h*k)++ys)),[(d,.dead),(x,.dead)]) else none
    | _=>none) else none
   | _=>none) else none
  | _=>none
 | .apb ow x y d k=>match g x with
  | .own k0 n cs=>(match g y with
   | .sub d' k' l h=>if d'=d/\k'=k/\k0=k then (match g d with
    | .own k'' n' cs'=>if k''=k/\h<=n'/\n+(h-l)<=1048576 then some (if ow then .own k (n+(h-l)) (cs++(cs'.drop (l*k)).take ((h-l)*k)) else .val (.sl (n+(h-l)) (cs++(cs'.drop (l*k)).take ((h-l)*k))),[(x,.dead)]) else none
    | _=>none) else none
   | _=>none)
  | _=>none
 | .slo x hi k=>match IV g hi with
  | some (.int _ h)=>(match g x with
   | .own k' n cs=>if k'=k/\0<=h/\h<=n then some (.own k h.toNat (cs.take (h.toNat*k)),[(x,.dead)]) else none
   | _=>none)
  | _=>none
 | .bad=>none
theorem Aum(F:BL)(s:Aj)(k:K):Aul F (A8 s) k=B7 F s k:=by
 cases k <;> simp only[Aul,B7,Ug,lS,bO,Auf,Aug,Auk,A4l,LZ,A4m,bP]
 case mov x=>cases x.av s <;> rfl
 case mks z n =>
  generalize n.av s=x;cases x with
  | none=>rfl
  | some v =>
   cases v <;> first | rfl | skip
   rename_i k m;have:(0<=m/\m<((1048577:Nat):Int))↔(0<=m/\m<=1048576):=by omega
   simp only[this]
 case ixo x d i k =>
  generalize i.av s=y;cases y with
  | none=>rfl
  | some v =>
   cases v <;> first | rfl | skip
   rename_i kk m;generalize A8 s x=r;cases r <;> first | rfl | skip
   ·rename_i v;cases v <;> rfl
   ·rename_i d';dsimp only;by_cases hd:d'=d
    ·rw[if_pos hd,if_pos hd];generalize A8 s d=r2;cases r2 <;> first | rfl | skip
     rename_i k' n cs;by_cases hk:k'=k <;> simp[hk]
    ·rw[if_neg hd,if_neg hd]
 all_goals rfl
inductive Tr where
 | e
 | n (l:Tr) (v:Reg) (r:Tr)
noncomputable def Tr.get (t:Tr):Nat->Reg :=
 Tr.rec (motive:=fun _=>Nat->Reg) (fun _ => .dead) (fun _ v _ gl gr i=>S3 (motive:=fun _=>Reg) v (fun j _=>cond (Df (F7 j 2) 0) (gl (Nb j 2)) (gr (Nb j 2))) i) t
theorem Aee(i:Nat):Tr.e.get i = .dead:=rfl
theorem gK(l:Tr)(v:Reg)(r:Tr):(Tr.n l v r).get 0=v:=rfl
theorem J1(l:Tr)(v:Reg)(r:Tr)(j:Nat):(Tr.n l v r).get (j+1)=cond (Df (j % 2) 0) (l.get (j / 2)) (r.get (j / 2)):=rfl
section
variable {α:Type}
noncomputable def Ui (f:Nat):Tr->Nat->Reg->(Tr->Option α)->Option α :=
 S3 (motive:=fun _=>Tr->Nat->Reg->(Tr->Option α)->Option α) (fun _ _ _ _=>none)
  (fun _ ih t i x k=>Tr.rec (motive:=fun _=>Option α)
   (S3 (motive:=fun _=>Option α) (k (.n .e x .e)) (fun j _=>cond (Df (F7 j 2) 0) (E5 (Nb j 2) fun j=>ih .e j x fun l'=>k (.n l' .dead .e)) (E5 (Nb j 2) fun j=>ih .e j x fun r'=>k (.n .e .dead r'))) i)
   (fun l v r _ _=>S3 (motive:=fun _=>Option α) (k (.n l x r)) (fun j _=>cond (Df (F7 j 2) 0) (E5 (Nb j 2) fun j=>ih l j x fun l'=>k (.n l' v r)) (E5 (Nb j 2) fun j=>ih r j x fun r'=>k (.n l v r'))) i) t) f
theorem bQ{i j:Nat}(h1:i % 2=j % 2)(h2:i / 2=j / 2):i=j:=by omega
theorem lT:∀ (f:Nat) (t:Tr) (i:Nat) (x:Reg) (k:Tr->Option α) (y:α),Ui f t i x k=some y->∃ t',k t'=some y/\∀ u,t'.get u=if u=i then x else t.get u:=by
 intro f;induction f with
 | zero=>intro t i x k y h;cases h
 | succ f ih =>
  intro t i x k y h;have key:∀ (l r:Tr) (v:Reg),(∀ u,(Tr.n l v r).get u=t.get u) ->
    (match i with
     | 0=>k (.n l x r)
     | j+1=>cond (Df (F7 j 2) 0) (E5 (Nb j 2) fun j=>Ui f l j x fun l'=>k (.n l' v r)) (E5 (Nb j 2) fun j=>Ui f r j x fun r'=>k (.n l v r')))=some y ->
    ∃ t',k t'=some y/\∀ u,t'.get u=if u=i then x else t.get u:=by
   intro l r v ht h;cases i with
   | zero =>
    refine⟨_,h,fun u => ?_⟩;cases u with
    | zero=>simp[gK]
    | succ u=>rw[if_neg (by omega),<- ht];rfl
   | succ j =>
    dsimp only at h;cases hj:Df (F7 j 2) 0
    ·rw[hj] at h;simp only[cond_false,GY] at h;obtain⟨r',h1,h2⟩:=ih r _ x _ y h;have hj':j % 2=1:=by
      have:¬ j % 2=0:=fun e=>by
       have:Df (F7 j 2) 0=true:=by show Df (j % 2) 0=true;rw[e];rfl
       rw[this] at hj;cases hj
      omega
     refine⟨_,h1,fun u => ?_⟩;cases u with
     | zero=>rw[if_neg (by omega),<- ht];rfl
     | succ u =>
      rw[<- ht,J1,J1,h2];cases hu:Df (u % 2) 0
      ·have hu':u % 2=1:=by
        have:¬ u % 2=0:=fun e=>by rw[e] at hu;cases hu
        omega
       simp only[cond_false];show (if u / 2=j / 2 then _ else _)=_;by_cases hh:u / 2=j / 2
       ·have:u=j:=bQ (by omega) hh;rw[if_pos hh,if_pos (by omega)]
       ·rw[if_neg hh,if_neg (by omega)]
      ·have hu':u % 2=0:=Do hu;simp only[cond_true];rw[if_neg (by omega)]
    ·rw[hj] at h;simp only[cond_true,GY] at h;obtain⟨l',h1,h2⟩:=ih l _ x _ y h;have hj':j % 2=0:=Do hj;refine⟨_,h1,fun u => ?_⟩;cases u with
     | zero=>rw[if_neg (by omega),<- ht];rfl
     | succ u =>
      rw[<- ht,J1,J1,h2];cases hu:Df (u % 2) 0
      ·have hu':u % 2=1:=by
        have:¬ u % 2=0:=fun e=>by rw[e] at hu;cases hu
        omega
       simp only[cond_false];rw[if_neg (by omega)]
      ·have hu':u % 2=0:=Do hu;simp only[cond_true];show (if u / 2=j / 2 then _ else _)=_;by_cases hh:u / 2=j / 2
       ·have:u=j:=bQ (by omega) hh;rw[if_pos hh,if_pos (by omega)]
       ·rw[if_neg hh,if_neg (by omega)]
  cases t with
  | e =>
   refine key .e .e .dead (fun u => ?_) (by cases i <;> exact h);cases u with
   | zero=>rfl
   | succ u=>rw[J1];cases Df (u % 2) 0 <;> rfl
  | n l v r=>exact key l r v (fun _=>rfl) (by cases i <;> exact h)
def Nc(t:Tr)(s:Aj):Prop:=∀ u,t.get u=A8 s u
noncomputable def Yz (m:Nat) (t:Tr) (d:Nat) (r:Reg) (k:Tr->Option α):Option α:=cond (F6 d m) (RK r fun r=>Ui 12 t d r k) none
theorem Y0{m:Nat}{t:Tr}{s:Aj}{d:Nat}{r:Reg}{k:Tr->Option α}{y:α}(hs:s.length=m)(ht:Nc t s)(h:Yz m t d r k=some y):∃ t',k t'=some y/\Nc t' (s.set d r):=by
 unfold Yz at h;cases hd:F6 d m
 ·rw[hd] at h;cases h
 ·rw[hd] at h;simp only[cond_true,gJ] at h;obtain⟨t',h1,h2⟩:=lT 12 t d r k y h;refine⟨t',h1,fun u => ?_⟩;simp only[KL,decide_eq_true_eq] at hd;rw[h2,Du];by_cases hu:u=d
  ·subst hu;rw[if_pos rfl,if_pos ⟨rfl,by omega⟩]
  ·rw[if_neg hu,if_neg (fun e=>hu e.1.symm)];exact ht u
noncomputable def gL (m:Nat) (l:List (Nat × Reg)):Tr->(Tr->Option α)->Option α :=
 jP (motive:=fun _=>Tr->(Tr->Option α)->Option α) (fun t k=>k t) (fun p _ ih t k=>Yz m t p.1 p.2 fun t=>ih t k) l
theorem Vq{m:Nat}:∀ {l:List (Nat × Reg)} {t:Tr} {s:Aj} {k:Tr->Option α} {y:α},s.length=m->Nc t s->gL m l t k=some y->∃ t',k t'=some y/\Nc t' (BZ s l)
 | [],t,s,k,y,_,ht,h=>⟨t,h,ht⟩
 | (d,r)::l,t,s,k,y,hs,ht,h=>by
  obtain⟨t',h1,h2⟩:=Y0 hs ht h;exact Vq (l:=l) (by simp[hs]) h2 (show gL m l t' k=some y from h1)
noncomputable def Aun (m:Nat) (t:Tr) (d:Option Nat) (r:Reg) (k:Tr->Option α):Option α :=
 match d with
 | none=>k t
 | some d=>Yz m t d r k
theorem lW{m:Nat}{t:Tr}{s:Aj}{d:Option Nat}{r:Reg}{k:Tr->Option α}{y:α}(hs:s.length=m)(ht:Nc t s)(h:Aun m t d r k=some y):∃ t',k t'=some y/\Nc t' (Ea s d r):=by
 cases d with
 | none=>exact⟨t,h,ht⟩
 | some d=>exact Y0 hs ht h
def Auo(g:Nat->Reg):Option (Nat × Bool)->Option Bool
 | none=>some true
 | some (t,b)=>match g t with
  | .val (.bool c)=>some (c==b)
  | .val .undef=>some false
  | _=>none
theorem Aef(s:Aj)(g:Option (Nat × Bool)):Auo (A8 s) g=HK s g:=by cases g <;> rfl
noncomputable def fOp (F:BL) (m:Nat) (o:IOp) (t:Tr) (k:Tr->Option α):Option α :=
 gL m (o.ks.map fun u=>(u,Reg.dead)) t fun t =>
  match Auo t.get o.g with
  | none=>none
  | some false=>Aun m t o.dst (.val .undef) k
  | some true=>match Aul F t.get o.k with
   | none=>none
   | some (r,l)=>gL m l t fun t=>Aun m t o.dst r k
theorem A4n{F:BL}{m:Nat}{o:IOp}{t:Tr}{s:Aj}{k:Tr->Option α}{y:α}(hs:s.length=m)(ht:Nc t s)(h:fOp F m o t k=some y):∃ s' t',G9 F o s=some s'/\s'.length=m/\Nc t' s'/\k t'=some y:=by
 unfold fOp at h;obtain⟨t1,h1,h2⟩:=Vq hs ht h;have hs1:(kill s o.ks).length=m:=by rw[kill,Gr];exact hs
 have e1:t1.get=A8 (kill s o.ks):=funext h2;rw[e1,Aef] at h1;simp only[G9,Jo];have hl:∀ (s:Aj) (d:Option Nat) (r:Reg),(Ea s d r).length=s.length:=by intro s d r;cases d <;> simp[Ea]
 split at h1
 ·cases h1
 ·rename_i hw;rw[hw];obtain⟨t2,h3,h4⟩:=lW hs1 h2 h1;exact⟨_,t2,rfl,by rw[hl];exact hs1,h4,h3⟩
 ·rename_i hw;rw[hw];rw[Aum] at h1;split at h1
  ·cases h1
  ·rename_i r l hk;obtain⟨t2,h3,h4⟩:=Vq hs1 h2 h1;obtain⟨t3,h5,h6⟩:=lW (by rw[Gr];exact hs1) h4 h3;refine⟨_,t3,by simp only[hk],by rw[hl,Gr];exact hs1,h6,h5⟩
noncomputable def ABt (F:BL) (m:Nat) (l:List IOp):Tr->(Tr->Option α)->Option α :=
 jP (motive:=fun _=>Tr->(Tr->Option α)->Option α) (fun t k=>k t) (fun o _ ih t k=>fOp F m o t fun t=>ih t k) l
theorem lX{F:BL}{m:Nat}:∀ {l:List IOp} {t:Tr} {s:Aj} {k:Tr->Option α} {y:α},s.length=m->Nc t s->ABt F m l t k=some y->∃ s' t',EA F l s=some s'/\s'.length=m/\Nc t' s'/\k t'=some y
 | [],t,s,k,y,hs,ht,h=>⟨s,t,rfl,hs,ht,h⟩
 | o::l,t,s,k,y,hs,ht,h=>by
  obtain⟨s1,t1,h1,h2,h3,h4⟩:=A4n hs ht h;obtain⟨s2,t2,h5,h6,h7,h8⟩:=lX h2 h3 h4;exact⟨s2,t2,by simp only[EA,h1];exact h5,h6,h7,h8⟩
noncomputable def fC (F:BL) (m:Nat) (n:Nat):ICode->Tr->(Ex->Tr->Option α)->Option α :=
 S3 (motive:=fun _=>ICode->Tr->(Ex->Tr->Option α)->Option α) (fun _ _ _=>none) (fun _ ih c t k =>
  match c with
  | .skip=>k .norm t
  | .region _ ops=>ABt F m ops t fun t=>k .norm t
  | .seq a b=>ih a t fun ex t=>(match ex with | .norm=>ih b t k | .exit i=>k (.exit i) t | .ret=>k .ret t)
  | .cond c a b=>(match IV t.get c with | some (.bool true)=>ih a t k | some (.bool false)=>ih b t k | _=>none)
  | .block id c=>ih c t fun ex t=>(match ex with | .norm=>k .norm t | .exit i=>cond (Df i id) (k .norm t) (k (.exit i) t) | .ret=>k .ret t)
  | .loop c=>ih c t fun ex t=>(match ex with | .norm=>ih (.loop c) t k | .exit i=>k (.exit i) t | .ret=>k .ret t)
  | .scope c=>ih c t k
  | .exit id=>k (.exit id) t
  | .ret=>k .ret t) n
theorem ADh{F:BL}{m:Nat}:∀ (n:Nat) {c:ICode} {t:Tr} {s:Aj} {k:Ex->Tr->Option α} {y:α},s.length=m->Nc t s->fC F m n c t k=some y->∃ ex s' t',C4 F n c s=some (ex,s')/\s'.length=m/\Nc t' s'/\k ex t'=some y:=by
 intro n;induction n with
 | zero=>intro c t s k y _ _ h;cases h
 | succ n ih =>
  intro c t s k y hs ht h;cases c with
  | skip=>exact⟨.norm,s,t,rfl,hs,ht,h⟩
  | region d ops =>
   obtain⟨s',t',h1,h2,h3,h4⟩:=lX hs ht h;exact⟨.norm,s',t',by simp only[C4,h1,AF],h2,h3,h4⟩
  | seq a b =>
   obtain⟨ex,s1,t1,h1,h2,h3,h4⟩:=ih (c:=a) hs ht h;cases ex with
   | norm =>
    obtain⟨ex,s2,t2,h5,h6,h7,h8⟩:=ih (c:=b) h2 h3 h4;exact⟨ex,s2,t2,by simp only[C4,h1];exact h5,h6,h7,h8⟩
   | exit i=>exact⟨.exit i,s1,t1,by simp only[C4,h1],h2,h3,h4⟩
   | ret=>exact⟨.ret,s1,t1,by simp only[C4,h1],h2,h3,h4⟩
  | cond o a b =>
   have e1:t.get=A8 s:=funext ht;have h':(match IV t.get o with | some (.bool true)=>fC F m n a t k | some (.bool false)=>fC F m n b t k | _=>none)=some y:=h
   rw[e1,Ug] at h';split at h'
   ·rename_i hc;obtain⟨ex,s1,t1,h1,h2,h3,h4⟩:=ih (c:=a) hs ht h';exact⟨ex,s1,t1,by simp only[C4,Lh,hc];exact h1,h2,h3,h4⟩
   ·rename_i hc;obtain⟨ex,s1,t1,h1,h2,h3,h4⟩:=ih (c:=b) hs ht h';exact⟨ex,s1,t1,by simp only[C4,Lh,hc];exact h1,h2,h3,h4⟩
   ·cases h'
  | block id c =>
   obtain⟨ex,s1,t1,h1,h2,h3,h4⟩:=ih (c:=c) hs ht h;cases ex with
   | norm=>exact⟨.norm,s1,t1,by simp only[C4,h1],h2,h3,h4⟩
   | ret=>exact⟨.ret,s1,t1,by simp only[C4,h1],h2,h3,h4⟩
   | exit i =>
    by_cases hi:i=id
    ·subst hi;have:Df i i=true:=Nat.beq_refl i;simp only[this,cond_true] at h4;exact⟨.norm,s1,t1,by simp only[C4,h1,if_true],h2,h3,h4⟩
    ·have:Df i id=false:=by cases hh:Df i id with | false=>rfl | true=>exact absurd (Do hh) hi
     simp only[this,cond_false] at h4;exact⟨.exit i,s1,t1,by simp only[C4,h1,if_neg hi],h2,h3,h4⟩
  | loop c =>
   obtain⟨ex,s1,t1,h1,h2,h3,h4⟩:=ih (c:=c) hs ht h;cases ex with
   | norm =>
    obtain⟨ex,s2,t2,h5,h6,h7,h8⟩:=ih (c := .loop c) h2 h3 h4;exact⟨ex,s2,t2,by simp only[C4,h1];exact h5,h6,h7,h8⟩
   | exit i=>exact⟨.exit i,s1,t1,by simp only[C4,h1],h2,h3,h4⟩
   | ret=>exact⟨.ret,s1,t1,by simp only[C4,h1],h2,h3,h4⟩
  | scope c =>
   obtain⟨ex,s1,t1,h1,h2,h3,h4⟩:=ih (c:=c) hs ht h;exact⟨ex,s1,t1,by simp only[C4];exact h1,h2,h3,h4⟩
  | exit id=>exact⟨.exit id,s,t,rfl,hs,ht,h⟩
  | ret=>exact⟨.ret,s,t,rfl,hs,ht,h⟩
end
def ABu(g:Nat->Reg):IRes->Option AV
 | .tmp t=>match g t with
  | .val x=>some x
  | .own _ n cs=>some (.sl n cs)
  | _=>none
 | .cell t n one=>match g t with
  | .box cs=>Bj cs 0 n one
  | _=>none
def gM(g:Nat->Reg):List IRes->Option (List AV)
 | []=>some []
 | r::l=>match ABu g r with
  | none=>none
  | some x=>match gM g l with
   | none=>none
   | some xs=>some (x::xs)
def Abw(g:Nat->Reg):List IRes->Option AV
 | [.tmp t]=>match g t with
  | .own k n cs=>some (.fresh k n cs)
  | .agn b k n cs=>some (.frs b k n cs)
  | _=>none
 | [.tmp t,.tmp u]=>match g t with
  | .own k n cs=>(match g u with
   | .val (.bool b)=>some (.frs (.tp b) k n cs)
   | _=>none)
  | _=>none
 | [.cell t n one]=>match g t with
  | .bxl d=>(match g d with
   | .agn (.st b) k m cs=>if n=2/\one=false then some (.frs (.st b) k m cs) else none
   | _=>none)
  | _=>none
 | _=>none
def Oa(g:Nat->Reg)(l:List IRes):Option AV :=
 match Abw g l with
 | some x=>some x
 | none=>match gM g l with
  | some [x]=>some x
  | some xs=>some (.tup xs)
  | none=>none
theorem Aup(s:Aj)(r:IRes):ABu (A8 s) r=F2 s r:=by cases r <;> rfl
theorem XN(s:Aj):∀ l,gM (A8 s) l=Eo s l
 | []=>rfl
 | r::l=>by simp only[gM,Eo,Aup,XN s l];rfl
theorem uF(s:Aj)(l:List IRes):Abw (A8 s) l=II s l:=by
 cases l with
 | nil=>rfl
 | cons r l=>cases r <;> cases l <;> rfl
theorem Wr(s:Aj)(l:List IRes):Oa (A8 s) l=HL s l:=by simp only [Oa,HL,uF,XN];rfl
noncomputable def gN {α:Type} (m:Nat) (l:List AV):Nat->Tr->(Tr->Option α)->Option α :=
 jP (motive:=fun _=>Nat->Tr->(Tr->Option α)->Option α) (fun _ t k=>k t) (fun x _ ih i t k=>Yz m t i (MR x) fun t=>ih (PO i) t k) l
theorem bW{α:Type}{m:Nat}:∀ {l:List AV} {i:Nat} {t:Tr} {s:Aj} {k:Tr->Option α} {y:α},s.length=m->Nc t s->gN m l i t k=some y->∃ t' s',k t'=some y/\Nc t' s'/\s'.length=m/\(l=[]\/i+l.length<=m)/\∀ u,A8 s' u=if h:i<=u/\u-i<l.length then MR (l[u-i]'h.2) else A8 s u
 | [],i,t,s,k,y,hs,ht,h=>⟨t,s,h,ht,hs,.inl rfl,fun u=>by rw[dif_neg (by simp)]⟩
 | x::l,i,t,s,k,y,hs,ht,h=>by
  have hlt:i<m:=by
   have h':Yz m t i (MR x) (fun t=>gN m l (PO i) t k)=some y:=h;unfold Yz at h';cases hd:F6 i m
   ·rw[hd] at h';cases h'
   ·simpa [KL] using hd
  obtain⟨t1,h1,h2⟩:=Y0 hs ht h;obtain⟨t2,s2,h3,h4,h5,h7,h6⟩:=bW (l:=l) (i:=PO i) (by simp[hs]) h2 h1;refine⟨t2,s2,h3,h4,h5,.inr ?_,fun u => ?_⟩
  ·rcases h7 with rfl | h7
   ·simp;omega
   ·simp;omega
  rw[h6];by_cases hu:u=i
  ·subst hu;rw[dif_neg (by omega),dif_pos ⟨Ao _,by simp⟩,Du,if_pos ⟨rfl,by omega⟩];simp
  ·rw[Du,if_neg (fun e=>hu e.1.symm)];by_cases hc:PO i<=u/\u-PO i<l.length
   ·rw[dif_pos hc,dif_pos ⟨by omega,by simp;omega⟩];have:u-i=(u-PO i)+1:=by omega
    simp[this]
   ·rw[dif_neg hc,dif_neg (by simp;omega)]
theorem uG{s s':Aj}(hl:s.length=s'.length)(h:∀ u,A8 s u=A8 s' u):s=s':=by
 apply fB hl;intro i h1 h2;have:=h i;simp only[A8,Z,Ad h1,Ad h2,H7] at this;exact this
noncomputable def fF (T:Nat->Option IFunc) (M:BL) (n:Nat):BL :=
 S3 (motive:=fun _=>BL) (fun _ _=>none) (fun n ih f args =>
  match M f args with
  | some r=>some r
  | none=>match T f with
   | none=>none
   | some fn=>cond (Df args.length fn.params) (gN fn.slots args 0 .e fun t=>fC ih fn.slots n fn.body t fun ex t=>(match ex with
    | .exit _=>none
    | .norm=>(Oa t.get fn.res).bind fun x=>KN x some
    | .ret=>(Oa t.get fn.res).bind fun x=>KN x some)) none) n
theorem B9{T:Nat->Option IFunc}{M:BL}(hM:Qt T M):∀ n,Qt T (fF T M n):=by
 intro n;induction n with
 | zero=>intro f args r h;cases h
 | succ n ih =>
  intro f args r h;have h':(match M f args with
   | some r=>some r
   | none=>match T f with
    | none=>none
    | some fn=>cond (Df args.length fn.params) (gN fn.slots args 0 .e fun t=>fC (fF T M n) fn.slots n fn.body t fun ex t=>(match ex with
     | .exit _=>none
     | .norm=>(Oa t.get fn.res).bind fun x=>KN x some
     | .ret=>(Oa t.get fn.res).bind fun x=>KN x some)) none)=some r:=h
  split at h'
  ·rename_i r' hr;cases h';exact hM f args r hr
  ·split at h'
   ·cases h'
   ·rename_i fn hfn;cases hp:Df args.length fn.params
    ·rw[hp] at h';cases h'
    ·rw[hp] at h';simp only[cond_true] at h';have hpar:args.length=fn.params:=Do hp;obtain⟨t1,s1,h1,h2,h3,h9,h4⟩:=bW (s:=l fn.slots .dead) (by simp) (fun u=>by
      simp only[Aee,A8,Z,ML];split <;> rfl) h'
     obtain⟨ex,s2,t2,h5,h6,h7,h8⟩:=ADh n h3 h2 h1;have hle:args.length<=fn.slots:=by
      rcases h9 with rfl | h9
      ·simp
      ·omega
     have hinit:s1=HM fn args:=by
      refine uG (by rw[h3];simp[HM];omega) (fun u => ?_);rw[h4];simp only[AN,true_and,NQ];simp only[A8,HM,Z];by_cases hu:u<args.length
      ·rw[dif_pos hu,AZ (by simpa using hu)];simp[hu]
      ·rw[dif_neg hu,Bk (by simpa using hu)];simp only[ML];split <;> split <;> rfl
     subst hinit;have e2:t2.get=A8 s2:=funext h7;have hbody:=XF ih n h5;cases ex with
     | exit i=>cases h8
     | norm =>
      dsimp only at h8;rw[e2,Wr] at h8;simp only[QI] at h8;exact IB (hfn) hpar hbody (fun i e=>by cases e) (by simpa using h8)
     | ret =>
      dsimp only at h8;rw[e2,Wr] at h8;simp only[QI] at h8;exact IB (hfn) hpar hbody (fun i e=>by cases e) (by simpa using h8)
def Ws(f:AV->AV->Bool):List AV->List AV->Bool
 | [],[]=>true
 | x::xs,y::ys=>f x y&&Ws f xs ys
 | _,_=>false
def Ti:Nat->AV->AV->Bool
 | 0,_,_=>false
 | n+1,x,y=>match x,y with
  | .int k a,.int k' b=>isK k k'&&ZR a b
  | .bool a,.bool b=>a==b
  | .nil,.nil=>true
  | .undef,.undef=>true
  | .agg xs,.agg ys=>Ws (Ti n) xs ys
  | .tup xs,.tup ys=>Ws (Ti n) xs ys
  | .sl a xs,.sl b ys=>Df a b&&Ws (Ti n) xs ys
  | _,_=>false
theorem QJ{f:AV->AV->Bool}(h:∀ x y,f x y=true->x=y):∀ {xs ys:List AV},Ws f xs ys=true->xs=ys
 | [],[],_=>rfl
 | x::xs,y::ys,hh=>by
  simp only[Ws,Af] at hh;rw[h x y hh.1,QJ h hh.2]
 | [],_::_,hh=>by cases hh
 | _::_,[],hh=>by cases hh
theorem Aeg:∀ (n:Nat) (x y:AV),Ti n x y=true->x=y:=by
 intro n;induction n with
 | zero=>intro x y h;cases h
 | succ n ih =>
  intro x y h;cases x <;> cases y <;> simp only[Ti,Af,B_,Abu,Abt,decide_eq_true_eq,beq_iff_eq] at h
  ·rw[h.1,h.2]
  ·rw[h]
  ·rw[QJ ih h]
  ·rfl
  ·rw[Do h.1,QJ ih h.2]
  ·rw[QJ ih h]
  ·rfl
def ABv(f:Nat)(args:List AV)(r:AV)(M:BL):BL:=fun f' args'=>cond (Df f' f&&Ws (Ti 9) args' args) (some r) (M f' args')
theorem n{prog:Nat->Option IFunc}{f:Nat}{args:List AV}{r:AV}{M:BL}(h:Iq prog f args r)(hM:Qt prog M):Qt prog (ABv f args r M):=by
 intro f' args' r' h';unfold ABv at h';cases hc:(Df f' f&&Ws (Ti 9) args' args)
 ·rw[hc] at h';exact hM f' args' r' h'
 ·rw[hc] at h';cases h';rw[Af] at hc;rw[Do hc.1,QJ (Aeg 9) hc.2];exact h
def A4o:BL:=fun _ _=>none
theorem k(prog:Nat->Option IFunc):Qt prog A4o:=fun _ _ _ h=>by cases h
end Go.Ai
namespace Go.Proofs.YtajompaehjkgkaaGreat
open Go.Ai
set_option maxRecDepth 100000
open Go.Proofs.Tryz renaming prog->Mv
noncomputable section
theorem A4p:Mv.follows .mixedOrders=true:=by kernel_rfl
def ABw:List (Nat × Fx):=[(10,A8i),(18,Yx18),(19,A8k),(20,A8m),(25,Yx25),(27,A8q),(33,A8r),(36,Yx36),(37,A8v),(38,A8w),(40,Yx40),(42,A8y),(44,A9a),(45,A9b),(46,A9c),(47,A9e),(48,Yx48),(49,Yx49),(51,A9j),(52,Yx52),(53,A9l),(55,A9n),(56,A9p),(57,A9q),(62,Yx62),(63,A9v),(64,Yx64),(65,A9z),(66,AAb),(67,AAd),(68,AAe),(69,AAg),(70,AAh),(71,AAi),(72,AAk),(73,AAl),(74,AAm),(75,Yx75),(76,AAp),(77,Yx77),(79,AAr),(80,AAs),(81,Yx81),(82,AAv),(83,AAw),(84,AAx),(86,AAz),(87,Yx87),(88,ABc),(89,ABe),(91,Yx91),(95,ABh),(96,ABi),(97,ABl),(98,Yx98),(99,ABq),(100,Apg),(101,Aph),(102,Api),(103,Apj),(104,Apk),(105,Apl),(106,Apm),(108,App),(110,Apq),(111,Apt),(112,Apu),(113,Apw),(114,Apx),(115,Apy),(116,Apz),(117,Aqb),(118,Aqd),(119,Aqf),(120,Aqh),(121,Aqi),(122,Aqk),(123,Aqm),(124,Aqo),(125,Aqp),(126,Aqs),(127,Aqt),(128,Aqu),(129,Aqv),(130,Aqy),(131,Aqz),(132,Ara),(133,Arb),(134,Ard),(135,Are),(136,Arf),(137,Arh),(138,Arj),(139,Arl),(143,Arm),(144,Arn),(145,Arp),(146,Arr),(147,Art),(148,Aru),(149,Arv),(150,Arw),(151,Arx),(152,Ary),(153,Arz),(154,Asb),(155,Asc),(156,Asd),(157,Asf),(158,Ash),(159,Asj),(160,Asl),(161,Asn),(162,Asq),(163,Ass),(164,Ast),(165,Asv),(166,Asw),(167,Asx),(168,Asy),(169,Ata),(177,Atd),(178,Ate),(179,Atf),(180,Ath),(181,Ati),(182,Atl),(183,Atn),(184,Atp),(185,Atq),(186,Att),(187,Atv),(188,Atx),(189,Aua)]
def DK(f:Nat):Option IFunc:=(lk ABw f).map (iF Mv)
theorem Auq:ABw.all (tOk Mv)=true:=by kernel_rfl
theorem A4q:∀ f ifn,DK f=some ifn->∃ fn roots,Mv.funcs[f]? = some fn/\bC Mv roots fn ifn=true:=Aos Auq
abbrev RQ:=Iq DK
abbrev Ap:=CE DK
theorem OO(x:Fx){f:Nat}{args:List AV}{r:AV}(s:Aj)(h:CE DK (iF Mv x).body (HM (iF Mv x) args) .ret s)(hf:DK f=some (iF Mv x):=by exact rfl)(hl:args.length=x.params:=by exact rfl)(hr:HL s x.res=some r:=by exact rfl):Iq DK f args r:=Mw hf hl h (by nofun) hr
end
end Go.Proofs.YtajompaehjkgkaaGreat
namespace Go.Ai
open Decidable renaming decide->A
open Go.Ai.AV renaming int->F
open Int renaming add_zero->BJ,le_refl->Dg,mul_add->CT,mul_assoc->AK,mul_comm->AE,mul_zero->AG,natAbs_mul->BS,natCast_pow->Dp,ofNat_lt->Ans,pow_pos->G2,pow_succ->A7,pow_zero->Dj
open List renaming cons_append->I_,drop->g,getD_cons_succ->Ix,getD_cons_zero->Kt,getD_eq_getElem?_getD->Z,getElem?_drop->Bu,getElem?_eq_getElem->Ad,getElem?_map->Cs,getElem?_take_of_lt->B8,length_cons->B0,length_eq_zero_iff->X2,length_singleton->PW,map_cons->Cx,map_set->Qc,mem_cons->BD,mem_cons_of_mem->AT,mem_cons_self->AO,mem_of_getElem?->V_,mem_of_mem_take->BT,mem_or_eq_of_mem_set->A3p,replicate->l,replicate_succ->GL,set_cons_succ->AEi,set_cons_zero->AEh,set_eq_take_append_cons_drop->Qb,take_append_drop->JR
open Nat renaming add_sub_cancel->Ie,add_zero->EJ,le_refl->Ao,lt_of_lt_of_le->CG,lt_or_ge->Ct,mod_lt->GO,mul_one->FR,pow_add->De,pow_le_pow_right->BM,pow_succ->Gx,sub_self->Wh
def lm(xs:LI):List AV:=xs.map (F .u32)
def A_(xs:LI):Prop:=∀ x∈xs,0<=x/\x<4294967296
def Ab:LI->Int
 | []=>0
 | x::xs=>x+4294967296*Ab xs
theorem QK(xs:LI):(lm xs).length=xs.length:=by simp [lm]
theorem lY{xs:LI}{i:Nat}(h:i<xs.length):(lm xs)[i]? = some (.int .u32 (xs.getD i 0)):=by
 simp[lm,Cs,Ad h,Z]
theorem E6{xs:LI}{i:Nat}(h:i<xs.length):Bj (g (i*1) (lm xs)) 0 1 true=some (.int .u32 (xs.getD i 0)):=by
 simp only[Bj,if_true,FR,Bu,EJ];exact lY h
theorem Y1{xs:LI}{i:Nat}(h:i<xs.length):Bj (lm xs) (i*1) 1 true=some (.int .u32 (xs.getD i 0)):=by
 simp only[Bj,if_true,FR];exact lY h
theorem J2{xs:LI}{i:Nat}{v:Int}(h:i<xs.length):C5 (lm xs) (i*1) [.int .u32 v]=some (lm (xs.set i v)):=by
 unfold C5;rw[if_pos (by simp[QK];omega)];congr 1;simp only[lm,Qc,FR,PW];rw[Qb,if_pos (by simpa using h)];simp
theorem FE(n:Nat):CD [.int .u32 0] n=lm (l n 0):=by
 induction n with
 | zero=>rfl
 | succ n ih=>simp only[CD,ih,lm,GL,Cx];rfl
theorem AL{xs:LI}(h:A_ xs)(i:Nat):0<=xs.getD i 0/\xs.getD i 0<4294967296:=by
 rw[Z];cases hx:xs[i]? with
 | none=>simp
 | some x=>exact h x (V_ hx)
theorem Bi{xs:LI}(h:A_ xs):0<=Ab xs:=by
 induction xs with
 | nil=>exact Dg _
 | cons x xs ih =>
  have h1:=h x AO;have h2:=ih fun y hy=>h y (AT _ hy);simp only[Ab];omega
theorem GZ(xs ys:LI):Ab (xs++ys)=Ab xs+4294967296^xs.length*Ab ys:=by
 induction xs with
 | nil=>simp[Ab]
 | cons x xs ih =>
  simp only[I_,Ab,ih,B0,A7];rw[CT,<- Int.add_assoc];congr 1;rw[<- AK,AE 4294967296 (4294967296^xs.length)]
theorem Fe(n:Nat):Ab (l n 0)=0:=by
 induction n with
 | zero=>rfl
 | succ n ih=>simp[GL,Ab,ih]
theorem Eb{xs:LI}(h:A_ xs):Ab xs<4294967296^xs.length:=by
 induction xs with
 | nil=>simp[Ab]
 | cons x xs ih =>
  have h1:=h x AO;have h2:=ih fun y hy=>h y (AT _ hy);simp only[Ab,B0,A7];omega
theorem Ej(xs:LI)(i:Nat)(v:Int)(h:i<xs.length):Ab (xs.set i v)=Ab xs+4294967296^i*(v-xs.getD i 0):=by
 induction xs generalizing i with
 | nil=>simp at h
 | cons x xs ih =>
  cases i with
  | zero=>simp only[AEh,Ab,Dj,Kt];omega
  | succ i =>
   simp only[AEi,Ab,Ix];rw[ih i (by simpa using h),A7,CT,<- AK,AE 4294967296 (4294967296^i)];omega
theorem CF{xs:LI}(h:A_ xs){i:Nat}{v:Int}(hv:0<=v/\v<4294967296):A_ (xs.set i v):=by
 intro x hx;rcases A3p hx with h1 | h1
 ·exact h x h1
 ·rw[h1];exact hv
def b(xs:LI):Nat->Nat
 | 0=>0
 | n+1=>if xs.getD n 0=0 then b xs n else n+1
def Y(xs:LI):LI:=xs.take (b xs xs.length)
theorem KO(xs:LI)(n:Nat):b xs n<=n:=by
 induction n with
 | zero=>exact Ao _
 | succ n ih=>simp only[b];split <;> omega
theorem bX(xs:LI)(n:Nat):b xs n=0\/xs.getD (b xs n-1) 0 ≠ 0:=by
 induction n with
 | zero=>exact .inl rfl
 | succ n ih =>
  simp only[b];split
  ·exact ih
  ·exact .inr (by simpa)
theorem Tj(xs:LI)(n:Nat):∀ i,b xs n<=i->i<n->xs.getD i 0=0:=by
 induction n with
 | zero=>intro i _ h;omega
 | succ n ih =>
  intro i h1 h2;simp only[b] at h1;split at h1
  ·rename_i h0;by_cases hi:i=n
   ·subst hi;exact h0
   ·exact ih i h1 (by omega)
  ·omega
def Ga(xs:LI):Prop:=A_ xs/\(xs=[]\/xs.getD (xs.length-1) 0 ≠ 0)
theorem Gg{xs:LI}(h:A_ xs):Ga (Y xs):=by
 have hl:=KO xs xs.length;have hlen:(Y xs).length=b xs xs.length:=by simp[Y];omega
 refine⟨fun x hx=>h x (BT hx),?_⟩;by_cases hz:b xs xs.length=0
 ·left;simp[Y,hz]
 ·right;have h0:=(bX xs xs.length).resolve_left hz;rw[hlen,Z,Y,B8 (by omega),<- Z];exact h0
theorem Xb{xs:LI}(h:∀ i,i<xs.length->xs.getD i 0=0):Ab xs=0:=by
 induction xs with
 | nil=>rfl
 | cons x xs ih =>
  have h0:=h 0 (by simp);simp only[Kt] at h0;subst h0;simp only[Ab];rw[ih fun i hi=>by simpa using h (i+1) (by simpa using hi)];rfl
theorem EC(xs:LI):Ab (Y xs)=Ab xs:=by
 have e:Ab xs=Ab (xs.take (b xs xs.length)++xs.drop (b xs xs.length)):=by rw[JR]
 rw[e,GZ];have:Ab (xs.drop (b xs xs.length))=0:=by
  apply Xb;intro i hi;have hi':b xs xs.length+i<xs.length:=by simp at hi;omega
  have:=Tj xs xs.length (b xs xs.length+i) (by omega) hi';rw[Z,Bu,<- Z];exact this
 rw[this,AG,BJ];rfl
theorem Nd{x:Int}{xs:LI}(h:Ga (x::xs)):Ga xs:=by
 refine⟨fun y hy=>h.1 y (AT _ hy),?_⟩;cases xs with
 | nil=>exact .inl rfl
 | cons y ys =>
  right;rcases h.2 with h0 | h0
  ·cases h0
  ·simpa using h0
theorem JX:∀ {xs:LI},Ga xs->xs ≠ []->0<Ab xs
 | [],_,h=>absurd rfl h
 | [x],h,_=>by
  have h1:=h.1 x AO;rcases h.2 with h0 | h0
  ·cases h0
  ·simp only[PW,Wh,Kt] at h0;simp only[Ab];omega
 | x::y::ys,h,_=>by
  have h1:=h.1 x AO;have h2:=JX (Nd h) (by simp);simp only[Ab] at h2 |-;omega
theorem Vr:∀ {xs ys:LI},Ga xs->Ga ys->Ab xs=Ab ys->xs=ys
 | [],[],_,_,_=>rfl
 | [],y::ys,_,h2,h=>by
  have:=JX h2 (by simp);rw[<- h] at this;simp[Ab] at this
 | x::xs,[],h1,_,h=>by
  have:=JX h1 (by simp);rw[h] at this;simp[Ab] at this
 | x::xs,y::ys,h1,h2,h=>by
  have a1:=h1.1 x AO;have a2:=h2.1 y AO;simp only[Ab] at h;have e1:x=y:=by omega
  have e2:Ab xs=Ab ys:=by omega
  rw[e1,Vr (Nd h1) (Nd h2) e2]
def O':Nat->Nat->LI
 | 0,_=>[]
 | f+1,n=>if n=0 then [] else ((n % 4294967296:Nat):Int)::O' f (n / 4294967296)
def M(n:Nat):LI:=O' (n+1) n
theorem Tk:∀ (f n:Nat),n<f->Ga (O' f n)/\Ab (O' f n)=n/\(O' f n=[]↔n=0):=by
 intro f;induction f with
 | zero=>intro n h;omega
 | succ f ih =>
  intro n h;simp only[O'];by_cases h0:n=0
  ·subst h0;simp[Ab,Ga,A_]
  ·rw[if_neg h0];obtain⟨c1,c2,c3⟩:=ih (n / 4294967296) (by omega);have hm:=GO n (show 0<4294967296 by omega);refine⟨⟨?_,?_⟩,?_,by simp[h0]⟩
   ·intro x hx;rcases BD.1 hx with rfl | hx
    ·omega
    ·exact c1.1 x hx
   ·right;cases hl:O' f (n / 4294967296) with
    | nil =>
     have:=c3.1 hl;simp;omega
    | cons y ys =>
     rcases c1.2 with h1 | h1
     ·rw[hl] at h1;cases h1
     ·rw[hl] at h1;simpa using h1
   ·simp only[Ab,c2];omega
theorem Cv(n:Nat):Ga (M n):=(Tk _ n (by omega)).1
theorem C9(n:Nat):Ab (M n)=n:=(Tk _ n (by omega)).2.1
theorem JY(n:Nat):M n=[]↔n=0:=(Tk _ n (by omega)).2.2
theorem JZ{xs:LI}(h:A_ xs):Y xs=M (Ab xs).toNat:=by
 apply Vr (Gg h) (Cv _);rw[EC,C9];have:=Bi h;omega
def Ag(n:Int):AV := .agg [.bool (A (n<0)),.sl (M n.natAbs).length (lm (M n.natAbs))]
def CR(n:Int):AV := .frs (.st (A (n<0))) 1 (M n.natAbs).length (lm (M n.natAbs))
theorem CH(n:Nat):(0:Int)<4294967296^n:=G2 (by decide)
theorem RL:∀ {xs:LI},Ga xs->xs ≠ []->(4294967296:Int)^(xs.length-1)<=Ab xs
 | [],_,h=>absurd rfl h
 | [x],h,_=>by
  have:=JX h (by simp);simp only[PW,Wh,Dj];omega
 | x::y::ys,h,_=>by
  have h1:=h.1 x AO;have h2:=RL (Nd h) (by simp);simp only[B0,Ie] at h2 |-;rw[A7];show _<=x+4294967296*Ab (y::ys);omega
theorem         GP {a b : Nat} (h : a <= b) : (4294967296 : Int) ^ a <= 4294967296 ^ b := by
  induction b with
  | zero => have : a = 0 := by omega
            subst this; exact          Dg _
  | succ b ih =>
    by_cases hh : a = b + 1
    · subst hh; exact          Dg _
    · have := ih (by omega)
      have hp :=        CH b
      rw [          A7]; omega
theorem Mx{xs:LI}(h:Ga xs){k:Nat}(hv:Ab xs<4294967296^k):xs.length<=k:=by
 by_cases hn:xs=[]
 ·subst hn;simp
 ·have h1:=RL h hn;rcases Ct k xs.length with h2 | h2
  ·have:=GP (show k<=xs.length-1 by omega);omega
  ·exact h2
theorem O_{n k:Nat}(h:(n:Int)<4294967296^k):(M n).length<=k:=Mx (Cv n) (by rw [C9];exact h)
def Bv(k:Nat)(n:Int):Prop:=n.natAbs<4294967296^k
theorem Bv.len{k:Nat}{n:Int}(h:Bv k n):(M n.natAbs).length<=k:=by
 apply O_;have h1:(n.natAbs:Int)<((4294967296^k:Nat):Int):=Ans.mpr h;rwa [Dp] at h1
theorem Bv.mono{j k:Nat}{n:Int}(h:Bv j n)(hk:j<=k):Bv k n:=CG h (BM (by decide) hk)
theorem Bv.mul{j k:Nat}{a b:Int}(ha:Bv j a)(hb:Bv k b):Bv (j+k) (a*b):=by
 unfold Bv at *
 rw[BS,De];exact Nat.mul_lt_mul'' ha hb
theorem Bv.add{j:Nat}{a b:Int}(ha:Bv j a)(hb:Bv j b):Bv (j+1) (a+b):=by
 unfold Bv at *
 rw[Gx];have:=Int.natAbs_add_le a b;omega
theorem Bv.neg{j:Nat}{a:Int}(ha:Bv j a):Bv j (-a):=by
 unfold Bv at *
 rwa [Int.natAbs_neg]
theorem Ob{n:Int}(h : -9223372036854775808<=n/\n<=9223372036854775807):Bv 2 n:=by
 unfold Bv;have:(4294967296:Nat)^2=18446744073709551616:=by decide
 omega
def rv(neg:Bool)(xs:LI):Int:=if neg then -Ab xs else Ab xs
theorem gO{neg:Bool}{xs:LI}(hu:A_ xs):(rv neg xs).natAbs=(Ab xs).toNat:=by
 have:=Bi hu;unfold rv;cases neg <;> simp <;> omega
theorem RM{neg:Bool}{xs:LI}(hu:A_ xs):Y xs=M (rv neg xs).natAbs:=by
 rw[gO hu,JZ hu]
theorem FB(n:Int):rv (A (n<0)) (M n.natAbs)=n:=by
 unfold rv;rw[C9];by_cases h:n<0 <;> simp[h] <;> omega
theorem D4(n:Nat):(M n).length=0↔n=0:=by rw [X2,JY]
theorem Abx{neg:Bool}{xs:LI}(hu:A_ xs):(neg&&decide (0<(M (rv neg xs).natAbs).length))=decide (rv neg xs<0):=by
 have h1:=D4 (rv neg xs).natAbs;have h2:=Bi hu;have h3:=gO (neg:=neg) hu;unfold rv at *
 cases neg
 ·simp;omega
 ·simp only[Bool.true_and,if_true] at *
  rw[decide_eq_decide];omega
theorem BA(xs:LI):(Y xs).length<=xs.length:=by simp [Y];omega
theorem Fg{neg:Bool}{xs:LI}(hu:A_ xs):(M (rv neg xs).natAbs).length<=xs.length:=by rw [<- RM hu];exact BA xs
theorem Y2{neg:Bool}{xs:LI}(hu:A_ xs):Bv xs.length (rv neg xs):=by
 unfold Bv;rw[gO hu];have h1:=Bi hu;have h2:=Eb hu;have h3:((4294967296^xs.length:Nat):Int)=(4294967296:Int)^xs.length:=by rw[Dp];rfl
 omega
theorem BV(n:Nat):A_ (M n):=(Cv n).1
def vl(xs : List Int) : Reg := .val (.sl xs.length (lm xs))
def u(n : Int) : Reg := .val (.int .i64 n)
end Go.Ai
namespace Go.Proofs.YtajompaehjkgkaaGreat
open Go.Ai
set_option maxRecDepth 100000
open Bool renaming false_and->PG,false_eq_true->B_
open Decidable renaming decide->A
open Go.Ai.AV renaming agg->o,bool->B,fresh->P,int->F,sl->H
open Go.Ai.Reg renaming own->X,val->C
open Go.IntKind renaming bits->An,i64->O,u32->Ae,u64->U,wrap->I
open Go.Proofs.Tryz renaming prog->Mv
open Int renaming fdiv->d,fdiv_eq_ediv_of_nonneg->q,mul_add->CT,mul_le_mul->EO,mul_le_mul_of_nonneg_left->Al,mul_nonneg->AA,mul_one->Dh,natAbs->E,natCast_nonneg->I8,pow_succ->A7,sub_zero->F8,toNat->D,toNat_natCast->R,zero_add->Ed
open List renaming drop->g,drop_eq_getElem_cons->B2,drop_zero->Da,eq_of_mem_replicate->Xk,getD_eq_getElem?_getD->Z,getElem?_eq_getElem->Ad,getElem?_replicate->ML,getElem?_set_ne->F9,length->Bl,length_eq_zero_iff->X2,map_take->PZ,mem_cons->BD,mem_of_mem_take->BT,not_mem_nil->WZ,replicate->l,take->Bx,take_length->DP
open Nat renaming add_assoc->DW,add_zero->EJ,le_refl->Ao,le_trans->Bm,sub_zero->NQ
noncomputable section
theorem Iq.to{prog:Nat->Option IFunc}{f:Nat}{args:List AV}{r r':AV}(h:Iq prog f args r)(e:r=r'):Iq prog f args r':=e ▸ h
theorem Bg{n:Int}(h1 : -9223372036854775808<=n)(h2:n<=9223372036854775807):I O n=n:=by
 simp only[I,An,IntKind.signed];simp;omega
theorem BF(n:Int):I U n=n % 18446744073709551616:=by
 simp only[I,An,IntKind.signed,PG,B_,if_false];omega
theorem Es(n:Int):I Ae n=n % 4294967296:=by
 simp only[I,An,IntKind.signed,PG,B_,if_false];omega
def TB0:C8:=[]
theorem FP:Co DK TB0:=Co.nil _
def lP:ICode:=c ABq 94 56
def Wt(N:Nat)(cs:List AV)(n:Int):Aj:=(C (H N cs)::(W 1 (X 1 0 []::(C (F O n)::(W 18 [])))))
theorem A4r(N:Nat)(cs:List AV)(n x:Int)(c1:A (n>0)=true)(c2:(x==0)=true)(n1:0<=(I O (n-1))/\(I O (n-1))<(N:Int))(n2:Bj (g (D (I O (n-1))*1) cs) 0 1 true=some (F Ae x)):Ap lP (Wt N cs n) .norm (Wt N cs (I O (n-1))):=G FP 300 [bT,.v (F Ae x),bT] Mu (JS c1 n1 n2 c2) (by kernel_rfl)
theorem A4s(N:Nat)(cs:List AV)(n x:Int)(c1:A (n>0)=true)(c2:(x==0)=false)(n1:0<=(I O (n-1))/\(I O (n-1))<(N:Int))(n2:Bj (g (D (I O (n-1))*1) cs) 0 1 true=some (F Ae x)):Ap lP (Wt N cs n) (.exit 0) (Wt N cs n):=G FP 300 [bT,.v (F Ae x),bF] Mu (JS c1 n1 n2 c2) (by kernel_rfl)
theorem A4t(N:Nat)(cs:List AV)(n:Int)(c1:A (n>0)=false):Ap lP (Wt N cs n) (.exit 0) (Wt N cs n):=G FP 300 [bF,bF] Mu (J0 c1 Fc) (by kernel_rfl)
theorem Aur(xs:LI)(hN:xs.length<=35184372088832):∀ m,m<=xs.length->Ap (.loop lP) (Wt xs.length (lm xs) (m:Int)) (.exit 0) (Wt xs.length (lm xs) ((b xs m:Nat):Int)):=by
 intro m;induction m with
 | zero =>
  intro _;exact Ah (A4t xs.length (lm xs) ((0:Nat):Int) (by simp))
 | succ m ih =>
  intro hm;have e1:I O (((m+1:Nat):Int)-1)=(m:Int):=by rw[Bg (by omega) (by omega)];omega
  have hx:=E6 (xs:=xs) (i:=m) (by omega);simp only[b];by_cases h0:xs.getD m 0=0
  ·rw[if_pos h0];have h1:=A4r xs.length (lm xs) ((m+1:Nat):Int) (xs.getD m 0) (by simp) (by rw[h0];rfl) (by rw[e1];omega) (by rw[e1,R];exact hx);rw[e1] at h1;exact CE.loop h1 (ih (by omega))
  ·rw[if_neg h0];exact Ah (A4s xs.length (lm xs) ((m+1:Nat):Int) (xs.getD m 0) (by simp) (by simpa using h0) (by rw[e1];omega) (by rw[e1,R];exact hx))
theorem E7{xs:LI}(hN:xs.length<=35184372088832):RQ 99 [sL lm xs] (P 1 (Y xs).length (lm (Y xs))):=by
 have hle:=KO xs xs.length;have hlen:(Y xs).length=b xs xs.length:=by simp[Y];omega
 have hl:=Aur xs hN xs.length (Ao _);have hsc:0<=(D ((b xs xs.length:Nat):Int))/\(D ((b xs xs.length:Nat):Int))<=xs.length/\xs.length<=xs.length/\(false=true->true=true):=by rw[R];exact⟨by omega,hle,Ao _,fun h=>by cases h⟩
 have htk:Bx ((D ((b xs xs.length:Nat):Int)-0)*1) (g (0*1) (lm xs))=lm (Y xs):=by
  rw[R];simp[lm,Y,PZ]
 have hal:Bl (Bx ((D ((b xs xs.length:Nat):Int)-0)*1) (g (0*1) (lm xs)))=(D ((b xs xs.length:Nat):Int)-0)*1:=by
  rw[htk,QK,hlen,R];omega
 have han:(D ((b xs xs.length:Nat):Int)-0)<=35184372088832:=by rw[R];omega
 have:=Mw (prog:=DK) (f:=99) (args:=[sL lm xs]) (r := P 1 (D ((b xs xs.length:Nat):Int)-0) (Bx ((D ((b xs xs.length:Nat):Int)-0)*1) (g (0*1) (lm xs)))) (fn:=iF Mv ABq) (s:=(C (sL lm xs)::(W 1 (X 1 ((D ((b xs xs.length:Nat):Int))-0) (Bx (((D ((b xs xs.length:Nat):Int))-0)*1) (g (0*1) (lm xs)))::(C (F O ((b xs xs.length:Nat):Int))::(W 14 (C (sL lm xs)::(C (F O ((b xs xs.length:Nat):Int))::(C (H ((D ((b xs xs.length:Nat):Int))-0) (Bx (((D ((b xs xs.length:Nat):Int))-0)*1) (g (0*1) (lm xs))))::(W 1 [])))))))))) (ex := .ret) rfl rfl
  (CE.seq (Er (t:=(C (sL lm xs)::(W 1 (X 1 0 []::(W 19 []))))) (ex := .norm) (ps:=[]) FP 300 [] [0,2] (by kernel_rfl) trivial)
  (CE.seq (Er (t:=(C (sL lm xs)::(W 1 (X 1 0 []::(C (F O (xs.length:Int))::(W 18 [])))))) (ex := .norm) (ps:=[]) FP 300 [] Mu (by kernel_rfl) trivial)
  (CE.seq (CE.block hl)
  (Er (t:=(C (sL lm xs)::(W 1 (X 1 ((D ((b xs xs.length:Nat):Int))-0) (Bx (((D ((b xs xs.length:Nat):Int))-0)*1) (g (0*1) (lm xs)))::(C (F O ((b xs xs.length:Nat):Int))::(W 14 (C (sL lm xs)::(C (F O ((b xs xs.length:Nat):Int))::(C (H ((D ((b xs xs.length:Nat):Int))-0) (Bx (((D ((b xs xs.length:Nat):Int))-0)*1) (g (0*1) (lm xs))))::(W 1 [])))))))))) (ex := .ret) (ps:=[0<=((b xs xs.length:Nat):Int),0<=(D ((b xs xs.length:Nat):Int))/\(D ((b xs xs.length:Nat):Int))<=xs.length/\xs.length<=xs.length/\(false=true->true=true),Bl (Bx (((D ((b xs xs.length:Nat):Int))-0)*1) (g (0*1) (lm xs)))=((D ((b xs xs.length:Nat):Int))-0)*1,((D ((b xs xs.length:Nat):Int))-0)<=35184372088832]) FP 300 [] [0,2,3,18,19,20] (by kernel_rfl) ⟨(I8 _),hsc,hal,han,trivial⟩)))) (by nofun) rfl
 (first|rw[htk,R,NQ,<- hlen] at this|(rw[htk,R,NQ] at this;unfold sL at this;rw[<- hlen] at this));exact this
def Y3(neg:Bool)(xs:LI):AV :=
 match neg with
 | true=>(.frs (.st (A ((((Y xs).length:Nat):Int)>0))) 1 ((Y xs).length) (lm (Y xs)))
 | false=>(.frs (.st false) 1 ((Y xs).length) (lm (Y xs)))
theorem A4u(neg:Bool)(xs:LI)(hN:xs.length<=1048576):RQ 98 [B neg,sL lm xs] (Y3 neg xs):=by
 unfold Y3;cases neg
 ·exact Jz (r := .frs (.st false) 1 ((Y xs).length) (lm (Y xs))) (ps:=[RQ 99 [sL lm xs] (P 1 ((Y xs).length) (lm (Y xs))),false=false]) FP rfl 300 rfl [.r (P 1 ((Y xs).length) (lm (Y xs))),bF] (by kernel_rfl) ⟨(E7 (Bm hN (by decide))),rfl,trivial⟩
 ·exact Jz (r := .frs (.st (A ((((Y xs).length:Nat):Int)>0))) 1 ((Y xs).length) (lm (Y xs))) (ps:=[RQ 99 [sL lm xs] (P 1 ((Y xs).length) (lm (Y xs))),true=true]) FP rfl 300 rfl [.r (P 1 ((Y xs).length) (lm (Y xs))),bT] (by kernel_rfl) ⟨(E7 (Bm hN (by decide))),rfl,trivial⟩
theorem Tl{neg:Bool}{xs:LI}(hu:A_ xs)(hN:xs.length<=1048576):RQ 98 [B neg,sL lm xs] (CR (if neg then -Ab xs else Ab xs)):=by
 have h:=A4u neg xs hN;have e:Y3 neg xs=CR (if neg then -Ab xs else Ab xs):=by
  have hv:=Bi hu;have ht:=JZ hu;have hp:(Y xs).length=0↔Ab xs=0:=by
   rw[ht,X2,JY];omega
  cases neg with
  | false =>
   have e1:(Ab xs).natAbs=(Ab xs).toNat:=by omega
   have e2:decide (Ab xs<0)=false:=by simp;omega
   simp only[Y3,CR,B_,if_false,e1,e2,ht]
  | true =>
   have e1:(-Ab xs).natAbs=(Ab xs).toNat:=by omega
   have e2:decide ((((Y xs).length:Nat):Int)>0)=decide (-Ab xs<0):=by
    rw[decide_eq_decide];omega
   simp only[Y3,CR,if_true,e1,e2,<- ht]
 rw[<- e];exact h
theorem Oc{u:Int}(h:0<=u/\u<18446744073709551616):A_ [I Ae u,I Ae (d u (2^(min (D 32) (An .u64))))]/\Ab [I Ae u,I Ae (d u (2^(min (D 32) (An .u64))))]=u:=by
 have e:d u (2^(min (D 32) (An .u64)))=u / 4294967296:=by
  show d u 4294967296=_;rw[q _ (by omega)]
 rw[e,Es,Es];refine⟨fun x hx => ?_,?_⟩
 ·simp only[BD,WZ,or_false] at hx;rcases hx with rfl | rfl <;> omega
 ·simp only[Ab];omega
theorem Aeh(n:Int)(c1:decide (n<0)=true)(hcall:RQ 98 [B (A (n<0)),H 2 [F Ae (I Ae (I U (0-(I U n)))),F Ae (I Ae (d (I U (0-(I U n))) (2^(min (D 32) (An .u64)))))]] (.frs (.st (A (n<0))) 1 ((M (E n)).length) (lm (M (E n))))):RQ 49 [F O n] (o [B (A (n<0)),H ((M (E n)).length) (lm (M (E n)))]):=Jz (ps:=[(A (n<0))=true,¬ (32:Int)<0,RQ 98 [B (A (n<0)),H 2 [F Ae (I Ae (I U (0-(I U n)))),F Ae (I Ae (d (I U (0-(I U n))) (2^(min (D 32) (An .u64)))))]] (.frs (.st (A (n<0))) 1 ((M (E n)).length) (lm (M (E n))))]) FP rfl 300 rfl [bT,.r (.frs (.st (A (n<0))) 1 ((M (E n)).length) (lm (M (E n))))] (by kernel_rfl) ⟨c1,(by decide),hcall,trivial⟩
theorem Aei(n:Int)(c1:decide (n<0)=false)(hcall:RQ 98 [B (A (n<0)),H 2 [F Ae (I Ae (I U n)),F Ae (I Ae (d (I U n) (2^(min (D 32) (An .u64)))))]] (.frs (.st (A (n<0))) 1 ((M (E n)).length) (lm (M (E n))))):RQ 49 [F O n] (o [B (A (n<0)),H ((M (E n)).length) (lm (M (E n)))]):=Jz (ps:=[(A (n<0))=false,¬ (32:Int)<0,RQ 98 [B (A (n<0)),H 2 [F Ae (I Ae (I U n)),F Ae (I Ae (d (I U n) (2^(min (D 32) (An .u64)))))]] (.frs (.st (A (n<0))) 1 ((M (E n)).length) (lm (M (E n))))]) FP rfl 300 rfl [bF,.r (.frs (.st (A (n<0))) 1 ((M (E n)).length) (lm (M (E n))))] (by kernel_rfl) ⟨c1,(by decide),hcall,trivial⟩
theorem gP{n:Int}(hn : -9223372036854775808<=n/\n<=9223372036854775807):RQ 49 [F O n] (Ag n):=by
 cases c1:decide (n<0) with
 | true =>
  have h0:n<0:=by simpa using c1
  have eu:I U (0-I U n) = -n:=by rw[BF,BF];omega
  obtain⟨k1,k2⟩:=Oc (u:=I U (0-I U n)) (by rw[eu];omega);refine Aeh n c1 ?_;have:=Tl (neg:=true) k1 (by simp);have e:(if true=true then -Ab [I Ae (I U (0-I U n)),I Ae (d (I U (0-I U n)) (2^(min (D 32) (An .u64))))] else Ab [I Ae (I U (0-I U n)),I Ae (d (I U (0-I U n)) (2^(min (D 32) (An .u64))))])=n:=by
   rw[k2,if_pos rfl,eu];omega
  rw[e,CR,c1] at this;rw[c1];exact this
 | false =>
  have h0:¬ n<0:=by simpa using c1
  have eu:I U n=n:=by rw[BF];omega
  obtain⟨k1,k2⟩:=Oc (u:=I U n) (by rw[eu];omega);refine Aei n c1 ?_;have:=Tl (neg:=false) k1 (by simp);have e:(if false=true then -Ab [I Ae (I U n),I Ae (d (I U n) (2^(min (D 32) (An .u64))))] else Ab [I Ae (I U n),I Ae (d (I U n) (2^(min (D 32) (An .u64))))])=n:=by
   rw[if_neg (by decide),k2,eu]
  rw[e,CR,c1] at this;rw[c1];exact this
def TBA:C8:=TB0
theorem DO:Co DK TBA:=FP
def OP:ICode:=c Ard 93 116
def Iy(N:Nat)(cs:List AV)(M:Nat)(ds:List AV)(v i:Int):Aj:=(C (H N cs)::(C (H M ds)::(W 2 (C (F O v)::(C (F O i)::(W 35 []))))))
theorem Aus(N:Nat)(cs:List AV)(M:Nat)(ds:List AV)(v i x y:Int)(c1:A (i>=0)=true)(c2:(x != y)=true)(c3:A (x<y)=true)(n1:0<=i/\i<(N:Int))(n2:Bj (g (D i*1) cs) 0 1 true=some (F Ae x))(n3:0<=i/\i<(M:Int))(n4:Bj (g (D i*1) ds) 0 1 true=some (F Ae y))(n5:0<=i/\i<(N:Int))(n6:Bj (g (D i*1) cs) 0 1 true=some (F Ae x))(n7:0<=i/\i<(M:Int))(n8:Bj (g (D i*1) ds) 0 1 true=some (F Ae y)):Ap OP (Iy N cs M ds v i) .ret (Iy N cs M ds (-1) i):=G DO 300 [bT,.v (F Ae x),.v (F Ae y),bT,.v (F Ae x),.v (F Ae y),bT] NB (NF c1 n1 n2 n3 n4 c2 n5 n6 n7 n8 c3) (by kernel_rfl)
theorem Aut(N:Nat)(cs:List AV)(M:Nat)(ds:List AV)(v i x y:Int)(c1:A (i>=0)=true)(c2:(x != y)=true)(c3:A (x<y)=false)(n1:0<=i/\i<(N:Int))(n2:Bj (g (D i*1) cs) 0 1 true=some (F Ae x))(n3:0<=i/\i<(M:Int))(n4:Bj (g (D i*1) ds) 0 1 true=some (F Ae y))(n5:0<=i/\i<(N:Int))(n6:Bj (g (D i*1) cs) 0 1 true=some (F Ae x))(n7:0<=i/\i<(M:Int))(n8:Bj (g (D i*1) ds) 0 1 true=some (F Ae y)):Ap OP (Iy N cs M ds v i) .ret (Iy N cs M ds 1 i):=G DO 300 [bT,.v (F Ae x),.v (F Ae y),bT,.v (F Ae x),.v (F Ae y),bF] NB (NF c1 n1 n2 n3 n4 c2 n5 n6 n7 n8 c3) (by kernel_rfl)
theorem Auu(N:Nat)(cs:List AV)(M:Nat)(ds:List AV)(v i x y:Int)(c1:A (i>=0)=true)(c2:(x != y)=false)(n1:0<=i/\i<(N:Int))(n2:Bj (g (D i*1) cs) 0 1 true=some (F Ae x))(n3:0<=i/\i<(M:Int))(n4:Bj (g (D i*1) ds) 0 1 true=some (F Ae y)):Ap OP (Iy N cs M ds v i) .norm (Iy N cs M ds v (I O (i-1))):=G DO 300 [bT,.v (F Ae x),.v (F Ae y),bF] NB (JT c1 n1 n2 n3 n4 c2) (by kernel_rfl)
theorem Auv(N:Nat)(cs:List AV)(M:Nat)(ds:List AV)(v i:Int)(c1:A (i>=0)=false):Ap OP (Iy N cs M ds v i) (.exit 0) (Iy N cs M ds v i):=G DO 300 [bF] NB (Jx c1) (by kernel_rfl)
def CX(a b:Int):Int:=if a<b then -1 else if b<a then 1 else 0
def BQ(n:Int):Int:=if n<0 then -1 else if 0<n then 1 else 0
def Ln(xs ys:LI):Nat->Int
 | 0=>0
 | m+1=>if xs.getD m 0=ys.getD m 0 then Ln xs ys m else if xs.getD m 0<ys.getD m 0 then -1 else 1
theorem Et(xs:LI)(m:Nat)(h:m<xs.length):Ab (xs.take (m+1))=Ab (xs.take m)+4294967296^m*xs.getD m 0:=by
 rw[List.take_add_one,Ad h,Option.toList_some,GZ];have:(xs.take m).length=m:=by simp;omega
 rw[this];simp[Ab,Z,Ad h]
theorem bY{A B x y P:Int}(hA:0<=A/\A<P)(hB:0<=B/\B<P)(h:x<y):A+P*x<B+P*y:=by
 have:=Al (show x+1<=y by omega) (show 0<=P by omega);rw[CT,Dh] at this;omega
theorem bZ{xs ys:LI}(hx:A_ xs)(hy:A_ ys):∀ m,m<=xs.length->m<=ys.length->Ln xs ys m=CX (Ab (xs.take m)) (Ab (ys.take m)):=by
 intro m;induction m with
 | zero=>intro _ _;simp[Ln,CX,Ab]
 | succ m ih =>
  intro h1 h2;simp only[Ln];rw[Et xs m (by omega),Et ys m (by omega)];have ux:A_ (xs.take m):=fun x hx'=>hx x (BT hx');have uy:A_ (ys.take m):=fun x hx'=>hy x (BT hx');have a1:=Bi ux;have a2:=Eb ux;have b1:=Bi uy;have b2:=Eb uy;rw[show (xs.take m).length=m by simp;omega] at a2;rw[show (ys.take m).length=m by simp;omega] at b2;by_cases h:xs.getD m 0=ys.getD m 0
  ·rw[if_pos h,ih (by omega) (by omega),h];unfold CX;congr 1
   ·rw[eq_iff_iff];omega
   ·congr 1;rw[eq_iff_iff];omega
  ·rw[if_neg h];by_cases hlt:xs.getD m 0<ys.getD m 0
   ·rw[if_pos hlt];have:=bY ⟨a1,a2⟩ ⟨b1,b2⟩ hlt;unfold CX;rw[if_pos this]
   ·rw[if_neg hlt];have:=bY ⟨b1,b2⟩ ⟨a1,a2⟩ (show ys.getD m 0<xs.getD m 0 by omega);unfold CX;rw[if_neg (by omega),if_pos this]
theorem Aej(xs ys:LI)(hN:xs.length<=1048576)(hl:xs.length=ys.length):∀ m,m<=xs.length ->
  (Ln xs ys m=0/\Ap (.loop OP) (Iy xs.length (lm xs) ys.length (lm ys) 0 ((m:Int)-1)) (.exit 0) (Iy xs.length (lm xs) ys.length (lm ys) 0 (-1))) \/
  (Ln xs ys m ≠ 0/\∃ j,Ap (.loop OP) (Iy xs.length (lm xs) ys.length (lm ys) 0 ((m:Int)-1)) .ret (Iy xs.length (lm xs) ys.length (lm ys) (Ln xs ys m) j)):=by
 intro m;induction m with
 | zero =>
  intro _;left;refine⟨rfl,?_⟩;exact Ah (Auv xs.length (lm xs) ys.length (lm ys) 0 (((0:Nat):Int)-1) (by simp))
 | succ m ih =>
  intro hm;have e0:((m+1:Nat):Int)-1=(m:Int):=by omega
  have e1:I O ((m:Int)-1)=(m:Int)-1:=Bg (by omega) (by omega);have hx:=E6 (xs:=xs) (i:=m) (by omega);have hy:=E6 (xs:=ys) (i:=m) (by omega);rw[e0];simp only[Ln];by_cases h:xs.getD m 0=ys.getD m 0
  ·rw[if_pos h];have h1:=Auu xs.length (lm xs) ys.length (lm ys) 0 (m:Int) (xs.getD m 0) (ys.getD m 0) (by simp) (by simpa using h) (by omega) (by rw[R];exact hx) (by omega) (by rw[R];exact hy);rw[e1] at h1;rcases ih (by omega) with ⟨k1,k2⟩ | ⟨k1,j,k2⟩
   ·exact .inl ⟨k1,CE.loop h1 k2⟩
   ·exact .inr ⟨k1,j,CE.loop h1 k2⟩
  ·rw[if_neg h];right;by_cases hlt:xs.getD m 0<ys.getD m 0
   ·rw[if_pos hlt];refine⟨by decide,(m:Int),?_⟩;exact Ah (Aus xs.length (lm xs) ys.length (lm ys) 0 (m:Int) (xs.getD m 0) (ys.getD m 0) (by simp) (by simpa using h) (by simpa using hlt) (by omega) (by rw[R];exact hx) (by omega) (by rw[R];exact hy) (by omega) (by rw[R];exact hx) (by omega) (by rw[R];exact hy))
   ·rw[if_neg hlt];refine⟨by decide,(m:Int),?_⟩;exact Ah (Aut xs.length (lm xs) ys.length (lm ys) 0 (m:Int) (xs.getD m 0) (ys.getD m 0) (by simp) (by simpa using h) (by simpa using hlt) (by omega) (by rw[R];exact hx) (by omega) (by rw[R];exact hy) (by omega) (by rw[R];exact hx) (by omega) (by rw[R];exact hy))
theorem lZ(xs ys:LI)(h:((xs.length:Int) != (ys.length:Int))=true)(h2:(A ((xs.length:Int)<(ys.length:Int)))=true):RQ 134 [sL lm xs,sL lm ys] (F O (-1)):=Jz (ps:=[((xs.length:Int) != (ys.length:Int))=true,(A ((xs.length:Int)<(ys.length:Int)))=true]) DO rfl 300 rfl [bT,bT] (by kernel_rfl) ⟨h,h2,trivial⟩
theorem mA(xs ys:LI)(h:((xs.length:Int) != (ys.length:Int))=true)(h2:(A ((xs.length:Int)<(ys.length:Int)))=false):RQ 134 [sL lm xs,sL lm ys] (F O 1):=Jz (ps:=[((xs.length:Int) != (ys.length:Int))=true,(A ((xs.length:Int)<(ys.length:Int)))=false]) DO rfl 300 rfl [bT,bF] (by kernel_rfl) ⟨h,h2,trivial⟩
theorem mB(xs ys:LI)(h:((xs.length:Int) != (ys.length:Int))=false)(hl:Ap (.loop OP) (Iy xs.length (lm xs) ys.length (lm ys) 0 (I O ((xs.length:Int)-1))) (.exit 0) (Iy xs.length (lm xs) ys.length (lm ys) 0 (-1))):RQ 134 [sL lm xs,sL lm ys] (F O 0):=OO Ard (C (sL lm xs)::(C (sL lm ys)::(W 2 (C (F O 0)::(C (F O (-1))::(W 35 [])))))) (CE.seq (G (t:=(vl xs::(vl ys::(W 2 (u 0::(W 36 [])))))) DO 300 [] Qy a0) (CE.seq (G (t:=(vl xs::(vl ys::(W 2 (u 0::(W 1 (vl xs::(u (xs.length:Int)::(vl ys::(u (ys.length:Int)::(C (B ((xs.length:Int) != (ys.length:Int)))::(W 30 [])))))))))))) DO 300 [bF] fT (Jx (show ((xs.length:Int) != (ys.length:Int))=false from h))) (CE.seq (CE.seq (G (t:=(vl xs::(vl ys::(W 2 (u 0::(u (I O ((xs.length:Int)-1))::(W 35 []))))))) DO 300 [] NB a0) (CE.block hl)) (G (t:=(vl xs::(vl ys::(W 2 (u 0::(u (-1)::(W 35 []))))))) (ex := .ret) DO 300 [] NB a0))))
theorem mC(xs ys:LI)(r j:Int)(h:((xs.length:Int) != (ys.length:Int))=false)(hl:Ap (.loop OP) (Iy xs.length (lm xs) ys.length (lm ys) 0 (I O ((xs.length:Int)-1))) .ret (Iy xs.length (lm xs) ys.length (lm ys) r j)):RQ 134 [sL lm xs,sL lm ys] (F O r):=OO Ard (C (sL lm xs)::(C (sL lm ys)::(W 2 (C (F O r)::(C (F O j)::(W 35 [])))))) (CE.seq (G (t:=(vl xs::(vl ys::(W 2 (u 0::(W 36 [])))))) DO 300 [] Qy a0) (CE.seq (G (t:=(vl xs::(vl ys::(W 2 (u 0::(W 1 (vl xs::(u (xs.length:Int)::(vl ys::(u (ys.length:Int)::(C (B ((xs.length:Int) != (ys.length:Int)))::(W 30 [])))))))))))) DO 300 [bF] fT (Jx (show ((xs.length:Int) != (ys.length:Int))=false from h))) (A4 (CE.seq (G (t:=(vl xs::(vl ys::(W 2 (u 0::(u (I O ((xs.length:Int)-1))::(W 35 []))))))) DO 300 [] NB a0) (BO hl)))))
theorem J'{xs ys:LI}(hx:Ga xs)(hy:Ga ys)(h:xs.length<ys.length):Ab xs<Ab ys:=by
 have h1:=Eb hx.1;have h2:=RL hy (by intro e;rw[e] at h;simp at h);have:=GP (show xs.length<=ys.length-1 by omega);omega
theorem QL{xs ys:LI}(hx:Ga xs)(hy:Ga ys)(hN:xs.length<=1048576):RQ 134 [sL lm xs,sL lm ys] (F O (CX (Ab xs) (Ab ys))):=by
 by_cases hl:xs.length=ys.length
 ·have h:((xs.length:Int) != (ys.length:Int))=false:=by rw[hl];simp
  have hg:=bZ hx.1 hy.1 xs.length (Ao _) (by omega);rw[DP,hl,DP,<- hl] at hg;have e1:I O ((xs.length:Int)-1)=(xs.length:Int)-1:=Bg (by omega) (by omega);rcases Aej xs ys hN hl xs.length (Ao _) with ⟨k1,k2⟩ | ⟨k1,j,k2⟩
  ·rw[<- hg,k1];exact mB xs ys h (by rw[e1];exact k2)
  ·rw[<- hg];exact mC xs ys _ j h (by rw[e1];exact k2)
 ·have h:((xs.length:Int) != (ys.length:Int))=true:=by simp;omega
  by_cases hlt:xs.length<ys.length
  ·have e:CX (Ab xs) (Ab ys) = -1:=by unfold CX;rw[if_pos (J' hx hy hlt)]
   rw[e];exact lZ xs ys h (by simp;omega)
  ·have:=J' hy hx (by omega);have e:CX (Ab xs) (Ab ys)=1:=by unfold CX;rw[if_neg (by omega),if_pos this]
   rw[e];exact mA xs ys h (by simp;omega)
theorem gQ(n:Nat):Y (M n)=M n:=by
 have:=JZ (Cv n).1;rw[this,C9,R]
theorem Tm{n:Nat}(hN:(M n).length<=1048576):RQ 99 [H (M n).length (lm (M n))] (P 1 (M n).length (lm (M n))):=by
 have:=E7 (Bm hN (by decide));rwa [gQ] at this
def gR(neg:Bool)(m:Nat):AV :=
 match (((M m).length:Nat):Int)==0 with
 | true=>(F O 0)
 | false=>(match neg with
 | true=>(F O (-1))
 | false=>(F O 1))
theorem A4v(neg:Bool)(m:Nat)(hN:(M m).length<=1048576):RQ 79 [o [B neg,H ((M m).length) (lm (M m))]] (gR neg m):=by
 unfold gR;cases c1:((((M m).length:Nat):Int)==0)
 ·cases neg
  ·exact Jz (r := F O 1) (ps:=[RQ 99 [H ((M m).length) (lm (M m))] (P 1 ((M m).length) (lm (M m))),((((M m).length:Nat):Int)==0)=false,false=false]) DO rfl 300 rfl [.r (P 1 ((M m).length) (lm (M m))),bF,bF] (by kernel_rfl) ⟨(Tm hN),c1,rfl,trivial⟩
  ·exact Jz (r := F O (-1)) (ps:=[RQ 99 [H ((M m).length) (lm (M m))] (P 1 ((M m).length) (lm (M m))),((((M m).length:Nat):Int)==0)=false,true=true]) DO rfl 300 rfl [.r (P 1 ((M m).length) (lm (M m))),bF,bT] (by kernel_rfl) ⟨(Tm hN),c1,rfl,trivial⟩
 ·exact Jz (r := F O 0) (ps:=[RQ 99 [H ((M m).length) (lm (M m))] (P 1 ((M m).length) (lm (M m))),((((M m).length:Nat):Int)==0)=true]) DO rfl 300 rfl [.r (P 1 ((M m).length) (lm (M m))),bT] (by kernel_rfl) ⟨(Tm hN),c1,trivial⟩
def mD(neg:Bool)(m:Nat):Int:=if m=0 then 0 else if neg then -1 else 1
theorem Aek{neg:Bool}{m:Nat}(hN:(M m).length<=1048576):RQ 79 [o [B neg,H (M m).length (lm (M m))]] (F O (mD neg m)):=by
 have h:=A4v neg m hN;have e:gR neg m = F O (mD neg m):=by
  unfold gR mD;have hz:(M m).length=0↔m=0:=by rw[X2,JY]
  by_cases h0:m=0
  ·have e1:((((M m).length:Nat):Int)==0)=true:=by rw[beq_iff_eq];omega
   rw[e1,if_pos h0]
  ·have e1:((((M m).length:Nat):Int)==0)=false:=by rw[beq_eq_false_iff_ne];omega
   rw[e1,if_neg h0];cases neg <;> rfl
 rw[<- e];exact h
theorem Auw(n:Int):mD (A (n<0)) n.natAbs=BQ n:=by
 unfold mD BQ;by_cases h0:n=0
 ·subst h0;rfl
 ·rw[if_neg (by omega)];by_cases h1:n<0
  ·simp[h1]
  ·have h2:0<n:=by omega
   simp[h1,h2]
theorem cB{n:Int}(hN:(M n.natAbs).length<=1048576):RQ 79 [Ag n] (F O (BQ n)):=by
 have:=Aek (neg:=decide (n<0)) hN;rwa [Auw] at this
def TBB:C8:=TBA
theorem EW:Co DK TBB:=DO
def TZ:ICode:=c Arr 93 116
def TY:ICode:=c Arr 85 29844
def Nf(la:Nat)(xa:List AV)(lb:Nat)(bs:List AV)(n:Nat)(cs:List AV)(i:Int):Aj:=(C (H la xa)::(C (H lb bs)::(W 2 (X 1 0 []::(X 1 n cs::(C (F O i)::(W 59 [])))))))
def Ng(la:Nat)(xa:List AV)(lb:Nat)(bs:List AV)(n:Nat)(cs:List AV)(i c k:Int):Aj:=(C (H la xa)::(C (H lb bs)::(W 2 (X 1 0 []::(X 1 n cs::(C (F O i)::(C (F U c)::(C (F O k)::(W 57 [])))))))))
theorem Ael(la:Nat)(xa:List AV)(lb:Nat)(bs:List AV)(n:Nat)(cs ds:List AV)(i c k x y z:Int)(c1:A (k<(lb:Int))=true)(n1:0<=(I O (i+k))/\(I O (i+k))<(n:Int))(n2:Bj cs (D (I O (i+k))*1) 1 true=some (F Ae z))(n3:0<=i/\i<(la:Int))(n4:Bj (g (D i*1) xa) 0 1 true=some (F Ae x))(n5:0<=k/\k<(lb:Int))(n6:Bj (g (D k*1) bs) 0 1 true=some (F Ae y))(n7:0<=(I O (i+k))/\(I O (i+k))<(n:Int))(n8:C5 cs (D (I O (i+k))*1) [F Ae (I Ae (I U (c+(I U ((I U z)+(I U ((I U x)*(I U y))))))))]=some ds):Ap TY (Ng la xa lb bs n cs i c k) .norm (Ng la xa lb bs n ds i (d (I U (c+(I U ((I U z)+(I U ((I U x)*(I U y))))))) (2^(min (D 32) (An .u64)))) (I O (k+1))):=G EW 300 [bT,.v (F Ae z),.v (F Ae x),.v (F Ae y),.l ds] Tx (OS c1 n1 n2 n3 n4 n5 n6 n7 n8 Jn) (by kernel_rfl)
theorem Aem(la:Nat)(xa:List AV)(lb:Nat)(bs:List AV)(n:Nat)(cs:List AV)(i c k:Int)(c1:A (k<(lb:Int))=false):Ap TY (Ng la xa lb bs n cs i c k) (.exit 2) (Ng la xa lb bs n cs i c k):=G EW 300 [bF] Tx (Jx c1) (by kernel_rfl)
theorem uH(la:Nat)(xa:List AV)(lb:Nat)(bs:List AV)(n:Nat)(cs:List AV)(i:Int)(h:(A (i<(la:Int)))=false):Ap TZ (Nf la xa lb bs n cs i) (.exit 0) (Nf la xa lb bs n cs i):=G EW 300 [bF] Tf (Jx (show (A (i<(la:Int)))=false from h)) (by kernel_rfl)
theorem mE(la:Nat)(xa:List AV)(lb:Nat)(bs:List AV)(n:Nat)(cs ds es:List AV)(i c k:Int)(h:(A (i<(la:Int)))=true)(hl:Ap (.loop TY) (Ng la xa lb bs n cs i 0 0) (.exit 2) (Ng la xa lb bs n ds i c k))(hix:0<=I O (i+(lb:Int))/\I O (i+(lb:Int))<(n:Int))(hst:C5 ds (D (I O (i+(lb:Int)))*1) [F Ae (I Ae c)]=some es):Ap TZ (Nf la xa lb bs n cs i) .norm (Nf la xa lb bs n es (I O (i+1))):=(CE.seq (G (t:=(C (H la xa)::(C (H lb bs)::(W 2 (X 1 0 []::(X 1 n cs::(u i::(W 8 (u i::(C (H la xa)::(u (la:Int)::(C (B (A (i<(la:Int))))::(W 47 []))))))))))))) EW 300 [bT] [0,1,4,5,6,15,16,17,18] (Jx (show (A (i<(la:Int)))=true from h))) (CE.seq (v (CE.seq (G (t:=(C (H la xa)::(C (H lb bs)::(W 2 (X 1 0 []::(X 1 n cs::(u i::(C (F U 0)::(W 7 (u i::(C (H la xa)::(u (la:Int)::(C (B (A (i<(la:Int))))::(W 47 [])))))))))))))) EW 300 [] [0,1,4,5,6,7,15,16,17,18] a0) (CE.seq (CE.seq (G (t:=(C (H la xa)::(C (H lb bs)::(W 2 (X 1 0 []::(X 1 n cs::(u i::(C (F U 0)::(u 0::(W 57 [])))))))))) EW 300 [] Tx a0) (CE.block hl)) (G (t:=(C (H la xa)::(C (H lb bs)::(W 2 (X 1 0 []::(X 1 n es::(u i::(C (F U c)::(u k::(W 48 (.dup 5::(u i::(C (H lb bs)::(u (lb:Int)::(u (I O (i+(lb:Int)))::(C (F U c)::(C (F Ae (I Ae c))::(.ptr 5 (D (I O (i+(lb:Int)))*1)::(W 1 []))))))))))))))))))) EW 300 [.l es] [0,1,4,5,6,7,8,57,58,59,60,61,62,63,64] (J0 (show 0<=(I O (i+(lb:Int)))/\(I O (i+(lb:Int)))<(n:Int) from hix) (show C5 ds (D (I O (i+(lb:Int)))*1) [F Ae (I Ae c)]=some es from hst)))))) (G (t:=(C (H la xa)::(C (H lb bs)::(W 2 (X 1 0 []::(X 1 n es::(u (I O (i+1))::(W 59 [])))))))) EW 300 [] Tf a0)))
def Iz(a:Int)(bs:LI)(i:Nat):Nat->Nat->LI->Int->LI × Int
 | 0,_,out,c=>(out,c)
 | r+1,k,out,c=>Iz a bs i r (k+1) (out.set (i+k) ((c+(out.getD (i+k) 0+a*bs.getD k 0)) % 4294967296)) ((c+(out.getD (i+k) 0+a*bs.getD k 0)) / 4294967296)
theorem Y4{a b c o:Int}(ha:0<=a/\a<4294967296)(hb:0<=b/\b<4294967296)(hc:0<=c/\c<4294967296)(ho:0<=o/\o<4294967296) :
  0<=a*b/\a*b<=18446744065119617025/\0<=c+(o+a*b)/\c+(o+a*b)<18446744073709551616:=by
 have h1:=AA ha.1 hb.1;have h2:a*b<=4294967295*4294967295:=EO (by omega) (by omega) hb.1 (by omega);omega
theorem Pa{xs:LI}{i j:Nat}{v:Int}(h:i ≠ j):(xs.set i v).getD j 0=xs.getD j 0:=by
 simp only[Z,F9 h]
theorem cC{a:Int}{bs:LI}{i:Nat}(ha:0<=a/\a<4294967296)(hb:A_ bs):∀ (r k:Nat) (out:LI) (c:Int),r+k=bs.length->i+bs.length<=out.length->A_ out->0<=c/\c<4294967296 ->
  (Iz a bs i r k out c).1.length=out.length/\A_ (Iz a bs i r k out c).1/\(0<=(Iz a bs i r k out c).2/\(Iz a bs i r k out c).2<4294967296) /\
  Ab (Iz a bs i r k out c).1+4294967296^(i+bs.length)*(Iz a bs i r k out c).2=Ab out+4294967296^(i+k)*(c+a*Ab (bs.drop k)) /\
  ∀ j,i+bs.length<=j->(Iz a bs i r k out c).1.getD j 0=out.getD j 0:=by
 intro r;induction r with
 | zero =>
  intro k out c hk _ hu hc;have hk':k=bs.length:=by omega
  subst hk';refine⟨rfl,hu,hc,?_,fun _ _=>rfl⟩;simp[Iz,Ab]
 | succ r ih =>
  intro k out c hk hl hu hc;have hbk:=AL hb k;have hok:=AL hu (i+k);obtain⟨w1,w2,w3,w4⟩:=Y4 ha hbk hc hok;have hlt:i+k<out.length:=by omega
  simp only[Iz];generalize hW:c+(out.getD (i+k) 0+a*bs.getD k 0)=W at *
  have hm:0<=W % 4294967296/\W % 4294967296<4294967296:=by omega
  obtain⟨g1,g2,g3,g4,g5⟩:=ih (k+1) (out.set (i+k) (W % 4294967296)) (W / 4294967296) (by omega) (by simpa using hl) (CF hu hm) (by omega);refine⟨by simpa using g1,g2,g3,?_,fun j hj => ?_⟩
  ·rw[g4,Ej out (i+k) _ hlt];have hd:Ab (bs.drop k)=bs.getD k 0+4294967296*Ab (bs.drop (k+1)):=by
    rw[B2 (show k<bs.length by omega)];simp[Ab,Z,Ad (show k<bs.length by omega)]
   rw[hd];have hp:(4294967296:Int)^(i+(k+1))=4294967296^(i+k)*4294967296:=by rw[<- DW,A7]
   rw[hp];generalize (4294967296:Int)^(i+k)=p at *
   generalize Ab (bs.drop (k+1))=V at *
   have e1:W=4294967296*(W / 4294967296)+W % 4294967296:=by omega
   have e2:c=W-out.getD (i+k) 0-a*bs.getD k 0:=by omega
   rw[e2];generalize W / 4294967296=q at *
   generalize W % 4294967296=m at *
   generalize out.getD (i+k) 0=o at *
   generalize bs.getD k 0=b at *
   subst e1;grind
  ·rw[g5 j hj,Pa (by omega)]
theorem uI(xa bs:LI)(ha:A_ xa)(hb:A_ bs)(n i:Nat)(hn:n<=1048576)(hi:i<xa.length)(hib:i+bs.length<=n):∀ (r k:Nat) (out:LI) (c:Int),r+k=bs.length->out.length=n->A_ out->0<=c/\c<4294967296 ->
  Ap (.loop TY) (Ng xa.length (lm xa) bs.length (lm bs) n (lm out) (i:Int) c (k:Int)) (.exit 2)
   (Ng xa.length (lm xa) bs.length (lm bs) n (lm (Iz (xa.getD i 0) bs i r k out c).1) (i:Int) (Iz (xa.getD i 0) bs i r k out c).2 (bs.length:Int)):=by
 intro r;induction r with
 | zero =>
  intro k out c hk _ _ _;have hk':k=bs.length:=by omega
  subst hk';exact Ah (Aem xa.length (lm xa) bs.length (lm bs) n (lm out) (i:Int) c (bs.length:Int) (by simp))
 | succ r ih =>
  intro k out c hk hl hu hc;have hai:=AL ha i;have hbk:=AL hb k;have hok:=AL hu (i+k);obtain⟨w1,w2,w3,w4⟩:=Y4 hai hbk hc hok;have ei:I O ((i:Int)+(k:Int))=((i+k:Nat):Int):=by rw[Bg (by omega) (by omega)];omega
  have ek:I O ((k:Int)+1)=((k+1:Nat):Int):=by rw[Bg (by omega) (by omega)];omega
  have hz:=Y1 (xs:=out) (i:=i+k) (by omega);have hx:=E6 (xs:=xa) (i:=i) hi;have hy:=E6 (xs:=bs) (i:=k) (by omega);have hst:=J2 (xs:=out) (i:=i+k) (v:=(c+(out.getD (i+k) 0+xa.getD i 0*bs.getD k 0)) % 4294967296) (by omega);have eW:I U (c+I U (I U (out.getD (i+k) 0)+I U (I U (xa.getD i 0)*I U (bs.getD k 0))))=c+(out.getD (i+k) 0+xa.getD i 0*bs.getD k 0):=by
   have q1:I U (xa.getD i 0)=xa.getD i 0:=by rw[BF];omega
   have q2:I U (bs.getD k 0)=bs.getD k 0:=by rw[BF];omega
   have q3:I U (out.getD (i+k) 0)=out.getD (i+k) 0:=by rw[BF];omega
   rw[q1,q2,q3,BF,BF,BF];omega
  have eS:d (c+(out.getD (i+k) 0+xa.getD i 0*bs.getD k 0)) (2^(min (D 32) (An .u64)))=(c+(out.getD (i+k) 0+xa.getD i 0*bs.getD k 0)) / 4294967296:=by
   show d _ 4294967296=_;rw[q _ (by omega)]
  have h1:=Ael xa.length (lm xa) bs.length (lm bs) n (lm out) (lm (out.set (i+k) ((c+(out.getD (i+k) 0+xa.getD i 0*bs.getD k 0)) % 4294967296))) (i:Int) c (k:Int) (xa.getD i 0) (bs.getD k 0) (out.getD (i+k) 0)
   (by simp;omega) (by rw[ei];omega) (by rw[ei,R];exact hz) (by omega) (by rw[R];exact hx) (by omega) (by rw[R];exact hy) (by rw[ei];omega) (by rw[ei,R,eW,Es];exact hst)
  rw[eW,eS,ek] at h1;exact CE.loop h1 (ih (k+1) _ _ (by omega) (by simpa using hl) (CF hu (by omega)) (by omega))
theorem uJ(xa bs:LI)(ha:A_ xa)(hb:A_ bs)(hN:xa.length+bs.length<=1048576):∀ (r i:Nat) (out:LI),r+i=xa.length->out.length=xa.length+bs.length->A_ out->(∀ j,i+bs.length<=j->out.getD j 0=0) ->
  ∃ out',out'.length=xa.length+bs.length/\A_ out'/\Ab out'=Ab out+4294967296^i*(Ab (xa.drop i)*Ab bs) /\
   Ap (.loop TZ) (Nf xa.length (lm xa) bs.length (lm bs) (xa.length+bs.length) (lm out) (i:Int)) (.exit 0) (Nf xa.length (lm xa) bs.length (lm bs) (xa.length+bs.length) (lm out') (xa.length:Int)):=by
 intro r;induction r with
 | zero =>
  intro i out hi hl hu _;have hi':i=xa.length:=by omega
  subst hi';refine⟨out,hl,hu,by simp[Ab],?_⟩;exact Ah (uH xa.length (lm xa) bs.length (lm bs) (xa.length+bs.length) (lm out) (xa.length:Int) (by simp))
 | succ r ih =>
  intro i out hi hl hu hz;have hai:=AL ha i;have hlt:i<xa.length:=by omega
  have hin:=uI xa bs ha hb (xa.length+bs.length) i hN hlt (by omega) bs.length 0 out 0 (by omega) hl hu (by omega);obtain⟨g1,g2,g3,g4,g5⟩:=cC (i:=i) hai hb bs.length 0 out 0 (by omega) (by omega) hu (by omega);generalize Iz (xa.getD i 0) bs i bs.length 0 out 0=q at *
  obtain⟨ds,c⟩:=q;dsimp only at g1 g2 g3 g4 g5 hin;have ei:I O ((i:Int)+(bs.length:Int))=((i+bs.length:Nat):Int):=by rw[Bg (by omega) (by omega)];omega
  have ei1:I O ((i:Int)+1)=((i+1:Nat):Int):=by rw[Bg (by omega) (by omega)];omega
  have ec:I Ae c=c:=by rw[Es];omega
  have hst:=J2 (xs:=ds) (i:=i+bs.length) (v:=c) (by omega);have h1:=mE xa.length (lm xa) bs.length (lm bs) (xa.length+bs.length) (lm out) (lm ds) (lm (ds.set (i+bs.length) c)) (i:Int) c (bs.length:Int) (by simp;omega) hin (by rw[ei];omega) (by rw[ei,R,ec];exact hst);rw[ei1] at h1;obtain⟨out',k1,k2,k3,k4⟩:=ih (i+1) (ds.set (i+bs.length) c) (by omega) (by simp;omega) (CF g2 g3) (fun j hj=>by rw[Pa (by omega),g5 j (by omega),hz j (by omega)]);refine⟨out',k1,k2,?_,CE.loop h1 k4⟩;have hv:Ab (ds.set (i+bs.length) c)=Ab out+4294967296^i*(xa.getD i 0*Ab bs):=by
   rw[Ej ds _ _ (by omega),g5 _ (Ao _),hz _ (Ao _)];simp only[EJ,Da,Ed,F8] at g4 |-;exact g4
  have hd:Ab (xa.drop i)=xa.getD i 0+4294967296*Ab (xa.drop (i+1)):=by
   rw[B2 hlt];simp[Ab,Z,Ad hlt]
  rw[k3,hv,hd,A7];generalize (4294967296:Int)^i=p at *
  generalize Ab (xa.drop (i+1))=V at *
  grind
theorem mF{xa bs:LI}(ha:A_ xa)(hb:A_ bs)(hN:xa.length+bs.length<=1048576) :
  ∃ out,out.length=xa.length+bs.length/\A_ out/\Ab out=Ab xa*Ab bs/\RQ 146 [sL lm xa,sL lm bs] (P 1 out.length (lm out)):=by
 have en:I O ((xa.length:Int)+(bs.length:Int))=((xa.length+bs.length:Nat):Int):=by rw[Bg (by omega) (by omega)];omega
 have eN:(D (I O ((xa.length:Int)+(bs.length:Int))))=xa.length+bs.length:=by rw[en,R]
 obtain⟨out,h1,h2,h3,h4⟩:=uJ xa bs ha hb hN xa.length 0 (l (xa.length+bs.length) 0) (by omega) (by simp) (fun x hx=>by rw[Xk hx];omega) (fun j _=>by simp[Z,ML];split <;> rfl);refine⟨out,h1,h2,?_,?_⟩
 ·rw[h3,Fe];simp
 have hmk:0<=I O ((xa.length:Int)+(bs.length:Int))/\I O ((xa.length:Int)+(bs.length:Int))<=1048576:=by rw[en];omega
 have hl:Ap (.loop TZ) (Nf xa.length (lm xa) bs.length (lm bs) (D (I O ((xa.length:Int)+(bs.length:Int)))) (CD [F Ae 0] (D (I O ((xa.length:Int)+(bs.length:Int))))) 0) (.exit 0) (Nf xa.length (lm xa) bs.length (lm bs) (D (I O ((xa.length:Int)+(bs.length:Int)))) (lm out) (xa.length:Int)):=by
  rw[eN,FE];exact h4
 have:=Mw (prog:=DK) (f:=146) (args:=[sL lm xa,sL lm bs]) (r := P 1 (D (I O ((xa.length:Int)+(bs.length:Int)))) (lm out)) (fn:=iF Mv Arr) (s:=(C (sL lm xa)::(C (sL lm bs)::(W 2 (X 1 (D (I O ((xa.length:Int)+(bs.length:Int)))) (lm out)::(W 1 (C (F O (xa.length:Int))::(W 59 [])))))))) (ex := .ret) rfl rfl
  (CE.seq (Er (t:=(C (sL lm xa)::(C (sL lm bs)::(W 2 (X 1 0 []::(W 61 [])))))) (ex := .norm) (ps:=[]) EW 300 [] Qy (by kernel_rfl) trivial)
  (CE.seq (Er (t:=(C (sL lm xa)::(C (sL lm bs)::(W 2 (X 1 0 []::(X 1 (D (I O ((xa.length:Int)+(bs.length:Int)))) (CD [F Ae 0] (D (I O ((xa.length:Int)+(bs.length:Int)))))::(W 3 (C (sL lm xa)::(C (F O (xa.length:Int))::(C (sL lm bs)::(C (F O (bs.length:Int))::(C (F O (I O ((xa.length:Int)+(bs.length:Int))))::(W 52 []))))))))))))) (ex := .norm) (ps:=[0<=(I O ((xa.length:Int)+(bs.length:Int)))/\(I O ((xa.length:Int)+(bs.length:Int)))<=1048576]) EW 300 [] [0,1,4,5,9,10,11,12,13] (by kernel_rfl) ⟨hmk,trivial⟩)
  (CE.seq (CE.seq (Er (t:=(C (sL lm xa)::(C (sL lm bs)::(W 2 (X 1 0 []::(X 1 (D (I O ((xa.length:Int)+(bs.length:Int)))) (CD [F Ae 0] (D (I O ((xa.length:Int)+(bs.length:Int)))))::(C (F O 0)::(W 59 [])))))))) (ex := .norm) (ps:=[]) EW 300 [] Tf (by kernel_rfl) trivial)
  (CE.block hl))
  (Er (t:=(C (sL lm xa)::(C (sL lm bs)::(W 2 (X 1 (D (I O ((xa.length:Int)+(bs.length:Int)))) (lm out)::(W 1 (C (F O (xa.length:Int))::(W 59 [])))))))) (ex := .ret) (ps:=[]) EW 300 [] [0,1,4,6] (by kernel_rfl) trivial)))) (by nofun) rfl
 rw[eN,<- h1] at this;exact this
def TBC:C8:=TBB
theorem CO:Co DK TBC:=EW
end
end Go.Proofs.YtajompaehjkgkaaGreat
namespace Go.Ai
open Bool renaming false_eq_true->B_
open Decidable renaming decide->A
open Go.Ai.AV renaming int->F
open Int renaming le_of_dvd->ABx,lt_trichotomy->G3,mul_add->CT,mul_eq_zero->EH,mul_neg->EY,mul_one->Dh,natAbs->E,pow_add->BB,pow_succ->A7,pow_zero->Dj,sub_zero->F8,toNat->D,zero_add->Ed
open List renaming all->Aay,all_cons->A3i,all_eq_true->Cf,drop->g,drop_eq_getElem_cons->B2,drop_zero->Da,eq_nil_of_length_eq_zero->A5,eq_of_mem_replicate->Xk,ext_getElem->fB,flatMap_cons->ZL,getD_cons_succ->Ix,getD_cons_zero->Kt,getD_eq_getElem?_getD->Z,getElem?_drop->Bu,getElem?_eq_getElem->Ad,getElem?_eq_none->AI,getElem?_map->Cs,getElem?_replicate->ML,getElem?_set_ne->F9,length_append->AY,length_cons->B0,length_drop->CV,length_nil->HI,length_set->Ba,map_append->Ez,map_map->A3y,map_set->Qc,map_take->PZ,mem_cons->BD,mem_map->Cn,mem_of_getElem?->V_,mem_of_mem_take->BT,mem_or_eq_of_mem_set->A3p,mem_range->JK,not_mem_nil->WZ,range->Aq,range_succ->Io,replicate->l,replicate_succ->GL,set_append_right->ACg,set_cons_succ->AEi,set_cons_zero->AEh,set_eq_take_append_cons_drop->Qb,take->Bx,take_succ_cons->AEe
open Nat renaming add_assoc->DW,add_comm->Gt,add_mul->DE,add_zero->EJ,le_refl->Ao,le_trans->Bm,lt_or_ge->Ct,mul_one->FR,one_mul->FL,pow_pos->DH,zero_add->Cb,zero_le->AN
theorem CM:∀ (xs:LI) (i:Nat),Ab (xs.drop i)=xs.getD i 0+4294967296*Ab (xs.drop (i+1))
 | [],i=>by simp[Ab]
 | x::xs,0=>by simp[Ab]
 | x::xs,i+1=>by
  have:=CM xs i;simpa using this
theorem CA{xs:LI}{i j:Nat}{v:Int}(h:i ≠ j):(xs.set i v).getD j 0=xs.getD j 0:=by
 simp only[Z,F9 h]
theorem B3{xs:LI}{i:Nat}(h:xs.length<=i):xs.getD i 0=0:=by
 simp[Z,AI h]
theorem Ek{xs:LI}{i:Nat}(h:xs.length<=i):Ab (xs.drop i)=0:=by
 rw[List.drop_eq_nil_of_le h];rfl
def J3(xs ys:LI):Nat->Nat->LI->Int->LI × Int
 | 0,_,o,c=>(o,c)
 | r+1,i,o,c=>J3 xs ys r (i+1) (o.set i ((xs.getD i 0+c+ys.getD i 0) % 4294967296)) ((xs.getD i 0+c+ys.getD i 0) / 4294967296)
theorem Aen{xs ys:LI}(hx:A_ xs)(hy:A_ ys)(hl:ys.length<=xs.length):∀ (r i:Nat) (o:LI) (c:Int),r+i=xs.length->xs.length<o.length->A_ o->0<=c/\c<=1->(∀ j,i<=j->o.getD j 0=0) ->
  (J3 xs ys r i o c).1.length=o.length/\A_ (J3 xs ys r i o c).1/\(0<=(J3 xs ys r i o c).2/\(J3 xs ys r i o c).2<=1) /\
  Ab (J3 xs ys r i o c).1+4294967296^xs.length*(J3 xs ys r i o c).2=Ab o+4294967296^i*(c+Ab (xs.drop i)+Ab (ys.drop i)) /\
  ∀ j,xs.length<=j->(J3 xs ys r i o c).1.getD j 0=0:=by
 intro r;induction r with
 | zero =>
  intro i o c hi _ hu hc hz;have hi':i=xs.length:=by omega
  subst hi';refine⟨rfl,hu,hc,?_,fun j hj=>hz j hj⟩;rw[Ek (Ao _),Ek hl];simp[J3]
 | succ r ih =>
  intro i o c hi hlo hu hc hz;have h1:=AL hx i;have h2:=AL hy i;simp only[J3];have ex:=CM xs i;have ey:=CM ys i;have hoz:=hz i (Ao _);generalize hW:xs.getD i 0+c+ys.getD i 0=W at *
  have hm:0<=W % 4294967296/\W % 4294967296<4294967296:=by omega
  obtain⟨g1,g2,g3,g4,g5⟩:=ih (i+1) (o.set i (W % 4294967296)) (W / 4294967296) (by omega) (by simpa using hlo) (CF hu hm) (by omega) (fun j hj=>by rw[CA (by omega)];exact hz j (by omega));refine⟨by simpa using g1,g2,g3,?_,g5⟩;rw[g4,Ej o i _ (by omega),ex,ey,hoz,A7];generalize (4294967296:Int)^i=p at *
  generalize Ab (xs.drop (i+1))=V at *
  generalize Ab (ys.drop (i+1))=U at *
  have e1:W=4294967296*(W / 4294967296)+W % 4294967296:=by omega
  have e2:c=W-xs.getD i 0-ys.getD i 0:=by omega
  rw[e2];generalize W / 4294967296=q at *
  generalize W % 4294967296=m at *
  generalize xs.getD i 0=a at *
  generalize ys.getD i 0=b at *
  subst e1;grind
def J_(xs ys:LI):Nat->Nat->LI->Int->LI × Int
 | 0,_,o,c=>(o,c)
 | r+1,i,o,c=>J_ xs ys r (i+1) (o.set i ((xs.getD i 0-c-ys.getD i 0) % 4294967296)) (-((xs.getD i 0-c-ys.getD i 0) / 4294967296))
theorem Aeo{xs ys:LI}(hx:A_ xs)(hy:A_ ys)(hl:ys.length<=xs.length):∀ (r i:Nat) (o:LI) (c:Int),r+i=xs.length->xs.length<=o.length->A_ o->0<=c/\c<=1->(∀ j,i<=j->o.getD j 0=0) ->
  (J_ xs ys r i o c).1.length=o.length/\A_ (J_ xs ys r i o c).1/\(0<=(J_ xs ys r i o c).2/\(J_ xs ys r i o c).2<=1) /\
  Ab (J_ xs ys r i o c).1=Ab o+4294967296^i*(Ab (xs.drop i)-Ab (ys.drop i)-c)+4294967296^xs.length*(J_ xs ys r i o c).2:=by
 intro r;induction r with
 | zero =>
  intro i o c hi _ hu hc hz;have hi':i=xs.length:=by omega
  subst hi';refine⟨rfl,hu,hc,?_⟩;rw[Ek (Ao _),Ek hl];simp only[J_];generalize (4294967296:Int)^xs.length=p;grind
 | succ r ih =>
  intro i o c hi hlo hu hc hz;have h1:=AL hx i;have h2:=AL hy i;simp only[J_];have ex:=CM xs i;have ey:=CM ys i;have hoz:=hz i (Ao _);generalize hW:xs.getD i 0-c-ys.getD i 0=W at *
  have hm:0<=W % 4294967296/\W % 4294967296<4294967296:=by omega
  obtain⟨g1,g2,g3,g4⟩:=ih (i+1) (o.set i (W % 4294967296)) (-(W / 4294967296)) (by omega) (by simpa using hlo) (CF hu hm) (by omega) (fun j hj=>by rw[CA (by omega)];exact hz j (by omega));refine⟨by simpa using g1,g2,g3,?_⟩;rw[g4,Ej o i _ (by omega),ex,ey,hoz,A7];generalize (4294967296:Int)^i=p at *
  generalize Ab (xs.drop (i+1))=V at *
  generalize Ab (ys.drop (i+1))=U at *
  have e1:W=4294967296*(W / 4294967296)+W % 4294967296:=by omega
  have e2:c=xs.getD i 0-ys.getD i 0-W:=by omega
  rw[e2];generalize W / 4294967296=q at *
  generalize W % 4294967296=m at *
  generalize xs.getD i 0=a at *
  generalize ys.getD i 0=b at *
  subst e1;grind
theorem DQ(n j:Nat):(l n (0:Int)).getD j 0=0:=by
 simp[Z,ML];split <;> rfl
theorem Fr(n:Nat):A_ (l n 0):=fun x hx=>by rw [Xk hx];omega
theorem uK{xs ys:LI}(hx:A_ xs)(hy:A_ ys)(hl:ys.length<=xs.length)(o:LI)(c:Int)(e:J3 xs ys xs.length 0 (l (xs.length+1) 0) 0=(o,c)) :
  o.length=xs.length+1/\A_ o/\(0<=c/\c<=1)/\A_ (o.set xs.length c)/\Ab (o.set xs.length c)=Ab xs+Ab ys:=by
 obtain⟨g1,g2,g3,g4,g5⟩:=Aen hx hy hl xs.length 0 (l (xs.length+1) 0) 0 (by omega) (by simp) (Fr _) (by omega) (fun j _=>DQ _ j);rw[e] at g1 g2 g3 g4 g5;dsimp only at g1 g2 g3 g4 g5;have hlo:o.length=xs.length+1:=by simpa using g1
 refine⟨hlo,g2,g3,CF g2 (by omega),?_⟩;rw[Ej o _ _ (by omega),g5 _ (Ao _),F8,g4,Fe];simp
theorem uL{xs ys:LI}(hx:A_ xs)(hy:A_ ys)(hl:ys.length<=xs.length)(hv:Ab ys<=Ab xs)(o:LI)(c:Int)(e:J_ xs ys xs.length 0 (l xs.length 0) 0=(o,c)) :
  o.length=xs.length/\A_ o/\Ab o=Ab xs-Ab ys:=by
 obtain⟨g1,g2,g3,g4⟩:=Aeo hx hy hl xs.length 0 (l xs.length 0) 0 (by omega) (by simp) (Fr _) (by omega) (fun j _=>DQ _ j);rw[e] at g1 g2 g3 g4;dsimp only at g1 g2 g3 g4;have hlo:o.length=xs.length:=by simpa using g1
 refine⟨hlo,g2,?_⟩;rw[Fe] at g4;simp at g4;have h1:=Eb g2;rw[hlo] at h1;have hp:=CH xs.length;rcases (show c=0\/c=1 by omega) with h | h
 ·rw[g4,h];simp
 ·rw[h,Dh] at g4;omega
abbrev Rn:=Bool × LI
def L(r:Rn):Int:=rv r.1 r.2
def cn(n:Int):Rn:=(A (n<0),M n.natAbs)
def pc(rs:List Rn):List AV:=rs.flatMap fun r=>[.bool r.1,.sl r.2.length (lm r.2)]
def N(rs:List Rn):LI:=rs.map L
def pk(ps:LI):List AV:=pc (ps.map cn)
def z0:Rn:=(false,[])
def AU(K:Nat)(r:Rn):Prop:=A_ r.2/\r.2.length<=K
def Az(r:Rn):AV := .agg [.bool r.1,.sl r.2.length (lm r.2)]
theorem A6(n:Int):L (cn n)=n:=FB n
theorem mG:L z0=0:=rfl
theorem s(ps:LI):N (ps.map cn)=ps:=by
 unfold N;rw[A3y];have:(L ∘ cn)=id:=funext A6;rw[this,List.map_id]
theorem B4{k:Nat}{n:Int}(h:Bv k n):AU k (cn n):=⟨BV _,h.len⟩
theorem QM(k:Nat):AU k z0:=⟨fun x hx=>(by cases hx),AN _⟩
theorem AU.mono{j k:Nat}{r:Rn}(h:AU j r)(hk:j<=k):AU k r:=⟨h.1,Bm h.2 hk⟩
theorem AU.fits{k:Nat}{r:Rn}(h:AU k r):Bv k (L r):=(Y2 h.1).mono h.2
theorem Y5(rs:List Rn):(pc rs).length=rs.length*2:=by
 induction rs with
 | nil=>rfl
 | cons r rs ih=>simp only[pc,ZL,AY,B0,HI] at ih |-;omega
theorem Od(r:Rn)(rs:List Rn):pc (r::rs) = .bool r.1 :: .sl r.2.length (lm r.2)::pc rs:=rfl
theorem Pb(rs ss:List Rn):pc (rs++ss)=pc rs++pc ss:=by simp [pc]
theorem Uj:∀ (i:Nat) (rs:List Rn),(pc rs).drop (i*2)=pc (rs.drop i)
 | 0,rs=>by simp
 | i+1,[]=>by simp[pc]
 | i+1,r::rs=>by
  rw[Od,DE,FL];show (pc rs).drop (i*2)=_;rw[Uj i rs];rfl
theorem mH:∀ (i:Nat) (rs:List Rn),(pc rs).take (i*2)=pc (rs.take i)
 | 0,rs=>by simp[pc]
 | i+1,[]=>by simp[pc]
 | i+1,r::rs=>by
  rw[Od,DE,FL];show _::_::(pc rs).take (i*2)=_;rw[mH i rs];rfl
theorem QN{rs:List Rn}{i:Nat}(h:i<rs.length):Bj (g (i*2) (pc rs)) 0 2 false=some (Az (rs.getD i z0)):=by
 rw[Uj,B2 h,Od];simp[Bj,Az,Z,Ad h]
theorem A4w{rs:List Rn}{i:Nat}(h:i<rs.length):Bj (pc rs) (i*2) 2 false=some (Az (rs.getD i z0)):=by
 have h1:=QN h;have hl:=Y5 rs;simp only[Bj,B_,if_false,Cb,Da,CV] at h1 |-;rw[if_pos (by omega)] at h1;rw[if_pos (by omega)];exact h1
theorem gS{rs:List Rn}{i:Nat}{r:Rn}(h:i<rs.length):C5 (pc rs) (i*2) [.bool r.1,.sl r.2.length (lm r.2)]=some (pc (rs.set i r)):=by
 have hl:=Y5 rs;simp only[C5,B0,HI];rw[if_pos (by omega)];congr 1;have hs:rs.set i r=rs.take i++r::rs.drop (i+1):=by rw[Qb,if_pos h]
 rw[hs,Pb,Od,mH];have:(pc rs).drop (i*2+(0+1+1))=pc (rs.drop (i+1)):=by rw[<- Uj];congr 1;omega
 simp only[Cb] at this;rw[this];simp
theorem QO(n:Nat):CD [.bool false,.sl 0 []] n=pc (l n z0):=by
 induction n with
 | zero=>rfl
 | succ n ih=>rw[GL,Od,<- ih];rfl
theorem Aby(rs:List Rn):Aay (pc rs) (fun c => !X3 c)=true:=by
 rw[Cf];intro c hc;simp only[pc,List.mem_flatMap,BD,WZ,or_false] at hc;obtain⟨r,_,rfl | rfl⟩:=hc <;> rfl
theorem Aux(xs:LI):Aay (lm xs) X3=true:=by
 rw[Cf];intro c hc;simp only[lm,Cn] at hc;obtain⟨x,_,rfl⟩:=hc;rfl
theorem S5(n:Int):Hr (Ag n)=true:=by
 simp only[Ag,Hr,A3i,NT,Aux,List.all_nil,Bool.and_self]
theorem AW(rs:List Rn):(N rs).length=rs.length:=by simp [N]
theorem CU(rs:List Rn)(i:Nat):(N rs).getD i 0=L (rs.getD i z0):=by
 simp only[N,Z,Cs];cases rs[i]? <;> rfl
theorem Aep(rs:List Rn)(i:Nat)(r:Rn):N (rs.set i r)=(N rs).set i (L r):=by simp [N,Qc]
theorem mI(n:Nat):N (l n z0)=l n 0:=by simp [N,mG]
theorem Bo{K:Nat}{rs:List Rn}(h:∀ r∈rs,AU K r)(i:Nat):AU K (rs.getD i z0):=by
 rw[Z];cases e:rs[i]? with
 | none=>exact QM K
 | some r=>exact h r (V_ e)
theorem Aeq{K:Nat}{rs:List Rn}(h:∀ r∈rs,AU K r){i:Nat}{r:Rn}(hr:AU K r):∀ x∈rs.set i r,AU K x:=by
 intro x hx;rcases A3p hx with g | g
 ·exact h x g
 ·rw[g];exact hr
theorem Wu(K n:Nat):∀ r∈l n z0,AU K r:=fun r hr=>by rw [Xk hr];exact QM K
theorem Vs{k:Nat}{ps:LI}(h:∀ x∈ps,Bv k x):∀ r∈ps.map cn,AU k r:=fun r hr=>by
 obtain⟨x,hx,rfl⟩:=Cn.1 hr;exact B4 (h x hx)
theorem Dk{k:Nat}{rs:List Rn}(h:∀ r∈rs,AU k r):∀ x∈N rs,Bv k x:=fun x hx=>by
 obtain⟨r,hr,rfl⟩:=Cn.1 hx;exact (h r hr).fits
theorem cD{xs ys:LI}(h:∀ i,xs.getD i 0=ys.getD i 0):∀ n,b xs n=b ys n:=by
 intro n;induction n with
 | zero=>rfl
 | succ n ih=>simp only[b,h n,ih]
theorem Y6(xs:LI):∀ d,b xs (xs.length+d)=b xs xs.length:=by
 intro d;induction d with
 | zero=>rfl
 | succ d ih =>
  rw[<- DW];simp only[b];rw[B3 (by omega),if_pos rfl,ih]
theorem Dl(xs:LI)(i:Nat):(Y xs).getD i 0=xs.getD i 0:=by
 unfold Y;rcases Ct i (b xs xs.length) with h | h
 ·simp only[Z,List.getElem?_take,if_pos h]
 ·have e:(xs.take (b xs xs.length)).getD i 0=0:=B3 (by simp;omega);rw[e];rcases Ct i xs.length with h2 | h2
  ·exact (Tj xs xs.length i h h2).symm
  ·exact (B3 h2).symm
theorem L_{xs ys:LI}(hl:xs.length=ys.length)(h:∀ i,xs.getD i 0=ys.getD i 0):xs=ys:=by
 apply fB hl;intro i h1 h2;have:=h i;simpa [Z,Ad h1,Ad h2] using this
theorem Gb{xs ys:LI}(h:∀ i,xs.getD i 0=ys.getD i 0):Y xs=Y ys:=by
 have hlen:(Y xs).length=(Y ys).length:=by
  have h1:∀ zs:LI,(Y zs).length=b zs zs.length:=fun zs=>by have:=KO zs zs.length;simp[Y];omega
  rw[h1,h1];rcases Nat.le_total xs.length ys.length with g | g
  ·have:=Y6 xs (ys.length-xs.length);rw[show xs.length+(ys.length-xs.length)=ys.length by omega] at this;rw[<- this,cD h]
  ·have:=Y6 ys (xs.length-ys.length);rw[show ys.length+(xs.length-ys.length)=xs.length by omega] at this;rw[<- this,cD h]
 refine L_ hlen fun i => ?_;rw[Dl,Dl,h i]
theorem LK(xs:LI):(Y xs).length=b xs xs.length:=by have:=KO xs xs.length;simp [Y];omega
theorem Aer{xs:LI}{x:Int}(h:x∈Y xs):x∈xs:=BT h
theorem Fs(xs:LI):Y (Y xs)=Y xs:=Gb (Dl xs)
def Aa:LI->Int->Int
 | [],_=>0
 | p::ps,x=>p+x*Aa ps x
theorem Wv{xs:LI}(h:∀ i,xs.getD i 0=0)(x:Int):Aa xs x=0:=by
 induction xs with
 | nil=>rfl
 | cons p ps ih =>
  have h0:=h 0;simp at h0;have:=ih (fun i=>by simpa using h (i+1));simp[Aa,h0,this]
theorem G_:∀ {xs ys:LI},(∀ i,xs.getD i 0=ys.getD i 0)->∀ x,Aa xs x=Aa ys x
 | [],ys,h,x=>(Wv (fun i=>(h i).symm) x).symm
 | p::ps,[],h,x=>Wv (fun i=>h i) x
 | p::ps,q::qs,h,x=>by
  have h0:=h 0;simp at h0;simp only[Aa,h0];rw[G_ (fun i=>by simpa using h (i+1)) x]
theorem DR(xs:LI)(x:Int):Aa (Y xs) x=Aa xs x:=G_ (Dl xs) x
def Hc(g:Nat->Rn)(i r:Nat):List Rn:=(Aq i).map g++l r z0
theorem QP(g:Nat->Rn)(i r:Nat):(Hc g i r).length=i+r:=by simp [Hc]
theorem Uk(g:Nat->Rn)(r:Nat):Hc g 0 r=l r z0:=by simp [Hc]
theorem Ul(g:Nat->Rn)(i:Nat):Hc g i 0=(Aq i).map g:=by simp [Hc]
theorem Ww(g:Nat->Rn)(i r:Nat):(Hc g i (r+1)).set i (g i)=Hc g (i+1) r:=by
 unfold Hc;rw[ACg _ _ (by simp),Io,Ez,GL];simp
theorem KP(g:Nat->Rn)(n i:Nat):(N ((Aq n).map g)).getD i 0=if i<n then L (g i) else 0:=by
 rw[CU,Z];by_cases h:i<n
 ·simp[h]
 ·simp[h,mG]
theorem Vt(xs:LI):(Aq xs.length).map (fun i=>cn (xs.getD i 0))=xs.map cn:=by
 apply fB (by simp);intro i h1 h2;have h3:i<xs.length:=by simpa using h2
 simp[Z,Ad h3]
theorem Pc{K:Nat}{g:Nat->Rn}{n:Nat}(h:∀ i,i<n->AU K (g i)):∀ r∈(Aq n).map g,AU K r:=fun r hr=>by
 obtain⟨i,hi,rfl⟩:=Cn.1 hr;exact h i (JK.1 hi)
theorem HP(k:Nat):Bv k 0:=by unfold Bv;simp;exact DH (by decide)
theorem Y7{k:Nat}{xs:LI}(h:∀ x∈xs,Bv k x)(i:Nat):Bv k (xs.getD i 0):=by
 rw[Z];cases e:xs[i]? with
 | none=>exact HP k
 | some x=>exact h x (V_ e)
def Ec(ps qs:LI):LI:=Y ((Aq (max ps.length qs.length)).map fun i=>ps.getD i 0+qs.getD i 0)
def Cp(ps:LI):LI:=ps.map fun x => -x
theorem DS(ps qs:LI)(i:Nat):(Ec ps qs).getD i 0=ps.getD i 0+qs.getD i 0:=by
 unfold Ec;rw[Dl,Z];by_cases h:i<max ps.length qs.length
 ·simp[h]
 ·have h1:ps.length<=i:=by omega
  have h2:qs.length<=i:=by omega
  rw[B3 h1,B3 h2];simp[h]
theorem HQ(ps:LI)(i:Nat):(Cp ps).getD i 0 = -(ps.getD i 0):=by
 unfold Cp;simp only[Z,Cs];cases ps[i]? <;> simp
theorem uM(ps qs:LI):Y (Ec ps qs)=Ec ps qs:=Fs _
theorem QQ(xs:LI)(x:Int):Aa xs x=xs.getD 0 0+x*Aa (xs.drop 1) x:=by
 cases xs <;> simp[Aa]
theorem Xc:∀ (n:Nat) (us bs cs:LI),us.length<=n->bs.length<=n->cs.length<=n->(∀ i,cs.getD i 0=us.getD i 0+bs.getD i 0)->∀ x,Aa cs x=Aa us x+Aa bs x:=by
 intro n;induction n with
 | zero =>
  intro us bs cs h1 h2 h3 _ x;rw[A5 (by omega:us.length=0),A5 (by omega:bs.length=0),A5 (by omega:cs.length=0)];rfl
 | succ n ih =>
  intro us bs cs h1 h2 h3 h x;rw[QQ us,QQ bs,QQ cs,h 0,ih (us.drop 1) (bs.drop 1) (cs.drop 1) (by simp;omega) (by simp;omega) (by simp;omega) (fun i=>by
   have:=h (i+1);simpa [Z,Gt] using this) x]
  rw[CT];omega
theorem BY(ps qs:LI)(x:Int):Aa (Ec ps qs) x=Aa ps x+Aa qs x :=
 Xc (max (max ps.length qs.length) (Ec ps qs).length) ps qs _ (by omega) (by omega) (by omega) (DS ps qs) x
theorem KR(ps:LI)(x:Int):Aa (Cp ps) x = -Aa ps x:=by
 induction ps with
 | nil=>rfl
 | cons p ps ih =>
  have:Cp (p::ps) = -p::Cp ps:=rfl;rw[this];simp only[Aa,ih];rw[EY];omega
def vp(rs : List Rn) : Reg := .val (.sl rs.length (pc rs))
def bR(r : Rn) : Reg := .box [.bool r.1, .sl r.2.length (lm r.2)]
def bN(n : Int) : Reg := .box [.bool (decide (n < 0)), .sl ((M (E n)).length) (lm (M (E n)))]
section
variable {prog:Nat->Option IFunc}
theorem ZS{c:Opd}{a b:ICode}{s t:Aj}{ex:Ex}(h:c.av s=some (.bool true))(h1:DX prog a s ex t):DX prog (.cond c a b) s ex t:=by
 obtain⟨n,h1⟩:=h1;refine⟨n+1,?_⟩;have e1:=Gf (E' prog (show n<=n+1 by omega)) (Ao n) h1;simp only[C4,Lh,h,e1]
theorem ZT{c:Opd}{a b:ICode}{s t:Aj}{ex:Ex}(h:c.av s=some (.bool false))(h1:DX prog b s ex t):DX prog (.cond c a b) s ex t:=by
 obtain⟨n,h1⟩:=h1;refine⟨n+1,?_⟩;have e1:=Gf (E' prog (show n<=n+1 by omega)) (Ao n) h1;simp only[C4,Lh,h,e1]
theorem K0{c:Opd}{a b:ICode}{s t:Aj}{ex:Ex}{x:Bool}(h:c.av s=some (.bool x))(hx:x=true)(h1:CE prog a s ex t):CE prog (.cond c a b) s ex t:=by
 subst hx;obtain⟨u,k1,k2⟩:=h1;exact⟨u,ZS h k1,k2⟩
theorem K1{c:Opd}{a b:ICode}{s t:Aj}{ex:Ex}{x:Bool}(h:c.av s=some (.bool x))(hx:x=false)(h1:CE prog b s ex t):CE prog (.cond c a b) s ex t:=by
 subst hx;obtain⟨u,k1,k2⟩:=h1;exact⟨u,ZT h k1,k2⟩
theorem Oe{id:Nat}{c:ICode}{s t:Aj}{i:Nat}(h:CE prog c s (.exit i) t)(hi:i ≠ id):CE prog (.block id c) s (.exit i) t:=by
 obtain⟨u,k1,k2⟩:=h;exact⟨u,NY k1 hi,k2⟩
theorem CE.up{c:ICode}{ex:Ex}{fin:Aj}(st:Nat->Aj)(n:Nat)(hex:ex ≠ .norm)(step:∀ i,i<n->CE prog c (st i) .norm (st (i+1)))(out:CE prog c (st n) ex fin):∀ i,i<=n->CE prog (.loop c) (st i) ex fin:=by
 have key:∀ r i,i+r=n->CE prog (.loop c) (st i) ex fin:=by
  intro r;induction r with
  | zero =>
   intro i hi;have:i=n:=by omega
   subst this;exact Ah out hex
  | succ r ih =>
   intro i hi;exact CE.loop (step i (by omega)) (ih (i+1) (by omega))
 intro i hi;exact key (n-i) i (by omega)
theorem CE.to{c:ICode}{ex:Ex}{s t s' t':Aj}(h:CE prog c s ex t)(hs:s=s')(ht:t=t'):CE prog c s' ex t':=hs ▸ ht ▸ h
end
theorem EI{X:Int}{n:Nat}(h:0<=X/\X<(n:Int)):D X<n:=by omega
theorem p{xs:LI}{X:Int}(h:0<=X/\X<(xs.length:Int)):Bj (g (D X*1) (lm xs)) 0 1 true=some (.int .u32 (xs.getD (D X) 0)):=E6 (EI h)
theorem cE(ws:LI)(l h:Nat):Bx ((h-l)*1) (g (l*1) (lm ws))=lm ((ws.drop l).take (h-l)):=by
 simp[lm,PZ,List.map_drop]
theorem Wx{ws:LI}{l h m:Nat}{X:Int}{a b:Bool}(hx:0<=X/\X<((h-l:Nat):Int))(hl:l<=h/\h<=m/\m<=ws.length/\(a=true->b=true)):Bj (g (D X*1) (Bx ((h-l)*1) (g (l*1) (lm ws)))) 0 1 true=some (.int .u32 (((ws.drop l).take (h-l)).getD (D X) 0)):=by
 rw[cE];exact E6 (by have:=EI hx;simp;omega)
theorem Cy{xs:LI}{n:Nat}(hl:xs.length=n){X:Int}(h:0<=X/\X<(n:Int)):Bj (lm xs) (D X*1) 1 true=some (.int .u32 (xs.getD (D X) 0)):=Y1 (hl ▸ EI h)
theorem Dm{xs:LI}{n:Nat}(hl:xs.length=n){X:Int}(h:0<=X/\X<(n:Int)){v:Int}:C5 (lm xs) (D X*1) [.int .u32 v]=some (lm (xs.set (D X) v)):=J2 (hl ▸ EI h)
theorem BP{rs:List Rn}{X:Int}(h:0<=X/\X<(rs.length:Int)):Bj (g (D X*2) (pc rs)) 0 2 false=some (Az (rs.getD (D X) z0)):=QN (EI h)
theorem Hn{rs:List Rn}{n:Nat}(hl:rs.length=n){X:Int}(h:0<=X/\X<(n:Int)):Bj (pc rs) (D X*2) 2 false=some (Az (rs.getD (D X) z0)):=A4w (hl ▸ EI h)
theorem HR{rs:List Rn}{n:Nat}(hl:rs.length=n){X:Int}(h:0<=X/\X<(n:Int)){r:Rn}:C5 (pc rs) (D X*2) [.bool r.1,.sl r.2.length (lm r.2)]=some (pc (rs.set (D X) r)):=gS (hl ▸ EI h)
theorem ZU{rs:List Rn}{i:Nat}(h:i<rs.length):g (i*2) (pc rs) = .bool (rs.getD i z0).1 :: .sl (rs.getD i z0).2.length (lm (rs.getD i z0).2)::pc (rs.drop (i+1)):=by
 rw[Uj,B2 h,Od];simp[Z,Ad h]
theorem cF{rs:List Rn}{X:Int}(h:0<=X/\X<(rs.length:Int)):Bj (g 1 (g (D X*2) (pc rs))) 0 1 true=some (.sl (rs.getD (D X) z0).2.length (lm (rs.getD (D X) z0).2)):=by
 rw[ZU (EI h)];rfl
def li(xs:LI):List AV:=xs.map (F .i64)
theorem A4x{xs:LI}{i:Nat}(h:i<xs.length):(li xs)[i]? = some (.int .i64 (xs.getD i 0)):=by
 simp[li,Cs,Ad h,Z]
theorem Aes{xs:LI}{X:Int}(h:0<=X/\X<(xs.length:Int)):Bj (g (D X*1) (li xs)) 0 1 true=some (.int .i64 (xs.getD (D X) 0)):=by
 simp only[Bj,if_true,FR,Bu,EJ];exact A4x (EI h)
def pp(ps:List (List Rn)):List AV:=ps.map fun rs => sL pc rs
theorem A4y{ps:List (List Rn)}{i:Nat}(h:i<ps.length):(pp ps)[i]? = some (.sl (ps.getD i []).length (pc (ps.getD i []))):=by
 simp[pp,Cs,Ad h,Z]
theorem Cq{ps:List (List Rn)}{X:Int}(h:0<=X/\X<(ps.length:Int)):Bj (g (D X*1) (pp ps)) 0 1 true=some (.sl (ps.getD (D X) []).length (pc (ps.getD (D X) []))):=by
 simp only[Bj,if_true,FR,Bu,EJ];exact A4y (EI h)
def DB(l:List (List (List Rn))):List AV:=l.map fun ps => sL pp ps
theorem Auy{l:List (List (List Rn))}{i:Nat}(h:i<l.length):(DB l)[i]? = some (.sl (l.getD i []).length (pp (l.getD i []))):=by
 simp[DB,Cs,Ad h,Z]
theorem Cr{l:List (List (List Rn))}{X:Int}(h:0<=X/\X<(l.length:Int)):Bj (g (D X*1) (DB l)) 0 1 true=some (.sl (l.getD (D X) []).length (pp (l.getD (D X) []))):=by
 simp only[Bj,if_true,FR,Bu,EJ];exact Auy (EI h)
theorem Tn(xs:LI)(i:Nat)(v x:Int)(h:i<xs.length):Aa (xs.set i v) x=Aa xs x+x^i*(v-xs.getD i 0):=by
 induction xs generalizing i with
 | nil=>simp at h
 | cons p ps ih =>
  cases i with
  | zero=>simp only[AEh,Aa,Dj,Kt];omega
  | succ i =>
   simp only[AEi,Aa,Ix];rw[ih i (by simpa using h),A7];generalize x^i=q;generalize Aa ps x=y;generalize ps.getD i 0=z;grind
theorem Pd(n:Nat)(x:Int):Aa (l n 0) x=0:=by
 induction n with
 | zero=>rfl
 | succ n ih=>simp[GL,Aa,ih]
theorem Auz:∀ (d:LI) (b:Int),(∀ x,b<=x->Aa d x=0)->∀ i,d.getD i 0=0
 | [],_,_,i=>by simp
 | c::d,b,h,i=>by
  have hc:c=0:=by
   have h1:=h (max b (c.natAbs+1)) (by omega);simp only[Aa] at h1;have h2:(max b ((c.natAbs:Int)+1))∣c:=⟨-(Aa d (max b ((c.natAbs:Int)+1))),by rw[EY];omega⟩;rcases G3 c 0 with g | g | g
   ·have:=ABx (a:=max b ((c.natAbs:Int)+1)) (b := -c) (by omega) ((Int.dvd_neg).2 h2);omega
   ·exact g
   ·have:=ABx (a:=max b ((c.natAbs:Int)+1)) (b:=c) (by omega) h2;omega
  cases i with
  | zero=>simpa using hc
  | succ i =>
   have:=Auz d (max b 1) (fun x hx=>by
    have h1:=h x (by omega);simp only[Aa,hc,Ed] at h1;rcases EH.1 h1 with g | g
    ·omega
    ·exact g) i
   simpa using this
theorem Dq{p q:LI}(h:∀ x,Aa p x=Aa q x)(i:Nat):p.getD i 0=q.getD i 0:=by
 have:=Auz (Ec p (Cp q)) 0 (fun x _=>by rw[BY,KR,h x];omega) i;rw[DS,HQ] at this;omega
theorem Ft{p q:LI}(h:∀ x,Aa p x=Aa q x):Y p=Y q:=Gb (Dq h)
def My(p q:LI):LI:=Ec p (Cp q)
theorem FC(p q:LI)(x:Int):Aa (My p q) x=Aa p x-Aa q x:=by rw [My,BY,KR];omega
theorem To(p q:LI)(i:Nat):(My p q).getD i 0=p.getD i 0-q.getD i 0:=by rw [My,DS,HQ];omega
def As(a:Int)(q:LI):LI:=q.map fun x=>a*x
theorem A0(a:Int)(q:LI)(x:Int):Aa (As a q) x=a*Aa q x:=by
 induction q with
 | nil=>simp[As,Aa]
 | cons c q ih =>
  have:As a (c::q)=a*c::As a q:=rfl;rw[this];simp only[Aa,ih];generalize Aa q x=y;grind
theorem m(a:Int)(q:LI)(i:Nat):(As a q).getD i 0=a*q.getD i 0:=by
 unfold As;simp only[Z,Cs];cases q[i]? <;> simp
def Bs:LI->LI->LI
 | [],_=>[]
 | a::p,q=>Ec (As a q) (0::Bs p q)
theorem AX(p q:LI)(x:Int):Aa (Bs p q) x=Aa p x*Aa q x:=by
 induction p with
 | nil=>simp[Bs,Aa]
 | cons a p ih =>
  simp only[Bs,BY,A0,Aa,ih];generalize Aa q x=y;generalize Aa p x=z;grind
theorem M0(p q:LI):Y (Bs p q)=Bs p q:=by
 cases p with
 | nil=>rfl
 | cons a p=>exact uM _ _
theorem M1{k:Nat}{p:LI}(hp:∀ x∈p,Bv k x):∀ x∈Y p,Bv k x:=fun x hx=>hp x (Aer hx)
theorem cH(p q:LI):(Ec p q).length<=max p.length q.length:=by
 have:=BA ((Aq (max p.length q.length)).map fun i=>p.getD i 0+q.getD i 0);simpa [Ec] using this
theorem El(p:LI):(Cp p).length=p.length:=by simp [Cp]
theorem Of(xs:LI)(j:Nat)(x:Int):Aa (xs.take (j+1)) x=Aa (xs.take j) x+x^j*xs.getD j 0:=by
 induction xs generalizing j with
 | nil=>simp[Aa]
 | cons p ps ih =>
  cases j with
  | zero=>simp[Aa]
  | succ j =>
   simp only[AEe,Aa,Ix,ih j,A7];generalize x^j=q;generalize Aa (ps.take j) x=y;generalize ps.getD j 0=z;grind
def Sj(rs ss os:List Rn)(i:Nat):Nat->List Rn
 | 0=>os
 | j+1=>(Sj rs ss os i j).set (i+j) (cn (L ((Sj rs ss os i j).getD (i+j) z0)+L (rs.getD i z0)*L (ss.getD j z0)))
def Nh(rs ss os:List Rn)(m:Nat):Nat->List Rn
 | 0=>os
 | i+1=>Sj rs ss (Nh rs ss os m i) i m
theorem QR(rs ss os:List Rn)(i j:Nat):(Sj rs ss os i j).length=os.length:=by
 induction j with
 | zero=>rfl
 | succ j ih=>simp only[Sj,Ba,ih]
theorem Pe(rs ss os:List Rn)(m i:Nat):(Nh rs ss os m i).length=os.length:=by
 induction i with
 | zero=>rfl
 | succ i ih=>rw[Nh,QR,ih]
theorem mJ(rs ss os:List Rn)(i j t:Nat)(h:i+j<=t):(Sj rs ss os i j).getD t z0=os.getD t z0:=by
 induction j with
 | zero=>rfl
 | succ j ih =>
  rw[Sj,Z,F9 (by omega),<- Z];exact ih (by omega)
theorem Aet{K B:Nat}{rs ss os:List Rn}(hr:∀ r∈rs,AU K r)(hs:∀ r∈ss,AU K r)(ho:∀ r∈os,AU B r)(hB:2*K<=B)(i j:Nat):∀ r∈Sj rs ss os i j,AU (B+1) r:=by
 induction j with
 | zero=>exact fun r h=>(ho r h).mono (by omega)
 | succ j ih =>
  rw[Sj];refine Aeq ih ?_;rw[mJ _ _ _ _ _ _ (Ao _)];exact B4 ((Bo ho _).fits.add (((Bo hr i).fits.mul (Bo hs j).fits).mono (by omega)))
theorem Y8{K:Nat}{rs ss os:List Rn}(hr:∀ r∈rs,AU K r)(hs:∀ r∈ss,AU K r)(ho:∀ r∈os,AU (2*K) r)(m i:Nat):∀ r∈Nh rs ss os m i,AU (2*K+i) r:=by
 induction i with
 | zero=>exact ho
 | succ i ih=>exact Aet hr hs ih (by omega) i m
theorem Aeu(rs ss os:List Rn)(i:Nat)(x:Int):∀ j,i+j<=os.length->Aa (N (Sj rs ss os i j)) x=Aa (N os) x+x^i*(L (rs.getD i z0)*Aa ((N ss).take j) x):=by
 intro j;induction j with
 | zero=>intro _;simp[Sj,Aa]
 | succ j ih =>
  intro h;have h1:=ih (by omega);rw[Sj,Aep,Tn _ _ _ _ (by rw[AW,QR];omega),h1,A6,CU,Of,CU,BB];generalize x^i=p;generalize x^j=q;generalize Aa ((N ss).take j) x=y;grind
theorem uN(rs ss:List Rn)(m n:Nat)(x:Int):∀ i,i+m<=n+1->Aa (N (Nh rs ss (l n z0) m i)) x=Aa ((N rs).take i) x*Aa ((N ss).take m) x:=by
 intro i;induction i with
 | zero=>intro _;simp[Nh,mI,Pd,Aa]
 | succ i ih =>
  intro h;rw[Nh,Aeu _ _ _ _ _ _ (by rw[Pe];simp;omega),ih (by omega),Of,CU];generalize x^i=p;grind
theorem Vu{p q:LI}(h:b q q.length=0):Bs p q=[]:=by
 have h1:Y q=[]:=by rw[Y,h];rfl
 rw[<- M0];have:Y (Bs p q)=Y []:=Ft fun x=>by
  rw[AX,<- DR q,h1];simp[Aa]
 rw[this];rfl
def hv:LI->Int->Int->Int
 | [],_,_=>0
 | t::ts,x,d=>t*d^ts.length+x*hv ts x d
theorem A4z(ts:LI)(x:Int):hv ts x 1=Aa ts x:=by
 induction ts with
 | nil=>rfl
 | cons t ts ih =>
  have h1:∀ n:Nat,(1:Int)^n=1:=fun n=>by induction n with
   | zero=>rfl
   | succ n ih=>rw[A7,ih];rfl
  simp only[hv,Aa,ih,h1,Dh]
end Go.Ai
namespace Go.Proofs.YtajompaehjkgkaaGreat
open Go.Ai
set_option maxRecDepth 100000
open BitVec renaming ofInt->T,ofInt_natCast->LS,toNat_ofNat->Ks,toNat_or->rW
open Bool renaming and_true->MJ,false_and->PG,false_eq_true->B_
open Decidable renaming decide->A
open Go.Ai.AV renaming agg->o,bool->B,fresh->P,int->F,sl->H,tup->Ar
open Go.Ai.Reg renaming box->Ay,own->X,val->C
open Go.IntKind renaming bits->An,i64->O,u32->Ae,u64->U,wrap->I
open Go.Proofs.Tryz renaming prog->Mv
open Int renaming add_comm->Ma,emod_add_mul_ediv->VY,emod_eq_of_lt->GK,fdiv->d,fdiv_eq_ediv_of_nonneg->q,lt_of_le_of_lt->Afa,mul_le_mul_of_nonneg_left->Al,mul_le_mul_of_nonneg_right->Ac,mul_nonneg->AA,natAbs->E,natCast_mul->DI,natCast_nonneg->I8,natCast_pow->Dp,one_mul->Dt,pow_add->BB,pow_mul->rX,pow_pos->G2,pow_succ->A7,pow_zero->Dj,sub_zero->F8,tdiv->Ax,tdiv_eq_ediv_of_nonneg->BK,tmod->AB,tmod_eq_emod_of_nonneg->B1,toNat->D,toNat_natCast->R,zero_add->Ed
open List renaming append_assoc->L0,append_nil->Mp,drop->g,drop_zero->Da,length->Bl,length_append->AY,length_replicate->Ew,length_set->Ba,map_take->PZ,mem_append->Bn,mem_singleton->C3,replicate->l,take->Bx,take_length->DP
open Nat renaming add_mul->DE,add_zero->EJ,div_add_mod->rU,le_refl->Ao,le_trans->Bm,lt_of_le_of_lt->DF,lt_or_ge->Ct,mod_eq_of_lt->EK,mul_comm->CY,mul_le_mul_right->AJ,mul_one->FR,one_mul->FL,pow_add->De,pow_le_pow_right->BM,two_pow_add_eq_or_of_lt->A3w
noncomputable section
theorem uO(neg:Bool)(xs:LI)(c1:((((Y xs).length:Nat):Int)==0)=true)(n1:RQ 99 [sL lm xs] (P 1 ((Y xs).length) (lm (Y xs)))):RQ 79 [o [B neg,sL lm xs]] (F O 0):=i (fn:=iF Mv AAr) CO rfl 400 rfl [.r (P 1 ((Y xs).length) (lm (Y xs))),bT] (J0 n1 c1)
theorem uP(neg:Bool)(xs:LI)(c1:((((Y xs).length:Nat):Int)==0)=false)(c2:(neg)=true)(n1:RQ 99 [sL lm xs] (P 1 ((Y xs).length) (lm (Y xs)))):RQ 79 [o [B neg,sL lm xs]] (F O (-1)):=i (fn:=iF Mv AAr) CO rfl 400 rfl [.r (P 1 ((Y xs).length) (lm (Y xs))),bF,bT] (JV n1 c1 c2)
theorem uQ(neg:Bool)(xs:LI)(c1:((((Y xs).length:Nat):Int)==0)=false)(c2:(neg)=false)(n1:RQ 99 [sL lm xs] (P 1 ((Y xs).length) (lm (Y xs)))):RQ 79 [o [B neg,sL lm xs]] (F O 1):=i (fn:=iF Mv AAr) CO rfl 400 rfl [.r (P 1 ((Y xs).length) (lm (Y xs))),bF,bF] (JV n1 c1 c2)
theorem Ava(neg:Bool)(xs:LI)(v:Int)(n1:RQ 98 [B (!neg),sL lm xs] (CR v)):RQ 161 [o [B neg,sL lm xs]] (Ag v):=i (fn:=iF Mv Asn) CO rfl 400 rfl [.r (CR v)] (Jx n1)
theorem A5a(neg:Bool)(xs:LI)(v:Int)(n1:RQ 98 [B neg,sL lm xs] (CR v)):RQ 97 [o [B neg,sL lm xs]] (Ag v):=i (fn:=iF Mv ABl) CO rfl 400 rfl [.r (CR v)] (Jx n1)
def OQ:ICode:=c Arn 92 244
def I0(xs:LI)(ys:LI)(n:Nat)(cs:List AV)(c:Int)(i:Int):Aj:=(C (sL lm xs)::(C (sL lm ys)::(W 3 (X 1 n cs::(C (F U c)::(C (F O i)::(W 46 [])))))))
theorem Avb(xs:LI)(ys:LI)(n:Nat)(cs:List AV)(c:Int)(i:Int)(c1:A (i<(xs.length:Int))=true)(c2:A (i<(ys.length:Int))=true)(n1:0<=i/\i<(xs.length:Int))(n2:0<=i/\i<(ys.length:Int))(n3:n+1<=35184372088832):Ap OQ (I0 xs ys n cs c i) .norm (I0 xs ys (n+1) (cs++([F Ae (I Ae (I U ((I U (c+(I U (xs.getD (D i) 0))))+(I U (ys.getD (D i) 0)))))]:List AV)) (d (I U ((I U (c+(I U (xs.getD (D i) 0))))+(I U (ys.getD (D i) 0)))) (2^(min (D 32) (An .u64)))) (I O (i+1))):=(J CO [bT,bT,bT,bT,.v (F Ae (xs.getD (D i) 0)),bT,.v (F Ae (ys.getD (D i) 0))] Qz (Te c1 QH QH c1 n1 (p n1) c2 n2 (p n2) (show Bl ([F Ae (I Ae (I U ((I U (c+(I U (xs.getD (D i) 0))))+(I U (ys.getD (D i) 0)))))]:List AV)=1*1 from rfl) n3 Jn))
theorem Avc(xs:LI)(ys:LI)(n:Nat)(cs:List AV)(c:Int)(i:Int)(c1:A (i<(xs.length:Int))=true)(c2:A (i<(ys.length:Int))=false)(n1:0<=i/\i<(xs.length:Int))(n2:n+1<=35184372088832):Ap OQ (I0 xs ys n cs c i) .norm (I0 xs ys (n+1) (cs++([F Ae (I Ae (I U (c+(I U (xs.getD (D i) 0)))))]:List AV)) (d (I U (c+(I U (xs.getD (D i) 0)))) (2^(min (D 32) (An .u64)))) (I O (i+1))):=(J CO [bT,bT,bT,bT,.v (F Ae (xs.getD (D i) 0)),bF] Qz (OS c1 QH QH c1 n1 (p n1) c2 (show Bl ([F Ae (I Ae (I U (c+(I U (xs.getD (D i) 0)))))]:List AV)=1*1 from rfl) n2 Jn))
theorem Avd(xs:LI)(ys:LI)(n:Nat)(cs:List AV)(c:Int)(i:Int)(c1:A (i<(xs.length:Int))=false)(c2:A (i<(ys.length:Int))=true)(n1:0<=i/\i<(ys.length:Int))(n2:n+1<=35184372088832):Ap OQ (I0 xs ys n cs c i) .norm (I0 xs ys (n+1) (cs++([F Ae (I Ae (I U (c+(I U (ys.getD (D i) 0)))))]:List AV)) (d (I U (c+(I U (ys.getD (D i) 0)))) (2^(min (D 32) (An .u64)))) (I O (i+1))):=(J CO [bF,bT,bT,bF,bT,.v (F Ae (ys.getD (D i) 0))] Qz (OS c1 c2 QH c1 c2 n1 (p n1) (show Bl ([F Ae (I Ae (I U (c+(I U (ys.getD (D i) 0)))))]:List AV)=1*1 from rfl) n2 Jn))
theorem Ave(xs:LI)(ys:LI)(n:Nat)(cs:List AV)(c:Int)(i:Int)(c1:A (i<(xs.length:Int))=false)(c2:A (i<(ys.length:Int))=false)(c3:A (c>0)=true)(n1:n+1<=35184372088832):Ap OQ (I0 xs ys n cs c i) .norm (I0 xs ys (n+1) (cs++([F Ae (I Ae c)]:List AV)) (d c (2^(min (D 32) (An .u64)))) (I O (i+1))):=(J CO [bF,bF,bT,bF,bF] Qz (ND c1 c2 c3 c1 c2 (show Bl ([F Ae (I Ae c)]:List AV)=1*1 from rfl) n1 Jn))
theorem mK(xs:LI)(ys:LI)(n:Nat)(cs:List AV)(c:Int)(i:Int)(c1:A (i<(xs.length:Int))=false)(c2:A (i<(ys.length:Int))=false)(c3:A (c>0)=false):Ap OQ (I0 xs ys n cs c i) (.exit 0) (I0 xs ys n cs c i):=(J CO [bF,bF,bF] Qz (JV c1 c2 c3))
theorem Avf(xs ys:LI)(n:Nat)(cs:List AV)(c i:Int)(hl1:Ap (.loop OQ) (I0 xs ys 0 ([]:List AV) 0 0) (.exit 0) (I0 xs ys n cs c i)):RQ 144 [sL lm xs,sL lm ys] (P 1 n cs):=OO Arn (W 1 (C (sL lm ys)::(W 2 (X 1 n cs::(W 49 []))))) (CE.asc (CE.asc (Av (CE.seq (J CO [] Qz a0) (CE.seq (CE.block hl1) (J CO [] [1,4] a0))))))
def Tb:ICode:=c Arp 92 244
def Lo(xs:LI)(ys:LI)(n:Nat)(cs:List AV)(c:Int)(i:Int):Aj:=(C (sL lm xs)::(C (sL lm ys)::(W 3 (X 1 n cs::(C (F U c)::(C (F O i)::(W 34 [])))))))
theorem Avg(xs:LI)(ys:LI)(n:Nat)(cs:List AV)(c:Int)(i:Int)(c1:A (i<(xs.length:Int))=true)(c2:A (i<(ys.length:Int))=true)(n1:0<=i/\i<(ys.length:Int))(n2:0<=i/\i<(xs.length:Int))(n3:n+1<=35184372088832):Ap Tb (Lo xs ys n cs c i) .norm (Lo xs ys (n+1) (cs++([F Ae (I Ae (I U ((I U ((I U (xs.getD (D i) 0))-(I U (ys.getD (D i) 0))))-c)))]:List AV)) (d (I U ((I U ((I U (xs.getD (D i) 0))-(I U (ys.getD (D i) 0))))-c)) (2^(min (D 63) (An .u64)))) (I O (i+1))):=(J CO [bT,bT,.v (F Ae (ys.getD (D i) 0)),.v (F Ae (xs.getD (D i) 0))] Qz (Qx c1 c2 n1 (p n1) n2 (p n2) (show Bl ([F Ae (I Ae (I U ((I U ((I U (xs.getD (D i) 0))-(I U (ys.getD (D i) 0))))-c)))]:List AV)=1*1 from rfl) n3 ZQ))
theorem Avh(xs:LI)(ys:LI)(n:Nat)(cs:List AV)(c:Int)(i:Int)(c1:A (i<(xs.length:Int))=true)(c2:A (i<(ys.length:Int))=false)(n1:0<=i/\i<(xs.length:Int))(n2:n+1<=35184372088832):Ap Tb (Lo xs ys n cs c i) .norm (Lo xs ys (n+1) (cs++([F Ae (I Ae (I U ((I U ((I U (xs.getD (D i) 0))-0))-c)))]:List AV)) (d (I U ((I U ((I U (xs.getD (D i) 0))-0))-c)) (2^(min (D 63) (An .u64)))) (I O (i+1))):=(J CO [bT,bF,.v (F Ae (xs.getD (D i) 0))] Qz (Lm c1 c2 n1 (p n1) (show Bl ([F Ae (I Ae (I U ((I U ((I U (xs.getD (D i) 0))-0))-c)))]:List AV)=1*1 from rfl) n2 ZQ))
theorem Avi(xs:LI)(ys:LI)(n:Nat)(cs:List AV)(c:Int)(i:Int)(c1:A (i<(xs.length:Int))=false):Ap Tb (Lo xs ys n cs c i) (.exit 0) (Lo xs ys n cs c i):=(J CO [bF] Qz (Jx c1))
theorem Avj(xs ys:LI)(n:Nat)(cs:List AV)(c i:Int)(hl1:Ap (.loop Tb) (Lo xs ys 0 ([]:List AV) 0 0) (.exit 0) (Lo xs ys n cs c i)):RQ 145 [sL lm xs,sL lm ys] (P 1 n cs):=OO Arp (W 1 (C (sL lm ys)::(W 2 (X 1 n cs::(W 37 []))))) (CE.asc (CE.asc (Av (CE.seq (J CO [] Qz a0) (CE.seq (CE.block hl1) (J CO [] [1,4] a0))))))
theorem IF(xs:LI)(v:Int):lm xs++([F Ae v]:List AV)=lm (xs++[v]):=by simp [lm]
theorem Og{xs:LI}(h:A_ xs){v:Int}(hv:0<=v/\v<4294967296):A_ (xs++[v]):=by
 intro x hx;rcases Bn.1 hx with g | g
 ·exact h x g
 ·rw[C3.1 g];exact hv
theorem M2(xs:LI)(v:Int):Ab (xs++[v])=Ab xs+4294967296^xs.length*v:=by rw [GZ];simp [Ab]
theorem mL{s:Int}:d s (2^(min (D 32) (An .u64)))=s / 4294967296:=by
 show d s 4294967296=_;rw[q _ (by omega)]
theorem ABy{s:Int}:d s (2^(min (D 63) (An .u64)))=s / 9223372036854775808:=by
 show d s 9223372036854775808=_;rw[q _ (by omega)]
theorem Aev{xs ys:LI}(hx:A_ xs)(hy:A_ ys)(h1:xs.length<1048576)(h2:ys.length<1048576):∀ (r i:Nat) (acc:LI) (c:Int),i+r=max xs.length ys.length->acc.length=i->A_ acc->0<=c/\c<=1 ->
  ∃ (zs:LI) (c' i':Int),A_ zs/\zs.length<=max xs.length ys.length+1/\Ab zs=Ab acc+4294967296^i*(c+Ab (xs.drop i)+Ab (ys.drop i)) /\
   Ap (.loop OQ) (I0 xs ys i (lm acc) c (i:Nat)) (.exit 0) (I0 xs ys zs.length (lm zs) c' i'):=by
 intro r;induction r with
 | zero =>
  intro i acc c hi hl hu hc;have e1:Ab (xs.drop i)=0:=Ek (by omega);have e2:Ab (ys.drop i)=0:=Ek (by omega);have g1:decide ((i:Int)<(xs.length:Int))=false:=by simp;omega
  have g2:decide ((i:Int)<(ys.length:Int))=false:=by simp;omega
  by_cases hc0:c=0
  ·refine⟨acc,c,i,hu,by omega,by rw[e1,e2,hc0];simp,?_⟩;rw[hl];exact Ah (mK xs ys i (lm acc) c (i:Nat) g1 g2 (by simp;omega))
  ·have hc1:c=1:=by omega
   subst hc1;refine⟨acc++[1],0,I O ((i:Int)+1),Og hu (by omega),by simp;omega,by rw[M2,e1,e2,hl];simp,?_⟩;have k:=Ave xs ys i (lm acc) 1 (i:Nat) g1 g2 (by simp) (by omega);rw[mL,Es,show (1:Int) % 4294967296=1 by decide,show (1:Int) / 4294967296=0 by decide,IF] at k;have ei:I O ((i:Int)+1)=((i+1:Nat):Int):=by rw[Bg (by omega) (by omega)];omega
   rw[ei] at k |-;have k2:=mK xs ys (i+1) (lm (acc++[1])) 0 ((i+1:Nat):Int) (by simp;omega) (by simp;omega) (by simp);have hll:(acc++[1]).length=i+1:=by simp[hl]
   rw[hll];exact CE.loop k (Ah k2)
 | succ r ih =>
  intro i acc c hi hl hu hc;have bx:=AL hx i;have byy:=AL hy i;have ei:I O ((i:Int)+1)=((i+1:Nat):Int):=by rw[Bg (by omega) (by omega)];omega
  have step:Ap OQ (I0 xs ys i (lm acc) c (i:Nat)) .norm (I0 xs ys (i+1) (lm (acc++[(c+xs.getD i 0+ys.getD i 0) % 4294967296])) ((c+xs.getD i 0+ys.getD i 0) / 4294967296) ((i+1:Nat):Int)):=by
   have wx:I U (xs.getD i 0)=xs.getD i 0:=by rw[BF];omega
   have wy:I U (ys.getD i 0)=ys.getD i 0:=by rw[BF];omega
   by_cases g1:i<xs.length <;> by_cases g2:i<ys.length
   ·have k:=Avb xs ys i (lm acc) c (i:Nat) (by simp;omega) (by simp;omega) (by omega) (by omega) (by omega);have w1:I U (I U (c+xs.getD i 0)+ys.getD i 0)=c+xs.getD i 0+ys.getD i 0:=by rw[BF,BF];omega
    simp only[R,wx,wy,w1,mL,Es,ei,IF] at k;exact k
   ·have k:=Avc xs ys i (lm acc) c (i:Nat) (by simp;omega) (by simp;omega) (by omega) (by omega);have hz:ys.getD i 0=0:=B3 (by omega);have w1:I U (c+xs.getD i 0)=c+xs.getD i 0+ys.getD i 0:=by rw[BF,hz];omega
    simp only[R,wx,w1,mL,Es,ei,IF] at k;exact k
   ·have k:=Avd xs ys i (lm acc) c (i:Nat) (by simp;omega) (by simp;omega) (by omega) (by omega);have hz:xs.getD i 0=0:=B3 (by omega);have w1:I U (c+ys.getD i 0)=c+xs.getD i 0+ys.getD i 0:=by rw[BF,hz];omega
    simp only[R,wy,w1,mL,Es,ei,IF] at k;exact k
   ·omega
  obtain⟨zs,c',i',q1,q2,q3,q4⟩:=ih (i+1) (acc++[(c+xs.getD i 0+ys.getD i 0) % 4294967296]) ((c+xs.getD i 0+ys.getD i 0) / 4294967296) (by omega) (by simp[hl]) (Og hu (by omega)) (by omega);refine⟨zs,c',i',q1,q2,?_,CE.loop step q4⟩;rw[q3,M2,hl,CM xs i,CM ys i,A7];have hd:=VY (c+xs.getD i 0+ys.getD i 0) 4294967296;generalize (c+xs.getD i 0+ys.getD i 0) % 4294967296=m at *
  generalize (c+xs.getD i 0+ys.getD i 0) / 4294967296=d at *
  generalize (4294967296:Int)^i=p at *
  generalize Ab (xs.drop (i+1))=X at *
  generalize Ab (ys.drop (i+1))=Y at *
  have:c+(xs.getD i 0+4294967296*X)+(ys.getD i 0+4294967296*Y)=m+4294967296*(d+X+Y):=by omega
  rw[this];grind
theorem mM{xs ys:LI}(hx:A_ xs)(hy:A_ ys)(h1:xs.length<1048576)(h2:ys.length<1048576):∃ zs,A_ zs/\Ab zs=Ab xs+Ab ys/\zs.length<=max xs.length ys.length+1/\RQ 144 [sL lm xs,sL lm ys] (P 1 zs.length (lm zs)):=by
 obtain⟨zs,c',i',q1,q2,q3,q4⟩:=Aev hx hy h1 h2 (max xs.length ys.length) 0 [] 0 (by omega) rfl (fun x hx=>by cases hx) (by omega);refine⟨zs,q1,by rw[q3];simp[Ab],q2,?_⟩;exact Avf xs ys _ _ _ _ q4
theorem Aew{xs ys:LI}(hx:A_ xs)(hy:A_ ys)(hl2:ys.length<=xs.length)(h1:xs.length<=1048576):∀ (r i:Nat) (acc:LI) (c:Int),i+r=xs.length->acc.length=i->A_ acc->0<=c/\c<=1 ->
  ∃ (zs:LI) (c' i':Int),A_ zs/\zs.length=xs.length/\0<=c'/\Ab zs-4294967296^xs.length*c'=Ab acc+4294967296^i*(Ab (xs.drop i)-Ab (ys.drop i)-c) /\
   Ap (.loop Tb) (Lo xs ys i (lm acc) c (i:Nat)) (.exit 0) (Lo xs ys zs.length (lm zs) c' i'):=by
 intro r;induction r with
 | zero =>
  intro i acc c hi hl hu hc;have e1:Ab (xs.drop i)=0:=Ek (by omega);have e2:Ab (ys.drop i)=0:=Ek (by omega);have hii:xs.length=i:=by omega
  refine⟨acc,c,i,hu,by omega,hc.1,by rw[e1,e2,hii];grind,?_⟩;rw[hl];exact Ah (Avi xs ys i (lm acc) c (i:Nat) (by simp;omega))
 | succ r ih =>
  intro i acc c hi hl hu hc;have bx:=AL hx i;have byy:=AL hy i;have ei:I O ((i:Int)+1)=((i+1:Nat):Int):=by rw[Bg (by omega) (by omega)];omega
  have step:Ap Tb (Lo xs ys i (lm acc) c (i:Nat)) .norm (Lo xs ys (i+1) (lm (acc++[(xs.getD i 0-ys.getD i 0-c) % 4294967296])) (-((xs.getD i 0-ys.getD i 0-c) / 4294967296)) ((i+1:Nat):Int)):=by
   have wx:I U (xs.getD i 0)=xs.getD i 0:=by rw[BF];omega
   have wy:I U (ys.getD i 0)=ys.getD i 0:=by rw[BF];omega
   by_cases g2:i<ys.length
   ·have k:=Avg xs ys i (lm acc) c (i:Nat) (by simp;omega) (by simp;omega) (by omega) (by omega) (by omega);have w1:I U (I U (xs.getD i 0-ys.getD i 0)-c) % 4294967296=(xs.getD i 0-ys.getD i 0-c) % 4294967296:=by rw[BF,BF];omega
    have w2:I U (I U (xs.getD i 0-ys.getD i 0)-c) / 9223372036854775808 = -((xs.getD i 0-ys.getD i 0-c) / 4294967296):=by rw[BF,BF];omega
    simp only[R,wx,wy,ABy,Es,w1,w2,ei,IF] at k;exact k
   ·have k:=Avh xs ys i (lm acc) c (i:Nat) (by simp;omega) (by simp;omega) (by omega) (by omega);have hz:ys.getD i 0=0:=B3 (by omega);have w1:I U (I U (xs.getD i 0-0)-c) % 4294967296=(xs.getD i 0-ys.getD i 0-c) % 4294967296:=by rw[BF,BF,hz];omega
    have w2:I U (I U (xs.getD i 0-0)-c) / 9223372036854775808 = -((xs.getD i 0-ys.getD i 0-c) / 4294967296):=by rw[BF,BF,hz];omega
    simp only[R,wx,ABy,Es,w1,w2,ei,IF] at k;exact k
  obtain⟨zs,c',i',q1,q2,q0,q3,q4⟩:=ih (i+1) (acc++[(xs.getD i 0-ys.getD i 0-c) % 4294967296]) (-((xs.getD i 0-ys.getD i 0-c) / 4294967296)) (by omega) (by simp[hl]) (Og hu (by omega)) (by omega);refine⟨zs,c',i',q1,q2,q0,?_,CE.loop step q4⟩;rw[q3,M2,hl,CM xs i,CM ys i,A7];have hd:=VY (xs.getD i 0-ys.getD i 0-c) 4294967296;generalize (xs.getD i 0-ys.getD i 0-c) % 4294967296=m at *
  generalize (xs.getD i 0-ys.getD i 0-c) / 4294967296=d at *
  generalize (4294967296:Int)^i=p at *
  generalize Ab (xs.drop (i+1))=X at *
  generalize Ab (ys.drop (i+1))=Y at *
  have:xs.getD i 0+4294967296*X-(ys.getD i 0+4294967296*Y)-c=m+4294967296*(d+X-Y):=by omega
  rw[this];grind
theorem Wy{xs ys:LI}(hx:A_ xs)(hy:A_ ys)(hl:ys.length<=xs.length)(hv:Ab ys<=Ab xs)(h1:xs.length<=1048576):∃ zs,A_ zs/\Ab zs=Ab xs-Ab ys/\zs.length=xs.length/\RQ 145 [sL lm xs,sL lm ys] (P 1 zs.length (lm zs)):=by
 obtain⟨zs,c',i',q1,q2,q0,q3,q4⟩:=Aew hx hy hl h1 xs.length 0 [] 0 (by omega) rfl (fun x hx=>by cases hx) (by omega);simp only[Ab,Dj,Da,Dt,Ed,F8] at q3;have hlt:=Eb q1;rw[q2] at hlt;have hp:=CH xs.length;have hc:c'=0:=by
  generalize (4294967296:Int)^xs.length=p at *
  rcases Int.lt_or_le 0 c' with g | g
  ·have:p*1<=p*c':=Al (by omega) (by omega);omega
  ·omega
 subst hc;refine⟨zs,q1,by simpa using q3,q2,?_⟩;exact Avj xs ys _ _ _ _ q4
theorem GE{neg:Bool}{xs:LI}(hu:A_ xs)(hN:xs.length<=1048576):RQ 98 [B neg,sL lm xs] (CR (rv neg xs)):=Tl hu hN
theorem Hd{neg:Bool}{xs:LI}(hu:A_ xs)(hN:xs.length<=1048576):RQ 79 [o [B neg,sL lm xs]] (F O (BQ (rv neg xs))):=by
 have hm:=E7 (Bm hN (by decide));have hz:(Y xs).length=0↔Ab xs=0:=by
  have:=Bi hu;rw[JZ hu,D4];omega
 have hv:=Bi hu;by_cases h0:Ab xs=0
 ·have h:=uO neg xs (by rw[beq_iff_eq];omega) hm;have e:BQ (rv neg xs)=0:=by unfold rv;rw[h0];cases neg <;> rfl
  rw[e];exact h
 ·cases neg with
  | true =>
   have h:=uP true xs (by rw[beq_eq_false_iff_ne];omega) rfl hm;have e:BQ (rv true xs) = -1:=by simp only[rv,if_true,BQ]; (repeat' split) <;> omega
   rw[e];exact h
  | false =>
   have h:=uQ false xs (by rw[beq_eq_false_iff_ne];omega) rfl hm;have e:BQ (rv false xs)=1:=by simp only[rv,B_,if_false,BQ]; (repeat' split) <;> omega
   rw[e];exact h
theorem Avk(neg:Bool)(xs:LI):rv (!neg) xs = -(rv neg xs):=by unfold rv;cases neg <;> simp
theorem Vv{neg:Bool}{xs:LI}(hu:A_ xs)(hN:xs.length<=1048576):RQ 161 [o [B neg,sL lm xs]] (Ag (-(rv neg xs))):=by
 have h:=GE (neg := !neg) hu hN;rw[Avk] at h;exact Ava neg xs _ h
theorem Y9{neg:Bool}{xs:LI}(hu:A_ xs)(hN:xs.length<=1048576):RQ 97 [o [B neg,sL lm xs]] (Ag (rv neg xs)):=A5a neg xs _ (GE hu hN)
theorem Avl(na nb:Bool)(xs ys zs:LI)(v:Int)(n1:RQ 99 [sL lm xs] (P 1 ((Y xs).length) (lm (Y xs))))(n2:RQ 99 [sL lm ys] (P 1 ((Y ys).length) (lm (Y ys))))(n3:RQ 146 [H ((Y xs).length) (lm (Y xs)),H ((Y ys).length) (lm (Y ys))] (P 1 zs.length (lm zs)))(n4:RQ 98 [B (!(na==nb)),sL lm zs] (CR v)):RQ 96 [o [B na,sL lm xs],o [B nb,sL lm ys]] (Ag v):=i (fn:=iF Mv ABi) CO rfl 400 rfl [.r (P 1 ((Y xs).length) (lm (Y xs))),.r (P 1 ((Y ys).length) (lm (Y ys))),.r (P 1 zs.length (lm zs)),.r (CR v)] (JS n1 n2 n3 n4)
theorem Aex(na nb:Bool)(xs ys zs:LI)(v:Int)(c1:(na==nb)=true)(n1:RQ 99 [sL lm xs] (P 1 ((Y xs).length) (lm (Y xs))))(n2:RQ 99 [sL lm ys] (P 1 ((Y ys).length) (lm (Y ys))))(n3:RQ 144 [H ((Y xs).length) (lm (Y xs)),H ((Y ys).length) (lm (Y ys))] (P 1 zs.length (lm zs)))(n4:RQ 98 [B na,sL lm zs] (CR v)):RQ 95 [o [B na,sL lm xs],o [B nb,sL lm ys]] (Ag v):=i (fn:=iF Mv ABh) CO rfl 400 rfl [.r (P 1 ((Y xs).length) (lm (Y xs))),.r (P 1 ((Y ys).length) (lm (Y ys))),bT,.r (P 1 zs.length (lm zs)),.r (CR v)] (JL n1 n2 c1 n3 n4)
theorem Aey(na nb:Bool)(xs ys zs:LI)(v c:Int)(c1:(na==nb)=false)(c2:A (c>=0)=true)(n1:RQ 99 [sL lm xs] (P 1 ((Y xs).length) (lm (Y xs))))(n2:RQ 99 [sL lm ys] (P 1 ((Y ys).length) (lm (Y ys))))(n3:RQ 134 [H ((Y xs).length) (lm (Y xs)),H ((Y ys).length) (lm (Y ys))] (F O c))(n4:RQ 145 [H ((Y xs).length) (lm (Y xs)),H ((Y ys).length) (lm (Y ys))] (P 1 zs.length (lm zs)))(n5:RQ 98 [B na,sL lm zs] (CR v)):RQ 95 [o [B na,sL lm xs],o [B nb,sL lm ys]] (Ag v):=i (fn:=iF Mv ABh) CO rfl 400 rfl [.r (P 1 ((Y xs).length) (lm (Y xs))),.r (P 1 ((Y ys).length) (lm (Y ys))),bF,.r (F O c),bT,.r (P 1 zs.length (lm zs)),.r (CR v)] (Lm n1 n2 c1 n3 c2 n4 n5)
theorem Aez(na nb:Bool)(xs ys zs:LI)(v c:Int)(c1:(na==nb)=false)(c2:A (c>=0)=false)(n1:RQ 99 [sL lm xs] (P 1 ((Y xs).length) (lm (Y xs))))(n2:RQ 99 [sL lm ys] (P 1 ((Y ys).length) (lm (Y ys))))(n3:RQ 134 [H ((Y xs).length) (lm (Y xs)),H ((Y ys).length) (lm (Y ys))] (F O c))(n4:RQ 145 [H ((Y ys).length) (lm (Y ys)),H ((Y xs).length) (lm (Y xs))] (P 1 zs.length (lm zs)))(n5:RQ 98 [B nb,sL lm zs] (CR v)):RQ 95 [o [B na,sL lm xs],o [B nb,sL lm ys]] (Ag v):=i (fn:=iF Mv ABh) CO rfl 400 rfl [.r (P 1 ((Y xs).length) (lm (Y xs))),.r (P 1 ((Y ys).length) (lm (Y ys))),bF,.r (F O c),bF,.r (P 1 zs.length (lm zs)),.r (CR v)] (Lm n1 n2 c1 n3 c2 n4 n5)
theorem Avm(na nb:Bool)(xs ys:LI)(v w:Int)(n1:RQ 161 [o [B nb,sL lm ys]] (Ag w))(n2:RQ 95 [o [B na,sL lm xs],Ag w] (Ag v)):RQ 129 [o [B na,sL lm xs],o [B nb,sL lm ys]] (Ag v):=i (fn:=iF Mv Aqv) CO rfl 400 rfl [.r (Ag w),.r (Ag v)] (J0 n1 n2)
theorem YA(neg:Bool)(xs:LI):rv neg (Y xs)=rv neg xs:=by unfold rv;rw [EC]
theorem RN{xs:LI}(h:A_ xs):A_ (Y xs):=(Gg h).1
theorem A5b(na nb:Bool)(xs ys zs:LI)(h:Ab zs=Ab xs*Ab ys):rv (!(na==nb)) zs=rv na xs*rv nb ys:=by
 unfold rv;rw[h];generalize Ab xs=X;generalize Ab ys=Y;cases na <;> cases nb <;> simp <;> grind
theorem Ni{na nb:Bool}{xs ys:LI}(hx:A_ xs)(hy:A_ ys)(hN:xs.length+ys.length<=1048576):RQ 96 [o [B na,sL lm xs],o [B nb,sL lm ys]] (Ag (rv na xs*rv nb ys)):=by
 have t1:=BA xs;have t2:=BA ys;obtain⟨zs,z1,z2,z3,z4⟩:=mF (RN hx) (RN hy) (by omega);have hk:=GE (neg := !(na==nb)) z2 (by omega);rw[A5b na nb (Y xs) (Y ys) zs z3,YA,YA] at hk;exact Avl na nb xs ys zs _ (E7 (by omega)) (E7 (by omega)) z4 hk
theorem Pf{na nb:Bool}{xs ys:LI}(hx:A_ xs)(hy:A_ ys)(h1:xs.length<1048576)(h2:ys.length<1048576):RQ 95 [o [B na,sL lm xs],o [B nb,sL lm ys]] (Ag (rv na xs+rv nb ys)):=by
 have t1:=BA xs;have t2:=BA ys;have c1:=Gg hx;have c2:=Gg hy;have m1:=E7 (xs:=xs) (by omega);have m2:=E7 (xs:=ys) (by omega);have hcmp:=QL c1 c2 (by omega);by_cases hn:na=nb
 ·subst hn;obtain⟨zs,z1,z2,z3,z4⟩:=mM c1.1 c2.1 (by omega) (by omega);have hk:=GE (neg:=na) z1 (by omega);have e:rv na zs=rv na xs+rv na ys:=by
   unfold rv;rw[z2,EC,EC];cases na <;> simp;omega
  rw[e] at hk;exact Aex na na xs ys zs _ (by simp) m1 m2 z4 hk
 ·have hb:nb = !na:=by cases na <;> cases nb <;> simp at hn |-
  by_cases hc:CX (Ab (Y xs)) (Ab (Y ys))>=0
  ·have hle:Ab (Y ys)<=Ab (Y xs):=by unfold CX at hc;split at hc <;> (try split at hc) <;> omega
   have hlen:(Y ys).length<=(Y xs).length:=Mx c2 (Afa hle (Eb c1.1));obtain⟨zs,z1,z2,z3,z4⟩:=Wy c1.1 c2.1 hlen hle (by omega);have hk:=GE (neg:=na) z1 (by omega);have e:rv na zs=rv na xs+rv nb ys:=by
    unfold rv;rw[z2,EC,EC,hb];cases na <;> simp <;> omega
   rw[e] at hk;exact Aey na nb xs ys zs _ _ (by rw[hb];cases na <;> rfl) (by simpa using hc) m1 m2 hcmp z4 hk
  ·have hle:Ab (Y xs)<=Ab (Y ys):=by unfold CX at hc;split at hc <;> (try split at hc) <;> omega
   have hlen:(Y xs).length<=(Y ys).length:=Mx c1 (Afa hle (Eb c2.1));obtain⟨zs,z1,z2,z3,z4⟩:=Wy c2.1 c1.1 hlen hle (by omega);have hk:=GE (neg:=nb) z1 (by omega);have e:rv nb zs=rv na xs+rv nb ys:=by
    unfold rv;rw[z2,EC,EC,hb];cases na <;> simp <;> omega
   rw[e] at hk;exact Aez na nb xs ys zs _ _ (by rw[hb];cases na <;> rfl) (by simpa using hc) m1 m2 hcmp z4 hk
theorem Wz{na nb:Bool}{xs ys:LI}(hx:A_ xs)(hy:A_ ys)(h1:xs.length<1048576)(h2:ys.length<1048576):RQ 129 [o [B na,sL lm xs],o [B nb,sL lm ys]] (Ag (rv na xs-rv nb ys)):=by
 have hn:=Vv (neg:=nb) hy (by omega);have hl:(M (-(rv nb ys)).natAbs).length<1048576:=by rw[Int.natAbs_neg];exact DF (Fg hy) h2
 have h:=Pf (na:=na) (nb:=decide (-(rv nb ys)<0)) hx (BV (-(rv nb ys)).natAbs) h1 hl;rw[FB] at h;exact Avm na nb xs ys _ _ hn h
def TBD:C8:=TBC
theorem M3:Co DK TBD:=CO
theorem Avn{q c:Int}{s:Nat}(hq:0<=q)(hs:q*2^s<18446744073709551616)(hs':s<=64)(hc:0<=c/\c<2^s) :
  I U ((T (An .u64) (q*2^s) ||| T (An .u64) c).toNat)=q*2^s+c:=by
 obtain⟨a,rfl⟩:∃ a:Nat,q=a:=⟨q.toNat,by omega⟩;obtain⟨b,rfl⟩:∃ b:Nat,c=b:=⟨c.toNat,by omega⟩;have e1:(a:Int)*2^s=((a*2^s:Nat):Int):=by rw[DI,Dp];rfl
 have hb:b<2^s:=by
  have:(b:Int)<((2^s:Nat):Int):=by rw[Dp];exact hc.2
  omega
 have h64:2^s<=2^64:=BM (by decide) hs';have e64:2^64=18446744073709551616:=by decide
 rw[e1] at hs |-;show I U ((T 64 ((a*2^s:Nat):Int) ||| T 64 (b:Int)).toNat:Int)=_;rw[rW,LS,LS,Ks,Ks,EK (by omega),EK (by omega),CY a,<- A3w hb,CY (2^s) a,BF];have hsum:a*2^s+b<18446744073709551616:=by
  have hd:a*2^s+2^s<=2^64:=by
   have hk:2^64=2^(64-s)*2^s:=by rw[<- De];congr 1;omega
   have h1:a<2^(64-s):=by
    rcases Ct a (2^(64-s)) with g | g
    ·exact g
    ·have:=AJ (2^s) g;omega
   have h2:=AJ (2^s) (show a+1<=2^(64-s) by omega);rw[DE,FL] at h2;omega
  omega
 omega
theorem BX(n:Nat):(0:Int)<2^n:=G2 (by decide)
theorem Ho{a b:Nat}(h:a<=b):(2:Int)^a<=2^b:=by
 have h1:2^a<=2^b:=BM (by decide) h;have e:∀ n:Nat,(2:Int)^n=((2^n:Nat):Int):=fun n=>by rw[Dp];rfl
 rw[e,e];omega
theorem Pg(n:Nat):(4294967296:Int)^n=2^(32*n):=by
 rw[rX];rfl
theorem Jb(n:Nat):(2:Int)^n=4294967296^(n / 32)*2^(n % 32):=by
 rw[Pg,<- BB,rU]
def lM:ICode:=c AAx 90 1012
def W0(neg:Bool)(xs:LI)(n:Nat)(cs:List AV)(c:Int)(s:Int)(ms:LI)(i:Int):Aj:=(W 2 (Ay [B neg,sL lm xs]::(W 1 (Ay [B false,H 0 []]::(X 1 n cs::(C (F Ae c)::(C (F U s)::(C (sL lm ms)::(C (F O i)::(W 41 []))))))))))
theorem A5c(neg:Bool)(xs:LI)(n:Nat)(cs:List AV)(c:Int)(s:Int)(ms:LI)(i:Int)(c1:A (i<(ms.length:Int))=true)(n1:0<=i/\i<(ms.length:Int))(n2:¬ s<0)(n3:n+1<=35184372088832):Ap lM (W0 neg xs n cs c s ms i) .norm (W0 neg xs (n+1) (cs++([F Ae (I Ae (I U ((T (An .u64) (I U ((I U (ms.getD (D i) 0))*2^(min (D s) (An .u64)))) ||| T (An .u64) (I U c)).toNat)))]:List AV)) (I Ae (d (I U ((T (An .u64) (I U ((I U (ms.getD (D i) 0))*2^(min (D s) (An .u64)))) ||| T (An .u64) (I U c)).toNat)) (2^(min (D 32) (An .u64))))) s ms (I O (i+1))):=(J M3 [bT,.v (F Ae (ms.getD (D i) 0))] [2,4,5,6,7,8,9] (Lm c1 n1 (p n1) n2 (show Bl ([F Ae (I Ae (I U ((T (An .u64) (I U ((I U (ms.getD (D i) 0))*2^(min (D s) (An .u64)))) ||| T (An .u64) (I U c)).toNat)))]:List AV)=1*1 from rfl) n3 Jn))
theorem A5d(neg:Bool)(xs:LI)(n:Nat)(cs:List AV)(c:Int)(s:Int)(ms:LI)(i:Int)(c1:A (i<(ms.length:Int))=false):Ap lM (W0 neg xs n cs c s ms i) (.exit 0) (W0 neg xs n cs c s ms i):=(J M3 [bF] [2,4,5,6,7,8,9] (Jx c1))
theorem A5e(neg:Bool)(xs:LI)(sh:Int)(n:Nat)(cs:List AV)(c i v:Int)(n1:0<=(I O (Ax sh 32))/\(I O (Ax sh 32))<=1048576)(n2:RQ 99 [sL lm xs] (P 1 ((Y xs).length) (lm (Y xs))))(hl3:Ap (.loop lM) (W0 neg xs (D (I O (Ax sh 32))) (CD [F Ae 0] (D (I O (Ax sh 32)))) 0 (I U (AB sh 32)) (Y xs) 0) (.exit 0) (W0 neg xs n cs c (I U (AB sh 32)) (Y xs) i))(n4:n+1<=35184372088832)(n5:RQ 98 [B neg,H (n+1) (cs++([F Ae c]:List AV))] (CR v)):RQ 84 [o [B neg,sL lm xs],F O sh] (CR v):=OO AAx (W 4 (.bxl 50::(W 45 (.agn (.st (A (v<0))) 1 ((M (E v)).length) (lm (M (E v)))::[])))) (CE.asc (CE.asc (CE.asc (CE.asc (Av (CE.seq (J M3 [.r (P 1 ((Y xs).length) (lm (Y xs)))] [2,4,5,6,7,8,9] (JS G1 n1 G1 n2)) (CE.seq (CE.block hl3) (J M3 [.r (CR v)] [4,50] (JV (show Bl ([F Ae c]:List AV)=1*1 from rfl) n4 n5)))))))))
theorem mN{x c:Int}{s:Nat}(hx:0<=x/\x<4294967296)(hs:s<32)(hc:0<=c/\c<2^s) :
  I U ((T (An .u64) (I U ((I U x)*2^(min (D (s:Int)) (An .u64)))) ||| T (An .u64) (I U c)).toNat)=x*2^s+c
  /\ 0<=(x*2^s+c) / 4294967296/\(x*2^s+c) / 4294967296<2^s/\(2:Int)^s<=2147483648:=by
 have hp:=BX s;have hp2:(2:Int)^s<=2147483648:=Ho (show s<=31 by omega);have hm:x*2^s<=4294967295*2^s:=Ac (by omega) (by omega);have hm0:0<=x*2^s:=AA hx.1 (by omega);have hmin:min (D (s:Int)) (An .u64)=s:=by
  rw[R];show min s 64=s;omega
 have w1:I U x=x:=by rw[BF];omega
 have w2:I U (x*2^s)=x*2^s:=by rw[BF];omega
 have w3:I U c=c:=by rw[BF];omega
 refine⟨?_,by omega,by omega,hp2⟩;rw[hmin,w1,w2,w3];exact Avn hx.1 (by omega) (by omega) hc
theorem Avo{neg:Bool}{xs ms pre:LI}(hu:A_ ms){s:Nat}(hs:s<32)(hN:pre.length+ms.length<=1048576):∀ (r i:Nat) (acc:LI) (c:Int),i+r=ms.length->acc.length=i->A_ acc->0<=c/\c<2^s ->
  ∃ (zs:LI) (c':Int),A_ zs/\zs.length=ms.length/\(0<=c'/\c'<2^s)/\Ab zs+4294967296^ms.length*c'=Ab acc+4294967296^i*(c+2^s*Ab (ms.drop i)) /\
   Ap (.loop lM) (W0 neg xs (pre.length+i) (lm (pre++acc)) c (s:Nat) ms (i:Nat)) (.exit 0) (W0 neg xs (pre.length+ms.length) (lm (pre++zs)) c' (s:Nat) ms (ms.length:Nat)):=by
 intro r;induction r with
 | zero =>
  intro i acc c hi hl hacc hc;have e1:Ab (ms.drop i)=0:=Ek (by omega);have hi':i=ms.length:=by omega
  refine⟨acc,c,hacc,by omega,hc,by rw[e1,hi'];simp,?_⟩;rw[hi'];exact Ah (A5d neg xs _ _ c (s:Nat) ms (ms.length:Nat) (by simp))
 | succ r ih =>
  intro i acc c hi hl hacc hc;have bm:=AL hu i;obtain⟨w1,w2,w3,w4⟩:=mN bm hs hc;have ei:I O ((i:Int)+1)=((i+1:Nat):Int):=by rw[Bg (by omega) (by omega)];omega
  have k:=A5c neg xs (pre.length+i) (lm (pre++acc)) c (s:Nat) ms (i:Nat) (by simp;omega) (by omega) (by omega) (by omega);have wd:I Ae ((ms.getD i 0*2^s+c) / 4294967296)=(ms.getD i 0*2^s+c) / 4294967296:=by rw[Es];omega
  simp only[R i,w1,mL,wd,Es (ms.getD i 0*2^s+c),ei,IF,L0] at k;obtain⟨zs,c',q1,q2,q3,q4,q5⟩:=ih (i+1) (acc++[(ms.getD i 0*2^s+c) % 4294967296]) ((ms.getD i 0*2^s+c) / 4294967296) (by omega) (by simp[hl]) (Og hacc (by omega)) ⟨w2,w3⟩;refine⟨zs,c',q1,q2,q3,?_,CE.loop k q5⟩;rw[q4,M2,hl,CM ms i,A7];have hd:=VY (ms.getD i 0*2^s+c) 4294967296;generalize (ms.getD i 0*2^s+c) % 4294967296=m at *
  generalize (ms.getD i 0*2^s+c) / 4294967296=d at *
  generalize (4294967296:Int)^i=p at *
  generalize Ab (ms.drop (i+1))=X at *
  generalize (2:Int)^s=T at *
  generalize ms.getD i 0=y at *
  have:c+T*(y+4294967296*X)=m+4294967296*(d+T*X):=by
   have:c+T*(y+4294967296*X)=(y*T+c)+4294967296*(T*X):=by grind
   omega
  rw[this];grind
theorem cI{neg:Bool}{xs ys:LI}{t:Int}(h:Ab ys=t*Ab xs):rv neg ys=rv neg xs*t:=by
 unfold rv;rw[h];generalize Ab xs=X;cases neg <;> simp <;> grind
theorem Um{neg:Bool}{xs:LI}(hu:A_ xs)(n:Nat)(hN:n / 32+xs.length+1<=1048576):RQ 84 [o [B neg,sL lm xs],F O (n:Nat)] (CR (rv neg xs*2^n)):=by
 have t1:=BA xs;have e1:I O (Ax (n:Int) 32)=((n / 32:Nat):Int):=by
  rw[BK (by omega),Bg (by omega) (by omega)];omega
 have e2:I U (AB (n:Int) 32)=((n % 32:Nat):Int):=by
  rw[B1 (by omega),BF];omega
 obtain⟨zs,c',q1,q2,q3,q4,q5⟩:=Avo (neg:=neg) (xs:=xs) (pre:=l (n / 32) 0) (RN hu) (s:=n % 32) (by omega) (by simp;omega) (Y xs).length 0 [] 0 (by omega) rfl (fun x hx=>by cases hx) ⟨by omega,BX _⟩;have w4:(2:Int)^(n % 32)<=2147483648:=Ho (show n % 32<=31 by omega);simp only[Ew,Mp,EJ,Ab,Dj,Da,Dt,Ed] at q4 q5;have huz:A_ (l (n / 32) 0++zs++[c']):=by
  refine Og ?_ (by omega);intro x hx;rcases Bn.1 hx with g | g
  ·exact Fr _ x g
  ·exact q1 x g
 have hlen:(l (n / 32) 0++zs++[c']).length=n / 32+(Y xs).length+1:=by simp[q2];omega
 have hk:=GE (neg:=neg) huz (by omega);have hval:Ab (l (n / 32) 0++zs++[c'])=2^n*Ab xs:=by
  rw[M2,GZ,Fe,Jb n,AY,Ew,BB,q2];rw[EC] at q4;generalize (4294967296:Int)^(n / 32)=p at *
  generalize (4294967296:Int)^(Y xs).length=q at *
  generalize (2:Int)^(n % 32)=T at *
  generalize Ab xs=X at *
  generalize Ab zs=Z at *
  grind
 rw[cI hval] at hk;unfold sL at hk;rw[hlen] at hk;refine A5e neg xs (n:Nat) (n / 32+(Y xs).length) (lm (l (n / 32) 0++zs)) c' ((Y xs).length:Nat) _ (by rw[e1];omega) (E7 (by omega)) (by rw[e1,e2,R,FE];exact q5) (by omega) (by rw[IF];exact hk)
def TBE:C8:=TBD
theorem f:Co DK TBE:=M3
def TQ0:C8:=[]
theorem C1:Co DK TQ0:=Co.nil _
def Ta:ICode:=c Arm 94 56
def Lp(neg:Bool)(N:Nat)(cs:List AV)(n:Int):Aj:=(W 1 (Ay [B neg,H N cs]::(C (B false)::(X 1 0 []::(C (F O n)::(W 26 []))))))
theorem Avp(neg:Bool)(N:Nat)(cs:List AV)(n:Int)(x:Int)(c1:A (n>0)=true)(c2:(x==0)=true)(n1:0<=(I O (n-1))/\(I O (n-1))<(N:Int))(n2:Bj (g (D (I O (n-1))*1) cs) 0 1 true=some (F Ae x)):Ap Ta (Lp neg N cs n) .norm (Lp neg N cs (I O (n-1))):=G C1 300 [bT,.v (F Ae x),bT] Yg (JS c1 n1 n2 c2) (by kernel_rfl)
theorem Avq(neg:Bool)(N:Nat)(cs:List AV)(n:Int)(x:Int)(c1:A (n>0)=true)(c2:(x==0)=false)(n1:0<=(I O (n-1))/\(I O (n-1))<(N:Int))(n2:Bj (g (D (I O (n-1))*1) cs) 0 1 true=some (F Ae x)):Ap Ta (Lp neg N cs n) (.exit 0) (Lp neg N cs n):=G C1 300 [bT,.v (F Ae x),bF] Yg (JS c1 n1 n2 c2) (by kernel_rfl)
theorem Avr(neg:Bool)(N:Nat)(cs:List AV)(n:Int)(c1:A (n>0)=false):Ap Ta (Lp neg N cs n) (.exit 0) (Lp neg N cs n):=G C1 300 [bF,bF] Yg (J0 c1 Fc) (by kernel_rfl)
theorem cJ(neg:Bool)(xs:LI)(hN:xs.length<=1048576):∀ m,m<=xs.length->Ap (.loop Ta) (Lp neg xs.length (lm xs) (m:Int)) (.exit 0) (Lp neg xs.length (lm xs) ((b xs m:Nat):Int)):=by
 intro m;induction m with
 | zero =>
  intro _;exact Ah (Avr neg xs.length (lm xs) ((0:Nat):Int) (by simp))
 | succ m ih =>
  intro hm;have e1:I O (((m+1:Nat):Int)-1)=(m:Int):=by rw[Bg (by omega) (by omega)];omega
  have hx:=E6 (xs:=xs) (i:=m) (by omega);simp only[b];by_cases h0:xs.getD m 0=0
  ·rw[if_pos h0];have h1:=Avp neg xs.length (lm xs) ((m+1:Nat):Int) (xs.getD m 0) (by simp) (by rw[h0];rfl) (by rw[e1];omega) (by rw[e1,R];exact hx);rw[e1] at h1;exact CE.loop h1 (ih (by omega))
  ·rw[if_neg h0];exact Ah (Avq neg xs.length (lm xs) ((m+1:Nat):Int) (xs.getD m 0) (by simp) (by simpa using h0) (by rw[e1];omega) (by rw[e1,R];exact hx))
theorem ZV(xs:LI)(hl:Ap (.loop Ta) (Lp true xs.length (lm xs) (xs.length:Int)) (.exit 0) (Lp true xs.length (lm xs) ((b xs xs.length:Nat):Int)))(hsc:0<=(D ((b xs xs.length:Nat):Int))/\(D ((b xs xs.length:Nat):Int))<=xs.length/\xs.length<=xs.length/\(false=true->true=true)):RQ 143 [o [B true,sL lm xs]] (Ar [B (A (((b xs xs.length:Nat):Int)>0)),H ((D ((b xs xs.length:Nat):Int))-0) (Bx (((D ((b xs xs.length:Nat):Int))-0)*1) (g (0*1) (lm xs)))]):=OO Arm (W 1 (Ay [B true,sL lm xs]::(C (B (A (((b xs xs.length:Nat):Int)>0)))::(C (H ((D ((b xs xs.length:Nat):Int))-0) (Bx (((D ((b xs xs.length:Nat):Int))-0)*1) (g (0*1) (lm xs))))::(C (F O ((b xs xs.length:Nat):Int))::(W 16 (.ptr 1 0::(C (B true)::(C (B true)::(C (F O ((b xs xs.length:Nat):Int))::(C (B (A (((b xs xs.length:Nat):Int)>0)))::(C (B (A (((b xs xs.length:Nat):Int)>0)))::(.ptr 1 1::(C (sL lm xs)::(C (F O ((b xs xs.length:Nat):Int))::(C (H ((D ((b xs xs.length:Nat):Int))-0) (Bx (((D ((b xs xs.length:Nat):Int))-0)*1) (g (0*1) (lm xs))))::[])))))))))))))))) (CE.seq (G (t:=(C (o [B true,sL lm xs])::(Ay [B true,sL lm xs]::(C (B false)::(X 1 0 []::(W 27 [])))))) C1 300 [] [0,1,2,3] a0) (CE.seq (G (t:=(W 1 (Ay [B true,sL lm xs]::(C (B false)::(X 1 0 []::(u (xs.length:Int)::(W 26 []))))))) C1 300 [] Yg a0) (CE.seq (CE.block hl) (G (t:=(W 1 (Ay [B true,sL lm xs]::(C (B (A (((b xs xs.length:Nat):Int)>0)))::(C (H ((D ((b xs xs.length:Nat):Int))-0) (Bx (((D ((b xs xs.length:Nat):Int))-0)*1) (g (0*1) (lm xs))))::(u ((b xs xs.length:Nat):Int)::(W 16 (.ptr 1 0::(C (B true)::(C (B true)::(u ((b xs xs.length:Nat):Int)::(C (B (A (((b xs xs.length:Nat):Int)>0)))::(C (B (A (((b xs xs.length:Nat):Int)>0)))::(.ptr 1 1::(vl xs::(u ((b xs xs.length:Nat):Int)::(C (H ((D ((b xs xs.length:Nat):Int))-0) (Bx (((D ((b xs xs.length:Nat):Int))-0)*1) (g (0*1) (lm xs))))::[]))))))))))))))))) (ex := .ret) C1 300 [bT] oM (JV QH (show 0<=((b xs xs.length:Nat):Int) from (I8 _)) (show 0<=(D ((b xs xs.length:Nat):Int))/\(D ((b xs xs.length:Nat):Int))<=xs.length/\xs.length<=xs.length/\(false=true->true=true) from hsc))))))
theorem YB(xs:LI)(hl:Ap (.loop Ta) (Lp false xs.length (lm xs) (xs.length:Int)) (.exit 0) (Lp false xs.length (lm xs) ((b xs xs.length:Nat):Int)))(hsc:0<=(D ((b xs xs.length:Nat):Int))/\(D ((b xs xs.length:Nat):Int))<=xs.length/\xs.length<=xs.length/\(false=true->true=true)):RQ 143 [o [B false,sL lm xs]] (Ar [B false,H ((D ((b xs xs.length:Nat):Int))-0) (Bx (((D ((b xs xs.length:Nat):Int))-0)*1) (g (0*1) (lm xs)))]):=OO Arm (W 1 (Ay [B false,sL lm xs]::(C (B false)::(C (H ((D ((b xs xs.length:Nat):Int))-0) (Bx (((D ((b xs xs.length:Nat):Int))-0)*1) (g (0*1) (lm xs))))::(C (F O ((b xs xs.length:Nat):Int))::(W 16 (.ptr 1 0::(C (B false)::(C (B false)::(C (.undef)::(C (.undef)::(C (B false)::(.ptr 1 1::(C (sL lm xs)::(C (F O ((b xs xs.length:Nat):Int))::(C (H ((D ((b xs xs.length:Nat):Int))-0) (Bx (((D ((b xs xs.length:Nat):Int))-0)*1) (g (0*1) (lm xs))))::[])))))))))))))))) (CE.seq (G (t:=(C (o [B false,sL lm xs])::(Ay [B false,sL lm xs]::(C (B false)::(X 1 0 []::(W 27 [])))))) C1 300 [] [0,1,2,3] a0) (CE.seq (G (t:=(W 1 (Ay [B false,sL lm xs]::(C (B false)::(X 1 0 []::(u (xs.length:Int)::(W 26 []))))))) C1 300 [] Yg a0) (CE.seq (CE.block hl) (G (t:=(W 1 (Ay [B false,sL lm xs]::(C (B false)::(C (H ((D ((b xs xs.length:Nat):Int))-0) (Bx (((D ((b xs xs.length:Nat):Int))-0)*1) (g (0*1) (lm xs))))::(u ((b xs xs.length:Nat):Int)::(W 16 (.ptr 1 0::(C (B false)::(C (B false)::(C (.undef)::(C (.undef)::(C (B false)::(.ptr 1 1::(vl xs::(u ((b xs xs.length:Nat):Int)::(C (H ((D ((b xs xs.length:Nat):Int))-0) (Bx (((D ((b xs xs.length:Nat):Int))-0)*1) (g (0*1) (lm xs))))::[]))))))))))))))))) (ex := .ret) C1 300 [bF] oM (JV Fc (show 0<=((b xs xs.length:Nat):Int) from (I8 _)) (show 0<=(D ((b xs xs.length:Nat):Int))/\(D ((b xs xs.length:Nat):Int))<=xs.length/\xs.length<=xs.length/\(false=true->true=true) from hsc))))))
theorem mO(xs:LI):(D ((b xs xs.length:Nat):Int)-0)=(Y xs).length/\(Bx ((D ((b xs xs.length:Nat):Int)-0)*1) (g (0*1) (lm xs)))=lm (Y xs)/\(0<=(D ((b xs xs.length:Nat):Int))/\(D ((b xs xs.length:Nat):Int))<=xs.length/\xs.length<=xs.length/\(false=true->true=true)):=by
 have hle:=KO xs xs.length;rw[R];refine⟨by simp[Y];omega,by simp[lm,Y,PZ],by omega,hle,Ao _,fun h=>by cases h⟩
theorem DT{neg:Bool}{xs:LI}(hu:A_ xs)(hN:xs.length<=1048576):RQ 143 [o [B neg,sL lm xs]]
  (Ar [B (A (rv neg xs<0)),H (M (rv neg xs).natAbs).length (lm (M (rv neg xs).natAbs))]):=by
 obtain⟨e1,e2,e3⟩:=mO xs;have ht:=RM (neg:=neg) hu;have hn:=Abx (neg:=neg) hu;have hlen:(Y xs).length=b xs xs.length:=by rw[<- e1,R];rfl
 cases neg with
 | true =>
  have h:=ZV xs (cJ true xs hN xs.length (Ao _)) e3;rw[e2,e1,ht] at h;have e4:decide (((b xs xs.length:Nat):Int)>0)=decide (rv true xs<0):=by
   rw[<- hn,Bool.true_and,<- ht,hlen,decide_eq_decide];omega
  rw[e4] at h;exact h
 | false =>
  have h:=YB xs (cJ false xs hN xs.length (Ao _)) e3;rw[e2,e1,ht] at h;rw[PG] at hn;rw[<- hn];exact h
def Td:ICode:=c Ary 94 56
def Lq(neg:Bool)(N:Nat)(cs:List AV)(n:Int):Aj:=(C (B neg)::(C (H N cs)::(W 2 (Ay [B false,H 0 []]::(C (F O n)::(W 23 []))))))
theorem Avs(neg:Bool)(N:Nat)(cs:List AV)(n:Int)(x:Int)(c1:A (n>0)=true)(c2:(x==0)=true)(n1:0<=(I O (n-1))/\(I O (n-1))<(N:Int))(n2:Bj (g (D (I O (n-1))*1) cs) 0 1 true=some (F Ae x)):Ap Td (Lq neg N cs n) .norm (Lq neg N cs (I O (n-1))):=G C1 300 [bT,.v (F Ae x),bT] NB (JS c1 n1 n2 c2) (by kernel_rfl)
theorem Avt(neg:Bool)(N:Nat)(cs:List AV)(n:Int)(x:Int)(c1:A (n>0)=true)(c2:(x==0)=false)(n1:0<=(I O (n-1))/\(I O (n-1))<(N:Int))(n2:Bj (g (D (I O (n-1))*1) cs) 0 1 true=some (F Ae x)):Ap Td (Lq neg N cs n) (.exit 0) (Lq neg N cs n):=G C1 300 [bT,.v (F Ae x),bF] NB (JS c1 n1 n2 c2) (by kernel_rfl)
theorem Avu(neg:Bool)(N:Nat)(cs:List AV)(n:Int)(c1:A (n>0)=false):Ap Td (Lq neg N cs n) (.exit 0) (Lq neg N cs n):=G C1 300 [bF,bF] NB (J0 c1 Fc) (by kernel_rfl)
theorem Afb(neg:Bool)(xs:LI)(hN:xs.length<=1048576):∀ m,m<=xs.length->Ap (.loop Td) (Lq neg xs.length (lm xs) (m:Int)) (.exit 0) (Lq neg xs.length (lm xs) ((b xs m:Nat):Int)):=by
 intro m;induction m with
 | zero =>
  intro _;exact Ah (Avu neg xs.length (lm xs) ((0:Nat):Int) (by simp))
 | succ m ih =>
  intro hm;have e1:I O (((m+1:Nat):Int)-1)=(m:Int):=by rw[Bg (by omega) (by omega)];omega
  have hx:=E6 (xs:=xs) (i:=m) (by omega);simp only[b];by_cases h0:xs.getD m 0=0
  ·rw[if_pos h0];have h1:=Avs neg xs.length (lm xs) ((m+1:Nat):Int) (xs.getD m 0) (by simp) (by rw[h0];rfl) (by rw[e1];omega) (by rw[e1,R];exact hx);rw[e1] at h1;exact CE.loop h1 (ih (by omega))
  ·rw[if_neg h0];exact Ah (Avt neg xs.length (lm xs) ((m+1:Nat):Int) (xs.getD m 0) (by simp) (by simpa using h0) (by rw[e1];omega) (by rw[e1,R];exact hx))
theorem uR(neg:Bool)(xs:LI)(hz:(((b xs xs.length:Nat):Int)==0)=true)(hl:Ap (.loop Td) (Lq neg xs.length (lm xs) (xs.length:Int)) (.exit 0) (Lq neg xs.length (lm xs) ((b xs xs.length:Nat):Int))):RQ 152 [B neg,sL lm xs] (o [B false,H 0 []]):=OO Ary (C (B neg)::(C (sL lm xs)::(W 2 (Ay [B false,H 0 []]::(C (F O ((b xs xs.length:Nat):Int))::(W 14 (C (F O ((b xs xs.length:Nat):Int))::(C (B (((b xs xs.length:Nat):Int)==0))::(C (o [B false,H 0 []])::(W 6 [])))))))))) (CE.seq (G (t:=(C (B neg)::(vl xs::(W 2 (Ay [B false,H 0 []]::(W 24 [])))))) C1 300 [] Qy a0) (CE.seq (G (t:=(C (B neg)::(vl xs::(W 2 (Ay [B false,H 0 []]::(u (xs.length:Int)::(W 23 []))))))) C1 300 [] NB a0) (CE.seq (CE.block hl) (G (t:=(C (B neg)::(vl xs::(W 2 (Ay [B false,H 0 []]::(u ((b xs xs.length:Nat):Int)::(W 14 (u ((b xs xs.length:Nat):Int)::(C (B (((b xs xs.length:Nat):Int)==0))::(C (o [B false,H 0 []])::(W 6 []))))))))))) (ex := .ret) C1 300 [bT] [0,1,4,5,20,21,22] (Jx (show (((b xs xs.length:Nat):Int)==0)=true from hz))))))
theorem uS(neg:Bool)(xs:LI)(hz:(((b xs xs.length:Nat):Int)==0)=false)(hl:Ap (.loop Td) (Lq neg xs.length (lm xs) (xs.length:Int)) (.exit 0) (Lq neg xs.length (lm xs) ((b xs xs.length:Nat):Int)))(hsc:0<=(D ((b xs xs.length:Nat):Int))/\(D ((b xs xs.length:Nat):Int))<=(D ((b xs xs.length:Nat):Int))/\(D ((b xs xs.length:Nat):Int))<=xs.length/\(true=true->true=true)):RQ 152 [B neg,sL lm xs] (o [B neg,H ((D ((b xs xs.length:Nat):Int))-0) (Bx (((D ((b xs xs.length:Nat):Int))-0)*1) (g (0*1) (lm xs)))]):=OO Ary (C (B neg)::(C (sL lm xs)::(W 2 (Ay [B neg,H ((D ((b xs xs.length:Nat):Int))-0) (Bx (((D ((b xs xs.length:Nat):Int))-0)*1) (g (0*1) (lm xs)))]::(C (F O ((b xs xs.length:Nat):Int))::(W 14 (C (F O ((b xs xs.length:Nat):Int))::(C (B (((b xs xs.length:Nat):Int)==0))::(W 1 (C (B neg)::(C (sL lm xs)::(C (F O ((b xs xs.length:Nat):Int))::(C (F O ((b xs xs.length:Nat):Int))::(C (H ((D ((b xs xs.length:Nat):Int))-0) (Bx (((D ((b xs xs.length:Nat):Int))-0)*1) (g (0*1) (lm xs))))::(C (o [B neg,H ((D ((b xs xs.length:Nat):Int))-0) (Bx (((D ((b xs xs.length:Nat):Int))-0)*1) (g (0*1) (lm xs)))])::[]))))))))))))))) (CE.seq (G (t:=(C (B neg)::(vl xs::(W 2 (Ay [B false,H 0 []]::(W 24 [])))))) C1 300 [] Qy a0) (CE.seq (G (t:=(C (B neg)::(vl xs::(W 2 (Ay [B false,H 0 []]::(u (xs.length:Int)::(W 23 []))))))) C1 300 [] NB a0) (CE.seq (CE.block hl) (G (t:=(C (B neg)::(vl xs::(W 2 (Ay [B neg,H ((D ((b xs xs.length:Nat):Int))-0) (Bx (((D ((b xs xs.length:Nat):Int))-0)*1) (g (0*1) (lm xs)))]::(u ((b xs xs.length:Nat):Int)::(W 14 (u ((b xs xs.length:Nat):Int)::(C (B (((b xs xs.length:Nat):Int)==0))::(W 1 (C (B neg)::(vl xs::(u ((b xs xs.length:Nat):Int)::(u ((b xs xs.length:Nat):Int)::(C (H ((D ((b xs xs.length:Nat):Int))-0) (Bx (((D ((b xs xs.length:Nat):Int))-0)*1) (g (0*1) (lm xs))))::(C (o [B neg,H ((D ((b xs xs.length:Nat):Int))-0) (Bx (((D ((b xs xs.length:Nat):Int))-0)*1) (g (0*1) (lm xs)))])::[])))))))))))))))) (ex := .ret) C1 300 [bF] [0,1,4,5,20,21,23,24,25,26,27,28] (JS (show (((b xs xs.length:Nat):Int)==0)=false from hz) (show 0<=((b xs xs.length:Nat):Int) from (I8 _)) (show 0<=((b xs xs.length:Nat):Int) from (I8 _)) (show 0<=(D ((b xs xs.length:Nat):Int))/\(D ((b xs xs.length:Nat):Int))<=(D ((b xs xs.length:Nat):Int))/\(D ((b xs xs.length:Nat):Int))<=xs.length/\(true=true->true=true) from hsc))))))
theorem Fh{neg:Bool}{xs:LI}(hu:A_ xs)(hN:xs.length<=1048576):RQ 152 [B neg,sL lm xs] (Ag (rv neg xs)):=by
 obtain⟨e1,e2,e3⟩:=mO xs;have ht:=RM (neg:=neg) hu;have hn:=Abx (neg:=neg) hu;have hlen:(Y xs).length=b xs xs.length:=by rw[<- e1,R];rfl
 have hl:=Afb neg xs hN xs.length (Ao _);by_cases h0:b xs xs.length=0
 ·have h:=uR neg xs (by rw[h0];rfl) hl;have hz:(M (rv neg xs).natAbs).length=0:=by rw[<- ht,hlen,h0]
  have hv:rv neg xs=0:=by have:=(D4 _).1 hz;omega
  rw[hv];exact h
 ·have h:=uS neg xs (by rw[beq_eq_false_iff_ne];omega) hl ⟨e3.1,Ao _,e3.2.1,fun _=>rfl⟩;rw[e2,e1,ht] at h;have hp:decide (0<(M (rv neg xs).natAbs).length)=true:=by rw[<- ht,hlen];simp;omega
  rw[hp,MJ] at hn;rw[Ag,<- hn];exact h
theorem uT(n:Int)(c1:decide (n<0)=true)(hcall:RQ 152 [B (A (n<0)),H 2 [F Ae (I Ae (I U (0-(I U n)))),F Ae (I Ae (d (I U (0-(I U n))) (2^(min (D 32) (An .u64)))))]] (o [B (A (n<0)),H ((M (E n)).length) (lm (M (E n)))])):RQ 132 [F O n] (o [B (A (n<0)),H ((M (E n)).length) (lm (M (E n)))]):=Jz (ps:=[(A (n<0))=true,¬ (32:Int)<0,RQ 152 [B (A (n<0)),H 2 [F Ae (I Ae (I U (0-(I U n)))),F Ae (I Ae (d (I U (0-(I U n))) (2^(min (D 32) (An .u64)))))]] (o [B (A (n<0)),H ((M (E n)).length) (lm (M (E n)))])]) C1 rfl 300 rfl [bT,.r (o [B (A (n<0)),H ((M (E n)).length) (lm (M (E n)))])] (by kernel_rfl) ⟨c1,(by decide),hcall,trivial⟩
theorem uU(n:Int)(c1:decide (n<0)=false)(hcall:RQ 152 [B (A (n<0)),H 2 [F Ae (I Ae (I U n)),F Ae (I Ae (d (I U n) (2^(min (D 32) (An .u64)))))]] (o [B (A (n<0)),H ((M (E n)).length) (lm (M (E n)))])):RQ 132 [F O n] (o [B (A (n<0)),H ((M (E n)).length) (lm (M (E n)))]):=Jz (ps:=[(A (n<0))=false,¬ (32:Int)<0,RQ 152 [B (A (n<0)),H 2 [F Ae (I Ae (I U n)),F Ae (I Ae (d (I U n) (2^(min (D 32) (An .u64)))))]] (o [B (A (n<0)),H ((M (E n)).length) (lm (M (E n)))])]) C1 rfl 300 rfl [bF,.r (o [B (A (n<0)),H ((M (E n)).length) (lm (M (E n)))])] (by kernel_rfl) ⟨c1,(by decide),hcall,trivial⟩
theorem YC{n:Int}(hn : -9223372036854775808<=n/\n<=9223372036854775807):RQ 132 [F O n] (Ag n):=by
 cases c1:decide (n<0) with
 | true =>
  have h0:n<0:=by simpa using c1
  have eu:(I U (0-I U n)) = -n:=by rw[BF,BF];omega
  obtain⟨k1,k2⟩:=Oc (u:=(I U (0-I U n))) (by rw[eu];omega);refine uT n c1 ?_;have:=Fh (neg:=true) k1 (by simp);have e:rv true [I Ae (I U (0-I U n)),I Ae (d (I U (0-I U n)) (2^(min (D 32) (An .u64))))]=n:=by
   unfold rv;rw[k2,if_pos rfl,eu];omega
  rw[e,Ag,c1] at this;rw[c1];exact this
 | false =>
  have h0:¬ n<0:=by simpa using c1
  have eu:I U n=n:=by rw[BF];omega
  obtain⟨k1,k2⟩:=Oc (u:=I U n) (by rw[eu];omega);refine uU n c1 ?_;have:=Fh (neg:=false) k1 (by simp);have e:rv false [I Ae (I U n),I Ae (d (I U n) (2^(min (D 32) (An .u64))))]=n:=by
   unfold rv;rw[if_neg (by decide),k2,eu]
  rw[e,Ag,c1] at this;rw[c1];exact this
theorem Avv(neg:Bool)(xs:LI)(a r:Int)(h1:RQ 143 [o [B neg,sL lm xs]] (Ar [B (A (a<0)),H ((M (E a)).length) (lm (M (E a)))]))(h2:RQ 152 [B (A (a<0)),H (M (E a)).length (lm (M (E a)))] (o [B (A (r<0)),H ((M (E r)).length) (lm (M (E r)))]))(hal:Bl (lm (M (E a)))=(M (E a)).length*1)(han:(M (E a)).length<=1048576):RQ 113 [o [B neg,sL lm xs]] (o [B (A (r<0)),H ((M (E r)).length) (lm (M (E r)))]):=Jz (ps:=[RQ 143 [o [B neg,sL lm xs]] (Ar [B (A (a<0)),H ((M (E a)).length) (lm (M (E a)))]),Bl (lm (M (E a)))=((M (E a)).length)*1,((M (E a)).length)<=35184372088832,RQ 152 [B (A (a<0)),H ((M (E a)).length) (lm (M (E a)))] (o [B (A (r<0)),H ((M (E r)).length) (lm (M (E r)))])]) C1 rfl 300 rfl [.r (Ar [B (A (a<0)),H ((M (E a)).length) (lm (M (E a)))]),.r (o [B (A (r<0)),H ((M (E r)).length) (lm (M (E r)))])] (by kernel_rfl) ⟨h1,hal,(Bm han (by decide)),h2,trivial⟩
theorem Avw(neg:Bool)(xs:LI)(a r:Int)(h1:RQ 143 [o [B neg,sL lm xs]] (Ar [B (A (a<0)),H ((M (E a)).length) (lm (M (E a)))]))(h2:RQ 152 [B (!(decide (a<0))),H (M (E a)).length (lm (M (E a)))] (o [B (A (r<0)),H ((M (E r)).length) (lm (M (E r)))]))(hal:Bl (lm (M (E a)))=(M (E a)).length*1)(han:(M (E a)).length<=1048576):RQ 131 [o [B neg,sL lm xs]] (o [B (A (r<0)),H ((M (E r)).length) (lm (M (E r)))]):=Jz (ps:=[RQ 143 [o [B neg,sL lm xs]] (Ar [B (A (a<0)),H ((M (E a)).length) (lm (M (E a)))]),Bl (lm (M (E a)))=((M (E a)).length)*1,((M (E a)).length)<=35184372088832,RQ 152 [B (!(decide (a<0))),H ((M (E a)).length) (lm (M (E a)))] (o [B (A (r<0)),H ((M (E r)).length) (lm (M (E r)))])]) C1 rfl 300 rfl [.r (Ar [B (A (a<0)),H ((M (E a)).length) (lm (M (E a)))]),.r (o [B (A (r<0)),H ((M (E r)).length) (lm (M (E r)))])] (by kernel_rfl) ⟨h1,hal,(Bm han (by decide)),h2,trivial⟩
theorem Xo(xs:LI):Bl (lm xs)=xs.length*1:=by rw [QK,FR]
theorem A5f(n:Int):rv false (M n.natAbs)=(n.natAbs:Int):=by unfold rv;rw [if_neg (by decide),C9]
theorem Abz(n:Int):rv (!decide (n<0)) (M n.natAbs) = -n:=by
 unfold rv;rw[C9];by_cases h:n<0 <;> simp[h] <;> omega
theorem M4{neg:Bool}{xs:LI}(hu:A_ xs)(hN:xs.length<=1048576):RQ 113 [o [B neg,sL lm xs]] (Ag (rv neg xs)):=by
 have hl:(M (rv neg xs).natAbs).length<=1048576:=Bm (Fg hu) hN;have h2:=Fh (neg:=decide (rv neg xs<0)) (BV (rv neg xs).natAbs) hl;rw[FB] at h2;exact Avv neg xs (rv neg xs) (rv neg xs) (DT hu hN) h2 (Xo _) hl
theorem cK{neg:Bool}{xs:LI}(hu:A_ xs)(hN:xs.length<=1048576):RQ 131 [o [B neg,sL lm xs]] (Ag (-(rv neg xs))):=by
 have hl:(M (rv neg xs).natAbs).length<=1048576:=Bm (Fg hu) hN;have h2:=Fh (neg := !decide (rv neg xs<0)) (BV (rv neg xs).natAbs) hl;rw[Abz] at h2;exact Avw neg xs (rv neg xs) (-(rv neg xs)) (DT hu hN) h2 (Xo _) hl
def Xp(a:Int):AV :=
 match (((M (E a)).length:Nat):Int)==0 with
 | true=>(F O 0)
 | false=>(match decide (a<0) with
 | true=>(F O (-1))
 | false=>(F O 1))
theorem Avx(neg:Bool)(xs:LI)(a:Int)(h1:RQ 143 [o [B neg,sL lm xs]] (Ar [B (A (a<0)),H ((M (E a)).length) (lm (M (E a)))])):RQ 101 [o [B neg,sL lm xs]] (Xp a):=by
 unfold Xp;cases c1:((((M (E a)).length:Nat):Int)==0)
 ·cases c2:(A (a<0))
  ·exact Jz (r := F O 1) (ps:=[RQ 143 [o [B neg,sL lm xs]] (Ar [B (A (a<0)),H ((M (E a)).length) (lm (M (E a)))]),((((M (E a)).length:Nat):Int)==0)=false,(A (a<0))=false]) C1 rfl 300 rfl [.r (Ar [B (A (a<0)),H ((M (E a)).length) (lm (M (E a)))]),bF,bF] (by kernel_rfl) ⟨h1,c1,c2,trivial⟩
  ·exact Jz (r := F O (-1)) (ps:=[RQ 143 [o [B neg,sL lm xs]] (Ar [B (A (a<0)),H ((M (E a)).length) (lm (M (E a)))]),((((M (E a)).length:Nat):Int)==0)=false,(A (a<0))=true]) C1 rfl 300 rfl [.r (Ar [B (A (a<0)),H ((M (E a)).length) (lm (M (E a)))]),bF,bT] (by kernel_rfl) ⟨h1,c1,c2,trivial⟩
 ·exact Jz (r := F O 0) (ps:=[RQ 143 [o [B neg,sL lm xs]] (Ar [B (A (a<0)),H ((M (E a)).length) (lm (M (E a)))]),((((M (E a)).length:Nat):Int)==0)=true]) C1 rfl 300 rfl [.r (Ar [B (A (a<0)),H ((M (E a)).length) (lm (M (E a)))]),bT] (by kernel_rfl) ⟨h1,c1,trivial⟩
theorem Ka{neg:Bool}{xs:LI}(hu:A_ xs)(hN:xs.length<=1048576):RQ 101 [o [B neg,sL lm xs]] (F O (BQ (rv neg xs))):=by
 have h:=Avx neg xs (rv neg xs) (DT hu hN);have e:Xp (rv neg xs) = F O (BQ (rv neg xs)):=by
  unfold Xp BQ;have hz:=D4 (rv neg xs).natAbs;by_cases h0:rv neg xs=0
  ·rw[h0];rfl
  ·have e1:((((M (rv neg xs).natAbs).length:Nat):Int)==0)=false:=by rw[beq_eq_false_iff_ne];omega
   rw[e1];by_cases h1:rv neg xs<0
   ·simp[h1]
   ·have h2:0<rv neg xs:=by omega
    simp[h1,h2]
 rw[<- e];exact h
theorem YD{n:Int}(hN:(M n.natAbs).length<=1048576):RQ 101 [Ag n] (F O (BQ n)):=by
 have:=Ka (neg:=decide (n<0)) (BV n.natAbs) hN;rwa [FB] at this
def TWA:C8:=TQ0
theorem Be:Co DK TWA:=C1
def OR:ICode:=c Arx 93 116
def I1(N:Nat)(cs:List AV)(M:Nat)(ds:List AV)(v i:Int):Aj:=(C (H N cs)::(C (H M ds)::(W 2 (C (F O v)::(C (F O i)::(W 35 []))))))
theorem Avy(N:Nat)(cs:List AV)(M:Nat)(ds:List AV)(v i x y:Int)(c1:A (i>=0)=true)(c2:(x != y)=true)(c3:A (x<y)=true)(n1:0<=i/\i<(N:Int))(n2:Bj (g (D i*1) cs) 0 1 true=some (F Ae x))(n3:0<=i/\i<(M:Int))(n4:Bj (g (D i*1) ds) 0 1 true=some (F Ae y))(n5:0<=i/\i<(N:Int))(n6:Bj (g (D i*1) cs) 0 1 true=some (F Ae x))(n7:0<=i/\i<(M:Int))(n8:Bj (g (D i*1) ds) 0 1 true=some (F Ae y)):Ap OR (I1 N cs M ds v i) .ret (I1 N cs M ds (-1) i):=G Be 300 [bT,.v (F Ae x),.v (F Ae y),bT,.v (F Ae x),.v (F Ae y),bT] NB (NF c1 n1 n2 n3 n4 c2 n5 n6 n7 n8 c3) (by kernel_rfl)
theorem Avz(N:Nat)(cs:List AV)(M:Nat)(ds:List AV)(v i x y:Int)(c1:A (i>=0)=true)(c2:(x != y)=true)(c3:A (x<y)=false)(n1:0<=i/\i<(N:Int))(n2:Bj (g (D i*1) cs) 0 1 true=some (F Ae x))(n3:0<=i/\i<(M:Int))(n4:Bj (g (D i*1) ds) 0 1 true=some (F Ae y))(n5:0<=i/\i<(N:Int))(n6:Bj (g (D i*1) cs) 0 1 true=some (F Ae x))(n7:0<=i/\i<(M:Int))(n8:Bj (g (D i*1) ds) 0 1 true=some (F Ae y)):Ap OR (I1 N cs M ds v i) .ret (I1 N cs M ds 1 i):=G Be 300 [bT,.v (F Ae x),.v (F Ae y),bT,.v (F Ae x),.v (F Ae y),bF] NB (NF c1 n1 n2 n3 n4 c2 n5 n6 n7 n8 c3) (by kernel_rfl)
theorem Awa(N:Nat)(cs:List AV)(M:Nat)(ds:List AV)(v i x y:Int)(c1:A (i>=0)=true)(c2:(x != y)=false)(n1:0<=i/\i<(N:Int))(n2:Bj (g (D i*1) cs) 0 1 true=some (F Ae x))(n3:0<=i/\i<(M:Int))(n4:Bj (g (D i*1) ds) 0 1 true=some (F Ae y)):Ap OR (I1 N cs M ds v i) .norm (I1 N cs M ds v (I O (i-1))):=G Be 300 [bT,.v (F Ae x),.v (F Ae y),bF] NB (JT c1 n1 n2 n3 n4 c2) (by kernel_rfl)
theorem Awb(N:Nat)(cs:List AV)(M:Nat)(ds:List AV)(v i:Int)(c1:A (i>=0)=false):Ap OR (I1 N cs M ds v i) (.exit 0) (I1 N cs M ds v i):=G Be 300 [bF] NB (Jx c1) (by kernel_rfl)
theorem Afc(xs ys:LI)(hN:xs.length<=1048576)(hl:xs.length=ys.length):∀ m,m<=xs.length ->
  (Ln xs ys m=0/\Ap (.loop OR) (I1 xs.length (lm xs) ys.length (lm ys) 0 ((m:Int)-1)) (.exit 0) (I1 xs.length (lm xs) ys.length (lm ys) 0 (-1))) \/
  (Ln xs ys m ≠ 0/\∃ j,Ap (.loop OR) (I1 xs.length (lm xs) ys.length (lm ys) 0 ((m:Int)-1)) .ret (I1 xs.length (lm xs) ys.length (lm ys) (Ln xs ys m) j)):=by
 intro m;induction m with
 | zero =>
  intro _;left;refine⟨rfl,?_⟩;exact Ah (Awb xs.length (lm xs) ys.length (lm ys) 0 (((0:Nat):Int)-1) (by simp))
 | succ m ih =>
  intro hm;have e0:((m+1:Nat):Int)-1=(m:Int):=by omega
  have e1:I O ((m:Int)-1)=(m:Int)-1:=Bg (by omega) (by omega);have hx:=E6 (xs:=xs) (i:=m) (by omega);have hy:=E6 (xs:=ys) (i:=m) (by omega);rw[e0];simp only[Ln];by_cases h:xs.getD m 0=ys.getD m 0
  ·rw[if_pos h];have h1:=Awa xs.length (lm xs) ys.length (lm ys) 0 (m:Int) (xs.getD m 0) (ys.getD m 0) (by simp) (by simpa using h) (by omega) (by rw[R];exact hx) (by omega) (by rw[R];exact hy);rw[e1] at h1;rcases ih (by omega) with ⟨k1,k2⟩ | ⟨k1,j,k2⟩
   ·exact .inl ⟨k1,CE.loop h1 k2⟩
   ·exact .inr ⟨k1,j,CE.loop h1 k2⟩
  ·rw[if_neg h];right;by_cases hlt:xs.getD m 0<ys.getD m 0
   ·rw[if_pos hlt];refine⟨by decide,(m:Int),?_⟩;exact Ah (Avy xs.length (lm xs) ys.length (lm ys) 0 (m:Int) (xs.getD m 0) (ys.getD m 0) (by simp) (by simpa using h) (by simpa using hlt) (by omega) (by rw[R];exact hx) (by omega) (by rw[R];exact hy) (by omega) (by rw[R];exact hx) (by omega) (by rw[R];exact hy))
   ·rw[if_neg hlt];refine⟨by decide,(m:Int),?_⟩;exact Ah (Avz xs.length (lm xs) ys.length (lm ys) 0 (m:Int) (xs.getD m 0) (ys.getD m 0) (by simp) (by simpa using h) (by simpa using hlt) (by omega) (by rw[R];exact hx) (by omega) (by rw[R];exact hy) (by omega) (by rw[R];exact hx) (by omega) (by rw[R];exact hy))
theorem mP(xs ys:LI)(h:((xs.length:Int) != (ys.length:Int))=true)(h2:(A ((xs.length:Int)<(ys.length:Int)))=true):RQ 151 [sL lm xs,sL lm ys] (F O (-1)):=Jz (ps:=[((xs.length:Int) != (ys.length:Int))=true,(A ((xs.length:Int)<(ys.length:Int)))=true]) Be rfl 300 rfl [bT,bT] (by kernel_rfl) ⟨h,h2,trivial⟩
theorem mQ(xs ys:LI)(h:((xs.length:Int) != (ys.length:Int))=true)(h2:(A ((xs.length:Int)<(ys.length:Int)))=false):RQ 151 [sL lm xs,sL lm ys] (F O 1):=Jz (ps:=[((xs.length:Int) != (ys.length:Int))=true,(A ((xs.length:Int)<(ys.length:Int)))=false]) Be rfl 300 rfl [bT,bF] (by kernel_rfl) ⟨h,h2,trivial⟩
theorem mR(xs ys:LI)(h:((xs.length:Int) != (ys.length:Int))=false)(hl:Ap (.loop OR) (I1 xs.length (lm xs) ys.length (lm ys) 0 (I O ((xs.length:Int)-1))) (.exit 0) (I1 xs.length (lm xs) ys.length (lm ys) 0 (-1))):RQ 151 [sL lm xs,sL lm ys] (F O 0):=OO Arx (C (sL lm xs)::(C (sL lm ys)::(W 2 (C (F O 0)::(C (F O (-1))::(W 35 [])))))) (CE.seq (G (t:=(vl xs::(vl ys::(W 2 (u 0::(W 36 [])))))) Be 300 [] Qy a0) (CE.seq (G (t:=(vl xs::(vl ys::(W 2 (u 0::(W 1 (vl xs::(u (xs.length:Int)::(vl ys::(u (ys.length:Int)::(C (B ((xs.length:Int) != (ys.length:Int)))::(W 30 [])))))))))))) Be 300 [bF] fT (Jx (show ((xs.length:Int) != (ys.length:Int))=false from h))) (CE.seq (CE.seq (G (t:=(vl xs::(vl ys::(W 2 (u 0::(u (I O ((xs.length:Int)-1))::(W 35 []))))))) Be 300 [] NB a0) (CE.block hl)) (G (t:=(vl xs::(vl ys::(W 2 (u 0::(u (-1)::(W 35 []))))))) (ex := .ret) Be 300 [] NB a0))))
theorem mS(xs ys:LI)(r j:Int)(h:((xs.length:Int) != (ys.length:Int))=false)(hl:Ap (.loop OR) (I1 xs.length (lm xs) ys.length (lm ys) 0 (I O ((xs.length:Int)-1))) .ret (I1 xs.length (lm xs) ys.length (lm ys) r j)):RQ 151 [sL lm xs,sL lm ys] (F O r):=OO Arx (C (sL lm xs)::(C (sL lm ys)::(W 2 (C (F O r)::(C (F O j)::(W 35 [])))))) (CE.seq (G (t:=(vl xs::(vl ys::(W 2 (u 0::(W 36 [])))))) Be 300 [] Qy a0) (CE.seq (G (t:=(vl xs::(vl ys::(W 2 (u 0::(W 1 (vl xs::(u (xs.length:Int)::(vl ys::(u (ys.length:Int)::(C (B ((xs.length:Int) != (ys.length:Int)))::(W 30 [])))))))))))) Be 300 [bF] fT (Jx (show ((xs.length:Int) != (ys.length:Int))=false from h))) (A4 (CE.seq (G (t:=(vl xs::(vl ys::(W 2 (u 0::(u (I O ((xs.length:Int)-1))::(W 35 []))))))) Be 300 [] NB a0) (BO hl)))))
theorem K2{xs ys:LI}(hx:Ga xs)(hy:Ga ys)(hN:xs.length<=1048576):RQ 151 [sL lm xs,sL lm ys] (F O (CX (Ab xs) (Ab ys))):=by
 by_cases hl:xs.length=ys.length
 ·have h:((xs.length:Int) != (ys.length:Int))=false:=by rw[hl];simp
  have hg:=bZ hx.1 hy.1 xs.length (Ao _) (by omega);rw[DP,hl,DP,<- hl] at hg;have e1:I O ((xs.length:Int)-1)=(xs.length:Int)-1:=Bg (by omega) (by omega);rcases Afc xs ys hN hl xs.length (Ao _) with ⟨k1,k2⟩ | ⟨k1,j,k2⟩
  ·rw[<- hg,k1];exact mR xs ys h (by rw[e1];exact k2)
  ·rw[<- hg];exact mS xs ys _ j h (by rw[e1];exact k2)
 ·have h:((xs.length:Int) != (ys.length:Int))=true:=by simp;omega
  by_cases hlt:xs.length<ys.length
  ·have e:CX (Ab xs) (Ab ys) = -1:=by unfold CX;rw[if_pos (J' hx hy hlt)]
   rw[e];exact mP xs ys h (by simp;omega)
  ·have:=J' hy hx (by omega);have e:CX (Ab xs) (Ab ys)=1:=by unfold CX;rw[if_neg (by omega),if_pos this]
   rw[e];exact mQ xs ys h (by simp;omega)
def QE:ICode:=c Ate 91 500
def J4(la:Nat)(xa:List AV)(lb:Nat)(xb:List AV)(n:Nat)(cs:List AV)(c:Int)(m:Int)(i:Int):Aj:=(C (H la xa)::(C (H lb xb)::(W 2 (X 1 0 []::(X 1 n cs::(C (F U c)::(W 14 (C (F O m)::(C (F O i)::(W 35 []))))))))))
theorem Awc(la:Nat)(xa:List AV)(lb:Nat)(xb:List AV)(n:Nat)(cs:List AV)(c:Int)(m:Int)(i:Int)(ds:List AV)(x y:Int)(c1:A (i<m)=true)(c2:A (i<(lb:Int))=true)(n1:0<=i/\i<(la:Int))(n2:Bj (g (D i*1) xa) 0 1 true=some (F Ae x))(n3:0<=i/\i<(lb:Int))(n4:Bj (g (D i*1) xb) 0 1 true=some (F Ae y))(n5:0<=i/\i<(n:Int))(n6:C5 cs (D i*1) [F Ae (I Ae (I U ((I U ((I U x)+c))+(I U y))))]=some ds):Ap QE (J4 la xa lb xb n cs c m i) .norm (J4 la xa lb xb n ds (d (I U ((I U ((I U x)+c))+(I U y))) (2^(min (D 32) (An .u64)))) m (I O (i+1))):=G Be 300 [bT,.v (F Ae x),bT,.v (F Ae y),.l ds] XX (Qx c1 n1 n2 c2 n3 n4 Jn n5 n6) (by kernel_rfl)
theorem Awd(la:Nat)(xa:List AV)(lb:Nat)(xb:List AV)(n:Nat)(cs:List AV)(c:Int)(m:Int)(i:Int)(ds:List AV)(x:Int)(c1:A (i<m)=true)(c2:A (i<(lb:Int))=false)(n1:0<=i/\i<(la:Int))(n2:Bj (g (D i*1) xa) 0 1 true=some (F Ae x))(n3:0<=i/\i<(n:Int))(n4:C5 cs (D i*1) [F Ae (I Ae (I U ((I U x)+c)))]=some ds):Ap QE (J4 la xa lb xb n cs c m i) .norm (J4 la xa lb xb n ds (d (I U ((I U x)+c)) (2^(min (D 32) (An .u64)))) m (I O (i+1))):=G Be 300 [bT,.v (F Ae x),bF,.l ds] XX (Lm c1 n1 n2 c2 Jn n3 n4) (by kernel_rfl)
theorem Awe(la:Nat)(xa:List AV)(lb:Nat)(xb:List AV)(n:Nat)(cs:List AV)(c:Int)(m:Int)(i:Int)(c1:A (i<m)=false):Ap QE (J4 la xa lb xb n cs c m i) (.exit 0) (J4 la xa lb xb n cs c m i):=G Be 300 [bF] XX (Jx c1) (by kernel_rfl)
theorem Afd(xs ys:LI)(hx:A_ xs)(hy:A_ ys)(n:Nat)(hn:n<=1048576)(hxn:xs.length<=n):∀ (r i:Nat) (o:LI) (c:Int),r+i=xs.length->o.length=n->A_ o->0<=c/\c<=1 ->
  Ap (.loop QE) (J4 xs.length (lm xs) ys.length (lm ys) n (lm o) c (xs.length:Int) (i:Int)) (.exit 0)
   (J4 xs.length (lm xs) ys.length (lm ys) n (lm (J3 xs ys r i o c).1) (J3 xs ys r i o c).2 (xs.length:Int) (xs.length:Int)):=by
 intro r;induction r with
 | zero =>
  intro i o c hi _ _ _;have hi':i=xs.length:=by omega
  subst hi';exact Ah (Awe xs.length (lm xs) ys.length (lm ys) n (lm o) c (xs.length:Int) (xs.length:Int) (by simp))
 | succ r ih =>
  intro i o c hi hlo hu hc;have h1:=AL hx i;have h2:=AL hy i;have ei:I O ((i:Int)+1)=((i+1:Nat):Int):=by rw[Bg (by omega) (by omega)];omega
  have hxi:=E6 (xs:=xs) (i:=i) (by omega);have hst:=J2 (xs:=o) (i:=i) (v:=(xs.getD i 0+c+ys.getD i 0) % 4294967296) (by omega);by_cases hy2:i<ys.length
  ·have hyi:=E6 (xs:=ys) (i:=i) hy2;have eW:I Ae (I U (I U (I U (xs.getD i 0)+c)+I U (ys.getD i 0)))=(xs.getD i 0+c+ys.getD i 0) % 4294967296:=by rw[Es,BF,BF,BF,BF];omega
   have eC:d (I U (I U (I U (xs.getD i 0)+c)+I U (ys.getD i 0))) (2^(min (D 32) (An .u64)))=((xs.getD i 0+c+ys.getD i 0) / 4294967296):=by
    show d _ 4294967296=_;rw[q _ (by omega),BF,BF,BF,BF];omega
   have k:=Awc xs.length (lm xs) ys.length (lm ys) n (lm o) c (xs.length:Int) (i:Int) (lm (o.set i ((xs.getD i 0+c+ys.getD i 0) % 4294967296))) (xs.getD i 0) (ys.getD i 0)
    (by simp;omega) (by simp;omega) (by omega) (by rw[R];exact hxi) (by omega) (by rw[R];exact hyi) (by omega) (by rw[R,eW];exact hst)
   rw[eC,ei] at k;exact CE.loop k (ih (i+1) _ _ (by omega) (by simpa using hlo) (CF hu (by omega)) (by omega))
  ·have hy0:=B3 (xs:=ys) (i:=i) (by omega);have eW:I Ae (I U (I U (xs.getD i 0)+c))=(xs.getD i 0+c+ys.getD i 0) % 4294967296:=by rw[Es,BF,BF];omega
   have eC:d (I U (I U (xs.getD i 0)+c)) (2^(min (D 32) (An .u64)))=((xs.getD i 0+c+ys.getD i 0) / 4294967296):=by
    show d _ 4294967296=_;rw[q _ (by omega),BF,BF];omega
   have k:=Awd xs.length (lm xs) ys.length (lm ys) n (lm o) c (xs.length:Int) (i:Int) (lm (o.set i ((xs.getD i 0+c+ys.getD i 0) % 4294967296))) (xs.getD i 0)
    (by simp;omega) (by simp;omega) (by omega) (by rw[R];exact hxi) (by omega) (by rw[R,eW];exact hst)
   rw[eC,ei] at k;exact CE.loop k (ih (i+1) _ _ (by omega) (by simpa using hlo) (CF hu (by omega)) (by omega))
def Vn:ICode:=c Atf 92 244
def NI(la:Nat)(xa:List AV)(lb:Nat)(xb:List AV)(n:Nat)(cs:List AV)(c:Int)(m:Int)(i:Int):Aj:=(C (H la xa)::(C (H lb xb)::(W 2 (X 1 0 []::(X 1 n cs::(C (F U c)::(W 6 (C (F O m)::(C (F O i)::(W 29 []))))))))))
theorem Awf(la:Nat)(xa:List AV)(lb:Nat)(xb:List AV)(n:Nat)(cs:List AV)(c:Int)(m:Int)(i:Int)(ds:List AV)(x y:Int)(c1:A (i<m)=true)(c2:A (i<(lb:Int))=true)(n1:0<=i/\i<(la:Int))(n2:Bj (g (D i*1) xa) 0 1 true=some (F Ae x))(n3:0<=i/\i<(lb:Int))(n4:Bj (g (D i*1) xb) 0 1 true=some (F Ae y))(n5:0<=i/\i<(n:Int))(n6:C5 cs (D i*1) [F Ae (I Ae (I U ((I U ((I U x)-c))-(I U y))))]=some ds):Ap Vn (NI la xa lb xb n cs c m i) .norm (NI la xa lb xb n ds (d (I U ((I U ((I U x)-c))-(I U y))) (2^(min (D 63) (An .u64)))) m (I O (i+1))):=G Be 300 [bT,.v (F Ae x),bT,.v (F Ae y),.l ds] lD (Qx c1 n1 n2 c2 n3 n4 ZQ n5 n6) (by kernel_rfl)
theorem Awg(la:Nat)(xa:List AV)(lb:Nat)(xb:List AV)(n:Nat)(cs:List AV)(c:Int)(m:Int)(i:Int)(ds:List AV)(x:Int)(c1:A (i<m)=true)(c2:A (i<(lb:Int))=false)(n1:0<=i/\i<(la:Int))(n2:Bj (g (D i*1) xa) 0 1 true=some (F Ae x))(n3:0<=i/\i<(n:Int))(n4:C5 cs (D i*1) [F Ae (I Ae (I U ((I U x)-c)))]=some ds):Ap Vn (NI la xa lb xb n cs c m i) .norm (NI la xa lb xb n ds (d (I U ((I U x)-c)) (2^(min (D 63) (An .u64)))) m (I O (i+1))):=G Be 300 [bT,.v (F Ae x),bF,.l ds] lD (Lm c1 n1 n2 c2 ZQ n3 n4) (by kernel_rfl)
theorem Awh(la:Nat)(xa:List AV)(lb:Nat)(xb:List AV)(n:Nat)(cs:List AV)(c:Int)(m:Int)(i:Int)(c1:A (i<m)=false):Ap Vn (NI la xa lb xb n cs c m i) (.exit 0) (NI la xa lb xb n cs c m i):=G Be 300 [bF] lD (Jx c1) (by kernel_rfl)
theorem Afe(xs ys:LI)(hx:A_ xs)(hy:A_ ys)(n:Nat)(hn:n<=1048576)(hxn:xs.length<=n):∀ (r i:Nat) (o:LI) (c:Int),r+i=xs.length->o.length=n->A_ o->0<=c/\c<=1 ->
  Ap (.loop Vn) (NI xs.length (lm xs) ys.length (lm ys) n (lm o) c (xs.length:Int) (i:Int)) (.exit 0)
   (NI xs.length (lm xs) ys.length (lm ys) n (lm (J_ xs ys r i o c).1) (J_ xs ys r i o c).2 (xs.length:Int) (xs.length:Int)):=by
 intro r;induction r with
 | zero =>
  intro i o c hi _ _ _;have hi':i=xs.length:=by omega
  subst hi';exact Ah (Awh xs.length (lm xs) ys.length (lm ys) n (lm o) c (xs.length:Int) (xs.length:Int) (by simp))
 | succ r ih =>
  intro i o c hi hlo hu hc;have h1:=AL hx i;have h2:=AL hy i;have ei:I O ((i:Int)+1)=((i+1:Nat):Int):=by rw[Bg (by omega) (by omega)];omega
  have hxi:=E6 (xs:=xs) (i:=i) (by omega);have hst:=J2 (xs:=o) (i:=i) (v:=(xs.getD i 0-c-ys.getD i 0) % 4294967296) (by omega);by_cases hy2:i<ys.length
  ·have hyi:=E6 (xs:=ys) (i:=i) hy2;have eW:I Ae (I U (I U (I U (xs.getD i 0)-c)-I U (ys.getD i 0)))=(xs.getD i 0-c-ys.getD i 0) % 4294967296:=by rw[Es,BF,BF,BF,BF];omega
   have eC:d (I U (I U (I U (xs.getD i 0)-c)-I U (ys.getD i 0))) (2^(min (D 63) (An .u64)))=(-((xs.getD i 0-c-ys.getD i 0) / 4294967296)):=by
    show d _ 9223372036854775808=_;rw[q _ (by omega),BF,BF,BF,BF];omega
   have k:=Awf xs.length (lm xs) ys.length (lm ys) n (lm o) c (xs.length:Int) (i:Int) (lm (o.set i ((xs.getD i 0-c-ys.getD i 0) % 4294967296))) (xs.getD i 0) (ys.getD i 0)
    (by simp;omega) (by simp;omega) (by omega) (by rw[R];exact hxi) (by omega) (by rw[R];exact hyi) (by omega) (by rw[R,eW];exact hst)
   rw[eC,ei] at k;exact CE.loop k (ih (i+1) _ _ (by omega) (by simpa using hlo) (CF hu (by omega)) (by omega))
  ·have hy0:=B3 (xs:=ys) (i:=i) (by omega);have eW:I Ae (I U (I U (xs.getD i 0)-c))=(xs.getD i 0-c-ys.getD i 0) % 4294967296:=by rw[Es,BF,BF];omega
   have eC:d (I U (I U (xs.getD i 0)-c)) (2^(min (D 63) (An .u64)))=(-((xs.getD i 0-c-ys.getD i 0) / 4294967296)):=by
    show d _ 9223372036854775808=_;rw[q _ (by omega),BF,BF];omega
   have k:=Awg xs.length (lm xs) ys.length (lm ys) n (lm o) c (xs.length:Int) (i:Int) (lm (o.set i ((xs.getD i 0-c-ys.getD i 0) % 4294967296))) (xs.getD i 0)
    (by simp;omega) (by simp;omega) (by omega) (by rw[R];exact hxi) (by omega) (by rw[R,eW];exact hst)
   rw[eC,ei] at k;exact CE.loop k (ih (i+1) _ _ (by omega) (by simpa using hlo) (CF hu (by omega)) (by omega))
theorem mT(xs ys o:LI)(c:Int)(h:(A ((xs.length:Int)<(ys.length:Int)))=true)(hmk:0<=I O ((ys.length:Int)+1)/\I O ((ys.length:Int)+1)<=1048576)(hl:Ap (.loop QE) (J4 ys.length (lm ys) xs.length (lm xs) (D (I O ((ys.length:Int)+1))) (CD [F Ae 0] (D (I O ((ys.length:Int)+1)))) 0 (ys.length:Int) 0) (.exit 0) (J4 ys.length (lm ys) xs.length (lm xs) (D (I O ((ys.length:Int)+1))) (lm o) c (ys.length:Int) (ys.length:Int)))(hix:0<=(ys.length:Int)/\(ys.length:Int)<(((D (I O ((ys.length:Int)+1))):Nat):Int))(hst:C5 (lm o) (D (ys.length:Int)*1) [F Ae (I Ae c)]=some (lm (o.set ys.length c))):RQ 178 [sL lm xs,sL lm ys] (P 1 (D (I O ((ys.length:Int)+1))) (lm (o.set ys.length c))):=OO Ate (C (sL lm ys)::(C (sL lm xs)::(W 2 (X 1 (D (I O ((ys.length:Int)+1))) (lm (o.set ys.length c))::(W 1 (C (F U c)::(W 14 (C (F O (ys.length:Int))::(C (F O (ys.length:Int))::(W 28 (.dup 5::(C (sL lm ys)::(C (F O (ys.length:Int))::(C (F U c)::(C (F Ae (I Ae c))::(.ptr 5 (D (ys.length:Int)*1)::(W 1 []))))))))))))))))) (CE.seq (G (t:=(vl xs::(vl ys::(W 2 (X 1 0 []::(W 53 [])))))) Be 300 [] Qy a0) (CE.seq (G (t:=(vl ys::(vl xs::(W 2 (X 1 0 []::(W 4 (vl xs::(u (xs.length:Int)::(vl ys::(u (ys.length:Int)::(C (B (A ((xs.length:Int)<(ys.length:Int))))::(vl ys::(vl xs::(W 42 [])))))))))))))) Be 300 [bT] [0,1,4,9,10,11,12,13,14,15] (Jx (show (A ((xs.length:Int)<(ys.length:Int)))=true from h))) (CE.seq (G (t:=(vl ys::(vl xs::(W 2 (X 1 0 []::(X 1 (D (I O ((ys.length:Int)+1))) (CD [F Ae 0] (D (I O ((ys.length:Int)+1))))::(W 3 (vl xs::(u (xs.length:Int)::(vl ys::(u (ys.length:Int)::(C (B (A ((xs.length:Int)<(ys.length:Int))))::(vl ys::(vl xs::(vl ys::(u (ys.length:Int)::(u (I O ((ys.length:Int)+1))::(W 39 [])))))))))))))))))) Be 300 [] [0,1,4,5,9,10,11,12,13,14,15,16,17,18] (Jx (show 0<=(I O ((ys.length:Int)+1))/\(I O ((ys.length:Int)+1))<=1048576 from hmk))) (CE.seq (G (t:=(vl ys::(vl xs::(W 2 (X 1 0 []::(X 1 (D (I O ((ys.length:Int)+1))) (CD [F Ae 0] (D (I O ((ys.length:Int)+1))))::(C (F U 0)::(W 2 (vl xs::(u (xs.length:Int)::(vl ys::(u (ys.length:Int)::(C (B (A ((xs.length:Int)<(ys.length:Int))))::(vl ys::(vl xs::(vl ys::(u (ys.length:Int)::(u (I O ((ys.length:Int)+1))::(W 39 []))))))))))))))))))) Be 300 [] [0,1,4,5,6,9,10,11,12,13,14,15,16,17,18] a0) (CE.seq (CE.seq (G (t:=(vl ys::(vl xs::(W 2 (X 1 0 []::(X 1 (D (I O ((ys.length:Int)+1))) (CD [F Ae 0] (D (I O ((ys.length:Int)+1))))::(C (F U 0)::(W 14 (u (ys.length:Int)::(u 0::(W 35 []))))))))))) Be 300 [] XX a0) (CE.block hl)) (G (t:=(vl ys::(vl xs::(W 2 (X 1 (D (I O ((ys.length:Int)+1))) (lm (o.set ys.length c))::(W 1 (C (F U c)::(W 14 (u (ys.length:Int)::(u (ys.length:Int)::(W 28 (.dup 5::(vl ys::(u (ys.length:Int)::(C (F U c)::(C (F Ae (I Ae c))::(.ptr 5 (D (ys.length:Int)*1)::(W 1 [])))))))))))))))))) (ex := .ret) Be 300 [.l (lm (o.set ys.length c))] lO (J0 (show 0<=(ys.length:Int)/\(ys.length:Int)<(((D (I O ((ys.length:Int)+1))):Nat):Int) from hix) (show C5 (lm o) (D (ys.length:Int)*1) [F Ae (I Ae c)]=some (lm (o.set ys.length c)) from hst))))))))
theorem mU(xs ys o:LI)(c:Int)(h:(A ((xs.length:Int)<(ys.length:Int)))=false)(hmk:0<=I O ((xs.length:Int)+1)/\I O ((xs.length:Int)+1)<=1048576)(hl:Ap (.loop QE) (J4 xs.length (lm xs) ys.length (lm ys) (D (I O ((xs.length:Int)+1))) (CD [F Ae 0] (D (I O ((xs.length:Int)+1)))) 0 (xs.length:Int) 0) (.exit 0) (J4 xs.length (lm xs) ys.length (lm ys) (D (I O ((xs.length:Int)+1))) (lm o) c (xs.length:Int) (xs.length:Int)))(hix:0<=(xs.length:Int)/\(xs.length:Int)<(((D (I O ((xs.length:Int)+1))):Nat):Int))(hst:C5 (lm o) (D (xs.length:Int)*1) [F Ae (I Ae c)]=some (lm (o.set xs.length c))):RQ 178 [sL lm xs,sL lm ys] (P 1 (D (I O ((xs.length:Int)+1))) (lm (o.set xs.length c))):=OO Ate (C (sL lm xs)::(C (sL lm ys)::(W 2 (X 1 (D (I O ((xs.length:Int)+1))) (lm (o.set xs.length c))::(W 1 (C (F U c)::(W 14 (C (F O (xs.length:Int))::(C (F O (xs.length:Int))::(W 28 (.dup 5::(C (sL lm xs)::(C (F O (xs.length:Int))::(C (F U c)::(C (F Ae (I Ae c))::(.ptr 5 (D (xs.length:Int)*1)::(W 1 []))))))))))))))))) (CE.seq (G (t:=(vl xs::(vl ys::(W 2 (X 1 0 []::(W 53 [])))))) Be 300 [] Qy a0) (CE.seq (G (t:=(vl xs::(vl ys::(W 2 (X 1 0 []::(W 4 (vl xs::(u (xs.length:Int)::(vl ys::(u (ys.length:Int)::(C (B (A ((xs.length:Int)<(ys.length:Int))))::(W 44 [])))))))))))) Be 300 [bF] [0,1,4,9,10,11,12,13] (Jx (show (A ((xs.length:Int)<(ys.length:Int)))=false from h))) (CE.seq (G (t:=(vl xs::(vl ys::(W 2 (X 1 0 []::(X 1 (D (I O ((xs.length:Int)+1))) (CD [F Ae 0] (D (I O ((xs.length:Int)+1))))::(W 3 (vl xs::(u (xs.length:Int)::(vl ys::(u (ys.length:Int)::(C (B (A ((xs.length:Int)<(ys.length:Int))))::(W 2 (vl xs::(u (xs.length:Int)::(u (I O ((xs.length:Int)+1))::(W 39 []))))))))))))))))) Be 300 [] [0,1,4,5,9,10,11,12,13,16,17,18] (Jx (show 0<=(I O ((xs.length:Int)+1))/\(I O ((xs.length:Int)+1))<=1048576 from hmk))) (CE.seq (G (t:=(vl xs::(vl ys::(W 2 (X 1 0 []::(X 1 (D (I O ((xs.length:Int)+1))) (CD [F Ae 0] (D (I O ((xs.length:Int)+1))))::(C (F U 0)::(W 2 (vl xs::(u (xs.length:Int)::(vl ys::(u (ys.length:Int)::(C (B (A ((xs.length:Int)<(ys.length:Int))))::(W 2 (vl xs::(u (xs.length:Int)::(u (I O ((xs.length:Int)+1))::(W 39 [])))))))))))))))))) Be 300 [] [0,1,4,5,6,9,10,11,12,13,16,17,18] a0) (CE.seq (CE.seq (G (t:=(vl xs::(vl ys::(W 2 (X 1 0 []::(X 1 (D (I O ((xs.length:Int)+1))) (CD [F Ae 0] (D (I O ((xs.length:Int)+1))))::(C (F U 0)::(W 14 (u (xs.length:Int)::(u 0::(W 35 []))))))))))) Be 300 [] XX a0) (CE.block hl)) (G (t:=(vl xs::(vl ys::(W 2 (X 1 (D (I O ((xs.length:Int)+1))) (lm (o.set xs.length c))::(W 1 (C (F U c)::(W 14 (u (xs.length:Int)::(u (xs.length:Int)::(W 28 (.dup 5::(vl xs::(u (xs.length:Int)::(C (F U c)::(C (F Ae (I Ae c))::(.ptr 5 (D (xs.length:Int)*1)::(W 1 [])))))))))))))))))) (ex := .ret) Be 300 [.l (lm (o.set xs.length c))] lO (J0 (show 0<=(xs.length:Int)/\(xs.length:Int)<(((D (I O ((xs.length:Int)+1))):Nat):Int) from hix) (show C5 (lm o) (D (xs.length:Int)*1) [F Ae (I Ae c)]=some (lm (o.set xs.length c)) from hst))))))))
theorem S6{xs ys:LI}(hx:A_ xs)(hy:A_ ys)(hl:ys.length<=xs.length)(hN:xs.length<1048576):∃ o c,(o:LI).length=xs.length+1/\A_ (o.set xs.length c)/\Ab (o.set xs.length c)=Ab xs+Ab ys/\(0<=c/\c<=1) /\
  Ap (.loop QE) (J4 xs.length (lm xs) ys.length (lm ys) (xs.length+1) (lm (l (xs.length+1) 0)) 0 (xs.length:Int) 0) (.exit 0) (J4 xs.length (lm xs) ys.length (lm ys) (xs.length+1) (lm o) c (xs.length:Int) (xs.length:Int)):=by
 have hg:=Afd xs ys hx hy (xs.length+1) (by omega) (by omega) xs.length 0 (l (xs.length+1) 0) 0 (by omega) (by simp) (Fr _) (by omega);cases e:J3 xs ys xs.length 0 (l (xs.length+1) 0) 0 with
 | mk o c =>
  obtain⟨g1,g2,g3,g4,g5⟩:=uK hx hy hl o c e;rw[e] at hg;exact⟨o,c,g1,g4,g5,g3,hg⟩
theorem ZW{xs ys:LI}(hx:A_ xs)(hy:A_ ys)(h1:xs.length<1048576)(h2:ys.length<1048576):∃ zs,A_ zs/\Ab zs=Ab xs+Ab ys/\zs.length<=1048576/\RQ 178 [sL lm xs,sL lm ys] (P 1 zs.length (lm zs)):=by
 by_cases hlt:xs.length<ys.length
 ·obtain⟨o,c,g1,g2,g3,g4,g5⟩:=S6 hy hx (by omega) h2;have e1:I O ((ys.length:Int)+1)=((ys.length+1:Nat):Int):=by rw[Bg (by omega) (by omega)];omega
  have e2:D (I O ((ys.length:Int)+1))=ys.length+1:=by rw[e1,R]
  have hst:=J2 (xs:=o) (i:=ys.length) (v:=c) (by omega);have h:=mT xs ys o c (by simp;omega) (by rw[e1];omega) (by rw[e2,FE];exact g5) (by rw[e2];omega) (by rw[R,Es,GK (by omega) (by omega)];exact hst);refine⟨o.set ys.length c,g2,by rw[g3,Ma],by simp;omega,?_⟩;rw[e2] at h;rw[Ba,g1];exact h
 ·obtain⟨o,c,g1,g2,g3,g4,g5⟩:=S6 hx hy (by omega) h1;have e1:I O ((xs.length:Int)+1)=((xs.length+1:Nat):Int):=by rw[Bg (by omega) (by omega)];omega
  have e2:D (I O ((xs.length:Int)+1))=xs.length+1:=by rw[e1,R]
  have hst:=J2 (xs:=o) (i:=xs.length) (v:=c) (by omega);have h:=mU xs ys o c (by simp;omega) (by rw[e1];omega) (by rw[e2,FE];exact g5) (by rw[e2];omega) (by rw[R,Es,GK (by omega) (by omega)];exact hst);refine⟨o.set xs.length c,g2,g3,by simp;omega,?_⟩;rw[e2] at h;rw[Ba,g1];exact h
theorem Awi(xs ys o:LI)(c:Int)(hmk:0<=(xs.length:Int)/\(xs.length:Int)<=1048576)(hl:Ap (.loop Vn) (NI xs.length (lm xs) ys.length (lm ys) (D (xs.length:Int)) (CD [F Ae 0] (D (xs.length:Int))) 0 (xs.length:Int) 0) (.exit 0) (NI xs.length (lm xs) ys.length (lm ys) (D (xs.length:Int)) (lm o) c (xs.length:Int) (xs.length:Int))):RQ 179 [sL lm xs,sL lm ys] (P 1 (D (xs.length:Int)) (lm o)):=OO Atf (C (sL lm xs)::(C (sL lm ys)::(W 2 (X 1 (D (xs.length:Int)) (lm o)::(W 1 (C (F U c)::(W 6 (C (F O (xs.length:Int))::(C (F O (xs.length:Int))::(W 29 [])))))))))) (CE.seq (G (t:=(vl xs::(vl ys::(W 2 (X 1 0 []::(W 39 [])))))) Be 300 [] Qy a0) (CE.seq (G (t:=(vl xs::(vl ys::(W 2 (X 1 0 []::(X 1 (D (xs.length:Int)) (CD [F Ae 0] (D (xs.length:Int)))::(W 3 (vl xs::(u (xs.length:Int)::(W 33 [])))))))))) Be 300 [] [0,1,4,5,9,10] (Jx (show 0<=(xs.length:Int)/\(xs.length:Int)<=1048576 from hmk))) (CE.seq (G (t:=(vl xs::(vl ys::(W 2 (X 1 0 []::(X 1 (D (xs.length:Int)) (CD [F Ae 0] (D (xs.length:Int)))::(C (F U 0)::(W 2 (vl xs::(u (xs.length:Int)::(W 33 []))))))))))) Be 300 [] [0,1,4,5,6,9,10] a0) (CE.seq (CE.seq (G (t:=(vl xs::(vl ys::(W 2 (X 1 0 []::(X 1 (D (xs.length:Int)) (CD [F Ae 0] (D (xs.length:Int)))::(C (F U 0)::(W 6 (u (xs.length:Int)::(u 0::(W 29 []))))))))))) Be 300 [] lD a0) (CE.block hl)) (G (t:=(vl xs::(vl ys::(W 2 (X 1 (D (xs.length:Int)) (lm o)::(W 1 (C (F U c)::(W 6 (u (xs.length:Int)::(u (xs.length:Int)::(W 29 []))))))))))) (ex := .ret) Be 300 [] [0,1,4,6,13,14] a0)))))
theorem S7{xs ys:LI}(hx:A_ xs)(hy:A_ ys)(hl:ys.length<=xs.length)(hv:Ab ys<=Ab xs)(hN:xs.length<=1048576):∃ zs,A_ zs/\Ab zs=Ab xs-Ab ys/\zs.length<=1048576/\RQ 179 [sL lm xs,sL lm ys] (P 1 zs.length (lm zs)):=by
 have hg:=Afe xs ys hx hy xs.length hN (Ao _) xs.length 0 (l xs.length 0) 0 (by omega) (by simp) (Fr _) (by omega);cases e:J_ xs ys xs.length 0 (l xs.length 0) 0 with
 | mk o c =>
  obtain⟨g1,g2,g3⟩:=uL hx hy hl hv o c e;rw[e] at hg;have h:=Awi xs ys o c (by omega) (by rw[R,FE];exact hg);rw[R] at h;refine⟨o,g2,g3,by omega,?_⟩;rw[g1];exact h
theorem uV(na:Bool)(p:Nat)(nb:Bool)(q:Nat)(zs:LI)(r:Int)(h:(na==nb)=true)(h1:RQ 178 [H (M p).length (lm (M p)),H (M q).length (lm (M q))] (P 1 zs.length (lm zs)))(h2:RQ 152 [B na,sL lm zs] (o [B (A (r<0)),H ((M (E r)).length) (lm (M (E r)))])):RQ 154 [B na,H ((M p).length) (lm (M p)),B nb,H ((M q).length) (lm (M q))] (o [B (A (r<0)),H ((M (E r)).length) (lm (M (E r)))]):=Jz (ps:=[(na==nb)=true,RQ 178 [H ((M p).length) (lm (M p)),H ((M q).length) (lm (M q))] (P 1 zs.length (lm zs)),RQ 152 [B na,sL lm zs] (o [B (A (r<0)),H ((M (E r)).length) (lm (M (E r)))])]) Be rfl 300 rfl [bT,.r (P 1 zs.length (lm zs)),.r (o [B (A (r<0)),H ((M (E r)).length) (lm (M (E r)))])] (by kernel_rfl) ⟨h,h1,h2,trivial⟩
theorem uW(na:Bool)(p:Nat)(nb:Bool)(q:Nat)(zs:LI)(r:Int)(k:Int)(h:(na==nb)=false)(h3:RQ 151 [H (M p).length (lm (M p)),H (M q).length (lm (M q))] (F O k))(hk:(A (k>=0))=true)(h1:RQ 179 [H (M p).length (lm (M p)),H (M q).length (lm (M q))] (P 1 zs.length (lm zs)))(h2:RQ 152 [B na,sL lm zs] (o [B (A (r<0)),H ((M (E r)).length) (lm (M (E r)))])):RQ 154 [B na,H ((M p).length) (lm (M p)),B nb,H ((M q).length) (lm (M q))] (o [B (A (r<0)),H ((M (E r)).length) (lm (M (E r)))]):=Jz (ps:=[(na==nb)=false,RQ 151 [H ((M p).length) (lm (M p)),H ((M q).length) (lm (M q))] (F O k),(A (k>=0))=true,RQ 179 [H ((M p).length) (lm (M p)),H ((M q).length) (lm (M q))] (P 1 zs.length (lm zs)),RQ 152 [B na,sL lm zs] (o [B (A (r<0)),H ((M (E r)).length) (lm (M (E r)))])]) Be rfl 300 rfl [bF,.r (F O k),bT,.r (P 1 zs.length (lm zs)),.r (o [B (A (r<0)),H ((M (E r)).length) (lm (M (E r)))])] (by kernel_rfl) ⟨h,h3,hk,h1,h2,trivial⟩
theorem uX(na:Bool)(p:Nat)(nb:Bool)(q:Nat)(zs:LI)(r:Int)(k:Int)(h:(na==nb)=false)(h3:RQ 151 [H (M p).length (lm (M p)),H (M q).length (lm (M q))] (F O k))(hk:(A (k>=0))=false)(h1:RQ 179 [H (M q).length (lm (M q)),H (M p).length (lm (M p))] (P 1 zs.length (lm zs)))(h2:RQ 152 [B nb,sL lm zs] (o [B (A (r<0)),H ((M (E r)).length) (lm (M (E r)))])):RQ 154 [B na,H ((M p).length) (lm (M p)),B nb,H ((M q).length) (lm (M q))] (o [B (A (r<0)),H ((M (E r)).length) (lm (M (E r)))]):=Jz (ps:=[(na==nb)=false,RQ 151 [H ((M p).length) (lm (M p)),H ((M q).length) (lm (M q))] (F O k),(A (k>=0))=false,RQ 179 [H ((M q).length) (lm (M q)),H ((M p).length) (lm (M p))] (P 1 zs.length (lm zs)),RQ 152 [B nb,sL lm zs] (o [B (A (r<0)),H ((M (E r)).length) (lm (M (E r)))])]) Be rfl 300 rfl [bF,.r (F O k),bF,.r (P 1 zs.length (lm zs)),.r (o [B (A (r<0)),H ((M (E r)).length) (lm (M (E r)))])] (by kernel_rfl) ⟨h,h3,hk,h1,h2,trivial⟩
theorem mV{na nb:Bool}{p q:Nat}(hp:(M p).length<1048576)(hq:(M q).length<1048576):RQ 154 [B na,H (M p).length (lm (M p)),B nb,H (M q).length (lm (M q))] (Ag (rv na (M p)+rv nb (M q))):=by
 have up:=BV p;have uq:=BV q;by_cases e:na=nb
 ·subst e;obtain⟨zs,z1,z2,z3,z4⟩:=ZW up uq hp hq;have h2:=Fh (neg:=na) z1 z3;have ev:rv na zs=rv na (M p)+rv na (M q):=by
   unfold rv;rw[z2];cases na <;> simp <;> omega
  rw[ev] at h2;exact uV na p na q zs _ (by simp) z4 h2
 ·have hne:(na==nb)=false:=by simpa using e
  have hc:=K2 (Cv p) (Cv q) (by omega);have hnb:nb = !na:=by cases na <;> cases nb <;> simp_all
  have lenle:∀ {a b:Nat},Ab (M a)<=Ab (M b)->(M a).length<=(M b).length:=by
   intro a b h;rcases Ct (M b).length (M a).length with g | g
   ·have:=J' (Cv b) (Cv a) g;omega
   ·exact g
  by_cases hk:Ab (M q)<=Ab (M p)
  ·obtain⟨zs,z1,z2,z3,z4⟩:=S7 up uq (lenle hk) hk (by omega);have h2:=Fh (neg:=na) z1 z3;have ev:rv na zs=rv na (M p)+rv nb (M q):=by
    subst hnb;unfold rv;rw[z2];cases na <;> simp <;> omega
   rw[ev] at h2;refine uW na p nb q zs _ _ hne hc ?_ z4 h2;unfold CX;rw[if_neg (by omega)];split <;> rfl
  ·obtain⟨zs,z1,z2,z3,z4⟩:=S7 uq up (lenle (by omega)) (by omega) (by omega);have h2:=Fh (neg:=nb) z1 z3;have ev:rv nb zs=rv na (M p)+rv nb (M q):=by
    subst hnb;unfold rv;rw[z2];cases na <;> simp <;> omega
   rw[ev] at h2;refine uX na p nb q zs _ _ hne hc ?_ z4 h2;unfold CX;rw[if_pos (by omega)];rfl
theorem Awj(na:Bool)(xs:LI)(nb:Bool)(ys:LI)(a b r:Int)(h1:RQ 143 [o [B na,sL lm xs]] (Ar [B (A (a<0)),H (M (E a)).length (lm (M (E a)))]))(h2:RQ 143 [o [B nb,sL lm ys]] (Ar [B (A (b<0)),H (M (E b)).length (lm (M (E b)))]))(h3:RQ 154 [B (A (a<0)),H (M (E a)).length (lm (M (E a))),B (A (b<0)),H (M (E b)).length (lm (M (E b)))] (o [B (A (r<0)),H ((M (E r)).length) (lm (M (E r)))])):RQ 111 [o [B na,sL lm xs],o [B nb,sL lm ys]] (o [B (A (r<0)),H ((M (E r)).length) (lm (M (E r)))]):=Jz (ps:=[RQ 143 [o [B na,sL lm xs]] (Ar [B (A (a<0)),H ((M (E a)).length) (lm (M (E a)))]),RQ 143 [o [B nb,sL lm ys]] (Ar [B (A (b<0)),H ((M (E b)).length) (lm (M (E b)))]),RQ 154 [B (A (a<0)),H ((M (E a)).length) (lm (M (E a))),B (A (b<0)),H ((M (E b)).length) (lm (M (E b)))] (o [B (A (r<0)),H ((M (E r)).length) (lm (M (E r)))])]) Be rfl 300 rfl [.r (Ar [B (A (a<0)),H ((M (E a)).length) (lm (M (E a)))]),.r (Ar [B (A (b<0)),H ((M (E b)).length) (lm (M (E b)))]),.r (o [B (A (r<0)),H ((M (E r)).length) (lm (M (E r)))])] (by kernel_rfl) ⟨h1,h2,h3,trivial⟩
theorem cL{na nb:Bool}{xs ys:LI}(hx:A_ xs)(hy:A_ ys)(h1:xs.length<1048576)(h2:ys.length<1048576):RQ 111 [o [B na,sL lm xs],o [B nb,sL lm ys]] (Ag (rv na xs+rv nb ys)):=by
 have l1:=DF (Fg (neg:=na) hx) h1;have l2:=DF (Fg (neg:=nb) hy) h2;have h3:=mV (na:=decide (rv na xs<0)) (nb:=decide (rv nb ys<0)) l1 l2;rw[FB,FB] at h3;exact Awj na xs nb ys (rv na xs) (rv nb ys) _ (DT hx (by omega)) (DT hy (by omega)) h3
theorem cM{a b:Int}(h1:(M a.natAbs).length<1048576)(h2:(M b.natAbs).length<1048576):RQ 111 [Ag a,Ag b] (Ag (a+b)):=by
 have:=cL (na:=decide (a<0)) (nb:=decide (b<0)) (BV a.natAbs) (BV b.natAbs) h1 h2;rwa [FB,FB] at this
theorem Awk(na:Bool)(xs:LI)(nb:Bool)(ys:LI)(a b r:Int)(h1:RQ 143 [o [B na,sL lm xs]] (Ar [B (A (a<0)),H (M (E a)).length (lm (M (E a)))]))(h2:RQ 143 [o [B nb,sL lm ys]] (Ar [B (A (b<0)),H (M (E b)).length (lm (M (E b)))]))(h3:RQ 154 [B (A (a<0)),H (M (E a)).length (lm (M (E a))),B (!(decide (b<0))),H (M (E b)).length (lm (M (E b)))] (o [B (A (r<0)),H ((M (E r)).length) (lm (M (E r)))])):RQ 127 [o [B na,sL lm xs],o [B nb,sL lm ys]] (o [B (A (r<0)),H ((M (E r)).length) (lm (M (E r)))]):=Jz (ps:=[RQ 143 [o [B na,sL lm xs]] (Ar [B (A (a<0)),H ((M (E a)).length) (lm (M (E a)))]),RQ 143 [o [B nb,sL lm ys]] (Ar [B (A (b<0)),H ((M (E b)).length) (lm (M (E b)))]),RQ 154 [B (A (a<0)),H ((M (E a)).length) (lm (M (E a))),B (!(decide (b<0))),H ((M (E b)).length) (lm (M (E b)))] (o [B (A (r<0)),H ((M (E r)).length) (lm (M (E r)))])]) Be rfl 300 rfl [.r (Ar [B (A (a<0)),H ((M (E a)).length) (lm (M (E a)))]),.r (Ar [B (A (b<0)),H ((M (E b)).length) (lm (M (E b)))]),.r (o [B (A (r<0)),H ((M (E r)).length) (lm (M (E r)))])] (by kernel_rfl) ⟨h1,h2,h3,trivial⟩
theorem Aff{na nb:Bool}{xs ys:LI}(hx:A_ xs)(hy:A_ ys)(h1:xs.length<1048576)(h2:ys.length<1048576):RQ 127 [o [B na,sL lm xs],o [B nb,sL lm ys]] (Ag (rv na xs-rv nb ys)):=by
 have l1:=DF (Fg (neg:=na) hx) h1;have l2:=DF (Fg (neg:=nb) hy) h2;have h3:=mV (na:=decide (rv na xs<0)) (nb := !decide (rv nb ys<0)) l1 l2;rw[FB,Abz,<- Int.sub_eq_add_neg] at h3;exact Awk na xs nb ys (rv na xs) (rv nb ys) _ (DT hx (by omega)) (DT hy (by omega)) h3
def TWB:C8:=TWA
theorem e:Co DK TWB:=Be
end
end Go.Proofs.YtajompaehjkgkaaGreat
namespace Go.Ai
open Int renaming add_zero->BJ,ediv_lt_of_lt_mul->Mo,ediv_nonneg->Lc,emod_eq_of_lt->GK,emod_lt_of_pos->EU,emod_nonneg->Gm,eq_of_mul_eq_mul_left->FM,le_of_lt->Aw,lt_of_lt_of_le->sD,mul_add->CT,mul_assoc->AK,mul_comm->AE,mul_ediv_add_emod->Hk,mul_le_mul->EO,mul_le_mul_of_nonneg_left->Al,mul_le_mul_of_nonneg_right->Ac,mul_lt_mul_of_pos_left->It,mul_neg->EY,mul_nonneg->AA,mul_sub->Fy,mul_zero->AG,not_le->FD,not_lt->KF,pow_add->BB,pow_succ->A7,sub_self->Sg,zero_add->Ed,zero_mul->BU
open List renaming drop_drop->Lg,drop_zero->Da,ext_getElem?->GI,getD_eq_getElem?_getD->Z,getElem?_drop->Bu,getElem?_eq_getElem->Ad,getElem?_eq_none->AI,getElem?_take_of_lt->B8,length_set->Ba,length_take->AD,mem_of_mem_drop->Eh,mem_of_mem_take->BT,take_append_drop->JR
open Nat renaming add_comm->Gt,le_of_lt->uY,le_refl->Ao,lt_or_ge->Ct,min_eq_left->rT,zero_add->Cb
section
variable {prog:Nat->Option IFunc}
theorem W2{c:ICode}{ex:Ex}{s t t':Aj}(ks:List Nat)(h:CE prog c s ex t)(e:Yw ks t=t'):CE prog c s ex t':=e ▸ CE.weak h (HO.refl _) (bK ks t)
theorem GQ{c:ICode}{ex:Ex}{fin:Aj}(st:Nat->Aj)(n:Nat)(hex:ex ≠ .norm)(out:CE prog c (st n) ex fin):∀ i,i<=n->(∀ t,i<=t->t<n->CE prog c (st t) .norm (st (t+1)))->CE prog (.loop c) (st i) ex fin:=by
 intro i hi;obtain⟨r,hr⟩:∃ r,i+r=n:=⟨n-i,by omega⟩;induction r generalizing i with
 | zero =>
  intro _;have:i=n:=by omega
  subst this;exact Ah out hex
 | succ r ih =>
  intro hs;exact CE.loop (hs i (Ao _) (by omega)) (ih (i+1) (by omega) (by omega) (fun t h1 h2=>hs t (by omega) h2))
theorem Jc(f:Nat->Bool)(m:Nat):∀ r i,i+r=m->(∀ j,i<=j->j<m->f j=false)\/∃ j,i<=j/\j<m/\f j=true/\∀ t,i<=t->t<j->f t=false:=by
 intro r;induction r with
 | zero=>intro i hi;left;intro j h1 h2;omega
 | succ r ih =>
  intro i hi;cases hf:f i with
  | true=>right;exact⟨i,Ao _,by omega,hf,fun t h1 h2=>by omega⟩
  | false =>
   rcases ih (i+1) (by omega) with h | ⟨j,h1,h2,h3,h4⟩
   ·left;intro j h1 h2;by_cases e:j=i
    ·rw[e];exact hf
    ·exact h j (by omega) h2
   ·right;refine⟨j,by omega,h2,h3,fun t h5 h6 => ?_⟩;by_cases e:t=i
    ·rw[e];exact hf
    ·exact h4 t (by omega) h6
end
theorem DC(us:LI){j:Nat}(h:j<=us.length):Ab us=Ab (us.take j)+4294967296^j*Ab (us.drop j):=by
 have:=GZ (us.take j) (us.drop j);rw[JR,AD,rT h] at this;exact this
theorem Afg{us ws:LI}{j:Nat}(hl:ws.length=us.length)(h:∀ t,t<j->ws.getD t 0=us.getD t 0):ws.take j=us.take j:=by
 apply GI;intro t;rcases Ct t j with g | g
 ·rw[B8 g,B8 g];have:=h t g;rw[Z,Z] at this;rcases Ct t us.length with k | k
  ·rw[Ad k,Ad (by omega)] at this |-;simpa using this
  ·rw[AI k,AI (by omega)]
 ·rw[AI (by simp;omega),AI (by simp;omega)]
theorem FF{us:LI}(h:A_ us)(j:Nat):A_ (us.drop j):=fun x hx=>h x (Eh hx)
theorem Em{us:LI}(h:A_ us)(j:Nat):A_ (us.take j):=fun x hx=>h x (BT hx)
theorem KS{us:LI}(hu:A_ us){n:Nat}{V:Int}(hV:V<=4294967296^n)(h:Ab us<V):Ab (us.drop n)=0:=by
 have h0:=Bi (FF hu n);rcases Ct n us.length with g | g
 ·have e:=DC us (uY g);have h1:=Bi (Em hu n);have hp:=CH n;apply Int.le_antisymm ?_ h0;apply KF.1;intro hc;have:=Al (show 1<=Ab (us.drop n) by omega) (show (0:Int)<=4294967296^n by omega);omega
 ·exact Ek g
theorem GF{us:LI}(hu:A_ us)(n:Nat):Ab (us.take n)<4294967296^n:=by
 have h:=Eb (Em hu n);exact sD h (GP (by simp;omega))
def Gu(g:Int)(vs:LI)(j:Nat):Nat->Nat->LI->Int->Int->LI × Int × Int
 | 0,_,us,b,c=>(us,b,c)
 | r+1,i,us,b,c=>Gu g vs j r (i+1) (us.set (i+j) ((us.getD (i+j) 0-(g*vs.getD i 0+c) % 4294967296-b) % 4294967296))
   (if us.getD (i+j) 0-(g*vs.getD i 0+c) % 4294967296-b<0 then 1 else 0) ((g*vs.getD i 0+c) / 4294967296)
theorem YE{g v c:Int}(hg:0<=g/\g<4294967296)(hv:0<=v/\v<4294967296)(hc:0<=c/\c<4294967296):0<=g*v+c/\g*v+c<18446744073709551616:=by
 have h1:=AA hg.1 hv.1;have h2:=EO (show g<=4294967295 by omega) (show v<=4294967295 by omega) hv.1 (by omega);omega
theorem YF{g:Int}{vs:LI}{j:Nat}(hg:0<=g/\g<4294967296)(hv:A_ vs):∀ (r i:Nat) (us:LI) (b c:Int),r+i=vs.length->j+vs.length<=us.length->A_ us->0<=b/\b<=1->0<=c/\c<4294967296 ->
  (Gu g vs j r i us b c).1.length=us.length/\A_ (Gu g vs j r i us b c).1/\(0<=(Gu g vs j r i us b c).2.1/\(Gu g vs j r i us b c).2.1<=1)/\(0<=(Gu g vs j r i us b c).2.2/\(Gu g vs j r i us b c).2.2<4294967296) /\
  Ab (Gu g vs j r i us b c).1=Ab us-4294967296^(i+j)*(g*Ab (vs.drop i)+b+c)+4294967296^(j+vs.length)*((Gu g vs j r i us b c).2.1+(Gu g vs j r i us b c).2.2) /\
  ∀ t,t<i+j\/j+vs.length<=t->(Gu g vs j r i us b c).1.getD t 0=us.getD t 0:=by
 intro r;induction r with
 | zero =>
  intro i us b c hi _ hu hb hc;refine⟨rfl,hu,hb,hc,?_,fun t _=>rfl⟩;have:i=vs.length:=by omega
  subst this;rw[Ek (Ao _),Gt];simp only[Gu,AG,Ed];omega
 | succ r ih =>
  intro i us b c hi hl hu hb hc;have hvi:=AL hv i;have hui:=AL hu (i+j);have hw:=YE hg hvi hc;simp only[Gu];generalize hp:g*vs.getD i 0+c=p at *
  generalize hd:us.getD (i+j) 0-p % 4294967296-b=d at *
  obtain⟨g1,g2,g3,g4,g5,g6⟩:=ih (i+1) (us.set (i+j) (d % 4294967296)) (if d<0 then 1 else 0) (p / 4294967296) (by omega) (by simpa using hl) (CF hu (by omega)) (by split <;> omega) (by omega);refine⟨by simpa using g1,g2,g3,g4,?_,fun t ht => ?_⟩
  ·rw[g5,Ej _ _ _ (by omega),CM vs i,show i+1+j=(i+j)+1 by omega,A7];generalize (4294967296:Int)^(i+j)=P at *
   generalize Ab (vs.drop (i+1))=V at *
   have e1:d % 4294967296=d+4294967296*(if d<0 then 1 else 0):=by split <;> omega
   rw[e1];generalize (if d<0 then (1:Int) else 0)=k at *
   have e2:p=4294967296*(p / 4294967296)+p % 4294967296:=by omega
   generalize p / 4294967296=ph at *
   generalize p % 4294967296=pl at *
   generalize us.getD (i+j) 0=u at *
   generalize vs.getD i 0=v at *
   have e3:d=u-pl-b:=by omega
   have e4:c=4294967296*ph+pl-g*v:=by omega
   subst e3;rw[e4];grind
  ·rw[g6 t (by omega),CA (by omega)]
def Jd(vs:LI)(j:Nat):Nat->Nat->LI->Int->LI × Int
 | 0,_,us,c=>(us,c)
 | r+1,i,us,c=>Jd vs j r (i+1) (us.set (i+j) ((us.getD (i+j) 0+vs.getD i 0+c) % 4294967296)) ((us.getD (i+j) 0+vs.getD i 0+c) / 4294967296)
theorem YG{vs:LI}{j:Nat}(hv:A_ vs):∀ (r i:Nat) (us:LI) (c:Int),r+i=vs.length->j+vs.length<=us.length->A_ us->0<=c/\c<=1 ->
  (Jd vs j r i us c).1.length=us.length/\A_ (Jd vs j r i us c).1/\(0<=(Jd vs j r i us c).2/\(Jd vs j r i us c).2<=1) /\
  Ab (Jd vs j r i us c).1=Ab us+4294967296^(i+j)*(Ab (vs.drop i)+c)-4294967296^(j+vs.length)*(Jd vs j r i us c).2 /\
  ∀ t,t<i+j\/j+vs.length<=t->(Jd vs j r i us c).1.getD t 0=us.getD t 0:=by
 intro r;induction r with
 | zero =>
  intro i us c hi _ hu hc;refine⟨rfl,hu,hc,?_,fun t _=>rfl⟩;have:i=vs.length:=by omega
  subst this;rw[Ek (Ao _),Gt];simp only[Jd,Ed];omega
 | succ r ih =>
  intro i us c hi hl hu hc;have hvi:=AL hv i;have hui:=AL hu (i+j);simp only[Jd];generalize hd:us.getD (i+j) 0+vs.getD i 0+c=d at *
  obtain⟨g1,g2,g3,g4,g5⟩:=ih (i+1) (us.set (i+j) (d % 4294967296)) (d / 4294967296) (by omega) (by simpa using hl) (CF hu (by omega)) (by omega);refine⟨by simpa using g1,g2,g3,?_,fun t ht => ?_⟩
  ·rw[g4,Ej _ _ _ (by omega),CM vs i,show i+1+j=(i+j)+1 by omega,A7];generalize (4294967296:Int)^(i+j)=P at *
   generalize Ab (vs.drop (i+1))=V at *
   have e2:d=4294967296*(d / 4294967296)+d % 4294967296:=by omega
   generalize d / 4294967296=ph at *
   generalize d % 4294967296=pl at *
   generalize us.getD (i+j) 0=u at *
   generalize vs.getD i 0=v at *
   have e3:c=4294967296*ph+pl-u-v:=by omega
   rw[e3];grind
  ·rw[g5 t (by omega),CA (by omega)]
structure Dig (n:Nat) (V W top nxt x y z:Int):Prop where
 vlow:0<=V-(top*4294967296+nxt)*4294967296^n/\V-(top*4294967296+nxt)*4294967296^n<4294967296^n
 wlow:0<=W-((x*4294967296+y)*4294967296+z)*4294967296^n/\W-((x*4294967296+y)*4294967296+z)*4294967296^n<4294967296^n
 htop:2147483648<=top/\top<4294967296
 hnxt:0<=nxt/\nxt<4294967296
 hx:0<=x/\x<4294967296
 hy:0<=y/\y<4294967296
 hz:0<=z/\z<4294967296
 small:W<4294967296*V
structure DigI (V W top num g r:Int):Prop where
 sum:g*top+r=num
 r0:0<=r
 g0:0<=g
 up:W<(g+1)*V
 gle:g<=4294967297
section
variable {n:Nat} {V W top nxt x y z:Int}
theorem Dig.x_le(h:Dig n V W top nxt x y z):x<=top:=by
 have hp:=CH n;obtain⟨h1,h2⟩:=h.vlow;obtain⟨h3,h4⟩:=h.wlow;have:=h.hnxt;have:=h.hy;have:=h.hz;have hs:=h.small;apply KF.1;intro hx;generalize (4294967296:Int)^n=P at *
 have e1:(x*4294967296+y)*4294967296+z>=(top+1)*4294967296*4294967296:=by omega
 have e2:=Ac e1 (show 0<=P by omega);have e3:top*4294967296+nxt+1<=(top+1)*4294967296:=by omega
 have e4:=Ac e3 (show 0<=P by omega);have e5:(top+1)*4294967296*4294967296*P=4294967296*((top+1)*4294967296*P):=by grind
 have e6:(top*4294967296+nxt+1)*P=(top*4294967296+nxt)*P+P:=by grind
 omega
theorem Dig.Vpos(h:Dig n V W top nxt x y z):4294967296*4294967296^n<=V:=by
 have hp:=CH n;obtain⟨h1,h2⟩:=h.vlow;have:=h.hnxt;have:=h.htop;generalize (4294967296:Int)^n=P at *
 have:=Ac (show (4294967296:Int)<=top*4294967296+nxt by omega) (show 0<=P by omega);omega
theorem Dig.init(h:Dig n V W top nxt x y z):DigI V W top (x*4294967296+y) ((x*4294967296+y) / top) ((x*4294967296+y) % top):=by
 have hxl:=h.x_le;have ht:=h.htop;have hx:=h.hx;have hy:=h.hy;have e:=Hk (x*4294967296+y) top;have r0:=Gm (x*4294967296+y) (show top ≠ 0 by omega);have r1:=EU (x*4294967296+y) (show 0<top by omega);have g0:0<=(x*4294967296+y) / top:=Lc (by omega) (by omega);have g1:(x*4294967296+y) / top<=4294967297:=by
  apply Int.lt_add_one_iff.1;apply Mo (by omega);omega
 generalize hg:(x*4294967296+y) / top=g at *
 generalize hr:(x*4294967296+y) % top=r at *
 refine⟨by rw[AE];exact e,r0,g0,?_,g1⟩;have hp:=CH n;obtain⟨h1,h2⟩:=h.vlow;obtain⟨h3,h4⟩:=h.wlow;have hnx:=h.hnxt;have hz:=h.hz;generalize (4294967296:Int)^n=P at *
 have e1:x*4294967296+y+1<=(g+1)*top:=by
  have:(g+1)*top=top*g+top:=by grind
  omega
 have e2:(x*4294967296+y)*4294967296+z+1<=(x*4294967296+y+1)*4294967296:=by omega
 have e3:=Ac e2 (show 0<=P by omega);have e4:=Ac e1 (show 0<=4294967296*P by omega);have e5:top*(4294967296*P)<=V:=by
  have:(top*4294967296+nxt)*P=top*(4294967296*P)+nxt*P:=by grind
  have:=AA hnx.1 (show 0<=P by omega);omega
 have e6:=Al e5 (show 0<=g+1 by omega);have e7:(g+1)*(top*(4294967296*P))=(g+1)*top*(4294967296*P):=by grind
 have e8:((x*4294967296+y)*4294967296+z+1)*P=((x*4294967296+y)*4294967296+z)*P+P:=by grind
 have e9:(x*4294967296+y+1)*4294967296*P=(x*4294967296+y+1)*(4294967296*P):=by grind
 omega
theorem Dig.step(h:Dig n V W top nxt x y z){g r:Int}(i:DigI V W top (x*4294967296+y) g r)(hc:4294967296<=g\/r*4294967296+z<g*nxt):DigI V W top (x*4294967296+y) (g-1) (r+top):=by
 have ht:=h.htop;have hVp:=h.Vpos;have hp:=CH n;have e0:(g-1)*top+(r+top)=g*top+r:=by grind
 have hg1:1<=g:=by
  rcases hc with h1 | h1
  ·omega
  ·apply KF.1;intro hg;have:g=0:=by have:=i.g0;omega
   subst this;have:=i.r0;have:=h.hz;omega
 refine⟨by rw[e0];exact i.sum,by have:=i.r0;omega,by omega,?_,by have:=i.gle;omega⟩;rw[Int.sub_add_cancel];obtain⟨h1,h2⟩:=h.vlow;obtain⟨h3,h4⟩:=h.wlow;have hs:=h.small;rcases hc with hc | hc
 ·have:=Ac hc (show 0<=V by omega);omega
 ·have hsum:=i.sum;rw[<- hsum] at h3 h4;generalize (4294967296:Int)^n=P at *
  have e1:(g*top+r)*4294967296+z+1<=g*(top*4294967296+nxt):=by
   have:g*(top*4294967296+nxt)=g*top*4294967296+g*nxt:=by grind
   omega
  have e2:=Ac e1 (show 0<=P by omega);have e3:(top*4294967296+nxt)*P<=V:=by omega
  have e4:=Al e3 (show 0<=g by omega);have e5:g*(top*4294967296+nxt)*P=g*((top*4294967296+nxt)*P):=by grind
  have e6:((g*top+r)*4294967296+z+1)*P=((g*top+r)*4294967296+z)*P+P:=by grind
  omega
theorem Dig.small_g(h:Dig n V W top nxt x y z){g r:Int}(i:DigI V W top (x*4294967296+y) g r)(hr:4294967296<=r):g<4294967296:=by
 have hxl:=h.x_le;have ht:=h.htop;have hy:=h.hy;apply FD.1;intro hg;have:=Ac hg (show 0<=top by omega);have:=i.sum;omega
theorem Dig.out(h:Dig n V W top nxt x y z){g r:Int}(i:DigI V W top (x*4294967296+y) g r)(hg:g<4294967296)(hc:4294967296<=r\/g*nxt<=r*4294967296+z):g*V<W+V:=by
 have ht:=h.htop;have hVp:=h.Vpos;have hp:=CH n;have hnx:=h.hnxt;have hz:=h.hz;have hc':g*nxt<=r*4294967296+z:=by
  rcases hc with hc | hc
  ·have:=EO (show g<=4294967295 by omega) (show nxt<=4294967295 by omega) hnx.1 (by omega);omega
  ·exact hc
 obtain⟨h1,h2⟩:=h.vlow;obtain⟨h3,h4⟩:=h.wlow;have hsum:=i.sum;have hg0:=i.g0;rw[<- hsum] at h3 h4;generalize (4294967296:Int)^n=P at *
 have e1:g*(top*4294967296+nxt)<=(g*top+r)*4294967296+z:=by
  have:g*(top*4294967296+nxt)=g*top*4294967296+g*nxt:=by grind
  omega
 have e2:=Ac e1 (show 0<=P by omega);have e5:g*(top*4294967296+nxt)*P=g*((top*4294967296+nxt)*P):=by grind
 have e6:=EO (Aw hg) (show V-(top*4294967296+nxt)*P<=P by omega) (by omega) (show (0:Int)<=4294967296 by omega);have e7:g*(V-(top*4294967296+nxt)*P)=g*V-g*((top*4294967296+nxt)*P):=by grind
 have e8:g*(V-(top*4294967296+nxt)*P)<4294967296*P:=by
  rcases Int.lt_or_eq_of_le hg0 with q | q
  ·have:=It h2 q;have:=Ac (Aw hg) (show 0<=P by omega);omega
  ·rw[<- q,BU];omega
 omega
end
theorem Aca{us vs:LI}{j m:Nat}(hu:A_ us)(hv:A_ vs)(hm:vs.length=m+2)(hj:j+m+2<us.length)(ht:2147483648<=vs.getD (m+1) 0)(hW:Ab (us.drop (j+1))<Ab vs) :
  Dig m (Ab vs) (Ab (us.drop j)) (vs.getD (m+1) 0) (vs.getD m 0) (us.getD (j+m+2) 0) (us.getD (j+m+1) 0) (us.getD (j+m) 0):=by
 have hV:=Eb hv;have z:=KS (FF hu (j+1)) (n:=m+2) (V:=Ab vs) (by rw[hm] at hV;omega) hW;rw[Lg] at z;have e1:=DC (us.drop j) (j:=m) (by simp;omega);rw[Lg] at e1;have d1:=CM us (j+m);have d2:=CM us (j+m+1);have d3:=CM us (j+m+2);rw[show j+m+2+1=j+1+(m+2) by omega,z] at d3;have l1:=GF (FF hu j) m;have l0:=Bi (Em (FF hu j) m);have f1:=DC vs (j:=m) (by omega);have c1:=CM vs m;have c2:=CM vs (m+1);have c3:=Ek (xs:=vs) (i:=m+1+1) (by omega);rw[c3] at c2;have k1:=GF hv m;have k0:=Bi (Em hv m);have g1:=CM us j;have gj:=AL hu j;refine⟨?_,?_,⟨ht,(AL hv _).2⟩,AL hv _,AL hu _,AL hu _,AL hu _,by omega⟩
 ·rw[f1,c1,c2,AE (_+_) (4294967296^m)];simp only[AG,BJ];rw[show vs.getD (m+1) 0*4294967296+vs.getD m 0=vs.getD m 0+4294967296*vs.getD (m+1) 0 by omega];omega
 ·rw[e1,d1,d2,d3,AE (_+_) (4294967296^m)];simp only[AG,BJ];rw[show (us.getD (j+m+2) 0*4294967296+us.getD (j+m+1) 0)*4294967296+us.getD (j+m) 0=us.getD (j+m) 0+4294967296*(us.getD (j+m+1) 0+4294967296*us.getD (j+m+2) 0) by omega];omega
structure StepOk (us vs ws:List Int) (j:Nat) (q:Int):Prop where
 len:ws.length=us.length
 u32:A_ ws
 val:Ab ws=Ab us-4294967296^j*(q*Ab vs)
 low:Ab (ws.drop j)<Ab vs
theorem mW{j:Nat}{a b:Int}(h:4294967296^j*a=4294967296^j*b):a=b:=FM (by have:=CH j;omega) h
theorem YH{us ws:LI}{j:Nat}{k:Int}(hl:ws.length=us.length)(hj:j<=us.length)(h:∀ t,t<j->ws.getD t 0=us.getD t 0)(hv:Ab ws=Ab us+4294967296^j*k):Ab (ws.drop j)=Ab (us.drop j)+k:=by
 have e1:=DC us hj;have e2:=DC ws (j:=j) (by omega);rw[Afg hl h] at e2;apply mW (j:=j);rw[CT];omega
theorem mX{us:LI}{j n:Nat}(hj:j+n<us.length)(hz:Ab (us.drop (j+n+1))=0):Ab (us.drop j)=Ab ((us.drop j).take n)+4294967296^n*us.getD (j+n) 0:=by
 have e1:=DC (us.drop j) (j:=n) (by simp;omega);rw[Lg] at e1;have d1:=CM us (j+n);rw[hz,AG,BJ] at d1;rw[e1,d1]
theorem W3{us vs:LI}{j:Nat}(hu:A_ us)(hv:A_ vs)(hj:j+vs.length<us.length)(hW:Ab (us.drop (j+1))<Ab vs){g:Int}(hg:0<=g/\g<4294967296)
  (h1:Ab (us.drop j)<(g+1)*Ab vs) (h2:g*Ab vs<Ab (us.drop j)+Ab vs) :
  let m:=Gu g vs j vs.length 0 us 0 0
  let d:=m.1.getD (j+vs.length) 0-m.2.2-m.2.1
  (d>=0->StepOk us vs (m.1.set (j+vs.length) (d % 4294967296)) j g) /\
  (d<0->StepOk us vs ((Jd vs j vs.length 0 (m.1.set (j+vs.length) (d % 4294967296)) 0).1.set (j+vs.length) (((Jd vs j vs.length 0 (m.1.set (j+vs.length) (d % 4294967296)) 0).1.getD (j+vs.length) 0+(Jd vs j vs.length 0 (m.1.set (j+vs.length) (d % 4294967296)) 0).2) % 4294967296)) j (g-1)/\1<=g):=by
 intro m d;have hVlt:=Eb hv;have z:=KS (FF hu (j+1)) (n:=vs.length) (V:=Ab vs) (by omega) hW;rw[Lg,show j+1+vs.length=j+vs.length+1 by omega] at z;obtain⟨m1,m2,m3,m4,m5,m6⟩:=YF hg hv vs.length 0 us 0 0 (by omega) (show j+vs.length<=us.length by omega) hu (by omega) (by omega);change m.1.length=us.length at m1;change A_ m.1 at m2;change 0<=m.2.1/\m.2.1<=1 at m3;change 0<=m.2.2/\m.2.2<4294967296 at m4;change Ab m.1=Ab us-4294967296^(0+j)*(g*Ab (vs.drop 0)+0+0)+4294967296^(j+vs.length)*(m.2.1+m.2.2) at m5;change ∀ t,t<0+j\/j+vs.length<=t->m.1.getD t 0=us.getD t 0 at m6;have hd:d=m.1.getD (j+vs.length) 0-m.2.2-m.2.1:=rfl;clear_value d;generalize hms:m.1=ms at *
 generalize m.2.1=b at *
 generalize m.2.2=c at *
 rw[Cb,Da,BJ,BJ] at m5;have m6':=m6 (j+vs.length) (by omega);have w1:Ab (ms.drop j)=Ab (us.drop j)+(4294967296^vs.length*(b+c)-g*Ab vs):=by
  apply YH m1 (by omega) (fun t ht=>m6 t (by omega));rw[m5,BB,Fy,AK];omega
 have zz:Ab (ms.drop (j+vs.length+1))=0:=by
  have:ms.drop (j+vs.length+1)=us.drop (j+vs.length+1):=by
   apply GI;intro t;rw[Bu,Bu];have:=m6 (j+vs.length+1+t) (by omega);rw[Z,Z] at this;rcases Ct (j+vs.length+1+t) us.length with k | k
   ·rw[Ad k,Ad (by omega)] at this |-;simpa using this
   ·rw[AI k,AI (by omega)]
  rw[this];exact z
 have w2:=mX (us:=ms) (j:=j) (n:=vs.length) (by omega) zz;have lo:=GF (FF m2 j) vs.length;have lo0:=Bi (Em (FF m2 j) vs.length);have hx:=AL m2 (j+vs.length);have hX:ms.getD (j+vs.length) 0=d+b+c:=by omega
 rw[hX] at w2;have hp:=CH vs.length;generalize hP:(4294967296:Int)^vs.length=P at *
 generalize hL:Ab ((ms.drop j).take vs.length)=L at *
 have w3:Ab (us.drop j)-g*Ab vs=L+P*d:=by
  rw[w1] at w2;have e:P*(d+b+c)=P*d+P*(b+c):=by grind
  omega
 have e2:(g+1)*Ab vs=g*Ab vs+Ab vs:=by grind
 have lset:∀ v:Int,Ab (ms.set (j+vs.length) v)=Ab us-4294967296^j*(g*Ab vs)+4294967296^j*(P*(v-d)):=by
  intro v;rw[Ej _ _ _ (by omega),m5,hX,BB,hP];grind
 refine⟨fun hge => ?_,fun hlt => ?_⟩
 ·have hd0:d=0\/1<=d:=by omega
  have hd1:d<4294967296:=by omega
  refine⟨by simpa using m1,CF m2 (by omega),?_,?_⟩
  ·rw[lset,GK hge hd1,Sg,AG,AG,BJ]
  ·rw[YH (us:=us) (k := -(g*Ab vs)) (by simpa using m1) (by omega) (fun t ht=>by rw[CA (by omega)];exact m6 t (by omega)) (by rw[lset,GK hge hd1,Sg,AG,AG,BJ,EY];omega)];omega
 ·have hg1:1<=g:=by
   apply KF.1;intro hh;have hg':g=0:=by omega
   have:=Bi (FF hu j);rw[hg',BU] at w3;have:=Al (show d <= -1 by omega) (show 0<=P by omega);omega
  refine⟨?_,hg1⟩;have hu2:A_ (ms.set (j+vs.length) (d % 4294967296)):=CF m2 (by omega);obtain⟨a1,a2,a3,a4,a5⟩:=YG hv vs.length 0 (ms.set (j+vs.length) (d % 4294967296)) 0 (by omega) (show j+vs.length<=_ by rw[Ba];omega) hu2 (by omega);generalize Jd vs j vs.length 0 (ms.set (j+vs.length) (d % 4294967296)) 0=A at *
  have a6:=a5 (j+vs.length) (by omega);have hlen:A.1.length=us.length:=by rw[a1,Ba,m1]
  have hget:(ms.set (j+vs.length) (d % 4294967296)).getD (j+vs.length) 0=d % 4294967296:=by
   simp[Z,show j+vs.length<ms.length by omega]
  rw[hget] at a6;rw[a6];rw[Cb,Da,BJ,lset,BB,hP] at a4;have aset:∀ v:Int,Ab (A.1.set (j+vs.length) v)=Ab us-4294967296^j*((g-1)*Ab vs)+4294967296^j*(P*(v-d-A.2)):=by
   intro v;rw[Ej _ _ _ (by omega),a4,a6,BB,hP];grind
  have hwA:∀ v:Int,Ab ((A.1.set (j+vs.length) v).drop j)=Ab (us.drop j)-(g-1)*Ab vs+P*(v-d-A.2):=by
   intro v;have:=YH (us:=us) (ws:=A.1.set (j+vs.length) v) (j:=j) (k:=P*(v-d-A.2)-(g-1)*Ab vs) (by simpa using hlen) (by omega) (fun t ht=>by rw[CA (by omega),a5 t (by omega),CA (by omega)];exact m6 t (by omega)) (by rw[aset];grind);omega
  have hge0:0<=Ab (us.drop j)-(g-1)*Ab vs:=by
   have:(g-1)*Ab vs=g*Ab vs-Ab vs:=by grind
   omega
  have hltV:Ab (us.drop j)-(g-1)*Ab vs<Ab vs:=by
   have h3:(g-1)*Ab vs=g*Ab vs-Ab vs:=by grind
   have h4:=Al (show d <= -1 by omega) (show 0<=P by omega);omega
  have hz3:A.2 = -d:=by
   have q0:=hwA 0;have q1:=Bi (FF (CF a2 (i:=j+vs.length) (v:=0) (by omega)) j);have zz2:Ab ((A.1.set (j+vs.length) 0).drop (j+vs.length+1))=0:=by
    have:(A.1.set (j+vs.length) 0).drop (j+vs.length+1)=ms.drop (j+vs.length+1):=by
     apply GI;intro t;rw[Bu,Bu];have h5:=a5 (j+vs.length+1+t) (by omega);rw[CA (by omega)] at h5;have h6:(A.1.set (j+vs.length) 0).getD (j+vs.length+1+t) 0=ms.getD (j+vs.length+1+t) 0:=by rw[CA (by omega)];exact h5
     rw[Z,Z] at h6;rcases Ct (j+vs.length+1+t) us.length with k | k
     ·rw[Ad (by simp;omega),Ad (by omega)] at h6 |-;simpa using h6
     ·rw[AI (by simp;omega),AI (by omega)]
    rw[this];exact zz
   have q2:=mX (us:=A.1.set (j+vs.length) 0) (j:=j) (n:=vs.length) (by simp;omega) zz2;have q3:(A.1.set (j+vs.length) 0).getD (j+vs.length) 0=0:=by simp[Z,show j+vs.length<A.1.length by omega]
   have q4:=GF (FF (CF a2 (i:=j+vs.length) (v:=0) (by omega)) j) vs.length;rw[hP] at q2 q4;rw[q3,AG,BJ] at q2;rw[q0] at q1 q2;rw[<- q2] at q4;generalize Ab (us.drop j)-(g-1)*Ab vs=X at *
   have e5:P*(0-d-A.2)=P*(-d-A.2):=by rw[Int.zero_sub]
   rw[e5] at q1 q4;have c1 : -d-A.2<1:=by
    apply FD.1;intro hc;have:=Al hc (show 0<=P by omega);omega
   have c2 : -1 < -d-A.2:=by
    apply FD.1;intro hc;have:=Al hc (show 0<=P by omega);omega
   omega
  have hv0:(d % 4294967296+A.2) % 4294967296=0:=by omega
  rw[hv0];refine⟨by simpa using hlen,CF a2 (by omega),?_,?_⟩
  ·rw[aset,show (0:Int)-d-A.2=0 by omega,AG,AG,BJ]
  ·rw[hwA,show (0:Int)-d-A.2=0 by omega,AG,BJ];exact hltV
end Go.Ai
namespace Go.Proofs.YtajompaehjkgkaaGreat
open Go.Ai
set_option maxRecDepth 100000
open BitVec renaming ofInt->T,ofInt_natCast->LS,or_comm->Xd,toNat_ofNat->Ks,toNat_or->rW
open Bool renaming false_and->PG,false_eq_true->B_
open Decidable renaming decide->A
open Go.Ai.AV renaming agg->o,bool->B,fresh->P,int->F,sl->H,tup->Ar
open Go.Ai.Reg renaming box->Ay,own->X,val->C
open Go.IntKind renaming bits->An,i64->O,u32->Ae,u64->U,wrap->I
open Go.Proofs.Tryz renaming prog->Mv
open Int renaming add_mul->Gw,add_mul_ediv_right->ACn,add_zero->BJ,ediv_eq_zero_of_lt->HJ,ediv_lt_of_lt_mul->Mo,ediv_nonneg->Lc,emod_lt_of_pos->EU,emod_nonneg->Gm,fdiv->d,fdiv_eq_ediv_of_nonneg->q,lt_of_mul_lt_mul_right->Dd,mul_comm->AE,mul_ediv_add_emod->Hk,mul_emod_mul_of_pos->ACj,mul_le_mul->EO,mul_le_mul_of_nonneg_right->Ac,mul_lt_mul_of_pos_right->Bc,mul_nonneg->AA,mul_zero->AG,natCast_ediv->Awp,natCast_mul->DI,natCast_pow->Dp,one_mul->Dt,pow_add->BB,pow_nonneg->P_,pow_succ->A7,sub_self->Sg,sub_zero->F8,tdiv->Ax,tdiv_eq_ediv_of_nonneg->BK,tmod->AB,tmod_eq_emod_of_nonneg->B1,toNat->D,toNat_natCast->R,zero_add->Ed
open List renaming all_eq_true->Cf,drop->g,getD_eq_getElem?_getD->Z,length->Bl,length_pos_iff->Ak,length_set->Ba,range->Aq,replicate->l,take->Bx,take_length->DP
open Nat renaming add_mul->DE,le_refl->Ao,log2->Cu,log2_eq_iff->TK,log2_lt->Sk,lt_or_ge->Ct,mod_eq_of_lt->EK,mul_comm->CY,mul_le_mul_right->AJ,one_mul->FL,pow_add->De,pow_le_pow_right->BM,two_pow_add_eq_or_of_lt->A3w,two_pow_pos->A3s
open Or renaming inl->Adi,inr->S8
noncomputable section
theorem Un{n:Int}(h:0<=n/\n<4294967296):I Ae n=n:=by rw [Es];omega
theorem CP{n:Int}(h:0<=n/\n<18446744073709551616):I U n=n:=by rw [BF];omega
theorem p32:(2:Int)^(min (D 32) (An .u64))=4294967296:=by decide
theorem p63:(2:Int)^(min (D 63) (An .u64))=9223372036854775808:=by decide
theorem cN(s:Int):d s (2^(min (D 32) (An .u64)))=s / 4294967296:=by
 rw[p32,q _ (by decide)]
theorem Awl(s:Int):d s (2^(min (D 63) (An .u64)))=s / 9223372036854775808:=by
 rw[p63,q _ (by decide)]
theorem Ph{r x:Int}(hr:0<=r/\r<4294967296)(hx:0<=x/\x<4294967296) :
  I U ((T (An .u64) (I U (r*2^(min (D 32) (An .u64)))) ||| T (An .u64) (I U x)).toNat)=r*4294967296+x:=by
 rw[p32,CP (n:=r*4294967296) (by omega),CP (n:=x) (by omega)];have:=Avn (q:=r) (c:=x) (s:=32) hr.1 (by rw[show (2:Int)^32=4294967296 by decide];omega) (by omega) (by rw[show (2:Int)^32=4294967296 by decide];exact hx);rw[show (2:Int)^32=4294967296 by decide] at this;exact this
theorem Awm{q c:Int}{s:Nat}(hq:0<=q)(hs:q*2^s<4294967296)(hs':s<=32)(hc:0<=c/\c<2^s) :
  I Ae ((T (An .u32) c ||| T (An .u32) (q*2^s)).toNat)=q*2^s+c:=by
 obtain⟨a,rfl⟩:∃ a:Nat,q=a:=⟨q.toNat,by omega⟩;obtain⟨b,rfl⟩:∃ b:Nat,c=b:=⟨c.toNat,by omega⟩;have e1:(a:Int)*2^s=((a*2^s:Nat):Int):=by rw[DI,Dp];rfl
 have hb:b<2^s:=by
  have:(b:Int)<((2^s:Nat):Int):=by rw[Dp];exact hc.2
  omega
 have h64:2^s<=2^32:=BM (by decide) hs';have e64:2^32=4294967296:=by decide
 rw[e1] at hs |-;show I Ae ((T 32 (b:Int) ||| T 32 ((a*2^s:Nat):Int)).toNat:Int)=_;rw[Xd,rW,LS,LS,Ks,Ks,EK (by omega),EK (by omega),CY a,<- A3w hb,CY (2^s) a,Es];have hsum:a*2^s+b<4294967296:=by
  have hd:a*2^s+2^s<=2^32:=by
   have hk:2^32=2^(32-s)*2^s:=by rw[<- De];congr 1;omega
   have h1:a<2^(32-s):=by
    rcases Ct a (2^(32-s)) with g | g
    ·exact g
    ·have:=AJ (2^s) g;omega
   have h2:=AJ (2^s) (show a+1<=2^(32-s) by omega);rw[DE,FL] at h2;omega
  omega
 omega
theorem Uo{s:Nat}(hs:s<=32):(4294967296:Int)=2^(32-s)*2^s:=by rw [<- BB,show 32-s+s=32 by omega];decide
theorem YI{x:Int}{s:Nat}(hx:0<=x/\x<4294967296)(hs:s<32) :
  0<=x*2^s/\x*2^s<18446744073709551616/\x*2^s / 4294967296<2^s/\∃ q:Int,0<=q/\x*2^s % 4294967296=q*2^s:=by
 have hp:=BX s;have hp2:(2:Int)^s<=2147483648:=by
  have:=Ho (show s<=31 by omega);rwa [show (2:Int)^31=2147483648 by decide] at this
 have h0:=AA hx.1 (show (0:Int)<=2^s by omega);have h1:=EO (show x<=4294967295 by omega) hp2 (by omega) (by omega);have h2:=Bc hx.2 hp;refine⟨h0,by omega,by omega,?_⟩;have e:(4294967296:Int)=2^(32-s)*2^s:=by
  rw[<- BB,show 32-s+s=32 by omega];decide
 refine⟨x % 2^(32-s),Gm _ (by have:=BX (32-s);omega),?_⟩;rw[e,AE x,AE (2^(32-s)),ACj _ _ hp,AE]
def gT(n:Nat):Nat:=if n=0 then 0 else Cu n+1
def Je(i:Int):Int:=(gT i.toNat:Nat)
theorem Afh:∀ n:Nat,n<256->(JU[n]?).map (fun c=>(c.toNat:Int))=some ((gT n:Nat):Int):=by
 have h:(Aq 256).all (fun n=>decide ((JU[n]?).map (fun c=>(c.toNat:Int))=some ((gT n:Nat):Int)))=true:=by decide +kernel
 intro n hn;have:=Cf.1 h n (by simpa using hn);simpa using this
theorem Up(x:Int):((if 0<=(IntKind.u8.wrap x) then (JU)[(D (IntKind.u8.wrap x))]? else none).map fun c=>(c.toNat:Int))=some (Je (IntKind.u8.wrap x)):=by
 have hw:0<=IntKind.u8.wrap x/\IntKind.u8.wrap x<256:=by
  simp only[I,An,IntKind.signed,PG,B_,if_false];omega
 rw[if_pos hw.1];exact Afh _ (by omega)
def Xq(x:Int):Int :=
 match decide (x>=65536) with
 | true=>(match decide ((d x (2^(min (D 16) (An .u32))))>=256) with
 | true=>(I O (24+(I O (Je (IntKind.u8.wrap (d (d x (2^(min (D 16) (An .u32)))) (2^(min (D 8) (An .u32)))))))))
 | false=>(I O (16+(I O (Je (IntKind.u8.wrap (d x (2^(min (D 16) (An .u32))))))))))
 | false=>(match decide (x>=256) with
 | true=>(I O (8+(I O (Je (IntKind.u8.wrap (d x (2^(min (D 8) (An .u32)))))))))
 | false=>(I O (0+(I O (Je (IntKind.u8.wrap x))))))
theorem Awn(x:Int)  : RQ 150 [F Ae x] (F O (Xq x)):=by
 unfold Xq;cases c1:(A (x>=65536))
 ·cases c2:(A (x>=256))
  ·exact Jz (r := F O (I O (0+(I O (Je (IntKind.u8.wrap x)))))) (ps:=[(A (x>=65536))=false,(A (x>=256))=false,((if 0<=(IntKind.u8.wrap x) then (JU)[(D (IntKind.u8.wrap x))]? else none).map fun c=>(c.toNat:Int))=some (Je (IntKind.u8.wrap x))]) Be rfl 300 rfl [bF,bF,.v (F .u8 (Je (IntKind.u8.wrap x)))] (by kernel_rfl) ⟨c1,c2,(Up _),trivial⟩
  ·exact Jz (r := F O (I O (8+(I O (Je (IntKind.u8.wrap (d x (2^(min (D 8) (An .u32)))))))))) (ps:=[(A (x>=65536))=false,(A (x>=256))=true,¬ (8:Int)<0,((if 0<=(IntKind.u8.wrap (d x (2^(min (D 8) (An .u32))))) then (JU)[(D (IntKind.u8.wrap (d x (2^(min (D 8) (An .u32))))))]? else none).map fun c=>(c.toNat:Int))=some (Je (IntKind.u8.wrap (d x (2^(min (D 8) (An .u32))))))]) Be rfl 300 rfl [bF,bT,.v (F .u8 (Je (IntKind.u8.wrap (d x (2^(min (D 8) (An .u32)))))))] (by kernel_rfl) ⟨c1,c2,(by decide),(Up _),trivial⟩
 ·cases c2:(A ((d x (2^(min (D 16) (An .u32))))>=256))
  ·exact Jz (r := F O (I O (16+(I O (Je (IntKind.u8.wrap (d x (2^(min (D 16) (An .u32)))))))))) (ps:=[(A (x>=65536))=true,¬ (16:Int)<0,(A ((d x (2^(min (D 16) (An .u32))))>=256))=false,((if 0<=(IntKind.u8.wrap (d x (2^(min (D 16) (An .u32))))) then (JU)[(D (IntKind.u8.wrap (d x (2^(min (D 16) (An .u32))))))]? else none).map fun c=>(c.toNat:Int))=some (Je (IntKind.u8.wrap (d x (2^(min (D 16) (An .u32))))))]) Be rfl 300 rfl [bT,bF,.v (F .u8 (Je (IntKind.u8.wrap (d x (2^(min (D 16) (An .u32)))))))] (by kernel_rfl) ⟨c1,(by decide),c2,(Up _),trivial⟩
  ·exact Jz (r := F O (I O (24+(I O (Je (IntKind.u8.wrap (d (d x (2^(min (D 16) (An .u32)))) (2^(min (D 8) (An .u32)))))))))) (ps:=[(A (x>=65536))=true,¬ (16:Int)<0,(A ((d x (2^(min (D 16) (An .u32))))>=256))=true,¬ (8:Int)<0,((if 0<=(IntKind.u8.wrap (d (d x (2^(min (D 16) (An .u32)))) (2^(min (D 8) (An .u32))))) then (JU)[(D (IntKind.u8.wrap (d (d x (2^(min (D 16) (An .u32)))) (2^(min (D 8) (An .u32))))))]? else none).map fun c=>(c.toNat:Int))=some (Je (IntKind.u8.wrap (d (d x (2^(min (D 16) (An .u32)))) (2^(min (D 8) (An .u32))))))]) Be rfl 300 rfl [bT,bT,.v (F .u8 (Je (IntKind.u8.wrap (d (d x (2^(min (D 16) (An .u32)))) (2^(min (D 8) (An .u32)))))))] (by kernel_rfl) ⟨c1,(by decide),c2,(by decide),(Up _),trivial⟩
theorem Awo(x l:Int)(n1:RQ 150 [F Ae x] (F O l)):RQ 188 [F Ae x] (F O (I O (32-l))):=i (fn:=iF Mv Atx) Be rfl 400 rfl [.r (F O l)] (Jx n1)
theorem ADi(n na:Bool)(xs as1:LI)(v:Int)(n1:Bl (lm as1)=as1.length*1)
  (n2:as1.length<=35184372088832)
  (n3:RQ 143 [o [B n,sL lm xs]] (Ar [B na,sL lm as1]))
  (n4:RQ 152 [B false,sL lm as1] (Ag v)):RQ 160 [o [B n,sL lm xs]] (Ag v) :=
 i (fn:=iF Mv Asl) Be rfl 400 rfl [.r (Ar [B na,sL lm as1]),.r (Ag v)] (JS n3 n1 n2 n4) (by kernel_rfl)
theorem uZ(n na:Bool)(xs as1:LI)(c1:((as1.length:Int)==0)=true)(n1:RQ 143 [o [B n,sL lm xs]] (Ar [B na,sL lm as1])):RQ 102 [o [B n,sL lm xs]] (F O 0):=i (fn:=iF Mv Api) Be rfl 400 rfl [.r (Ar [B na,sL lm as1]),bT] (J0 n1 c1)
theorem vA(n na:Bool)(xs as1:LI)(l:Int)(c1:((as1.length:Int)==0)=false)(n1:0<=(I O ((as1.length:Int)-1))/\(I O ((as1.length:Int)-1))<(as1.length:Int))(n2:RQ 143 [o [B n,sL lm xs]] (Ar [B na,sL lm as1]))(n3:RQ 150 [F Ae (as1.getD (D (I O ((as1.length:Int)-1))) 0)] (F O l)):RQ 102 [o [B n,sL lm xs]] (F O (I O ((I O (32*(I O ((as1.length:Int)-1))))+l))):=i (fn:=iF Mv Api) Be rfl 400 rfl [.r (Ar [B na,sL lm as1]),bF,.v (F Ae (as1.getD (D (I O ((as1.length:Int)-1))) 0)),.r (F O l)] (JL n2 c1 n1 (p n1) n3)
theorem HS(n k:Nat)(h:n / 2^k ≠ 0):Cu n=Cu (n / 2^k)+k:=by
 have hn:n ≠ 0:=by intro e;subst e;simp at h
 have:=(TK h).1 rfl;rw[TK hn];generalize Cu (n / 2^k)=j at *
 have hp:0<2^k:=A3s k;constructor
 ·rw[De];exact (Nat.le_div_iff_mul_le hp).1 this.1
 ·have:n<2^(j+1)*2^k:=(Nat.div_lt_iff_lt_mul hp).1 this.2;rw[<- De] at this;have e:j+k+1=j+1+k:=by omega
  rw[e];exact this
theorem Afi(v:Nat)(h:v<256)(h0:v ≠ 0):Je (IntKind.u8.wrap (v:Int))=((Cu v+1:Nat):Int):=by
 have hw:IntKind.u8.wrap (v:Int)=v:=by
  simp only[I,An,IntKind.signed,PG,B_,if_false];omega
 rw[hw];unfold Je gT;rw[R,if_neg h0]
theorem vB(n:Nat)(k:Nat)(hk:k<=32):d (n:Int) (2^(min (D (k:Int)) (An .u32)))=((n / 2^k:Nat):Int):=by
 have e:min (D (k:Int)) (An .u32)=k:=by
  show min (D (k:Int)) 32=k;rw[R];omega
 rw[e,q _ (P_ (by omega))];have:(2:Int)^k=((2^k:Nat):Int):=by simp
 rw[this,<- Awp]
theorem Afj(n:Nat)(h:n<4294967296)(h0:n ≠ 0):Xq (n:Int)=((Cu n+1:Nat):Int):=by
 have s16 (n:Nat):d (n:Int) (2^(min (D 16) (An .u32)))=((n / 2^16:Nat):Int):=vB n 16 (by omega);have s8 (n:Nat):d (n:Int) (2^(min (D 8) (An .u32)))=((n / 2^8:Nat):Int):=vB n 8 (by omega);have fin (v c:Nat) (hv:v<256) (hv0:v ≠ 0) (hc:c<=56):I O ((c:Int)+I O (Je (IntKind.u8.wrap (v:Int))))=((Cu v+1+c:Nat):Int):=by
  have:Cu v<8:=(Sk hv0).2 hv;rw[Afi v hv hv0,Bg (n:=((Cu v+1:Nat):Int)) (by omega) (by omega),Bg (by omega) (by omega)];omega
 unfold Xq;simp only[s16,s8];by_cases b:n<65536
 ·have b':decide ((n:Int)>=65536)=false:=by simp;omega
  rw[b'];by_cases c:n<256
  ·have c':decide ((n:Int)>=256)=false:=by simp;omega
   rw[c'];exact fin n 0 c h0 (by omega)
  ·have c':decide ((n:Int)>=256)=true:=by simp;omega
   rw[c',HS n 8 (by omega)];have:=fin (n / 2^8) 8 (by omega) (by omega) (by omega);exact this.trans (by omega)
 ·have b':decide ((n:Int)>=65536)=true:=by simp;omega
  rw[b'];dsimp only;by_cases c:n / 2^16<256
  ·have c':decide (((n / 2^16:Nat):Int)>=256)=false:=by simp;omega
   rw[c',HS n 16 (by omega)];have:=fin (n / 2^16) 16 (by omega) (by omega) (by omega);exact this.trans (by omega)
  ·have c':decide (((n / 2^16:Nat):Int)>=256)=true:=by simp;omega
   rw[c',HS n 16 (by omega),HS (n / 2^16) 8 (by omega)];have:=fin (n / 2^16 / 2^8) 24 (by omega) (by omega) (by omega);exact this.trans (by omega)
theorem YJ{n:Nat}(h:n<4294967296)(h0:n ≠ 0):RQ 150 [F Ae (n:Nat)] (F O ((Cu n+1:Nat):Int)):=by
 have:=Awn (n:Nat);rwa [Afj n h h0] at this
theorem Acb{x:Int}(hx:0<x/\x<4294967296):∃ s:Nat,s<32/\2147483648<=x*2^s/\x*2^s<4294967296/\RQ 188 [F Ae x] (F O (s:Nat)):=by
 obtain⟨n,rfl⟩:∃ n:Nat,x=n:=⟨x.toNat,by omega⟩;have hn0:n ≠ 0:=by omega
 have hl:=(TK hn0).1 rfl;have hlt:Cu n<32:=(Sk hn0).2 (by omega);refine⟨31-Cu n,by omega,?_,?_,?_⟩
 ·have:2^31<=n*2^(31-Cu n):=by
   have h:=AJ (2^(31-Cu n)) hl.1;rwa [<- De,show Cu n+(31-Cu n)=31 by omega] at h
  have e:(n:Int)*2^(31-Cu n)=((n*2^(31-Cu n):Nat):Int):=by rw[DI,Dp];rfl
  rw[e];omega
 ·have:n*2^(31-Cu n)<2^32:=by
   have h:=Nat.mul_lt_mul_of_pos_right hl.2 (A3s (31-Cu n));rwa [<- De,show Cu n+1+(31-Cu n)=32 by omega] at h
  have e:(n:Int)*2^(31-Cu n)=((n*2^(31-Cu n):Nat):Int):=by rw[DI,Dp];rfl
  rw[e];omega
 ·have h:=Awo (n:Nat) _ (YJ (by omega) hn0);rw[Bg (by omega) (by omega)] at h;rwa [show (32:Int)-((Cu n+1:Nat):Int)=((31-Cu n:Nat):Int) by omega] at h
theorem Vw{neg:Bool}{xs:LI}(hu:A_ xs)(hN:xs.length<=1048576):RQ 160 [o [B neg,sL lm xs]] (Ag ((rv neg xs).natAbs:Nat)):=by
 have l1:=Fg (neg:=neg) hu;have h:=Fh (neg:=false) (BV (rv neg xs).natAbs) (by omega);rw[A5f] at h;exact ADi neg _ xs _ _ (Xo _) (by omega) (DT hu hN) h
def F3(n:Nat):Nat:=if n=0 then 0 else Cu n+1
theorem cO{n:Nat}(h:n ≠ 0):1<=(M n).length/\∃ x:Nat,(M n).getD ((M n).length-1) 0=x/\x ≠ 0/\x<4294967296/\n / 2^(32*((M n).length-1))=x:=by
 have hc:=Cv n;have hn0:M n ≠ []:=by rw[Ne,JY];exact h
 have hl:=Ak.2 hn0;have ht:=AL hc.1 ((M n).length-1);have hz:(M n).getD ((M n).length-1) 0 ≠ 0:=by
  rcases hc.2 with g | g
  ·exact absurd g hn0
  ·exact g
 have hs:=DC (M n) (j:=(M n).length-1) (by omega);have hd:=CM (M n) ((M n).length-1);rw[Ek (xs:=M n) (i:=(M n).length-1+1) (by omega),AG,BJ] at hd;have h1:=GF hc.1 ((M n).length-1);have h0:=Bi (Em hc.1 ((M n).length-1));rw[hd,C9] at hs;generalize (M n).length-1=j at *
 generalize (M n).getD j 0=x at *
 obtain⟨x,rfl⟩:∃ y:Nat,x=y:=⟨x.toNat,by omega⟩;refine⟨hl,x,rfl,by omega,by omega,?_⟩;generalize Ab (Bx j (M n))=L at *
 have e:((n / 2^(32*j):Nat):Int)=(x:Int):=by
  rw[Awp,Dp,show ((2:Nat):Int)^(32*j)=4294967296^j by rw[Pg];rfl,hs];have hp:=CH j;rw[AE (4294967296^j),ACn _ _ (by omega),HJ h0 h1,Ed]
 omega
theorem Tp{neg:Bool}{xs:LI}(hu:A_ xs)(hN:xs.length<=1048576):RQ 102 [o [B neg,sL lm xs]] (F O ((F3 (rv neg xs).natAbs:Nat):Int)):=by
 have l1:=Fg (neg:=neg) hu;have r1:=DT (neg:=neg) hu hN;generalize rv neg xs=a at *
 by_cases h0:a.natAbs=0
 ·have h:=uZ neg _ xs _ (by rw[h0];rfl) r1;rw[show F3 a.natAbs=0 by unfold F3;rw[if_pos h0]];exact h
 ·obtain⟨t1,x,t2,t3,t4,t5⟩:=cO h0;have e1:I O ((((M a.natAbs).length:Nat):Int)-1)=(((M a.natAbs).length-1:Nat):Int):=by rw[Bg (by omega) (by omega)];omega
  have hl:=YJ t4 t3;have h:=vA neg _ xs (M a.natAbs) _ (by rw[beq_eq_false_iff_ne];omega) (by rw[e1];omega) r1 (by rw[e1,R,t2];exact hl);have hlog:Cu x<32:=(Sk t3).2 t4;rw[e1,Bg (n:=32*(((M a.natAbs).length-1:Nat):Int)) (by omega) (by omega),Bg (by omega) (by omega)] at h;have e2:F3 a.natAbs=Cu x+1+32*((M a.natAbs).length-1):=by
   unfold F3;rw[if_neg h0,HS a.natAbs (32*((M a.natAbs).length-1)) (by rw[t5];exact t3),t5];omega
  rw[e2];rwa [show 32*(((M a.natAbs).length-1:Nat):Int)+((Cu x+1:Nat):Int)=((Cu x+1+32*((M a.natAbs).length-1):Nat):Int) by omega] at h
def Yu:ICode:=c Atv 92 244
def Tq(xs:LI)(d:Int)(k:Nat)(qs:LI)(r:Int)(i:Int):Aj:=(C (sL lm xs)::(C (F Ae d)::(W 4 (X 1 k (lm qs)::(C (F U r)::(C (F O i)::(W 34 [])))))))
theorem Awq(xs:LI)(d:Int)(k:Nat)(qs:LI)(r:Int)(i:Int)(c1:A (i>=0)=true)(n1:0<=i/\i<(xs.length:Int))(n2:¬ (I U d)=0)(n3:0<=i/\i<(k:Int))(n4:qs.length=k):Ap Yu (Tq xs d k qs r i) .norm (Tq xs d k (qs.set (D i) (I Ae (I U (Ax (I U ((T (An .u64) (I U (r*2^(min (D 32) (An .u64)))) ||| T (An .u64) (I U (xs.getD (D i) 0))).toNat)) (I U d))))) (AB (I U ((T (An .u64) (I U (r*2^(min (D 32) (An .u64)))) ||| T (An .u64) (I U (xs.getD (D i) 0))).toNat)) (I U d)) (I O (i-1))):=(J e [bT,.v (F Ae (xs.getD (D i) 0)),.l (lm (qs.set (D i) (I Ae (I U (Ax (I U ((T (An .u64) (I U (r*2^(min (D 32) (An .u64)))) ||| T (An .u64) (I U (xs.getD (D i) 0))).toNat)) (I U d))))))] [0,1,6,7,8] (ND c1 Jn n1 (p n1) n2 n2 n3 (show C5 (lm qs) (D i*1) [F Ae (I Ae (I U (Ax (I U ((T (An .u64) (I U (r*2^(min (D 32) (An .u64)))) ||| T (An .u64) (I U (xs.getD (D i) 0))).toNat)) (I U d))))]=some (lm (qs.set (D i) (I Ae (I U (Ax (I U ((T (An .u64) (I U (r*2^(min (D 32) (An .u64)))) ||| T (An .u64) (I U (xs.getD (D i) 0))).toNat)) (I U d)))))) from (Dm n4 n3))))
theorem Awr(xs:LI)(d:Int)(k:Nat)(qs:LI)(r:Int)(i:Int)(c1:A (i>=0)=false):Ap Yu (Tq xs d k qs r i) (.exit 0) (Tq xs d k qs r i):=(J e [bF] [0,1,6,7,8] (Jx c1))
theorem Aws(xs qs:LI)(d r i:Int)(k:Nat)(n1:0<=(xs.length:Int)/\(xs.length:Int)<=1048576)(hl2:Ap (.loop Yu) ((C (sL lm xs)::(C (F Ae d)::(W 4 (X 1 (D (xs.length:Int)) (CD [F Ae 0] (D (xs.length:Int)))::(C (F U 0)::(C (F O (I O ((xs.length:Int)-1)))::(W 34 [])))))))) (.exit 0) (Tq xs d k qs r i)):RQ 187 [sL lm xs,F Ae d] (Ar [H k (lm qs),F Ae (I Ae r)]):=OO Atv (W 1 (C (F Ae d)::(W 2 (X 1 k (lm qs)::(C (F Ae (I Ae r))::(W 37 [])))))) (CE.asc (CE.asc (Av (CE.seq (J e [] [0,1,6,7,8] (Jx n1)) (CE.seq (CE.block hl2) (J e [] [1,4,5] a0))))))
def Yv:ICode:=c Aua 93 116
def Ts(xs:LI)(s:Int)(k:Nat)(os:LI)(n:Int)(i:Int):Aj:=(W 1 (C (F O s)::(W 3 (X 1 k (lm os)::(W 7 (C (sL lm xs)::(C (F O n)::(C (F O i)::(W 26 [])))))))))
theorem Awt(xs:LI)(s:Int)(k:Nat)(os:LI)(n:Int)(i:Int)(c1:A (i<n)=true)(n1:0<=i/\i<(xs.length:Int))(n2:¬ (I U s)<0)(n3:0<=i/\i<(k:Int))(n4:os.length=k)(n5:0<=(I O (i+1))/\(I O (i+1))<(k:Int))(n6:(os.set (D i) (I Ae ((T (An .u32) (os.getD (D i) 0) ||| T (An .u32) (I Ae (I U ((I U (xs.getD (D i) 0))*2^(min (D (I U s)) (An .u64)))))).toNat))).length=k):Ap Yv (Ts xs s k os n i) .norm (Ts xs s k ((os.set (D i) (I Ae ((T (An .u32) (os.getD (D i) 0) ||| T (An .u32) (I Ae (I U ((I U (xs.getD (D i) 0))*2^(min (D (I U s)) (An .u64)))))).toNat))).set (D (I O (i+1))) (I Ae (d (I U ((I U (xs.getD (D i) 0))*2^(min (D (I U s)) (An .u64)))) (2^(min (D 32) (An .u64)))))) n (I O (i+1))):=(J e [bT,.v (F Ae (xs.getD (D i) 0)),.v (F Ae (os.getD (D i) 0)),.l (lm (os.set (D i) (I Ae ((T (An .u32) (os.getD (D i) 0) ||| T (An .u32) (I Ae (I U ((I U (xs.getD (D i) 0))*2^(min (D (I U s)) (An .u64)))))).toNat)))),.l (lm ((os.set (D i) (I Ae ((T (An .u32) (os.getD (D i) 0) ||| T (An .u32) (I Ae (I U ((I U (xs.getD (D i) 0))*2^(min (D (I U s)) (An .u64)))))).toNat))).set (D (I O (i+1))) (I Ae (d (I U ((I U (xs.getD (D i) 0))*2^(min (D (I U s)) (An .u64)))) (2^(min (D 32) (An .u64)))))))] [1,5,13,14,15] (NF c1 n1 (p n1) n2 n3 (Cy n4 n3) n3 (show C5 (lm os) (D i*1) [F Ae (I Ae ((T (An .u32) (os.getD (D i) 0) ||| T (An .u32) (I Ae (I U ((I U (xs.getD (D i) 0))*2^(min (D (I U s)) (An .u64)))))).toNat))]=some (lm (os.set (D i) (I Ae ((T (An .u32) (os.getD (D i) 0) ||| T (An .u32) (I Ae (I U ((I U (xs.getD (D i) 0))*2^(min (D (I U s)) (An .u64)))))).toNat)))) from (Dm n4 n3)) Jn n5 (show C5 (lm (os.set (D i) (I Ae ((T (An .u32) (os.getD (D i) 0) ||| T (An .u32) (I Ae (I U ((I U (xs.getD (D i) 0))*2^(min (D (I U s)) (An .u64)))))).toNat)))) (D (I O (i+1))*1) [F Ae (I Ae (d (I U ((I U (xs.getD (D i) 0))*2^(min (D (I U s)) (An .u64)))) (2^(min (D 32) (An .u64)))))]=some (lm ((os.set (D i) (I Ae ((T (An .u32) (os.getD (D i) 0) ||| T (An .u32) (I Ae (I U ((I U (xs.getD (D i) 0))*2^(min (D (I U s)) (An .u64)))))).toNat))).set (D (I O (i+1))) (I Ae (d (I U ((I U (xs.getD (D i) 0))*2^(min (D (I U s)) (An .u64)))) (2^(min (D 32) (An .u64))))))) from (Dm n6 n5))))
theorem Awu(xs:LI)(s:Int)(k:Nat)(os:LI)(n:Int)(i:Int)(c1:A (i<n)=false):Ap Yv (Ts xs s k os n i) (.exit 0) (Ts xs s k os n i):=(J e [bF] [1,5,13,14,15] (Jx c1))
theorem Awv(xs os:LI)(s n i:Int)(k:Nat)(n1:0<=(I O ((xs.length:Int)+1))/\(I O ((xs.length:Int)+1))<=1048576)(hl2:Ap (.loop Yv) ((W 1 (C (F O s)::(W 3 (X 1 (D (I O ((xs.length:Int)+1))) (CD [F Ae 0] (D (I O ((xs.length:Int)+1))))::(W 7 (C (sL lm xs)::(C (F O (xs.length:Int))::(C (F O 0)::(W 26 [])))))))))) (.exit 0) (Ts xs s k os n i)):RQ 189 [sL lm xs,F O s] (P 1 k (lm os)):=OO Aua (W 1 (C (F O s)::(W 2 (X 1 k (lm os)::(W 37 []))))) (CE.asc (Av (CE.seq (J e [] [1,5,13,14,15] (Jx n1)) (CE.seq (CE.block hl2) (J e [] [1,4] a0)))))
def IK:ICode:=c Ath 79 2094232
def EQ(k:Nat)(us:LI)(vs:LI)(n:Int)(t:Int)(t2:Int)(kq:Nat)(qs:LI)(s:Int)(j:Int)(g:Int)(r:Int):Aj:=(W 4 (X 1 kq (lm qs)::(W 3 (C (F O s)::(X 1 k (lm us)::(C (sL lm vs)::(C (F O n)::(W 1 (C (F U t)::(C (F U t2)::(C (F O j)::(W 1 (C (F U g)::(C (F U r)::(W 263 [])))))))))))))))
theorem Afk(k:Nat)(us:LI)(vs:LI)(n:Int)(t:Int)(t2:Int)(kq:Nat)(qs:LI)(s:Int)(j:Int)(g:Int)(r:Int)(c1:A (g>=4294967296)=true)(c2:A ((I U (r+t))>=4294967296)=true):Ap IK (EQ k us vs n t t2 kq qs s j g r) (.exit 2) (EQ k us vs n t t2 kq qs s j (I U (g-1)) (I U (r+t))):=(J e [bT,bT,bT] QA (JV c1 QH c2))
theorem Afl(k:Nat)(us:LI)(vs:LI)(n:Int)(t:Int)(t2:Int)(kq:Nat)(qs:LI)(s:Int)(j:Int)(g:Int)(r:Int)(c1:A (g>=4294967296)=true)(c2:A ((I U (r+t))>=4294967296)=false):Ap IK (EQ k us vs n t t2 kq qs s j g r) .norm (EQ k us vs n t t2 kq qs s j (I U (g-1)) (I U (r+t))):=(J e [bT,bT,bF] QA (JV c1 QH c2))
theorem Afm(k:Nat)(us:LI)(vs:LI)(n:Int)(t:Int)(t2:Int)(kq:Nat)(qs:LI)(s:Int)(j:Int)(g:Int)(r:Int)(c1:A (g>=4294967296)=false)(c2:(A ((I U (g*t2))>(I U ((T (An .u64) (I U (r*2^(min (D 32) (An .u64)))) ||| T (An .u64) (I U (us.getD (D (I O ((I O (j+n))-2))) 0))).toNat))))=true)(c3:A ((I U (r+t))>=4294967296)=true)(n1:0<=(I O ((I O (j+n))-2))/\(I O ((I O (j+n))-2))<(k:Int))(n2:us.length=k):Ap IK (EQ k us vs n t t2 kq qs s j g r) (.exit 2) (EQ k us vs n t t2 kq qs s j (I U (g-1)) (I U (r+t))):=(J e [bF,.v (F Ae (us.getD (D (I O ((I O (j+n))-2))) 0)),bT,bT] QA (JT c1 Jn n1 (Cy n2 n1) c2 c3))
theorem Afn(k:Nat)(us:LI)(vs:LI)(n:Int)(t:Int)(t2:Int)(kq:Nat)(qs:LI)(s:Int)(j:Int)(g:Int)(r:Int)(c1:A (g>=4294967296)=false)(c2:(A ((I U (g*t2))>(I U ((T (An .u64) (I U (r*2^(min (D 32) (An .u64)))) ||| T (An .u64) (I U (us.getD (D (I O ((I O (j+n))-2))) 0))).toNat))))=true)(c3:A ((I U (r+t))>=4294967296)=false)(n1:0<=(I O ((I O (j+n))-2))/\(I O ((I O (j+n))-2))<(k:Int))(n2:us.length=k):Ap IK (EQ k us vs n t t2 kq qs s j g r) .norm (EQ k us vs n t t2 kq qs s j (I U (g-1)) (I U (r+t))):=(J e [bF,.v (F Ae (us.getD (D (I O ((I O (j+n))-2))) 0)),bT,bF] QA (JT c1 Jn n1 (Cy n2 n1) c2 c3))
theorem Fp(k:Nat)(us:LI)(vs:LI)(n:Int)(t:Int)(t2:Int)(kq:Nat)(qs:LI)(s:Int)(j:Int)(g:Int)(r:Int)(c1:A (g>=4294967296)=false)(c2:(A ((I U (g*t2))>(I U ((T (An .u64) (I U (r*2^(min (D 32) (An .u64)))) ||| T (An .u64) (I U (us.getD (D (I O ((I O (j+n))-2))) 0))).toNat))))=false)(n1:0<=(I O ((I O (j+n))-2))/\(I O ((I O (j+n))-2))<(k:Int))(n2:us.length=k):Ap IK (EQ k us vs n t t2 kq qs s j g r) (.exit 2) (EQ k us vs n t t2 kq qs s j g r):=(J e [bF,.v (F Ae (us.getD (D (I O ((I O (j+n))-2))) 0)),bF] QA (JL c1 Jn n1 (Cy n2 n1) c2))
def RJ:ICode:=c Ath 76 16753908
def K3(k:Nat)(us:LI)(vs:LI)(n:Int)(t:Int)(t2:Int)(kq:Nat)(qs:LI)(s:Int)(j:Int)(g:Int)(b:Int)(c:Int)(i:Int):Aj:=(W 4 (X 1 kq (lm qs)::(W 3 (C (F O s)::(X 1 k (lm us)::(C (sL lm vs)::(C (F O n)::(W 1 (C (F U t)::(C (F U t2)::(C (F O j)::(W 1 (C (F U g)::(W 1 (C (F U b)::(C (F U c)::(C (F O i)::(W 260 []))))))))))))))))))
theorem Afo(k:Nat)(us:LI)(vs:LI)(n:Int)(t:Int)(t2:Int)(kq:Nat)(qs:LI)(s:Int)(j:Int)(g:Int)(b:Int)(c:Int)(i:Int)(c1:A (i<n)=true)(n1:0<=i/\i<(vs.length:Int))(n2:0<=(I O (i+j))/\(I O (i+j))<(k:Int))(n3:us.length=k):Ap RJ (K3 k us vs n t t2 kq qs s j g b c i) .norm (K3 k (us.set (D (I O (i+j))) (I Ae (I U ((I U ((I U (us.getD (D (I O (i+j))) 0))-(I U (I Ae (I U ((I U (g*(I U (vs.getD (D i) 0))))+c))))))-b)))) vs n t t2 kq qs s j g (d (I U ((I U ((I U (us.getD (D (I O (i+j))) 0))-(I U (I Ae (I U ((I U (g*(I U (vs.getD (D i) 0))))+c))))))-b)) (2^(min (D 63) (An .u64)))) (d (I U ((I U (g*(I U (vs.getD (D i) 0))))+c)) (2^(min (D 32) (An .u64)))) (I O (i+1))):=(J e [bT,.v (F Ae (vs.getD (D i) 0)),.v (F Ae (us.getD (D (I O (i+j))) 0)),.l (lm (us.set (D (I O (i+j))) (I Ae (I U ((I U ((I U (us.getD (D (I O (i+j))) 0))-(I U (I Ae (I U ((I U (g*(I U (vs.getD (D i) 0))))+c))))))-b)))))] XT (Qx c1 n1 (p n1) Jn n2 (Cy n3 n2) ZQ n2 (show C5 (lm us) (D (I O (i+j))*1) [F Ae (I Ae (I U ((I U ((I U (us.getD (D (I O (i+j))) 0))-(I U (I Ae (I U ((I U (g*(I U (vs.getD (D i) 0))))+c))))))-b)))]=some (lm (us.set (D (I O (i+j))) (I Ae (I U ((I U ((I U (us.getD (D (I O (i+j))) 0))-(I U (I Ae (I U ((I U (g*(I U (vs.getD (D i) 0))))+c))))))-b))))) from (Dm n3 n2))))
theorem Afp(k:Nat)(us:LI)(vs:LI)(n:Int)(t:Int)(t2:Int)(kq:Nat)(qs:LI)(s:Int)(j:Int)(g:Int)(b:Int)(c:Int)(i:Int)(c1:A (i<n)=false):Ap RJ (K3 k us vs n t t2 kq qs s j g b c i) (.exit 4) (K3 k us vs n t t2 kq qs s j g b c i):=(J e [bF] XT (Jx c1))
def Ue:ICode:=c Ath 68 4289003188
def Nj(k:Nat)(us:LI)(vs:LI)(n:Int)(t:Int)(t2:Int)(kq:Nat)(qs:LI)(s:Int)(j:Int)(g:Int)(c:Int)(i:Int):Aj:=(W 4 (X 1 kq (lm qs)::(W 3 (C (F O s)::(X 1 k (lm us)::(C (sL lm vs)::(C (F O n)::(W 1 (C (F U t)::(C (F U t2)::(C (F O j)::(W 1 (C (F U g)::(W 7 (C (F U c)::(C (F O i)::(W 255 [])))))))))))))))))
theorem Afq(k:Nat)(us:LI)(vs:LI)(n:Int)(t:Int)(t2:Int)(kq:Nat)(qs:LI)(s:Int)(j:Int)(g:Int)(c:Int)(i:Int)(c1:A (i<n)=true)(n1:0<=(I O (i+j))/\(I O (i+j))<(k:Int))(n2:us.length=k)(n3:0<=i/\i<(vs.length:Int)):Ap Ue (Nj k us vs n t t2 kq qs s j g c i) .norm (Nj k (us.set (D (I O (i+j))) (I Ae (I U ((I U ((I U (us.getD (D (I O (i+j))) 0))+(I U (vs.getD (D i) 0))))+c)))) vs n t t2 kq qs s j g (d (I U ((I U ((I U (us.getD (D (I O (i+j))) 0))+(I U (vs.getD (D i) 0))))+c)) (2^(min (D 32) (An .u64)))) (I O (i+1))):=(J e [bT,.v (F Ae (us.getD (D (I O (i+j))) 0)),.v (F Ae (vs.getD (D i) 0)),.l (lm (us.set (D (I O (i+j))) (I Ae (I U ((I U ((I U (us.getD (D (I O (i+j))) 0))+(I U (vs.getD (D i) 0))))+c)))))] bJ (ND c1 n1 (Cy n2 n1) n3 (p n3) Jn n1 (show C5 (lm us) (D (I O (i+j))*1) [F Ae (I Ae (I U ((I U ((I U (us.getD (D (I O (i+j))) 0))+(I U (vs.getD (D i) 0))))+c)))]=some (lm (us.set (D (I O (i+j))) (I Ae (I U ((I U ((I U (us.getD (D (I O (i+j))) 0))+(I U (vs.getD (D i) 0))))+c))))) from (Dm n2 n1))))
theorem Afr(k:Nat)(us:LI)(vs:LI)(n:Int)(t:Int)(t2:Int)(kq:Nat)(qs:LI)(s:Int)(j:Int)(g:Int)(c:Int)(i:Int)(c1:A (i<n)=false):Ap Ue (Nj k us vs n t t2 kq qs s j g c i) (.exit 6) (Nj k us vs n t t2 kq qs s j g c i):=(J e [bF] bJ (Jx c1))
def OW:ICode:=c Ath 87 8180
def I2(k:Nat)(us:LI)(vs:LI)(n:Int)(t:Int)(t2:Int)(kq:Nat)(qs:LI)(s:Int)(j:Int):Aj:=(W 4 (X 1 kq (lm qs)::(W 3 (C (F O s)::(X 1 k (lm us)::(C (sL lm vs)::(C (F O n)::(W 1 (C (F U t)::(C (F U t2)::(C (F O j)::(W 266 []))))))))))))
theorem Aww(k:Nat)(us:LI)(vs:LI)(n:Int)(t:Int)(t2:Int)(kq:Nat)(qs:LI)(s:Int)(j:Int)(us1 us2:LI)(g r b c cc:Int)(c1:A (j>=0)=true)(c2:((d (I U ((I U ((I U (us1.getD (D (I O (j+n))) 0))-c))-b)) (2^(min (D 63) (An .u64)))) != 0)=true)(n1:0<=(I O (j+n))/\(I O (j+n))<(k:Int))(n2:us.length=k)(n3:0<=(I O ((I O (j+n))-1))/\(I O ((I O (j+n))-1))<(k:Int))(n4:¬ t=0)(hl5:Ap (.loop IK) (EQ k us vs n t t2 kq qs s j (I U (Ax (I U ((T (An .u64) (I U ((I U (us.getD (D (I O (j+n))) 0))*2^(min (D 32) (An .u64)))) ||| T (An .u64) (I U (us.getD (D (I O ((I O (j+n))-1))) 0))).toNat)) t)) (AB (I U ((T (An .u64) (I U ((I U (us.getD (D (I O (j+n))) 0))*2^(min (D 32) (An .u64)))) ||| T (An .u64) (I U (us.getD (D (I O ((I O (j+n))-1))) 0))).toNat)) t)) (.exit 2) (EQ k us vs n t t2 kq qs s j g r))(hl6:Ap (.loop RJ) (K3 k us vs n t t2 kq qs s j g 0 0 0) (.exit 4) (K3 k us1 vs n t t2 kq qs s j g b c n))(n7:us1.length=k)(hl8:Ap (.loop Ue) (Nj k (us1.set (D (I O (j+n))) (I Ae (I U ((I U ((I U (us1.getD (D (I O (j+n))) 0))-c))-b)))) vs n t t2 kq qs s j (I U (g-1)) 0 0) (.exit 6) (Nj k us2 vs n t t2 kq qs s j (I U (g-1)) cc n))(n9:us2.length=k)(n10:0<=j/\j<(kq:Int))(n11:qs.length=kq):Ap OW (I2 k us vs n t t2 kq qs s j) .norm (I2 k (us2.set (D (I O (j+n))) (I Ae ((us2.getD (D (I O (j+n))) 0)+(I Ae cc)))) vs n t t2 kq (qs.set (D j) (I Ae (I U (g-1)))) s (I O (j-1))):=(CE.seq (J (t:=(W 4 (X 1 kq (lm qs)::(W 3 (u s::(X 1 k (lm us)::(vl vs::(u n::(W 1 (C (F U t)::(C (F U t2)::(u j::(W 266 []))))))))))))) e [bT] Qw (Jx c1)) (CE.seq (v (CE.asc (CE.seq (J e [.v (F Ae (us.getD (D (I O (j+n))) 0)),.v (F Ae (us.getD (D (I O ((I O (j+n))-1))) 0))] QA (Lm n1 (Cy n2 n1) Jn n3 (Cy n2 n3) n4 n4)) (CE.seq (CE.block hl5) (Av (CE.seq (J e [] XT a0) (CE.seq (CE.block hl6) (CE.asc (Av (CE.seq (J (t:=(W 4 (X 1 kq (lm qs)::(W 3 (u s::(X 1 k (lm (us1.set (D (I O (j+n))) (I Ae (I U ((I U ((I U (us1.getD (D (I O (j+n))) 0))-c))-b)))))::(vl vs::(u n::(W 1 (C (F U t)::(C (F U t2)::(u j::(W 1 (C (F U g)::(W 181 (C (B ((d (I U ((I U ((I U (us1.getD (D (I O (j+n))) 0))-c))-b)) (2^(min (D 63) (An .u64)))) != 0))::(W 82 []))))))))))))))))) e [.v (F Ae (us1.getD (D (I O (j+n))) 0)),.l (lm (us1.set (D (I O (j+n))) (I Ae (I U ((I U ((I U (us1.getD (D (I O (j+n))) 0))-c))-b)))))] lC (JL n1 (Cy n7 n1) n1 (show C5 (lm us1) (D (I O (j+n))*1) [F Ae (I Ae (I U ((I U ((I U (us1.getD (D (I O (j+n))) 0))-c))-b)))]=some (lm (us1.set (D (I O (j+n))) (I Ae (I U ((I U ((I U (us1.getD (D (I O (j+n))) 0))-c))-b))))) from (Dm n7 n1)) ZQ)) (CE.seq (K0 (by rfl) c2 (CE.asc (Av (CE.seq (J e [] bJ a0) (CE.seq (CE.block hl8) (J (t:=(W 4 (X 1 kq (lm qs)::(W 3 (u s::(X 1 k (lm (us2.set (D (I O (j+n))) (I Ae ((us2.getD (D (I O (j+n))) 0)+(I Ae cc)))))::(vl vs::(u n::(W 1 (C (F U t)::(C (F U t2)::(u j::(W 1 (C (F U (I U (g-1)))::(W 264 []))))))))))))))) e [.v (F Ae (us2.getD (D (I O (j+n))) 0)),.l (lm (us2.set (D (I O (j+n))) (I Ae ((us2.getD (D (I O (j+n))) 0)+(I Ae cc)))))] [4,8,9,10,11,13,14,15,17] (JS n1 (Cy n9 n1) n1 (show C5 (lm us2) (D (I O (j+n))*1) [F Ae (I Ae ((us2.getD (D (I O (j+n))) 0)+(I Ae cc)))]=some (lm (us2.set (D (I O (j+n))) (I Ae ((us2.getD (D (I O (j+n))) 0)+(I Ae cc))))) from (Dm n9 n1))))))))) (J (t:=(W 4 (X 1 kq (lm (qs.set (D j) (I Ae (I U (g-1)))))::(W 3 (u s::(X 1 k (lm (us2.set (D (I O (j+n))) (I Ae ((us2.getD (D (I O (j+n))) 0)+(I Ae cc)))))::(vl vs::(u n::(W 1 (C (F U t)::(C (F U t2)::(u j::(W 266 []))))))))))))) e [.l (lm (qs.set (D j) (I Ae (I U (g-1)))))] Qw (J0 n10 (show C5 (lm qs) (D j*1) [F Ae (I Ae (I U (g-1)))]=some (lm (qs.set (D j) (I Ae (I U (g-1))))) from (Dm n11 n10))))))))))))))) (J e [] Qw a0)))
theorem Awx(k:Nat)(us:LI)(vs:LI)(n:Int)(t:Int)(t2:Int)(kq:Nat)(qs:LI)(s:Int)(j:Int)(us1:LI)(g r b c:Int)(c1:A (j>=0)=true)(c2:((d (I U ((I U ((I U (us1.getD (D (I O (j+n))) 0))-c))-b)) (2^(min (D 63) (An .u64)))) != 0)=false)(n1:0<=(I O (j+n))/\(I O (j+n))<(k:Int))(n2:us.length=k)(n3:0<=(I O ((I O (j+n))-1))/\(I O ((I O (j+n))-1))<(k:Int))(n4:¬ t=0)(hl5:Ap (.loop IK) (EQ k us vs n t t2 kq qs s j (I U (Ax (I U ((T (An .u64) (I U ((I U (us.getD (D (I O (j+n))) 0))*2^(min (D 32) (An .u64)))) ||| T (An .u64) (I U (us.getD (D (I O ((I O (j+n))-1))) 0))).toNat)) t)) (AB (I U ((T (An .u64) (I U ((I U (us.getD (D (I O (j+n))) 0))*2^(min (D 32) (An .u64)))) ||| T (An .u64) (I U (us.getD (D (I O ((I O (j+n))-1))) 0))).toNat)) t)) (.exit 2) (EQ k us vs n t t2 kq qs s j g r))(hl6:Ap (.loop RJ) (K3 k us vs n t t2 kq qs s j g 0 0 0) (.exit 4) (K3 k us1 vs n t t2 kq qs s j g b c n))(n7:us1.length=k)(n8:0<=j/\j<(kq:Int))(n9:qs.length=kq):Ap OW (I2 k us vs n t t2 kq qs s j) .norm (I2 k (us1.set (D (I O (j+n))) (I Ae (I U ((I U ((I U (us1.getD (D (I O (j+n))) 0))-c))-b)))) vs n t t2 kq (qs.set (D j) (I Ae g)) s (I O (j-1))):=(CE.seq (J (t:=(W 4 (X 1 kq (lm qs)::(W 3 (u s::(X 1 k (lm us)::(vl vs::(u n::(W 1 (C (F U t)::(C (F U t2)::(u j::(W 266 []))))))))))))) e [bT] Qw (Jx c1)) (CE.seq (v (CE.asc (CE.seq (J e [.v (F Ae (us.getD (D (I O (j+n))) 0)),.v (F Ae (us.getD (D (I O ((I O (j+n))-1))) 0))] QA (Lm n1 (Cy n2 n1) Jn n3 (Cy n2 n3) n4 n4)) (CE.seq (CE.block hl5) (Av (CE.seq (J e [] XT a0) (CE.seq (CE.block hl6) (CE.asc (Av (CE.seq (J (t:=(W 4 (X 1 kq (lm qs)::(W 3 (u s::(X 1 k (lm (us1.set (D (I O (j+n))) (I Ae (I U ((I U ((I U (us1.getD (D (I O (j+n))) 0))-c))-b)))))::(vl vs::(u n::(W 1 (C (F U t)::(C (F U t2)::(u j::(W 1 (C (F U g)::(W 181 (C (B ((d (I U ((I U ((I U (us1.getD (D (I O (j+n))) 0))-c))-b)) (2^(min (D 63) (An .u64)))) != 0))::(W 82 []))))))))))))))))) e [.v (F Ae (us1.getD (D (I O (j+n))) 0)),.l (lm (us1.set (D (I O (j+n))) (I Ae (I U ((I U ((I U (us1.getD (D (I O (j+n))) 0))-c))-b)))))] lC (JL n1 (Cy n7 n1) n1 (show C5 (lm us1) (D (I O (j+n))*1) [F Ae (I Ae (I U ((I U ((I U (us1.getD (D (I O (j+n))) 0))-c))-b)))]=some (lm (us1.set (D (I O (j+n))) (I Ae (I U ((I U ((I U (us1.getD (D (I O (j+n))) 0))-c))-b))))) from (Dm n7 n1)) ZQ)) (CE.seq (K1 (by rfl) c2 (J (t:=(W 4 (X 1 kq (lm qs)::(W 3 (u s::(X 1 k (lm (us1.set (D (I O (j+n))) (I Ae (I U ((I U ((I U (us1.getD (D (I O (j+n))) 0))-c))-b)))))::(vl vs::(u n::(W 1 (C (F U t)::(C (F U t2)::(u j::(W 1 (C (F U g)::(W 264 []))))))))))))))) e [] [4,8,9,10,11,13,14,15,17] a0)) (J (t:=(W 4 (X 1 kq (lm (qs.set (D j) (I Ae g)))::(W 3 (u s::(X 1 k (lm (us1.set (D (I O (j+n))) (I Ae (I U ((I U ((I U (us1.getD (D (I O (j+n))) 0))-c))-b)))))::(vl vs::(u n::(W 1 (C (F U t)::(C (F U t2)::(u j::(W 266 []))))))))))))) e [.l (lm (qs.set (D j) (I Ae g)))] Qw (J0 n8 (show C5 (lm qs) (D j*1) [F Ae (I Ae g)]=some (lm (qs.set (D j) (I Ae g))) from (Dm n9 n8))))))))))))))) (J e [] Qw a0)))
theorem Awy(k:Nat)(us:LI)(vs:LI)(n:Int)(t:Int)(t2:Int)(kq:Nat)(qs:LI)(s:Int)(j:Int)(c1:A (j>=0)=false):Ap OW (I2 k us vs n t t2 kq qs s j) (.exit 0) (I2 k us vs n t t2 kq qs s j):=(A4 (J e [bF] Qw (Jx c1)))
def OV:ICode:=c Ath 85 32756
def J5(k:Nat)(us:LI)(n:Int)(kq:Nat)(qs:LI)(kr:Nat)(rs:LI)(s:Int)(i:Int):Aj:=(W 4 (X 1 kq (lm qs)::(X 1 kr (lm rs)::(W 2 (C (F O s)::(X 1 k (lm us)::(W 1 (C (F O n)::(W 16 (C (F O i)::(W 253 [])))))))))))
theorem Afs(k:Nat)(us:LI)(n:Int)(kq:Nat)(qs:LI)(kr:Nat)(rs:LI)(s:Int)(i:Int)(c1:A (i<n)=true)(c2:A (s>0)=true)(n1:0<=i/\i<(k:Int))(n2:us.length=k)(n3:¬ (I U s)<0)(n4:0<=i/\i<(kr:Int))(n5:rs.length=kr)(n6:(rs.set (D i) (d (us.getD (D i) 0) (2^(min (D (I U s)) (An .u32))))).length=kr)(n7:0<=(I O (i+1))/\(I O (i+1))<(k:Int))(n8:¬ (I U (I O (32-s)))<0):Ap OV (J5 k us n kq qs kr rs s i) .norm (J5 k us n kq qs kr ((rs.set (D i) (d (us.getD (D i) 0) (2^(min (D (I U s)) (An .u32))))).set (D i) (I Ae ((T (An .u32) ((rs.set (D i) (d (us.getD (D i) 0) (2^(min (D (I U s)) (An .u32))))).getD (D i) 0) ||| T (An .u32) (I Ae ((us.getD (D (I O (i+1))) 0)*2^(min (D (I U (I O (32-s)))) (An .u32))))).toNat))) s (I O (i+1))):=(J e [bT,.v (F Ae (us.getD (D i) 0)),.l (lm (rs.set (D i) (d (us.getD (D i) 0) (2^(min (D (I U s)) (An .u32)))))),bT,.v (F Ae ((rs.set (D i) (d (us.getD (D i) 0) (2^(min (D (I U s)) (An .u32))))).getD (D i) 0)),.v (F Ae (us.getD (D (I O (i+1))) 0)),.l (lm ((rs.set (D i) (d (us.getD (D i) 0) (2^(min (D (I U s)) (An .u32))))).set (D i) (I Ae ((T (An .u32) ((rs.set (D i) (d (us.getD (D i) 0) (2^(min (D (I U s)) (An .u32))))).getD (D i) 0) ||| T (An .u32) (I Ae ((us.getD (D (I O (i+1))) 0)*2^(min (D (I U (I O (32-s)))) (An .u32))))).toNat))))] XQ (Q8 c1 n1 (Cy n2 n1) n3 n4 (show C5 (lm rs) (D i*1) [F Ae (d (us.getD (D i) 0) (2^(min (D (I U s)) (An .u32))))]=some (lm (rs.set (D i) (d (us.getD (D i) 0) (2^(min (D (I U s)) (An .u32)))))) from (Dm n5 n4)) c2 n4 (JT (Cy n6 n4) n7 (Cy n2 n7) n8 n4 (show C5 (lm (rs.set (D i) (d (us.getD (D i) 0) (2^(min (D (I U s)) (An .u32)))))) (D i*1) [F Ae (I Ae ((T (An .u32) ((rs.set (D i) (d (us.getD (D i) 0) (2^(min (D (I U s)) (An .u32))))).getD (D i) 0) ||| T (An .u32) (I Ae ((us.getD (D (I O (i+1))) 0)*2^(min (D (I U (I O (32-s)))) (An .u32))))).toNat))]=some (lm ((rs.set (D i) (d (us.getD (D i) 0) (2^(min (D (I U s)) (An .u32))))).set (D i) (I Ae ((T (An .u32) ((rs.set (D i) (d (us.getD (D i) 0) (2^(min (D (I U s)) (An .u32))))).getD (D i) 0) ||| T (An .u32) (I Ae ((us.getD (D (I O (i+1))) 0)*2^(min (D (I U (I O (32-s)))) (An .u32))))).toNat)))) from (Dm n6 n4)))))
theorem Aft(k:Nat)(us:LI)(n:Int)(kq:Nat)(qs:LI)(kr:Nat)(rs:LI)(s:Int)(i:Int)(c1:A (i<n)=true)(c2:A (s>0)=false)(n1:0<=i/\i<(k:Int))(n2:us.length=k)(n3:¬ (I U s)<0)(n4:0<=i/\i<(kr:Int))(n5:rs.length=kr):Ap OV (J5 k us n kq qs kr rs s i) .norm (J5 k us n kq qs kr (rs.set (D i) (d (us.getD (D i) 0) (2^(min (D (I U s)) (An .u32))))) s (I O (i+1))):=(J e [bT,.v (F Ae (us.getD (D i) 0)),.l (lm (rs.set (D i) (d (us.getD (D i) 0) (2^(min (D (I U s)) (An .u32)))))),bF] XQ (Lm c1 n1 (Cy n2 n1) n3 n4 (show C5 (lm rs) (D i*1) [F Ae (d (us.getD (D i) 0) (2^(min (D (I U s)) (An .u32))))]=some (lm (rs.set (D i) (d (us.getD (D i) 0) (2^(min (D (I U s)) (An .u32)))))) from (Dm n5 n4)) c2))
theorem Afu(k:Nat)(us:LI)(n:Int)(kq:Nat)(qs:LI)(kr:Nat)(rs:LI)(s:Int)(i:Int)(c1:A (i<n)=false):Ap OV (J5 k us n kq qs kr rs s i) (.exit 8) (J5 k us n kq qs kr rs s i):=(J e [bF] XQ (Jx c1))
theorem vC(xs ys:LI)(cm:Int)(c1:A (cm<0)=true)(n1:Bl (lm xs)=xs.length*1)(n2:xs.length<=35184372088832)(n3:RQ 151 [sL lm xs,sL lm ys] (F O cm)):RQ 180 [sL lm xs,sL lm ys] (Ar [H 0 [],sL lm xs]):=OO Ath (W 1 (C (sL lm ys)::(W 2 (X 1 0 []::(X 1 xs.length (lm xs)::(W 276 [])))))) (CE.asc (CE.asc (CE.asc (CE.asc (CE.asc (CE.asc (CE.asc (Av (A4 (J e [.r (F O cm),bT] [1,4,5] (JS n3 c1 n1 n2)))))))))))
theorem vD(xs ys zs:LI)(cm rr:Int)(c1:A (cm<0)=false)(c2:((ys.length:Int)==1)=true)(n1:RQ 151 [sL lm xs,sL lm ys] (F O cm))(n2:0<=(0:Int)/\(0:Int)<(ys.length:Int))(n3:RQ 187 [sL lm xs,F Ae (ys.getD (D 0) 0)] (Ar [sL lm zs,F Ae rr])):RQ 180 [sL lm xs,sL lm ys] (Ar [sL lm zs,H 1 [F Ae rr]]):=OO Ath (W 1 (C (sL lm ys)::(W 2 (C (sL lm zs)::(X 1 1 [F Ae rr]::(W 276 [])))))) (CE.asc (CE.asc (CE.asc (CE.asc (CE.asc (CE.asc (CE.asc (Av (A4 (J e [.r (F O cm),bF,bT,.v (F Ae (ys.getD (D 0) 0)),.r (Ar [sL lm zs,F Ae rr])] [1,4,5] (JT n1 c1 c2 n2 (p n2) n3)))))))))))
theorem vE(xs ys us ws us1 vs qs rs:LI)(cm s n t t2 j:Int)(k kq kr:Nat)(c1:A (cm<0)=false)(c2:((ys.length:Int)==1)=false)(n1:RQ 151 [sL lm xs,sL lm ys] (F O cm))(n2:0<=(I O ((ys.length:Int)-1))/\(I O ((ys.length:Int)-1))<(ys.length:Int))(n3:RQ 188 [F Ae (ys.getD (D (I O ((ys.length:Int)-1))) 0)] (F O s))(n4:0<=(ys.length:Int))(n5:0<=(D (ys.length:Int))/\(D (ys.length:Int))<=ws.length/\ws.length<=ws.length/\(false=true->true=true))(n6:RQ 189 [sL lm xs,F O s] (P 1 us.length (lm us)))(n7:RQ 189 [sL lm ys,F O s] (P 1 ws.length (lm ws)))(n8:0<=(I O ((I O ((xs.length:Int)-(ys.length:Int)))+1))/\(I O ((I O ((xs.length:Int)-(ys.length:Int)))+1))<=1048576)(n9:0<=(I O ((ys.length:Int)-1))/\(I O ((ys.length:Int)-1))<((((D (ys.length:Int))-0):Nat):Int))(n10:0<=(I O ((ys.length:Int)-2))/\(I O ((ys.length:Int)-2))<((((D (ys.length:Int))-0):Nat):Int))(hl11:Ap (.loop OW) ((W 4 (X 1 (D (I O ((I O ((xs.length:Int)-(ys.length:Int)))+1))) (CD [F Ae 0] (D (I O ((I O ((xs.length:Int)-(ys.length:Int)))+1))))::(W 3 (C (F O s)::(X 1 us.length (lm us)::(C (H ((D (ys.length:Int))-0) (Bx (((D (ys.length:Int))-0)*1) (g (0*1) (lm ws))))::(C (F O (ys.length:Int))::(W 1 (C (F U (I U (((ws.drop 0).take ((D (ys.length:Int))-0)).getD (D (I O ((ys.length:Int)-1))) 0)))::(C (F U (I U (((ws.drop 0).take ((D (ys.length:Int))-0)).getD (D (I O ((ys.length:Int)-2))) 0)))::(C (F O (I O ((xs.length:Int)-(ys.length:Int))))::(W 266 []))))))))))))) (.exit 0) (I2 k us1 vs n t t2 kq qs s j))(n12:0<=n/\n<=1048576)(hl13:Ap (.loop OV) ((W 4 (X 1 kq (lm qs)::(X 1 (D n) (CD [F Ae 0] (D n))::(W 2 (C (F O s)::(X 1 k (lm us1)::(W 1 (C (F O n)::(W 16 (C (F O 0)::(W 253 [])))))))))))) (.exit 8) (J5 k us1 n kq qs kr rs s n)):RQ 180 [sL lm xs,sL lm ys] (Ar [H kq (lm qs),H kr (lm rs)]):=OO Ath (W 4 (X 1 kq (lm qs)::(X 1 kr (lm rs)::(W 276 [])))) (CE.asc (CE.asc (CE.asc (CE.asc (CE.asc (CE.asc (CE.asc (Av (CE.seq (J e [.r (F O cm),bF,bF,.v (F Ae (ys.getD (D (I O ((ys.length:Int)-1))) 0)),.r (F O s),.r (P 1 us.length (lm us)),.r (P 1 ws.length (lm ws)),.v (F Ae (((ws.drop 0).take ((D (ys.length:Int))-0)).getD (D (I O ((ys.length:Int)-1))) 0)),.v (F Ae (((ws.drop 0).take ((D (ys.length:Int))-0)).getD (D (I O ((ys.length:Int)-2))) 0))] Qw (Q8 n1 c1 c2 n2 (p n2) n3 n6 n7 (Lm n4 n5 n8 n9 (Wx n9 n5) n10 (Wx n10 n5)))) (CE.seq (CE.block hl11) (Av (CE.seq (J e [] XQ (Jx n12)) (CE.seq (CE.block hl13) (J e [] [4,5] a0))))))))))))))
def TQA:C8:=TWB
theorem vF:Co DK TQA:=e
theorem Afv{xs:LI}{d:Int}(hx:A_ xs)(hd:0<d/\d<4294967296)(hN:xs.length<=1048576):∀ (i:Nat) (qs:LI) (r:Int),i<=xs.length->qs.length=xs.length->A_ qs->0<=r/\r<d->(∀ t,t<i->qs.getD t 0=0) ->
  ∃ qs' r',Ap (.loop Yu) (Tq xs d xs.length qs r ((i:Int)-1)) (.exit 0) (Tq xs d xs.length qs' r' (-1))/\qs'.length=xs.length/\A_ qs'/\(0<=r'/\r'<d)/\d*Ab qs'+r'=d*Ab qs+4294967296^i*r+Ab (xs.take i):=by
 intro i;induction i with
 | zero =>
  intro qs r _ hl hu hr _;refine⟨qs,r,Ah (Awr xs d xs.length qs r _ (by simp)),hl,hu,hr,by simp[Ab]⟩
 | succ i ih =>
  intro qs r hi hl hu hr hz;have ei:(((i+1:Nat):Int)-1)=(i:Nat):=by omega
  have ej:I O ((i:Int)-1)=(i:Int)-1:=Bg (by omega) (by omega);have hxi:=AL hx i;have hk:=Awq xs d xs.length qs r (i:Nat) (by simp) (by omega) (by rw[CP (by omega)];omega) (by omega) hl;rw[ej,R,Ph (by omega) hxi,CP (n:=d) (by omega)] at hk;have hv0:0<=r*4294967296+xs.getD i 0:=by omega
  rw[BK hv0,B1 hv0] at hk;generalize hv:r*4294967296+xs.getD i 0=v at *
  have hm:=Hk v d;have hm0:=Gm v (show d ≠ 0 by omega);have hm1:=EU v hd.1;have hq0:0<=v / d:=Lc hv0 (by omega);have hq1:v / d<4294967296:=by
   apply Mo hd.1;have:=Ac (show r<=d-1 by omega) (show (0:Int)<=4294967296 by omega);have:(d-1)*4294967296=4294967296*d-4294967296:=by omega
   omega
  rw[CP (n:=v / d) (by omega),Un ⟨hq0,hq1⟩] at hk;obtain⟨qs',r',g1,g2,g3,g4,g5⟩:=ih (qs.set i (v / d)) (v % d) (by omega) (by simpa using hl) (CF hu ⟨hq0,hq1⟩) ⟨hm0,hm1⟩ (fun t ht=>by rw[CA (by omega)];exact hz t (by omega));rw[ei];refine⟨qs',r',CE.loop hk g1,g2,g3,g4,?_⟩;rw[g5,Ej _ _ _ (by omega),hz i (by omega),Et xs i (by omega),A7];generalize (4294967296:Int)^i=P at *
  have e2:xs.getD i 0=d*(v / d)+v % d-r*4294967296:=by omega
  rw[e2];grind
theorem ZX{xs:LI}{d:Int}(hx:A_ xs)(hd:0<d/\d<4294967296)(hN:xs.length<=1048576):∃ qs r,(qs:LI).length=xs.length/\A_ qs/\(0<=r/\r<d)/\d*Ab qs+r=Ab xs/\RQ 187 [sL lm xs,F Ae d] (Ar [sL lm qs,F Ae r]):=by
 obtain⟨qs,r,h1,h2,h3,h4,h5⟩:=Afv hx hd hN xs.length (l xs.length 0) 0 (Ao _) (by simp) (Fr _) (by omega) (fun t _=>DQ _ _);refine⟨qs,r,h2,h3,h4,?_,?_⟩
 ·rw[h5,Fe,DP];omega
 ·have h:=Aws xs qs d r (-1) xs.length (by omega) (by
   rw[R,FE,Bg (by omega) (by omega)];exact h1)
  rw[Un (n:=r) (by omega)] at h;unfold sL;rw[h2];exact h
theorem Afw{xs:LI}{s:Nat}(hx:A_ xs)(hs:s<32)(hN:xs.length<1048576):∀ (r i:Nat) (os:LI),i+r=xs.length->os.length=xs.length+1->A_ os->Ab os=2^s*Ab (xs.take i)->os.getD i 0<2^s->(∀ t,i<t->os.getD t 0=0) ->
  ∃ os',Ap (.loop Yv) (Ts xs (s:Nat) (xs.length+1) os (xs.length:Nat) (i:Nat)) (.exit 0) (Ts xs (s:Nat) (xs.length+1) os' (xs.length:Nat) (xs.length:Nat))/\os'.length=xs.length+1/\A_ os'/\Ab os'=2^s*Ab xs:=by
 intro r;induction r with
 | zero =>
  intro i os hi hl hu hv _ _;have:i=xs.length:=by omega
  subst this;exact⟨os,Ah (Awu xs _ _ os _ _ (by simp)),hl,hu,by rw[hv,DP]⟩
 | succ r ih =>
  intro i os hi hl hu hv hc hz;have ei:I O ((i:Int)+1)=((i+1:Nat):Int):=by rw[Bg (by omega) (by omega)];omega
  have hxi:=AL hx i;have hoi:=AL hu i;obtain⟨p0,p1,p2,q,q0,q1⟩:=YI hxi hs;have es:(2:Int)^(min (D (I U (s:Int))) (An .u64))=2^s:=by
   rw[CP (by omega),R];congr 1;show min s 64=s;omega
  have hk:=Awt xs (s:Nat) (xs.length+1) os (xs.length:Nat) (i:Nat) (by simp;omega) (by omega) (by rw[CP (by omega)];omega) (by omega) hl (by rw[ei];omega) (by simpa using hl);rw[ei,R,R,CP (n:=xs.getD i 0) (by omega),es,CP ⟨p0,p1⟩,cN,Es (xs.getD i 0*2^s),q1] at hk;have hqs:q*2^s<4294967296:=by rw[<- q1];omega
  rw[Awm q0 hqs (by omega) ⟨hoi.1,hc⟩] at hk;have hhi:0<=xs.getD i 0*2^s / 4294967296:=by omega
  have hp2:(2:Int)^s<=4294967296:=by have:=Ho (show s<=32 by omega);rwa [show (2:Int)^32=4294967296 by decide] at this
  rw[Un ⟨hhi,by omega⟩] at hk;have hsum:0<=q*2^s+os.getD i 0/\q*2^s+os.getD i 0<4294967296:=by
   have hq2:0<=q*2^s:=by rw[<- q1];omega
   refine⟨by omega,?_⟩;have e:(4294967296:Int)=2^(32-s)*2^s:=by
    rw[<- BB,show 32-s+s=32 by omega];decide
   rw[e] at hqs |-;have hp:=BX s;have:=Dd hqs (by omega);have:=Ac (show q+1<=2^(32-s) by omega) (show (0:Int)<=2^s by omega);rw[Gw,Dt] at this;omega
  obtain⟨os',g1,g2,g3,g4⟩:=ih (i+1) ((os.set i (q*2^s+os.getD i 0)).set (i+1) (xs.getD i 0*2^s / 4294967296)) (by omega) (by simpa using hl) (CF (CF hu hsum) ⟨hhi,by omega⟩) (by
    rw[Ej _ _ _ (by simp;omega),Ej _ _ _ (by omega),CA (by omega),hz (i+1) (by omega),hv,Et xs i (by omega),A7];have e3:xs.getD i 0*2^s=4294967296*(xs.getD i 0*2^s / 4294967296)+q*2^s:=by omega
    generalize (4294967296:Int)^i=P at *
    generalize xs.getD i 0*2^s / 4294967296=H at *
    generalize os.getD i 0=o at *
    generalize q*2^s=Q at *
    have e4:(2:Int)^s*(Ab (xs.take i)+P*xs.getD i 0)=2^s*Ab (xs.take i)+P*(xs.getD i 0*2^s):=by grind
    rw[e4,e3];grind) (by
    rw[show ((os.set i (q*2^s+os.getD i 0)).set (i+1) (xs.getD i 0*2^s / 4294967296)).getD (i+1) 0=xs.getD i 0*2^s / 4294967296 by simp[Z,show i+1<os.length by omega]];exact p2) (fun t ht=>by rw[CA (by omega),CA (by omega)];exact hz t (by omega))
  exact⟨os',CE.loop hk g1,g2,g3,g4⟩
theorem Uq{xs:LI}{s:Nat}(hx:A_ xs)(hs:s<32)(hN:xs.length<1048576):∃ os,(os:LI).length=xs.length+1/\A_ os/\Ab os=2^s*Ab xs/\RQ 189 [sL lm xs,F O (s:Nat)] (P 1 os.length (lm os)):=by
 obtain⟨os,h1,h2,h3,h4⟩:=Afw hx hs hN xs.length 0 (l (xs.length+1) 0) (by omega) (by simp) (Fr _) (by rw[Fe];simp[Ab]) (by rw[DQ];exact BX s) (fun t _=>DQ _ _);refine⟨os,h2,h3,h4,?_⟩;have e:I O ((xs.length:Int)+1)=((xs.length+1:Nat):Int):=by rw[Bg (by omega) (by omega)];omega
 have h:=Awv xs os (s:Nat) (xs.length:Nat) (xs.length:Nat) (xs.length+1) (by rw[e];omega) (by rw[e,R,FE];exact h1);rw[h2];exact h
section
variable {k:Nat} {us vs:LI} {kq:Nat} {qs:LI} {s:Int} {j m:Nat}
theorem vG(hl:us.length=k)(hk:k<=1048577)(hj:j+m+2<k)(h:Dig m (Ab vs) (Ab (us.drop j)) (vs.getD (m+1) 0) (vs.getD m 0) (us.getD (j+m+2) 0) (us.getD (j+m+1) 0) (us.getD (j+m) 0)):∀ (f:Nat) (g r:Int),g.toNat<=f ->
  DigI (Ab vs) (Ab (us.drop j)) (vs.getD (m+1) 0) (us.getD (j+m+2) 0*4294967296+us.getD (j+m+1) 0) g r->r<4294967296 ->
  ∃ g' r',Ap (.loop IK) (EQ k us vs ((m+2:Nat):Int) (vs.getD (m+1) 0) (vs.getD m 0) kq qs s (j:Nat) g r) (.exit 2) (EQ k us vs ((m+2:Nat):Int) (vs.getD (m+1) 0) (vs.getD m 0) kq qs s (j:Nat) g' r') /\
   (0<=g'/\g'<4294967296)/\Ab (us.drop j)<(g'+1)*Ab vs/\g'*Ab vs<Ab (us.drop j)+Ab vs:=by
 have ht:=h.htop;have hnx:=h.hnxt;have hz:=h.hz;have e1:I O (I O ((j:Int)+((m+2:Nat):Int))-2)=((j+m:Nat):Int):=by
  rw[Bg (n:=(j:Int)+((m+2:Nat):Int)) (by omega) (by omega),Bg (by omega) (by omega)];omega
 intro f;induction f with
 | zero =>
  intro g r hf i hr;have hg:g=0:=by have:=i.g0;omega
  subst hg;have c2:¬ (r*4294967296+us.getD (j+m) 0<0*vs.getD m 0):=by have:=i.r0;omega
  have k5:=Fp k us vs ((m+2:Nat):Int) (vs.getD (m+1) 0) (vs.getD m 0) kq qs s (j:Nat) 0 r (by simp) (by
   rw[e1,R,Ph ⟨i.r0,hr⟩ hz,CP (n:=0*vs.getD m 0) (by omega),decide_eq_false_iff_not];omega) (by rw[e1];omega) hl
  exact⟨0,r,Ah k5,by omega,i.up,h.out i (by omega) (S8 (by omega))⟩
 | succ f ih =>
  intro g r hf i hr;have hg1:=i.gle;have hg0:=i.g0;have hr0:=i.r0;have hgn:0<=g*vs.getD m 0/\g*vs.getD m 0<18446744073709551616:=by
   have a:=AA hg0 hnx.1;have b:=EO hg1 (show vs.getD m 0<=4294967295 by omega) hnx.1 (by omega);omega
  have er:I U (r+vs.getD (m+1) 0)=r+vs.getD (m+1) 0:=CP (by omega);have ecmp:(A (I U (g*vs.getD m 0)>I U ((T (An .u64) (I U (r*2^(min (D 32) (An .u64)))) ||| T (An .u64) (I U (us.getD (D (I O (I O ((j:Int)+((m+2:Nat):Int))-2))) 0))).toNat)):Bool)=decide (r*4294967296+us.getD (j+m) 0<g*vs.getD m 0):=by
   rw[e1,R,Ph ⟨hr0,hr⟩ hz,CP hgn]
  by_cases hc:4294967296<=g\/r*4294967296+us.getD (j+m) 0<g*vs.getD m 0
  ·have i2:=h.step i hc;have hg2:=i2.g0;have eg:I U (g-1)=g-1:=CP (by omega);by_cases hbig:4294967296<=r+vs.getD (m+1) 0
   ·have hgs:=h.small_g i2 hbig;have hrun:Ap IK (EQ k us vs ((m+2:Nat):Int) (vs.getD (m+1) 0) (vs.getD m 0) kq qs s (j:Nat) g r) (.exit 2) (EQ k us vs ((m+2:Nat):Int) (vs.getD (m+1) 0) (vs.getD m 0) kq qs s (j:Nat) (I U (g-1)) (I U (r+vs.getD (m+1) 0))):=by
     by_cases hg:4294967296<=g
     ·exact Afk k us vs _ _ _ kq qs s _ g r (by simpa using hg) (by rw[er];simpa using hbig)
     ·exact Afm k us vs _ _ _ kq qs s _ g r (by simp;omega) (by rw[ecmp,decide_eq_true_eq];omega) (by rw[er];simpa using hbig) (by rw[e1];omega) hl
    rw[eg,er] at hrun;exact⟨g-1,_,Ah hrun,⟨hg2,hgs⟩,i2.up,h.out i2 hgs (Adi hbig)⟩
   ·have hrun:Ap IK (EQ k us vs ((m+2:Nat):Int) (vs.getD (m+1) 0) (vs.getD m 0) kq qs s (j:Nat) g r) .norm (EQ k us vs ((m+2:Nat):Int) (vs.getD (m+1) 0) (vs.getD m 0) kq qs s (j:Nat) (I U (g-1)) (I U (r+vs.getD (m+1) 0))):=by
     by_cases hg:4294967296<=g
     ·exact Afl k us vs _ _ _ kq qs s _ g r (by simpa using hg) (by rw[er,decide_eq_false_iff_not];omega)
     ·exact Afn k us vs _ _ _ kq qs s _ g r (by simp;omega) (by rw[ecmp,decide_eq_true_eq];omega) (by rw[er,decide_eq_false_iff_not];omega) (by rw[e1];omega) hl
    rw[eg,er] at hrun;obtain⟨g',r',a1,a2⟩:=ih (g-1) (r+vs.getD (m+1) 0) (by omega) i2 (by omega);exact⟨g',r',CE.loop hrun a1,a2⟩
  ·have k5:=Fp k us vs ((m+2:Nat):Int) (vs.getD (m+1) 0) (vs.getD m 0) kq qs s (j:Nat) g r (by simp;omega) (by rw[ecmp,decide_eq_false_iff_not];omega) (by rw[e1];omega) hl;exact⟨g,r,Ah k5,by omega,i.up,h.out i (by omega) (S8 (by omega))⟩
end
section
variable {k:Nat} {vs:LI} {t t2:Int} {kq:Nat} {qs:LI} {s:Int} {j:Nat} {g:Int}
theorem vH(hv:A_ vs)(hk:k<=1048577)(hg:0<=g/\g<4294967296)(hj:j+vs.length<=k):∀ (r i:Nat) (us:LI) (b c:Int),r+i=vs.length->us.length=k->A_ us->0<=b/\b<=1->0<=c/\c<4294967296 ->
  Ap (.loop RJ) (K3 k us vs (vs.length:Nat) t t2 kq qs s (j:Nat) g b c (i:Nat)) (.exit 4) (K3 k (Gu g vs j r i us b c).1 vs (vs.length:Nat) t t2 kq qs s (j:Nat) g (Gu g vs j r i us b c).2.1 (Gu g vs j r i us b c).2.2 (vs.length:Nat)):=by
 intro r;induction r with
 | zero =>
  intro i us b c hi _ _ _ _;have:i=vs.length:=by omega
  subst this;exact Ah (Afp k us vs _ t t2 kq qs s _ g b c _ (by simp))
 | succ r ih =>
  intro i us b c hi hl hu hb hc;have ei:I O ((i:Int)+1)=((i+1:Nat):Int):=by rw[Bg (by omega) (by omega)];omega
  have eij:I O ((i:Int)+(j:Int))=((i+j:Nat):Int):=by rw[Bg (by omega) (by omega)];omega
  have hvi:=AL hv i;have hui:=AL hu (i+j);have hw:=YE hg hvi hc;have hgv:=AA hg.1 hvi.1;have h1:=Afo k us vs (vs.length:Nat) t t2 kq qs s (j:Nat) g b c (i:Nat) (by simp;omega) (by omega) (by rw[eij];omega) hl;rw[eij,ei,R,R,CP (n:=vs.getD i 0) (by omega),CP (n:=us.getD (i+j) 0) (by omega),CP (n:=g*vs.getD i 0) (by omega),CP hw,cN,Awl,Es (g*vs.getD i 0+c)] at h1;generalize hp:g*vs.getD i 0+c=p at *
  rw[CP (n:=p % 4294967296) (by omega),BF,BF] at h1;have hstep:Gu g vs j (r+1) i us b c=Gu g vs j r (i+1) (us.set (i+j) ((us.getD (i+j) 0-p % 4294967296-b) % 4294967296)) (if us.getD (i+j) 0-p % 4294967296-b<0 then 1 else 0) (p / 4294967296):=by rw[Gu,hp]
  generalize hd:us.getD (i+j) 0-p % 4294967296-b=d at *
  have e1:I Ae (((us.getD (i+j) 0-p % 4294967296) % 18446744073709551616-b) % 18446744073709551616)=d % 4294967296:=by rw[Es];omega
  have e2:((us.getD (i+j) 0-p % 4294967296) % 18446744073709551616-b) % 18446744073709551616 / 9223372036854775808=(if d<0 then 1 else 0):=by split <;> omega
  rw[e1,e2] at h1;rw[hstep];exact CE.loop h1 (ih (i+1) _ _ _ (by omega) (by simpa using hl) (CF hu (by omega)) (by split <;> omega) (by omega))
theorem vI(hv:A_ vs)(hk:k<=1048577)(hj:j+vs.length<=k):∀ (r i:Nat) (us:LI) (c:Int),r+i=vs.length->us.length=k->A_ us->0<=c/\c<=1 ->
  Ap (.loop Ue) (Nj k us vs (vs.length:Nat) t t2 kq qs s (j:Nat) g c (i:Nat)) (.exit 6) (Nj k (Jd vs j r i us c).1 vs (vs.length:Nat) t t2 kq qs s (j:Nat) g (Jd vs j r i us c).2 (vs.length:Nat)):=by
 intro r;induction r with
 | zero =>
  intro i us c hi _ _ _;have:i=vs.length:=by omega
  subst this;exact Ah (Afr k us vs _ t t2 kq qs s _ g c _ (by simp))
 | succ r ih =>
  intro i us c hi hl hu hc;have ei:I O ((i:Int)+1)=((i+1:Nat):Int):=by rw[Bg (by omega) (by omega)];omega
  have eij:I O ((i:Int)+(j:Int))=((i+j:Nat):Int):=by rw[Bg (by omega) (by omega)];omega
  have hvi:=AL hv i;have hui:=AL hu (i+j);have h1:=Afq k us vs (vs.length:Nat) t t2 kq qs s (j:Nat) g c (i:Nat) (by simp;omega) (by rw[eij];omega) hl (by omega);rw[eij,ei,R,R,CP (n:=vs.getD i 0) (by omega),CP (n:=us.getD (i+j) 0) (by omega),CP (n:=us.getD (i+j) 0+vs.getD i 0) (by omega),CP (n:=us.getD (i+j) 0+vs.getD i 0+c) (by omega),cN,Es] at h1;exact CE.loop h1 (ih (i+1) _ _ (by omega) (by simpa using hl) (CF hu (by omega)) (by omega))
end
theorem Awz{X c b:Int}(hX:0<=X/\X<4294967296)(hc:0<=c/\c<4294967296)(hb:0<=b/\b<=1) :
  d (I U (I U (I U X-c)-b)) (2^(min (D 63) (An .u64)))=(if X-c-b<0 then 1 else 0)/\I Ae (I U (I U (I U X-c)-b))=(X-c-b) % 4294967296:=by
 rw[Awl,CP (n:=X) (by omega),BF,BF,Es];refine⟨?_,by omega⟩;split <;> omega
section
variable {vs:LI} {m:Nat} {k kq:Nat} {s:Int}
theorem Afx(hv:A_ vs)(hm:vs.length=m+2)(ht:2147483648<=vs.getD (m+1) 0)(hk:k=kq+vs.length)(hkb:k<=1048577):∀ (i:Nat) (us qs:LI),i<=kq->us.length=k->A_ us->qs.length=kq->A_ qs->(∀ t,t<i->qs.getD t 0=0)->Ab (us.drop i)<Ab vs ->
  ∃ us' qs',Ap (.loop OW) (I2 k us vs (vs.length:Nat) (vs.getD (m+1) 0) (vs.getD m 0) kq qs s ((i:Int)-1)) (.exit 0) (I2 k us' vs (vs.length:Nat) (vs.getD (m+1) 0) (vs.getD m 0) kq qs' s (-1)) /\
   us'.length=k/\A_ us'/\qs'.length=kq/\A_ qs'/\Ab us'<Ab vs/\Ab us=Ab vs*(Ab qs'-Ab qs)+Ab us':=by
 intro i;induction i with
 | zero =>
  intro us qs _ h1 h2 h3 h4 _ h6;exact⟨us,qs,Ah (Awy k us vs _ _ _ kq qs s _ (by simp)),h1,h2,h3,h4,h6,by rw[Sg,AG,Ed]⟩
 | succ i ih =>
  intro us qs hi h1 h2 h3 h4 h5 h6;have ei:(((i+1:Nat):Int)-1)=(i:Nat):=by omega
  have ej:I O ((i:Int)-1)=(i:Int)-1:=Bg (by omega) (by omega);have en:I O ((i:Int)+(vs.length:Int))=((i+vs.length:Nat):Int):=by rw[Bg (by omega) (by omega)];omega
  have en1:I O (((i+vs.length:Nat):Int)-1)=((i+m+1:Nat):Int):=by rw[Bg (by omega) (by omega)];omega
  have hD:=Aca (us:=us) (vs:=vs) (j:=i) (m:=m) h2 hv hm (by omega) ht h6;have hI:=hD.init;have hr1:=EU (us.getD (i+m+2) 0*4294967296+us.getD (i+m+1) 0) (show 0<vs.getD (m+1) 0 by omega);have ht2:=hD.htop;obtain⟨g,r,q1,q2,q3,q4⟩:=vG (k:=k) (kq:=kq) (qs:=qs) (s:=s) h1 hkb (by omega) hD _ _ _ (Ao _) hI (by omega);rw[<- hm] at q1;have hn0:0<=us.getD (i+m+2) 0*4294967296+us.getD (i+m+1) 0:=by have:=hD.hx;have:=hD.hy;omega
  have hq0:=hI.g0;have hq1:=hI.gle;have hl5:Ap (.loop IK) (EQ k us vs (vs.length:Nat) (vs.getD (m+1) 0) (vs.getD m 0) kq qs s (i:Nat) (I U (Ax (I U ((T (An .u64) (I U ((I U (us.getD (D (I O ((i:Int)+(vs.length:Int)))) 0))*2^(min (D 32) (An .u64)))) ||| T (An .u64) (I U (us.getD (D (I O ((I O ((i:Int)+(vs.length:Int)))-1))) 0))).toNat)) (vs.getD (m+1) 0))) (AB (I U ((T (An .u64) (I U ((I U (us.getD (D (I O ((i:Int)+(vs.length:Int)))) 0))*2^(min (D 32) (An .u64)))) ||| T (An .u64) (I U (us.getD (D (I O ((I O ((i:Int)+(vs.length:Int)))-1))) 0))).toNat)) (vs.getD (m+1) 0))) (.exit 2) (EQ k us vs (vs.length:Nat) (vs.getD (m+1) 0) (vs.getD m 0) kq qs s (i:Nat) g r):=by
   rw[en,en1,R,R,show i+vs.length=i+m+2 by omega,CP (n:=us.getD (i+m+2) 0) (by have:=hD.hx;omega),Ph hD.hx hD.hy,BK hn0,B1 hn0,CP ⟨hq0,by omega⟩];exact q1
  have hms:=vH (k:=k) (t:=vs.getD (m+1) 0) (t2:=vs.getD m 0) (kq:=kq) (qs:=qs) (s:=s) (j:=i) (g:=g) hv hkb q2 (by omega) vs.length 0 us 0 0 (by omega) h1 h2 (by omega) (by omega);have hmo:=YF (j:=i) q2 hv vs.length 0 us 0 0 (by omega) (by omega) h2 (by omega) (by omega);have hst:=W3 h2 hv (j:=i) (by omega) h6 q2 q3 q4;generalize hM:Gu g vs i vs.length 0 us 0 0=M at *
  obtain⟨m1,m2,m3,m4,_,_⟩:=hmo;obtain⟨d1,d2⟩:=Awz (AL m2 (i+vs.length)) m4 m3;dsimp only at hst;obtain⟨S1,S2⟩:=hst;have fin:∀ (ws:LI) (q:Int),StepOk us vs ws i q->(0<=q/\q<4294967296)->Ap OW (I2 k us vs (vs.length:Nat) (vs.getD (m+1) 0) (vs.getD m 0) kq qs s (i:Nat)) .norm (I2 k ws vs (vs.length:Nat) (vs.getD (m+1) 0) (vs.getD m 0) kq (qs.set i q) s ((i:Int)-1)) ->
    ∃ us' qs',Ap (.loop OW) (I2 k us vs (vs.length:Nat) (vs.getD (m+1) 0) (vs.getD m 0) kq qs s (i:Nat)) (.exit 0) (I2 k us' vs (vs.length:Nat) (vs.getD (m+1) 0) (vs.getD m 0) kq qs' s (-1)) /\
   us'.length=k/\A_ us'/\qs'.length=kq/\A_ qs'/\Ab us'<Ab vs/\Ab us=Ab vs*(Ab qs'-Ab qs)+Ab us':=by
   intro ws q hs hq hrun;obtain⟨us',qs',a1,a2,a3,a4,a5,a6,a7⟩:=ih ws (qs.set i q) (by omega) (by rw[hs.len];exact h1) hs.u32 (by simpa using h3) (CF h4 hq) (fun t ht=>by rw[CA (by omega)];exact h5 t (by omega)) hs.low;refine⟨us',qs',CE.loop hrun a1,a2,a3,a4,a5,a6,?_⟩;have e:=hs.val;rw[Ej _ _ _ (by omega),h5 i (by omega),F8] at a7;generalize (4294967296:Int)^i=P at *
   grind
  rw[ei];by_cases hd:M.1.getD (i+vs.length) 0-M.2.2-M.2.1<0
  ·obtain⟨S2,hg1⟩:=S2 hd;have hu2:A_ (M.1.set (i+vs.length) ((M.1.getD (i+vs.length) 0-M.2.2-M.2.1) % 4294967296)):=CF m2 (by omega);have hab:=vI (k:=k) (t:=vs.getD (m+1) 0) (t2:=vs.getD m 0) (kq:=kq) (qs:=qs) (s:=s) (j:=i) (g:=g-1) hv hkb (by omega) vs.length 0 (M.1.set (i+vs.length) ((M.1.getD (i+vs.length) 0-M.2.2-M.2.1) % 4294967296)) 0 (by omega) (by rw[Ba,m1];exact h1) hu2 (by omega);have hao:=YG (j:=i) hv vs.length 0 (M.1.set (i+vs.length) ((M.1.getD (i+vs.length) 0-M.2.2-M.2.1) % 4294967296)) 0 (by omega) (by rw[Ba,m1];omega) hu2 (by omega);obtain⟨b1,b2,b3,_,_⟩:=hao;generalize hB:Jd vs i vs.length 0 (M.1.set (i+vs.length) ((M.1.getD (i+vs.length) 0-M.2.2-M.2.1) % 4294967296)) 0=Bb at *
   have eg:I U (g-1)=g-1:=CP (by omega);have k1:=Aww k us vs (vs.length:Nat) (vs.getD (m+1) 0) (vs.getD m 0) kq qs s (i:Nat) M.1 Bb.1 g r M.2.1 M.2.2 Bb.2 (by simp) (by rw[en,R,d1,if_pos hd];rfl) (by rw[en];omega) h1 (by rw[en,en1];omega) (by omega) hl5 hms (by rw[m1];exact h1) (by rw[en,R,d2,eg];exact hab) (by rw[b1,Ba,m1];exact h1) (by omega) h3;rw[en,R,eg,R,Un (n:=g-1) (by omega),ej,Un (n:=Bb.2) (by omega),Es] at k1;exact fin _ _ S2 (by omega) k1
  ·have k2:=Awx k us vs (vs.length:Nat) (vs.getD (m+1) 0) (vs.getD m 0) kq qs s (i:Nat) M.1 g r M.2.1 M.2.2 (by simp) (by rw[en,R,d1,if_neg hd];rfl) (by rw[en];omega) h1 (by rw[en,en1];omega) (by omega) hl5 hms (by rw[m1];exact h1) (by omega) h3;rw[en,R,R,d2,Un (n:=g) q2,ej] at k2;exact fin _ _ (S1 (by omega)) q2 k2
end
def TQB:C8:=TQA
theorem DD:Co DK TQB:=vF
theorem Axa(b1 b2 na nb:Bool)(xs ys as1 bs qs rs:LI)(v w:Int)(n1:RQ 143 [o [B b1,sL lm xs]] (Ar [B na,sL lm as1]))(n2:RQ 143 [o [B b2,sL lm ys]] (Ar [B nb,sL lm bs]))(n3:RQ 180 [sL lm as1,sL lm bs] (Ar [sL lm qs,sL lm rs]))(n4:RQ 152 [B (!(na==nb)),sL lm qs] (Ag v))(n5:RQ 152 [B na,sL lm rs] (Ag w)):RQ 158 [o [B b1,sL lm xs],o [B b2,sL lm ys]] (Ar [Ag v,Ag w]):=i (fn:=iF Mv Ash) DD rfl 400 rfl [.r (Ar [B na,sL lm as1]),.r (Ar [B nb,sL lm bs]),.r (Ar [sL lm qs,sL lm rs]),.r (Ag v),.r (Ag w)] (JL n1 n2 n3 n4 n5)
def Yr:ICode:=c Atn 93 116
def QS(xs:LI)(v:Int)(n:Int)(i:Int):Aj:=(W 3 (C (F U v)::(W 3 (C (sL lm xs)::(C (F O n)::(C (F O i)::(W 14 [])))))))
theorem Axb(xs:LI)(v:Int)(n:Int)(i:Int)(c1:A (i<n)=true)(n1:0<=i/\i<(xs.length:Int))(n2:¬ (I U (I O (32*i)))<0):Ap Yr (QS xs v n i) .norm (QS xs (I U ((T (An .u64) v ||| T (An .u64) (I U ((I U (xs.getD (D i) 0))*2^(min (D (I U (I O (32*i)))) (An .u64))))).toNat)) n (I O (i+1))):=(J DD [bT,.v (F Ae (xs.getD (D i) 0))] [3,7,8,9] (JS c1 n1 (p n1) n2))
theorem Axc(xs:LI)(v:Int)(n:Int)(i:Int)(c1:A (i<n)=false):Ap Yr (QS xs v n i) (.exit 0) (QS xs v n i):=(J DD [bF] [3,7,8,9] (Jx c1))
theorem Axd(n:Bool)(xs:LI)(v i m:Int)(hl1:Ap (.loop Yr) (QS xs 0 (xs.length:Int) 0) (.exit 0) (QS xs v m i)):RQ 183 [o [B n,sL lm xs]] (F U v):=OO Atn (W 2 (C (F U v)::(W 21 []))) (CE.asc (Av (CE.seq (J DD [] [3,7,8,9] a0) (CE.seq (CE.block hl1) (J DD [] [2] a0)))))
theorem Axe(n v:Int)(n1:RQ 152 [B false,H 2 [F Ae (I Ae n),F Ae (I Ae (d n (2^(min (D 32) (An .u64)))))]] (Ag v)):RQ 181 [F U n] (Ag v):=i (fn:=iF Mv Ati) DD rfl 400 rfl [.r (Ag v)] (J0 Jn n1)
def Yq:ICode:=c Atl 95 24
def QT(a:Int)(b:Int):Aj:=(C (F U a)::(C (F U b)::(W 10 [])))
theorem Axf(a:Int)(b:Int)(c1:A (b>0)=true)(n1:¬ b=0):Ap Yq (QT a b) .norm (QT b (AB a b)):=(J DD [bT] [0,1] (J0 c1 n1))
theorem mY(a:Int)(b:Int)(c1:A (b>0)=false):Ap Yq (QT a b) (.exit 0) (QT a b):=(J DD [bF] [0,1] (Jx c1))
theorem Axg(a b a1 b1:Int)(hl1:Ap (.loop Yq) (QT a b) (.exit 0) (QT a1 b1)):RQ 182 [F U a,F U b] (F U a1):=OO Atl (W 4 (C (F U a1)::(W 7 []))) (CE.seq (J DD [] [0,1] a0) (CE.seq (CE.block hl1) (J DD [] [4] a0)))
def NE:ICode:=c Asj 94 56
def H4(x:Rn)(y:Rn)(z:Rn):Aj:=(W 4 (Ay [B z.1,H z.2.length (lm z.2)]::(Ay [B x.1,H x.2.length (lm x.2)]::(Ay [B y.1,H y.2.length (lm y.2)]::(W 35 [])))))
theorem Axh(x:Rn)(y:Rn)(z:Rn)(ua ub ug g:Int)(c1:A ((y.2.length:Int)>0)=true)(c2:A ((x.2.length:Int)<=2)=true)(c3:A ((y.2.length:Int)<=2)=true)(n1:RQ 183 [Az x] (F U ua))(n2:RQ 183 [Az y] (F U ub))(n3:RQ 182 [F U ua,F U ub] (F U ug))(n4:RQ 181 [F U ug] (Ag g)):Ap NE (H4 x y z) .ret (H4 x y (cn g)):=(J DD [bT,bT,bT,.r (F U ua),.r (F U ub),.r (F U ug),.r (Ag g)] NC (Lm c1 c2 c3 n1 n2 n3 n4))
theorem Axi(x:Rn)(y:Rn)(z:Rn)(q r:Int)(c1:A ((y.2.length:Int)>0)=true)(c2:A ((x.2.length:Int)<=2)=true)(c3:A ((y.2.length:Int)<=2)=false)(n1:RQ 158 [Az x,Az y] (Ar [Ag q,Ag r])):Ap NE (H4 x y z) .norm (H4 y (cn r) z):=(J DD [bT,bT,bF,.r (Ar [Ag q,Ag r])] NC (JS c1 c2 c3 n1))
theorem Axj(x:Rn)(y:Rn)(z:Rn)(q r:Int)(c1:A ((y.2.length:Int)>0)=true)(c2:A ((x.2.length:Int)<=2)=false)(n1:RQ 158 [Az x,Az y] (Ar [Ag q,Ag r])):Ap NE (H4 x y z) .norm (H4 y (cn r) z):=(J DD [bT,bF,bF,.r (Ar [Ag q,Ag r])] NC (JS c1 c2 Fc n1))
theorem mZ(x:Rn)(y:Rn)(z:Rn)(c1:A ((y.2.length:Int)>0)=false):Ap NE (H4 x y z) (.exit 0) (H4 x y z):=(J DD [bF] NC (Jx c1))
theorem vJ(b1 b2:Bool)(xs ys:LI)(v w:Int)(x y z:Rn)(n1:RQ 160 [o [B b1,sL lm xs]] (Ag v))(n2:RQ 160 [o [B b2,sL lm ys]] (Ag w))(hl3:Ap (.loop NE) (H4 (cn v) (cn w) (false,[])) (.exit 0) (H4 x y z)):RQ 159 [o [B b1,sL lm xs],o [B b2,sL lm ys]] (Az x):=OO Asj (W 4 (Ay [B x.1,H x.2.length (lm x.2)]::(W 37 []))) (CE.asc (CE.seq (J DD [.r (Ag v),.r (Ag w)] NC (J0 n1 n2)) (CE.seq (CE.block hl3) (J DD [] [4] a0))))
theorem vK(b1 b2:Bool)(xs ys:LI)(v w:Int)(x y z:Rn)(n1:RQ 160 [o [B b1,sL lm xs]] (Ag v))(n2:RQ 160 [o [B b2,sL lm ys]] (Ag w))(hl3:Ap (.loop NE) (H4 (cn v) (cn w) (false,[])) .ret (H4 x y z)):RQ 159 [o [B b1,sL lm xs],o [B b2,sL lm ys]] (Az z):=OO Asj (W 4 (Ay [B z.1,H z.2.length (lm z.2)]::(Ay [B x.1,H x.2.length (lm x.2)]::(Ay [B y.1,H y.2.length (lm y.2)]::(W 35 []))))) (CE.asc (CE.seq (J DD [.r (Ag v),.r (Ag w)] NC (J0 n1 n2)) (A4 (BO hl3))))
def TQC:C8:=TQB
theorem vL:Co DK TQC:=DD
end
end Go.Proofs.YtajompaehjkgkaaGreat
