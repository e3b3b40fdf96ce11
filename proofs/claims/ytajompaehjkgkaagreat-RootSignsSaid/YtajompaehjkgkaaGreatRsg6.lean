/- Texts of the proof of RootSigns: part 6 of 13. -/
import Derived.Laws.BitsAllLaws
import Derived.KernelRfl
import Derived.Test.YtajompaehjkgkaaGreatRsg5
namespace Go.Ai
open Go.RowKit
open BitVec renaming ofInt->T,toNat_and->Nj,toNat_ofNat->IF,toNat_or->iJ
open Bool renaming and_eq_true->Ad,false_eq_true->Ca
open Decidable renaming decide->B
open Go.IntKind renaming bits->Al,wrap->D
open Int renaming emod->bF,fdiv->d,natCast_pow->CT,ofNat->Jo,ofNat_eq_natCast->Ja,sub->A4f,tdiv->As,tmod->AA
open List renaming ext_getElem->Y9,getD_eq_getElem?_getD->Z,getElem?_append_left->AK,getElem?_append_right->AR,getElem?_eq_getElem->Af,getElem?_replicate->K9,rec->ZJ,replicate->Ar
open Nat renaming beq->CP,ble->rV,ble_eq_true_of_le->iO,blt->Fa,div->Ix,eq_of_beq_eq_true->CF,le_of_ble_eq_true->iP,le_refl->An,mod->Pk,mod_eq_of_lt->Fk,rec->Na,sub_zero->JH,succ->Nb,zero_le->Bv
open Option renaming getD_some->G6,map_some->A4
def TI:Int->Int->Bool
 | .ofNat m,.ofNat n=>Fa m n
 | .ofNat _,.negSucc _=>false
 | .negSucc _,.ofNat _=>true
 | .negSucc m,.negSucc n=>Fa n m
def leI(a b:Int):Bool := !(TI b a)
def WN:Int->Int->Bool
 | .ofNat m,.ofNat n=>CP m n
 | .negSucc m,.negSucc n=>CP m n
 | _,_=>false
theorem I_(m n:Nat):Fa m n=decide (m<n):=by
 cases h:Fa m n
 ·symm;rw[decide_eq_false_iff_not];intro hlt;have:rV (m+1) n=true:=iO hlt;rw[Fa] at h;rw[this] at h;cases h
 ·symm;rw[decide_eq_true_iff];exact iP h
theorem TT(a b:Int):TI a b=decide (a<b):=by
 cases a with
 | ofNat m=>cases b with
  | ofNat n=>simp only[TI,I_];rw[decide_eq_decide];simp only[Ja];omega
  | negSucc n=>simp only[TI];symm;rw[decide_eq_false_iff_not];simp only[Ja];omega
 | negSucc m=>cases b with
  | ofNat n=>simp only[TI];symm;rw[decide_eq_true_iff];simp only[Ja];omega
  | negSucc n=>simp only[TI,I_];rw[decide_eq_decide];omega
theorem Awu(a b:Int):leI a b=decide (a<=b):=by
 simp only[leI,TT];by_cases h:b<a
 ·rw[decide_eq_true h,decide_eq_false (by omega)];rfl
 ·rw[decide_eq_false h,decide_eq_true (by omega)];rfl
theorem rW(a b:Int):WN a b=decide (a=b):=by
 cases a with
 | ofNat m=>cases b with
  | ofNat n =>
   simp only[WN];by_cases h:m=n
   ·subst h;simp
   ·have h2:CP m n=false:=by cases hh:CP m n with | false=>rfl | true=>exact absurd (CF hh) h
    rw[h2];symm;rw[decide_eq_false_iff_not];intro e;exact h (Int.ofNat.inj e)
  | negSucc n=>simp only[WN];symm;rw[decide_eq_false_iff_not];intro e;cases e
 | negSucc m=>cases b with
  | ofNat n=>simp only[WN];symm;rw[decide_eq_false_iff_not];intro e;cases e
  | negSucc n =>
   simp only[WN];by_cases h:m=n
   ·subst h;simp
   ·have h2:CP m n=false:=by cases hh:CP m n with | false=>rfl | true=>exact absurd (CF hh) h
    rw[h2];symm;rw[decide_eq_false_iff_not];intro e;exact h (Int.negSucc.inj e)
def bE(n:Int)(m:Nat):Int:=bF n (Jo m)
def XA(n:Int)(h m:Nat):Int:=cond (TI (bF n (Jo m)) (Jo h)) (bF n (Jo m)) (A4f (bF n (Jo m)) (Jo m))
def Lu(k:IntKind)(n:Int):Int :=
 match k with
 | .u8=>bE n 256
 | .u16=>bE n 65536
 | .u32=>bE n 4294967296
 | .u64=>bE n 18446744073709551616
 | .i8=>XA n 128 256
 | .i16=>XA n 32768 65536
 | .i32=>XA n 2147483648 4294967296
 | .i64=>XA n 9223372036854775808 18446744073709551616
theorem Akm(n:Int)(h m:Nat):XA n h m=if n % (m:Int)>=h then n % (m:Int)-m else n % (m:Int):=by
 unfold XA;rw[TT];show (cond (B (n % (m:Int)<(h:Int))) (n % (m:Int)) (n % (m:Int)-(m:Int)))=_;by_cases hh:n % (m:Int)<h
 ·rw[decide_eq_true hh,if_neg (by omega)];rfl
 ·rw[decide_eq_false hh,if_pos (by omega)];rfl
theorem JY(k:IntKind)(n:Int):Lu k n=k.wrap n:=by
 cases k <;> simp[Lu,bE,Akm,D,Al,IntKind.signed] <;> rfl
section
variable {α:Type}
noncomputable def DV (n:Nat) (k:Nat->α):α:=Na (motive:=fun _=>α) (k 0) (fun m _=>k (Nb m)) n
noncomputable def RZ (i:Int) (k:Int->α):α:=Int.rec (motive:=fun _=>α) (fun n=>DV n fun n=>k (.ofNat n)) (fun n=>DV n fun n=>k (.negSucc n)) i
noncomputable def I2 (b:Bool) (k:Bool->α):α:=Bool.rec (motive:=fun _=>α) (k false) (k true) b
noncomputable def G7 (l:List AV):(List AV->α)->α:=ZJ (motive:=fun _=>(List AV->α)->α) (fun k=>k []) (fun x _ ih k=>ih fun xs=>k (x::xs)) l
theorem Gj(n:Nat)(k:Nat->α):DV n k=k n:=by cases n <;> rfl
theorem YZ(i:Int)(k:Int->α):RZ i k=k i:=by cases i <;> simp only [RZ,Gj]
theorem Lv(b:Bool)(k:Bool->α):I2 b k=k b:=by cases b <;> rfl
theorem Mw(l:List AV):∀ k:List AV->α,G7 l k=k l:=by
 induction l with
 | nil=>intro k;rfl
 | cons x l ih=>intro k;exact ih _
noncomputable def Jb (x:AV) (k:AV->α):α :=
 match x with
 | .int kd n=>RZ n fun n=>k (.int kd n)
 | .bool b=>I2 b fun b=>k (.bool b)
 | .agg cs=>G7 cs fun cs=>k (.agg cs)
 | .sl n cs=>DV n fun n=>G7 cs fun cs=>k (.sl n cs)
 | .fresh m n cs=>DV n fun n=>G7 cs fun cs=>k (.fresh m n cs)
 | .frs (.st b) m n cs=>I2 b fun b=>DV n fun n=>G7 cs fun cs=>k (.frs (.st b) m n cs)
 | .frs (.tp b) m n cs=>I2 b fun b=>DV n fun n=>G7 cs fun cs=>k (.frs (.tp b) m n cs)
 | .pt cs=>G7 cs fun cs=>k (.pt cs)
 | .fnc f cs=>G7 cs fun cs=>k (.fnc f cs)
 | .tup cs=>G7 cs fun cs=>k (.tup cs)
 | x=>k x
theorem NJ(x:AV)(k:AV->α):Jb x k=k x:=by
 cases x
 case frs b m n cs=>cases b <;> simp only[Jb,Lv,Mw,Gj]
 all_goals simp only[Jb,YZ,Lv,Mw,Gj]
noncomputable def OA (r:Reg) (k:Reg->α):α :=
 match r with
 | .val x=>Jb x fun x=>k (.val x)
 | .box cs=>G7 cs fun cs=>k (.box cs)
 | .ptr d off=>DV off fun off=>k (.ptr d off)
 | .mem cs=>G7 cs fun cs=>k (.mem cs)
 | .own m n cs=>DV n fun n=>G7 cs fun cs=>k (.own m n cs)
 | .agn (.st b) m n cs=>I2 b fun b=>DV n fun n=>G7 cs fun cs=>k (.agn (.st b) m n cs)
 | .agn (.tp b) m n cs=>I2 b fun b=>DV n fun n=>G7 cs fun cs=>k (.agn (.tp b) m n cs)
 | r=>k r
theorem Y_(r:Reg)(k:Reg->α):OA r k=k r:=by
 cases r
 case agn b m n cs=>cases b <;> simp only[OA,Lv,Mw,Gj]
 all_goals simp only[OA,NJ,Mw,Gj]
end
def HZ(g:Nat->Reg)(o:Opd):Option AV :=
 match o with
 | .t n=>(match g n with | .val x=>some x | _=>none)
 | .c x=>some x
def Akn(g:Nat->Reg):Opd->Reg
 | .t n=>g n
 | .c x => .val x
theorem QL(s:Ak)(o:Opd):HZ (A2 s) o=o.av s:=by cases o <;> rfl
theorem Ako(s:Ak)(o:Opd):Akn (A2 s) o=o.reg s:=by cases o <;> rfl
def SV(g:Nat->Reg):List Opd->Option (List AV)
 | []=>some []
 | o::l=>match HZ g o with
  | none=>none
  | some x=>match SV g l with
   | none=>none
   | some xs=>some (x::xs)
theorem bG(s:Ak):∀ l,SV (A2 s) l=avs s l
 | []=>rfl
 | o::l=>by simp only[SV,avs,QL,bG s l];rfl
def R'(g:Nat->Reg):List AV->List (Nat × Nat × Opd)->Option (List AV)
 | cs,[]=>some cs
 | cs,(off,n,o)::ps =>
  match HZ g o with
  | none=>none
  | some x=>match Gf x n with
   | none=>none
   | some ys=>match Cu cs off ys with
    | none=>none
    | some cs'=>R' g cs' ps
theorem XB(s:Ak):∀ (ps:List (Nat × Nat × Opd)) (cs:List AV),R' (A2 s) cs ps=FL s cs ps
 | [],cs=>rfl
 | (off,n,o)::ps,cs=>by simp only[R',FL,QL,XB s ps];rfl
def SW(g:Nat->Reg)(d:Nat):Option Opd->Option Nat
 | none=>some d
 | some o=>match HZ g o with
  | some (.int _ i)=>cond (TI i (.ofNat 0)) none (some i.toNat)
  | _=>none
theorem Akp(s:Ak)(d:Nat)(o:Option Opd):SW (A2 s) d o=GD s d o:=by
 cases o with
 | none=>rfl
 | some o =>
  simp only[SW,GD,QL];generalize o.av s=x;cases x with
  | none=>rfl
  | some v =>
   cases v <;> first | rfl | skip
   rename_i k i;dsimp only;rw[TT];show cond (B (i<0)) _ _=_;by_cases h:i<0
   ·rw[decide_eq_true h,if_neg (by omega)];rfl
   ·rw[decide_eq_false h,if_pos (by omega)];rfl
def isK:IntKind->IntKind->Bool
 | .i8,.i8=>true
 | .i16,.i16=>true
 | .i32,.i32=>true
 | .i64,.i64=>true
 | .u8,.u8=>true
 | .u16,.u16=>true
 | .u32,.u32=>true
 | .u64,.u64=>true
 | _,_=>false
theorem rX(k k':IntKind):isK k k'=decide (k=k'):=by cases k <;> cases k' <;> rfl
def QM:IntKind->Nat
 | .i8=>256 | .u8=>256 | .i16=>65536 | .u16=>65536 | .i32=>4294967296 | .u32=>4294967296 | .i64=>18446744073709551616 | .u64=>18446744073709551616
theorem V0(k:IntKind):QM k=2^k.bits:=by cases k <;> rfl
def Mx(f:Nat->Nat->Nat)(op:BinOp)(k:IntKind)(x y:Int):Option AV :=
 match x,y with
 | .ofNat m,.ofNat n=>cond (Fa m (QM k)&&Fa n (QM k)) (some (.int k (Lu k (.ofNat (f m n))))) ((Lp op k x y).map (.int k))
 | _,_=>(Lp op k x y).map (.int k)
theorem EB(w m:Nat)(h:m<2^w):(T w (Jo m)).toNat=m:=by
 have:T w (Jo m)=BitVec.ofNat w m:=by
  apply BitVec.eq_of_toNat_eq;simp
 rw[this,IF,Fk h]
theorem jO(k:IntKind)(x y:Int):Mx Nat.land .and k x y=(Lp .and k x y).map (.int k):=by
 unfold Mx;split
 ·rename_i m n;cases h:(Fa m (QM k)&&Fa n (QM k))
  ·rfl
  ·simp only[I_,Ad,decide_eq_true_eq,V0] at h;simp only[cond_true,Lp,A4,JY,Nj,EB _ _ h.1,EB _ _ h.2];rfl
 ·rfl
theorem wS(k:IntKind)(x y:Int):Mx Nat.lor .or k x y=(Lp .or k x y).map (.int k):=by
 unfold Mx;split
 ·rename_i m n;cases h:(Fa m (QM k)&&Fa n (QM k))
  ·rfl
  ·simp only[I_,Ad,decide_eq_true_eq,V0] at h;simp only[cond_true,Lp,A4,JY,iJ,EB _ _ h.1,EB _ _ h.2];rfl
 ·rfl
theorem jP(k:IntKind)(x y:Int):Mx Nat.xor .xor k x y=(Lp .xor k x y).map (.int k):=by
 unfold Mx;split
 ·rename_i m n;cases h:(Fa m (QM k)&&Fa n (QM k))
  ·rfl
  ·simp only[I_,Ad,decide_eq_true_eq,V0] at h;simp only[cond_true,Lp,A4,JY,BitVec.toNat_xor,EB _ _ h.1,EB _ _ h.2];rfl
 ·rfl
def rY(y:Int)(k:IntKind):Int := .ofNat (Nat.pow 2 (cond (rV y.toNat k.bits) y.toNat k.bits))
theorem Akq(y:Int)(k:IntKind):rY y k=2^(min y.toNat k.bits):=by
 unfold rY;have:cond (rV y.toNat k.bits) y.toNat k.bits=min y.toNat k.bits:=by
  cases h:rV y.toNat k.bits
  ·have:¬ y.toNat<=k.bits:=by intro hh;rw[iO hh] at h;cases h
   simp only[cond_false];omega
  ·have:=iP h;simp only[cond_true];omega
 rw[this];exact CT 2 _
def jQ(x y:Int):Int :=
 match x,y with
 | .ofNat m,.ofNat n => .ofNat (Ix m n)
 | x,y=>d x y
theorem wT(x y:Int):jQ x y=d x y:=by
 unfold jQ;split
 ·rename_i m n;exact (Int.ofNat_fdiv m n)
 ·rfl
def Akr(op:BinOp)(x y:AV):Option AV :=
 match x,y with
 | .int k a,.int k' b=>(match op with
  | .shl=>cond (TI b (.ofNat 0)) none (some (.int k (Lu k (Int.mul a (rY b k)))))
  | .shr=>cond (TI b (.ofNat 0)) none (some (.int k (jQ a (rY b k))))
  | op=>cond (isK k k') (match op with
   | .add=>some (.int k (Lu k (Int.add a b)))
   | .sub=>some (.int k (Lu k (A4f a b)))
   | .mul=>some (.int k (Lu k (Int.mul a b)))
   | .quo=>cond (WN b (.ofNat 0)) none (some (.int k (Lu k (As a b))))
   | .rem=>cond (WN b (.ofNat 0)) none (some (.int k (AA a b)))
   | .and=>Mx Nat.land .and k a b
   | .or=>Mx Nat.lor .or k a b
   | .xor=>Mx Nat.xor .xor k a b
   | .eql=>some (.bool (WN a b))
   | .neq=>some (.bool (!(WN a b)))
   | .lss=>some (.bool (TI a b))
   | .leq=>some (.bool (leI a b))
   | .gtr=>some (.bool (TI b a))
   | .geq=>some (.bool (leI b a))
   | _=>none) none)
 | _,_=>none
theorem XC{α:Type}(p:Prop)[Decidable p](a b:α):cond (decide p) a b=if p then a else b:=by
 by_cases h:p <;> simp[h]
theorem Aks(a b:Int):(a==b)=decide (a=b):=by
 by_cases h:a=b <;> simp[h]
theorem Akt(op:BinOp)(x y:AV):Akr op x y=L6 op x y:=by
 cases x <;> cases y <;> first | rfl | skip
 rename_i k a k' b;cases op <;> simp only[Akr,L6,IY,Ca,if_false,if_true,rX,XC,ZL,Afa,A4,JY,TT,Awu,rW,jO,wS,jP,Qv,Akq,wT,gt_iff_lt,ge_iff_le,Aks,bne];all_goals rfl
def unF(op:UnOp)(x:AV):Option AV :=
 match op,x with
 | .neg,.int k n=>some (.int k (Lu k (A4f (.ofNat 0) n)))
 | .not,.bool b=>some (.bool (!b))
 | _,_=>none
theorem Awv(op:UnOp)(x:AV):unF op x=unA op x:=by
 cases op <;> cases x <;> simp only[unF,unA,JY];rfl
def jR(i:Int)(n:Nat):Bool:=match i with | .ofNat m=>Fa m n | .negSucc _=>false
theorem Aww(i:Int)(n:Nat):jR i n=decide (0<=i/\i<(n:Int)):=by
 cases i with
 | ofNat m=>simp only[jR,I_];rw[decide_eq_decide];simp only[Ja];omega
 | negSucc m=>simp only[jR];symm;rw[decide_eq_false_iff_not];omega
def Aku(F:BA)(g:Nat->Reg):K->Option (Reg × List (Nat × Reg))
 | .mov x=>match HZ g x with
  | some v=>some (.val v,[])
  | none=>none
 | .pick c a b =>
  match HZ g c with
  | some (.bool true)=>(HZ g a).map fun v=>(.val v,[])
  | some (.bool false)=>(HZ g b).map fun v=>(.val v,[])
  | _=>none
 | .bin op x y =>
  match HZ g x,HZ g y with
  | some a,some b=>(Akr op a b).map fun v=>(.val v,[])
  | _,_=>none
 | .eqb neg x y =>
  match HZ g x,HZ g y with
  | some (.bool a),some (.bool b)=>some (.val (.bool (if neg then !(a==b) else a==b)),[])
  | _,_=>none
 | .un op x=>match HZ g x with
  | some a=>(unF op a).map fun v=>(.val v,[])
  | none=>none
 | .cv k x=>match HZ g x with
  | some (.int _ n)=>some (.val (.int k (Lu k n)),[])
  | _=>none
 | .new z kills=>some (.box z,kills.map fun t=>(t,.dead))
 | .box x kills=>match HZ g x with
  | some (.agg cs)=>some (.box cs,kills.map fun t=>(t,.dead))
  | some x=>if KC x then some (.box [x],kills.map fun t=>(t,.dead)) else none
  | none=>none
 | .bld z ps=>(R' g z ps).map fun cs=>(.val (.agg cs),[])
 | .bls n z ps=>(R' g z ps).map fun cs=>(.val (.sl n cs),[])
 | .adr x d off=>match g x with
  | .box _=>if x=d then some (.ptr d off,[]) else none
  | .ptr d' o=>if d'=d then some (.ptr d (o+off),[]) else none
  | .mem cs=>some (.mem (cs.drop off),[])
  | _=>none
 | .ld x d n one=>match g x with
  | .box cs=>if x=d then (Bm cs 0 n one).map fun v=>(.val v,[]) else none
  | .ptr d' off=>if d'=d then (match g d with
   | .box cs=>(Bm cs off n one).map fun v=>(.val v,[])
   | .own _ _ cs=>(Bm cs off n one).map fun v=>(.val v,[])
   | _=>none) else none
  | .mem cs=>(Bm cs 0 n one).map fun v=>(.val v,[])
  | _=>none
 | .st x d n v=>match HZ g v with
  | none=>none
  | some a=>match Gf a n with
   | none=>none
   | some ys=>match g x with
    | .box cs=>if x=d then (Cu cs 0 ys).map fun cs'=>(.dead,[(d,.box cs')]) else none
    | .ptr d' off=>if d'=d then (match g d with
     | .box cs=>(Cu cs off ys).map fun cs'=>(.dead,[(d,.box cs')])
     | .own k m cs=>(Cu cs off ys).map fun cs'=>(.dead,[(d,.own k m cs')])
     | _=>none) else none
    | _=>none
 | .fld x off n one=>match HZ g x with
  | some (.agg cs)=>(Bm cs off n one).map fun v=>(.val v,[])
  | _=>none
 | .ixa x i k=>match HZ g i with
  | some (.int _ i)=>(match g x with
   | .val (.sl n cs)=>cond (jR i n) (some (.mem (cs.drop (i.toNat*k)),[])) none
   | _=>none)
  | _=>none
 | .six x i=>match HZ g x,HZ g i with
  | some (.str b),some (.int _ i)=>(if 0<=i then b[i.toNat]? else none).map fun c=>(.val (.int .u8 c.toNat),[])
  | _,_=>none
 | .ext x i=>match HZ g x with
  | some (.tup vs)=>(vs[i]?).map fun v=>(.val v,[])
  | _=>none
 | .len x=>match HZ g x with
  | some .nil=>some (.val (.int .i64 0),[])
  | some (.sl n _)=>some (.val (.int .i64 n),[])
  | _=>none
 | .mx xs=>match SV g xs with
  | some (.int k n::l)=>(Xp k n l).map fun m=>(.val (.int k m),[])
  | _=>none
 | .mn xs=>match SV g xs with
  | some (.int k n::l)=>(Xq k n l).map fun m=>(.val (.int k m),[])
  | _=>none
 | .call f xs=>match SV g xs with
  | some vs=>(F f vs).map fun v=>(.val (Kn v),[])
  | none=>none
 | .clo f xs=>match SV g xs with
  | some vs=>(F f vs).map fun v=>(KD v,[])
  | none=>none
 | .brw f x d=>match g x with
  | .dup d'=>if d'=d then (match g d with
   | .own _ n cs=>if cs.all (fun c => !Uk c) then (match F f [.sl n cs] with
    | some y=>if Gx (Kn y) then some (.val (Kn y),[]) else none
    | none=>none) else none
   | _=>none) else none
  | _=>none
 | .cpy x=>match g x with
  | .val v=>some (.val v,[])
  | .own _ _ _=>some (.dup x,[])
  | _=>none
 | .tra x=>match g x with
  | .val v=>some (.val v,[])
  | .own k n cs=>some (.own k n cs,[(x,.dead)])
  | .agn b k n cs=>some (.agn b k n cs,[(x,.dead)])
  | _=>none
 | .frz x=>match g x with
  | .val v=>some (.val v,[])
  | .own _ n cs=>some (.val (.sl n cs),[(x,.val (.sl n cs))])
  | _=>none
 | .mks z n=>match HZ g n with
  | some (.int _ m)=>cond (jR m 1048577) (some (.own z.length m.toNat (Cp z m.toNat),[])) none
  | _=>none
 | .blo k n z ps=>(R' g z ps).map fun cs=>(.own k n cs,[])
 | .apd ow x y k B=>match HZ g y with
  | some .nil=>(match Akn g x with
   | .val .nil=>some (.val .nil,[])
   | .own k' n cs=>if k'=k then some (if ow then .own k n cs else .val (.sl n cs),P2 x) else none
   | _=>none)
  | some (.sl m ys)=>if ys.length=m*k then (match Akn g x with
   | .val .nil=>if m<=B then some (if ow then .own k m ys else .val (.sl m ys),[]) else none
   | .own k' n cs=>if k'=k/\n+m<=B then some (if ow then .own k (n+m) (cs++ys) else .val (.sl (n+m) (cs++ys)),P2 x) else none
   | _=>none) else none
  | _=>none
 | .sli x lo hi mx k=>match HZ g x with
  | some .nil=>(match SW g 0 mx,SW g 0 hi,SW g 0 lo with
   | some 0,some 0,some 0=>if mx.isSome->hi.isSome then some (.val .nil,[]) else none
   | _,_,_=>none)
  | some (.sl n cs)=>(match SW g n mx,SW g n hi,SW g 0 lo with
   | some m,some h,some l=>if l<=h/\h<=m/\m<=n/\(mx.isSome->hi.isSome) then some (.val (.sl (h-l) ((cs.drop (l*k)).take ((h-l)*k))),[]) else none
   | _,_,_=>none)
  | _=>none
 | .ixo x d i k=>match HZ g i with
  | some (.int _ i)=>(match g x with
   | .val (.sl n cs)=>cond (jR i n) (some (.mem (cs.drop (i.toNat*k)),[])) none
   | .dup d'=>if d'=d then (match g d with
    | .own k' n _=>if k'=k then cond (jR i n) (some (.ptr d (i.toNat*k),[])) none else none
    | _=>none) else none
   | _=>none)
  | _=>none
 | .lno x d=>match g x with
  | .val .nil=>some (.val (.int .i64 0),[])
  | .val (.sl n _)=>some (.val (.int .i64 n),[])
  | .dup d'=>if d'=d then (match g d with
   | .own _ n _=>some (.val (.int .i64 n),[])
   | _=>none) else none
  | _=>none
 | .nlo k=>some (.own k 0 [],[])
 | .bdo a x l=>match HZ g a with
  | some (.bool b)=>(match g x with
   | .own k n cs=>if l.all (fun t=>Ge (g t)) then some (.agn (.st b) k n cs,[(x,.dead)]) else none
   | _=>none)
  | _=>none
 | .cln f xs l=>match SV g xs with
  | some vs=>if l.all (fun t=>Ge (g t)) then (F f vs).map fun v=>(KD v,[]) else none
  | none=>none
 | .stl x v=>match g x with
  | .box cs=>(match g v with
   | .agn (.st _) _ _ _=>if cs.length=2 then some (.dead,[(x,.bxl v)]) else none
   | _=>none)
  | _=>none
 | .fdo x=>match g x with
  | .agn (.st _) k n cs=>some (.own k n cs,[(x,.dead)])
  | _=>none
 | .exo x=>match g x with
  | .agn (.tp b) k n cs=>some (.own k n cs,[(x,.val (.tup [.sl n [],.bool b]))])
  | _=>none
 | .slo x hi k=>match HZ g hi with
  | some (.int _ h)=>(match g x with
   | .own k' n cs=>if k'=k/\0<=h/\h<=n then some (.own k h.toNat (cs.take (h.toNat*k)),[(x,.dead)]) else none
   | _=>none)
  | _=>none
 | .bad=>none
theorem Akv(F:BA)(s:Ak)(k:K):Aku F (A2 s) k=B7 F s k:=by
 cases k <;> simp only[Aku,B7,QL,bG,XB,Ako,Akp,Akt,Awv,JY,Aww,XC]
 case mov x=>cases x.av s <;> rfl
 case mks z n =>
  generalize n.av s=x;cases x with
  | none=>rfl
  | some v =>
   cases v <;> first | rfl | skip
   rename_i k m;have:(0<=m/\m<((1048577:Nat):Int))↔(0<=m/\m<=1048576):=by omega
   simp only[this]
 case ixo x d i k =>
  generalize i.av s=y;cases y with
  | none=>rfl
  | some v =>
   cases v <;> first | rfl | skip
   rename_i kk m;generalize A2 s x=r;cases r <;> first | rfl | skip
   ·rename_i v;cases v <;> rfl
   ·rename_i d';dsimp only;by_cases hd:d'=d
    ·rw[if_pos hd,if_pos hd];generalize A2 s d=r2;cases r2 <;> first | rfl | skip
     rename_i k' n cs;by_cases hk:k'=k <;> simp[hk]
    ·rw[if_neg hd,if_neg hd]
 all_goals rfl
inductive Tr where
 | e
 | n (l:Tr) (v:Reg) (r:Tr)
noncomputable def Tr.get (t:Tr):Nat->Reg :=
 Tr.rec (motive:=fun _=>Nat->Reg) (fun _ => .dead) (fun _ v _ gl gr i=>Na (motive:=fun _=>Reg) v (fun j _=>cond (CP (Pk j 2) 0) (gl (Ix j 2)) (gr (Ix j 2))) i) t
theorem wU(i:Nat):Tr.e.get i = .dead:=rfl
theorem Za(l:Tr)(v:Reg)(r:Tr):(Tr.n l v r).get 0=v:=rfl
theorem If(l:Tr)(v:Reg)(r:Tr)(j:Nat):(Tr.n l v r).get (j+1)=cond (CP (j % 2) 0) (l.get (j / 2)) (r.get (j / 2)):=rfl
section
variable {α:Type}
noncomputable def QN (f:Nat):Tr->Nat->Reg->(Tr->Option α)->Option α :=
 Na (motive:=fun _=>Tr->Nat->Reg->(Tr->Option α)->Option α) (fun _ _ _ _=>none)
  (fun _ ih t i x k=>Tr.rec (motive:=fun _=>Option α)
   (Na (motive:=fun _=>Option α) (k (.n .e x .e)) (fun j _=>cond (CP (Pk j 2) 0) (DV (Ix j 2) fun j=>ih .e j x fun l'=>k (.n l' .dead .e)) (DV (Ix j 2) fun j=>ih .e j x fun r'=>k (.n .e .dead r'))) i)
   (fun l v r _ _=>Na (motive:=fun _=>Option α) (k (.n l x r)) (fun j _=>cond (CP (Pk j 2) 0) (DV (Ix j 2) fun j=>ih l j x fun l'=>k (.n l' v r)) (DV (Ix j 2) fun j=>ih r j x fun r'=>k (.n l v r'))) i) t) f
theorem XD{i j:Nat}(h1:i % 2=j % 2)(h2:i / 2=j / 2):i=j:=by omega
theorem bH:∀ (f:Nat) (t:Tr) (i:Nat) (x:Reg) (k:Tr->Option α) (y:α),QN f t i x k=some y->∃ t',k t'=some y/\∀ u,t'.get u=if u=i then x else t.get u:=by
 intro f;induction f with
 | zero=>intro t i x k y h;cases h
 | succ f ih =>
  intro t i x k y h;have key:∀ (l r:Tr) (v:Reg),(∀ u,(Tr.n l v r).get u=t.get u) ->
    (match i with
     | 0=>k (.n l x r)
     | j+1=>cond (CP (Pk j 2) 0) (DV (Ix j 2) fun j=>QN f l j x fun l'=>k (.n l' v r)) (DV (Ix j 2) fun j=>QN f r j x fun r'=>k (.n l v r')))=some y ->
    ∃ t',k t'=some y/\∀ u,t'.get u=if u=i then x else t.get u:=by
   intro l r v ht h;cases i with
   | zero =>
    refine⟨_,h,fun u => ?_⟩;cases u with
    | zero=>simp[Za]
    | succ u=>rw[if_neg (by omega),<- ht];rfl
   | succ j =>
    dsimp only at h;cases hj:CP (Pk j 2) 0
    ·rw[hj] at h;simp only[cond_false,Gj] at h;obtain⟨r',h1,h2⟩:=ih r _ x _ y h;have hj':j % 2=1:=by
      have:¬ j % 2=0:=fun e=>by
       have:CP (Pk j 2) 0=true:=by show CP (j % 2) 0=true;rw[e];rfl
       rw[this] at hj;cases hj
      omega
     refine⟨_,h1,fun u => ?_⟩;cases u with
     | zero=>rw[if_neg (by omega),<- ht];rfl
     | succ u =>
      rw[<- ht,If,If,h2];cases hu:CP (u % 2) 0
      ·have hu':u % 2=1:=by
        have:¬ u % 2=0:=fun e=>by rw[e] at hu;cases hu
        omega
       simp only[cond_false];show (if u / 2=j / 2 then _ else _)=_;by_cases hh:u / 2=j / 2
       ·have:u=j:=XD (by omega) hh;rw[if_pos hh,if_pos (by omega)]
       ·rw[if_neg hh,if_neg (by omega)]
      ·have hu':u % 2=0:=CF hu;simp only[cond_true];rw[if_neg (by omega)]
    ·rw[hj] at h;simp only[cond_true,Gj] at h;obtain⟨l',h1,h2⟩:=ih l _ x _ y h;have hj':j % 2=0:=CF hj;refine⟨_,h1,fun u => ?_⟩;cases u with
     | zero=>rw[if_neg (by omega),<- ht];rfl
     | succ u =>
      rw[<- ht,If,If,h2];cases hu:CP (u % 2) 0
      ·have hu':u % 2=1:=by
        have:¬ u % 2=0:=fun e=>by rw[e] at hu;cases hu
        omega
       simp only[cond_false];rw[if_neg (by omega)]
      ·have hu':u % 2=0:=CF hu;simp only[cond_true];show (if u / 2=j / 2 then _ else _)=_;by_cases hh:u / 2=j / 2
       ·have:u=j:=XD (by omega) hh;rw[if_pos hh,if_pos (by omega)]
       ·rw[if_neg hh,if_neg (by omega)]
  cases t with
  | e =>
   refine key .e .e .dead (fun u => ?_) (by cases i <;> exact h);cases u with
   | zero=>rfl
   | succ u=>rw[If];cases CP (u % 2) 0 <;> rfl
  | n l v r=>exact key l r v (fun _=>rfl) (by cases i <;> exact h)
def KO(t:Tr)(s:Ak):Prop:=∀ u,t.get u=A2 s u
noncomputable def V3 (m:Nat) (t:Tr) (d:Nat) (r:Reg) (k:Tr->Option α):Option α:=cond (Fa d m) (OA r fun r=>QN 12 t d r k) none
theorem V4{m:Nat}{t:Tr}{s:Ak}{d:Nat}{r:Reg}{k:Tr->Option α}{y:α}(hs:s.length=m)(ht:KO t s)(h:V3 m t d r k=some y):∃ t',k t'=some y/\KO t' (s.set d r):=by
 unfold V3 at h;cases hd:Fa d m
 ·rw[hd] at h;cases h
 ·rw[hd] at h;simp only[cond_true,Y_] at h;obtain⟨t',h1,h2⟩:=bH 12 t d r k y h;refine⟨t',h1,fun u => ?_⟩;simp only[I_,decide_eq_true_eq] at hd;rw[h2,Dn];by_cases hu:u=d
  ·subst hu;rw[if_pos rfl,if_pos ⟨rfl,by omega⟩]
  ·rw[if_neg hu,if_neg (fun e=>hu e.1.symm)];exact ht u
noncomputable def Zb (m:Nat) (l:List (Nat × Reg)):Tr->(Tr->Option α)->Option α :=
 ZJ (motive:=fun _=>Tr->(Tr->Option α)->Option α) (fun t k=>k t) (fun p _ ih t k=>V3 m t p.1 p.2 fun t=>ih t k) l
theorem R_{m:Nat}:∀ {l:List (Nat × Reg)} {t:Tr} {s:Ak} {k:Tr->Option α} {y:α},s.length=m->KO t s->Zb m l t k=some y->∃ t',k t'=some y/\KO t' (BS s l)
 | [],t,s,k,y,_,ht,h=>⟨t,h,ht⟩
 | (d,r)::l,t,s,k,y,hs,ht,h=>by
  obtain⟨t',h1,h2⟩:=V4 hs ht h;exact R_ (l:=l) (by simp[hs]) h2 (show Zb m l t' k=some y from h1)
noncomputable def Akw (m:Nat) (t:Tr) (d:Option Nat) (r:Reg) (k:Tr->Option α):Option α :=
 match d with
 | none=>k t
 | some d=>V3 m t d r k
theorem bI{m:Nat}{t:Tr}{s:Ak}{d:Option Nat}{r:Reg}{k:Tr->Option α}{y:α}(hs:s.length=m)(ht:KO t s)(h:Akw m t d r k=some y):∃ t',k t'=some y/\KO t' (DQ s d r):=by
 cases d with
 | none=>exact⟨t,h,ht⟩
 | some d=>exact V4 hs ht h
def Akx(g:Nat->Reg):Option (Nat × Bool)->Option Bool
 | none=>some true
 | some (t,b)=>match g t with
  | .val (.bool c)=>some (c==b)
  | .val .undef=>some false
  | _=>none
theorem wV(s:Ak)(g:Option (Nat × Bool)):Akx (A2 s) g=GE s g:=by cases g <;> rfl
noncomputable def fOp (F:BA) (m:Nat) (o:IOp) (t:Tr) (k:Tr->Option α):Option α :=
 Zb m (o.ks.map fun u=>(u,Reg.dead)) t fun t =>
  match Akx t.get o.g with
  | none=>none
  | some false=>Akw m t o.dst (.val .undef) k
  | some true=>match Aku F t.get o.k with
   | none=>none
   | some (r,l)=>Zb m l t fun t=>Akw m t o.dst r k
theorem Awx{F:BA}{m:Nat}{o:IOp}{t:Tr}{s:Ak}{k:Tr->Option α}{y:α}(hs:s.length=m)(ht:KO t s)(h:fOp F m o t k=some y):∃ s' t',FM F o s=some s'/\s'.length=m/\KO t' s'/\k t'=some y:=by
 unfold fOp at h;obtain⟨t1,h1,h2⟩:=R_ hs ht h;have hs1:(kill s o.ks).length=m:=by rw[kill,F2];exact hs
 have e1:t1.get=A2 (kill s o.ks):=funext h2;rw[e1,wV] at h1;simp only[FM,H_];have hl:∀ (s:Ak) (d:Option Nat) (r:Reg),(DQ s d r).length=s.length:=by intro s d r;cases d <;> simp[DQ]
 split at h1
 ·cases h1
 ·rename_i hw;rw[hw];obtain⟨t2,h3,h4⟩:=bI hs1 h2 h1;exact⟨_,t2,rfl,by rw[hl];exact hs1,h4,h3⟩
 ·rename_i hw;rw[hw];rw[Akv] at h1;split at h1
  ·cases h1
  ·rename_i r l hk;obtain⟨t2,h3,h4⟩:=R_ hs1 h2 h1;obtain⟨t3,h5,h6⟩:=bI (by rw[F2];exact hs1) h4 h3;refine⟨_,t3,by simp only[hk],by rw[hl,F2];exact hs1,h6,h5⟩
noncomputable def A4g (F:BA) (m:Nat) (l:List IOp):Tr->(Tr->Option α)->Option α :=
 ZJ (motive:=fun _=>Tr->(Tr->Option α)->Option α) (fun t k=>k t) (fun o _ ih t k=>fOp F m o t fun t=>ih t k) l
theorem bJ{F:BA}{m:Nat}:∀ {l:List IOp} {t:Tr} {s:Ak} {k:Tr->Option α} {y:α},s.length=m->KO t s->A4g F m l t k=some y->∃ s' t',D_ F l s=some s'/\s'.length=m/\KO t' s'/\k t'=some y
 | [],t,s,k,y,hs,ht,h=>⟨s,t,rfl,hs,ht,h⟩
 | o::l,t,s,k,y,hs,ht,h=>by
  obtain⟨s1,t1,h1,h2,h3,h4⟩:=Awx hs ht h;obtain⟨s2,t2,h5,h6,h7,h8⟩:=bJ h2 h3 h4;exact⟨s2,t2,by simp only[D_,h1];exact h5,h6,h7,h8⟩
noncomputable def fC (F:BA) (m:Nat) (n:Nat):ICode->Tr->(Ex->Tr->Option α)->Option α :=
 Na (motive:=fun _=>ICode->Tr->(Ex->Tr->Option α)->Option α) (fun _ _ _=>none) (fun _ ih c t k =>
  match c with
  | .skip=>k .norm t
  | .region _ ops=>A4g F m ops t fun t=>k .norm t
  | .seq a b=>ih a t fun ex t=>(match ex with | .norm=>ih b t k | .exit i=>k (.exit i) t | .ret=>k .ret t)
  | .cond c a b=>(match HZ t.get c with | some (.bool true)=>ih a t k | some (.bool false)=>ih b t k | _=>none)
  | .block id c=>ih c t fun ex t=>(match ex with | .norm=>k .norm t | .exit i=>cond (CP i id) (k .norm t) (k (.exit i) t) | .ret=>k .ret t)
  | .loop c=>ih c t fun ex t=>(match ex with | .norm=>ih (.loop c) t k | .exit i=>k (.exit i) t | .ret=>k .ret t)
  | .scope c=>ih c t k
  | .exit id=>k (.exit id) t
  | .ret=>k .ret t) n
theorem A5e{F:BA}{m:Nat}:∀ (n:Nat) {c:ICode} {t:Tr} {s:Ak} {k:Ex->Tr->Option α} {y:α},s.length=m->KO t s->fC F m n c t k=some y->∃ ex s' t',Cg F n c s=some (ex,s')/\s'.length=m/\KO t' s'/\k ex t'=some y:=by
 intro n;induction n with
 | zero=>intro c t s k y _ _ h;cases h
 | succ n ih =>
  intro c t s k y hs ht h;cases c with
  | skip=>exact⟨.norm,s,t,rfl,hs,ht,h⟩
  | region d ops =>
   obtain⟨s',t',h1,h2,h3,h4⟩:=bJ hs ht h;exact⟨.norm,s',t',by simp only[Cg,h1,A4],h2,h3,h4⟩
  | seq a b =>
   obtain⟨ex,s1,t1,h1,h2,h3,h4⟩:=ih (c:=a) hs ht h;cases ex with
   | norm =>
    obtain⟨ex,s2,t2,h5,h6,h7,h8⟩:=ih (c:=b) h2 h3 h4;exact⟨ex,s2,t2,by simp only[Cg,h1];exact h5,h6,h7,h8⟩
   | exit i=>exact⟨.exit i,s1,t1,by simp only[Cg,h1],h2,h3,h4⟩
   | ret=>exact⟨.ret,s1,t1,by simp only[Cg,h1],h2,h3,h4⟩
  | cond o a b =>
   have e1:t.get=A2 s:=funext ht;have h':(match HZ t.get o with | some (.bool true)=>fC F m n a t k | some (.bool false)=>fC F m n b t k | _=>none)=some y:=h
   rw[e1,QL] at h';split at h'
   ·rename_i hc;obtain⟨ex,s1,t1,h1,h2,h3,h4⟩:=ih (c:=a) hs ht h';exact⟨ex,s1,t1,by simp only[Cg,Js,hc];exact h1,h2,h3,h4⟩
   ·rename_i hc;obtain⟨ex,s1,t1,h1,h2,h3,h4⟩:=ih (c:=b) hs ht h';exact⟨ex,s1,t1,by simp only[Cg,Js,hc];exact h1,h2,h3,h4⟩
   ·cases h'
  | block id c =>
   obtain⟨ex,s1,t1,h1,h2,h3,h4⟩:=ih (c:=c) hs ht h;cases ex with
   | norm=>exact⟨.norm,s1,t1,by simp only[Cg,h1],h2,h3,h4⟩
   | ret=>exact⟨.ret,s1,t1,by simp only[Cg,h1],h2,h3,h4⟩
   | exit i =>
    by_cases hi:i=id
    ·subst hi;have:CP i i=true:=Nat.beq_refl i;simp only[this,cond_true] at h4;exact⟨.norm,s1,t1,by simp only[Cg,h1,if_true],h2,h3,h4⟩
    ·have:CP i id=false:=by cases hh:CP i id with | false=>rfl | true=>exact absurd (CF hh) hi
     simp only[this,cond_false] at h4;exact⟨.exit i,s1,t1,by simp only[Cg,h1,if_neg hi],h2,h3,h4⟩
  | loop c =>
   obtain⟨ex,s1,t1,h1,h2,h3,h4⟩:=ih (c:=c) hs ht h;cases ex with
   | norm =>
    obtain⟨ex,s2,t2,h5,h6,h7,h8⟩:=ih (c := .loop c) h2 h3 h4;exact⟨ex,s2,t2,by simp only[Cg,h1];exact h5,h6,h7,h8⟩
   | exit i=>exact⟨.exit i,s1,t1,by simp only[Cg,h1],h2,h3,h4⟩
   | ret=>exact⟨.ret,s1,t1,by simp only[Cg,h1],h2,h3,h4⟩
  | scope c =>
   obtain⟨ex,s1,t1,h1,h2,h3,h4⟩:=ih (c:=c) hs ht h;exact⟨ex,s1,t1,by simp only[Cg];exact h1,h2,h3,h4⟩
  | exit id=>exact⟨.exit id,s,t,rfl,hs,ht,h⟩
  | ret=>exact⟨.ret,s,t,rfl,hs,ht,h⟩
end
def A4h(g:Nat->Reg):IRes->Option AV
 | .tmp t=>match g t with
  | .val x=>some x
  | .own _ n cs=>some (.sl n cs)
  | _=>none
 | .cell t n one=>match g t with
  | .box cs=>Bm cs 0 n one
  | _=>none
def Zc(g:Nat->Reg):List IRes->Option (List AV)
 | []=>some []
 | r::l=>match A4h g r with
  | none=>none
  | some x=>match Zc g l with
   | none=>none
   | some xs=>some (x::xs)
def rZ(g:Nat->Reg):List IRes->Option AV
 | [.tmp t]=>match g t with
  | .own k n cs=>some (.fresh k n cs)
  | .agn b k n cs=>some (.frs b k n cs)
  | _=>none
 | [.tmp t,.tmp u]=>match g t with
  | .own k n cs=>(match g u with
   | .val (.bool b)=>some (.frs (.tp b) k n cs)
   | _=>none)
  | _=>none
 | [.cell t n one]=>match g t with
  | .bxl d=>(match g d with
   | .agn (.st b) k m cs=>if n=2/\one=false then some (.frs (.st b) k m cs) else none
   | _=>none)
  | _=>none
 | _=>none
def LH(g:Nat->Reg)(l:List IRes):Option AV :=
 match rZ g l with
 | some x=>some x
 | none=>match Zc g l with
  | some [x]=>some x
  | some xs=>some (.tup xs)
  | none=>none
theorem Aky(s:Ak)(r:IRes):A4h (A2 s) r=EH s r:=by cases r <;> rfl
theorem XE(s:Ak):∀ l,Zc (A2 s) l=DJ s l
 | []=>rfl
 | r::l=>by simp only[Zc,DJ,Aky,XE s l];rfl
theorem jS(s:Ak)(l:List IRes):rZ (A2 s) l=HA s l:=by
 cases l with
 | nil=>rfl
 | cons r l=>cases r <;> cases l <;> rfl
theorem SX(s:Ak)(l:List IRes):LH (A2 s) l=H0 s l:=by simp only [LH,H0,jS,XE];rfl
inductive Pr where
 | e
 | n (l:Pr) (v:Option IFunc) (r:Pr)
noncomputable def Pr.get (t:Pr):Nat->Option IFunc :=
 Pr.rec (motive:=fun _=>Nat->Option IFunc) (fun _=>none) (fun _ v _ gl gr i=>Na (motive:=fun _=>Option IFunc) v (fun j _=>cond (CP (Pk j 2) 0) (gl (Ix j 2)) (gr (Ix j 2))) i) t
noncomputable def Zd {α:Type} (m:Nat) (l:List AV):Nat->Tr->(Tr->Option α)->Option α :=
 ZJ (motive:=fun _=>Nat->Tr->(Tr->Option α)->Option α) (fun _ t k=>k t) (fun x _ ih i t k=>V3 m t i (KE x) fun t=>ih (Nb i) t k) l
theorem XF{α:Type}{m:Nat}:∀ {l:List AV} {i:Nat} {t:Tr} {s:Ak} {k:Tr->Option α} {y:α},s.length=m->KO t s->Zd m l i t k=some y->∃ t' s',k t'=some y/\KO t' s'/\s'.length=m/\(l=[]\/i+l.length<=m)/\∀ u,A2 s' u=if h:i<=u/\u-i<l.length then KE (l[u-i]'h.2) else A2 s u
 | [],i,t,s,k,y,hs,ht,h=>⟨t,s,h,ht,hs,.inl rfl,fun u=>by rw[dif_neg (by simp)]⟩
 | x::l,i,t,s,k,y,hs,ht,h=>by
  have hlt:i<m:=by
   have h':V3 m t i (KE x) (fun t=>Zd m l (Nb i) t k)=some y:=h;unfold V3 at h';cases hd:Fa i m
   ·rw[hd] at h';cases h'
   ·simpa [I_] using hd
  obtain⟨t1,h1,h2⟩:=V4 hs ht h;obtain⟨t2,s2,h3,h4,h5,h7,h6⟩:=XF (l:=l) (i:=Nb i) (by simp[hs]) h2 h1;refine⟨t2,s2,h3,h4,h5,.inr ?_,fun u => ?_⟩
  ·rcases h7 with rfl | h7
   ·simp;omega
   ·simp;omega
  rw[h6];by_cases hu:u=i
  ·subst hu;rw[dif_neg (by omega),dif_pos ⟨An _,by simp⟩,Dn,if_pos ⟨rfl,by omega⟩];simp
  ·rw[Dn,if_neg (fun e=>hu e.1.symm)];by_cases hc:Nb i<=u/\u-Nb i<l.length
   ·rw[dif_pos hc,dif_pos ⟨by omega,by simp;omega⟩];have:u-i=(u-Nb i)+1:=by omega
    simp[this]
   ·rw[dif_neg hc,dif_neg (by simp;omega)]
theorem jT{s s':Ak}(hl:s.length=s'.length)(h:∀ u,A2 s u=A2 s' u):s=s':=by
 apply Y9 hl;intro i h1 h2;have:=h i;simp only[A2,Z,Af h1,Af h2,G6] at this;exact this
noncomputable def fF (T:Pr) (M:BA) (n:Nat):BA :=
 Na (motive:=fun _=>BA) (fun _ _=>none) (fun n ih f args =>
  match M f args with
  | some r=>some r
  | none=>match T.get f with
   | none=>none
   | some fn=>cond (CP args.length fn.params) (Zd fn.slots args 0 .e fun t=>fC ih fn.slots n fn.body t fun ex t=>(match ex with
    | .exit _=>none
    | .norm=>(LH t.get fn.res).bind fun x=>Jb x some
    | .ret=>(LH t.get fn.res).bind fun x=>Jb x some)) none) n
theorem k{prog:Nat->Option IFunc}{T:Pr}{M:BA}(hT:∀ f fn,T.get f=some fn->prog f=some fn)(hM:N7 prog M):∀ n,N7 prog (fF T M n):=by
 intro n;induction n with
 | zero=>intro f args r h;cases h
 | succ n ih =>
  intro f args r h;have h':(match M f args with
   | some r=>some r
   | none=>match T.get f with
    | none=>none
    | some fn=>cond (CP args.length fn.params) (Zd fn.slots args 0 .e fun t=>fC (fF T M n) fn.slots n fn.body t fun ex t=>(match ex with
     | .exit _=>none
     | .norm=>(LH t.get fn.res).bind fun x=>Jb x some
     | .ret=>(LH t.get fn.res).bind fun x=>Jb x some)) none)=some r:=h
  split at h'
  ·rename_i r' hr;cases h';exact hM f args r hr
  ·split at h'
   ·cases h'
   ·rename_i fn hfn;cases hp:CP args.length fn.params
    ·rw[hp] at h';cases h'
    ·rw[hp] at h';simp only[cond_true] at h';have hpar:args.length=fn.params:=CF hp;obtain⟨t1,s1,h1,h2,h3,h9,h4⟩:=XF (s:=Ar fn.slots .dead) (by simp) (fun u=>by
      simp only[wU,A2,Z,K9];split <;> rfl) h'
     obtain⟨ex,s2,t2,h5,h6,h7,h8⟩:=A5e n h3 h2 h1;have hle:args.length<=fn.slots:=by
      rcases h9 with rfl | h9
      ·simp
      ·omega
     have hinit:s1=HG fn args:=by
      refine jT (by rw[h3];simp[HG];omega) (fun u => ?_);rw[h4];simp only[Bv,true_and,JH];simp only[A2,HG,Z];by_cases hu:u<args.length
      ·rw[dif_pos hu,AK (by simpa using hu)];simp[hu]
      ·rw[dif_neg hu,AR (by simpa using hu)];simp only[K9];split <;> split <;> rfl
     subst hinit;have e2:t2.get=A2 s2:=funext h7;have hbody:=Uw ih n h5;cases ex with
     | exit i=>cases h8
     | norm =>
      dsimp only at h8;rw[e2,SX] at h8;simp only[NJ] at h8;exact H2 (hT f fn hfn) hpar hbody (fun i e=>by cases e) (by simpa using h8)
     | ret =>
      dsimp only at h8;rw[e2,SX] at h8;simp only[NJ] at h8;exact H2 (hT f fn hfn) hpar hbody (fun i e=>by cases e) (by simpa using h8)
def TU(p:Nat->IFunc->Prop):Pr->(Nat->Nat)->Prop
 | .e,_=>True
 | .n l v r,φ=>(∀ fn,v=some fn->p (φ 0) fn)/\TU p l (fun j=>φ (2*j+1))/\TU p r (fun j=>φ (2*j+2))
theorem NK{p:Nat->IFunc->Prop}:∀ {t:Pr} {φ:Nat->Nat} {f:Nat} {fn:IFunc},TU p t φ->t.get f=some fn->p (φ f) fn
 | .e,φ,f,fn,_,h=>by cases h
 | .n l v r,φ,f,fn,ha,h=>by
  cases f with
  | zero=>exact ha.1 fn h
  | succ j =>
   have h':(cond (CP (j % 2) 0) (l.get (j / 2)) (r.get (j / 2)))=some fn:=h;cases hj:CP (j % 2) 0
   ·rw[hj] at h';have hj':j % 2=1:=by
     have:¬ j % 2=0:=fun e=>by rw[e] at hj;cases hj
     omega
    have:=NK ha.2.2 h';have e:2*(j / 2)+2=j+1:=by omega
    simp only[e] at this;exact this
   ·rw[hj] at h';have hj':j % 2=0:=CF hj;have:=NK ha.2.1 h';have e:2*(j / 2)+1=j+1:=by omega
    simp only[e] at this;exact this
def SY(f:AV->AV->Bool):List AV->List AV->Bool
 | [],[]=>true
 | x::xs,y::ys=>f x y&&SY f xs ys
 | _,_=>false
def PN:Nat->AV->AV->Bool
 | 0,_,_=>false
 | n+1,x,y=>match x,y with
  | .int k a,.int k' b=>isK k k'&&WN a b
  | .bool a,.bool b=>a==b
  | .nil,.nil=>true
  | .undef,.undef=>true
  | .agg xs,.agg ys=>SY (PN n) xs ys
  | .tup xs,.tup ys=>SY (PN n) xs ys
  | .sl a xs,.sl b ys=>CP a b&&SY (PN n) xs ys
  | _,_=>false
theorem NL{f:AV->AV->Bool}(h:∀ x y,f x y=true->x=y):∀ {xs ys:List AV},SY f xs ys=true->xs=ys
 | [],[],_=>rfl
 | x::xs,y::ys,hh=>by
  simp only[SY,Ad] at hh;rw[h x y hh.1,NL h hh.2]
 | [],_::_,hh=>by cases hh
 | _::_,[],hh=>by cases hh
theorem wW:∀ (n:Nat) (x y:AV),PN n x y=true->x=y:=by
 intro n;induction n with
 | zero=>intro x y h;cases h
 | succ n ih =>
  intro x y h;cases x <;> cases y <;> simp only[PN,Ad,Ca,rX,rW,decide_eq_true_eq,beq_iff_eq] at h
  ·rw[h.1,h.2]
  ·rw[h]
  ·rw[NL ih h]
  ·rfl
  ·rw[CF h.1,NL ih h.2]
  ·rw[NL ih h]
  ·rfl
def A4i(f:Nat)(args:List AV)(r:AV)(M:BA):BA:=fun f' args'=>cond (CP f' f&&SY (PN 9) args' args) (some r) (M f' args')
theorem b{prog:Nat->Option IFunc}{f:Nat}{args:List AV}{r:AV}{M:BA}(h:H prog f args r)(hM:N7 prog M):N7 prog (A4i f args r M):=by
 intro f' args' r' h';unfold A4i at h';cases hc:(CP f' f&&SY (PN 9) args' args)
 ·rw[hc] at h';exact hM f' args' r' h'
 ·rw[hc] at h';cases h';rw[Ad] at hc;rw[CF hc.1,NL (wW 9) hc.2];exact h
def Awy:BA:=fun _ _=>none
theorem j(prog:Nat->Option IFunc):N7 prog Awy:=fun _ _ _ h=>by cases h
end Go.Ai
namespace Go.Proofs.YtajompaehjkgkaaGreat
open Go.Ai
set_option maxRecDepth 100000
open Go.Proofs.Tryz renaming func7->Avw,prog->c
open List renaming forall_mem_cons->J,mem_cons_of_mem->AS,mem_cons_self->AZ
theorem Awz:c.follows .mixedOrders=true:=by kernel_rfl
def Akz:List (Nat × IFunc):=[(7,WL),(12,rJ),(13,U1),(15,Xz),(18,NA),(20,aD),(21,aE),(22,aF),(23,rK),(24,rL),(25,rM),(27,Pi),(28,rN),(33,aG),(34,aH),(35,QA),(46,aI),(47,rO),(49,rP),(50,aJ),(51,X1),(52,aL),(53,aM),(54,U4),(55,aN),(56,X3),(57,aO),(62,rQ),(63,aP),(64,U5),(65,aR),(66,aT),(67,SP),(68,aU),(69,X5),(70,X6),(72,U6),(73,Pj),(74,rR),(75,X7),(76,NB),(77,rS),(79,U7),(80,aW),(82,U8),(83,SR),(84,aY),(85,NC),(86,X8),(95,U9),(96,bA),(97,bB),(98,rT),(99,bD),(100,R9),(101,YN),(102,RA),(103,ND),(104,RB),(105,PB),(106,UB),(108,RC),(110,UD),(111,YO),(112,UF),(113,YP),(114,Ic),(115,RE),(116,UH),(117,UJ),(118,UK),(119,UL),(120,PE),(121,UM),(122,UO),(123,UQ),(124,YQ),(125,UR),(126,YR),(127,YS),(128,Jy),(129,US),(130,RG),(131,YT),(132,YU),(133,UT),(134,RH),(135,RI),(136,UU),(137,UW),(138,UX),(143,RJ),(144,UY),(145,UZ),(146,U_),(147,RK),(148,Va),(149,Vb),(150,YV),(151,RS),(152,RT),(153,Ve),(154,YW),(155,PJ),(156,Vg),(157,Vh),(158,Vi),(159,RV),(160,Vj),(161,Vk),(162,Vl),(163,RW),(164,Vm),(165,PL),(177,Vn),(178,RX),(179,Vo),(180,PM),(181,Vp),(182,Vr),(183,Vt),(184,YX),(187,Vv),(188,Vw),(189,Vy)]
def I(f:Nat):Option IFunc:=Akz.lookup f
theorem Ala:∀ p∈Akz,∃ fn roots,c.funcs[p.1]?=some fn/\AU c roots fn p.2=true:=by
 unfold Akz;refine J.2 ⟨⟨_,Yr7,Avw,Awt⟩,?_⟩;refine J.2 ⟨⟨_,A2e,Tryz.func12,Afr⟩,?_⟩;refine J.2 ⟨⟨_,A2f,Tryz.func13,Afs⟩,?_⟩;refine J.2 ⟨⟨_,A2g,Tryz.func15,Aft⟩,?_⟩;refine J.2 ⟨⟨_,A2h,Tryz.func18,Afu⟩,?_⟩;refine J.2 ⟨⟨_,A2i,Tryz.func20,Afv⟩,?_⟩;refine J.2 ⟨⟨_,A2j,Tryz.func21,Afw⟩,?_⟩;refine J.2 ⟨⟨_,A2k,Tryz.func22,Afx⟩,?_⟩;refine J.2 ⟨⟨_,A2l,Tryz.func23,Afy⟩,?_⟩;refine J.2 ⟨⟨_,A2m,Tryz.func24,Afz⟩,?_⟩;refine J.2 ⟨⟨_,A2n,Tryz.func25,Aga⟩,?_⟩;refine J.2 ⟨⟨_,A2o,Tryz.func27,Agb⟩,?_⟩;refine J.2 ⟨⟨_,A2p,Tryz.func28,Agc⟩,?_⟩;refine J.2 ⟨⟨_,A2q,Tryz.func33,Agd⟩,?_⟩;refine J.2 ⟨⟨_,A2r,Tryz.func34,Age⟩,?_⟩;refine J.2 ⟨⟨_,A2s,Tryz.func35,Agf⟩,?_⟩;refine J.2 ⟨⟨_,A2t,Tryz.func46,Agg⟩,?_⟩;refine J.2 ⟨⟨_,A2u,Tryz.func47,Agh⟩,?_⟩;refine J.2 ⟨⟨_,A2v,Tryz.func49,Agi⟩,?_⟩;refine J.2 ⟨⟨_,A2w,Tryz.func50,Agj⟩,?_⟩;refine J.2 ⟨⟨_,A2x,Tryz.func51,Agk⟩,?_⟩;refine J.2 ⟨⟨_,A2y,Tryz.func52,Agl⟩,?_⟩;refine J.2 ⟨⟨_,A2z,Tryz.func53,Agm⟩,?_⟩;refine J.2 ⟨⟨_,A3a,Tryz.func54,Agn⟩,?_⟩;refine J.2 ⟨⟨_,A3b,Tryz.func55,Ago⟩,?_⟩;refine J.2 ⟨⟨_,A3c,Tryz.func56,Agp⟩,?_⟩;refine J.2 ⟨⟨_,A3d,Tryz.func57,Agq⟩,?_⟩;refine J.2 ⟨⟨_,A3e,Tryz.func62,Agr⟩,?_⟩;refine J.2 ⟨⟨_,A3f,Tryz.func63,Ags⟩,?_⟩;refine J.2 ⟨⟨_,A3g,Tryz.func64,Agt⟩,?_⟩;refine J.2 ⟨⟨_,A3h,Tryz.func65,Agu⟩,?_⟩;refine J.2 ⟨⟨_,A3i,Tryz.func66,Agv⟩,?_⟩;refine J.2 ⟨⟨_,A3j,Tryz.func67,Agw⟩,?_⟩;refine J.2 ⟨⟨_,A3k,Tryz.func68,Agx⟩,?_⟩;refine J.2 ⟨⟨_,A3l,Tryz.func69,Agy⟩,?_⟩;refine J.2 ⟨⟨_,A3m,Tryz.func70,Agz⟩,?_⟩;refine J.2 ⟨⟨_,A3n,Tryz.func72,Aha⟩,?_⟩;refine J.2 ⟨⟨_,A3o,Tryz.func73,Ahb⟩,?_⟩;refine J.2 ⟨⟨_,A3p,Tryz.func74,Ahc⟩,?_⟩;refine J.2 ⟨⟨_,A3q,Tryz.func75,Ahd⟩,?_⟩;refine J.2 ⟨⟨_,A3r,Tryz.func76,Ahe⟩,?_⟩;refine J.2 ⟨⟨_,A3s,Tryz.func77,Ahf⟩,?_⟩;refine J.2 ⟨⟨_,A3t,Tryz.func79,Ahg⟩,?_⟩;refine J.2 ⟨⟨_,A3u,Tryz.func80,Ahh⟩,?_⟩;refine J.2 ⟨⟨_,A3v,Tryz.func82,Ahi⟩,?_⟩;refine J.2 ⟨⟨_,A3w,Tryz.func83,Ahj⟩,?_⟩;refine J.2 ⟨⟨_,A3x,Tryz.func84,Ahk⟩,?_⟩;refine J.2 ⟨⟨_,A3y,Tryz.func85,Ahl⟩,?_⟩;refine J.2 ⟨⟨_,A3z,Tryz.func86,Ahm⟩,?_⟩;refine J.2 ⟨⟨_,A4a,Tryz.func95,Ahn⟩,?_⟩;refine J.2 ⟨⟨_,A4b,Tryz.func96,Aho⟩,?_⟩;refine J.2 ⟨⟨_,A4c,Tryz.func97,Ahp⟩,?_⟩;refine J.2 ⟨⟨_,A4d,Tryz.func98,Ahq⟩,?_⟩;refine J.2 ⟨⟨_,A4e,Tryz.func99,Ahr⟩,?_⟩;refine J.2 ⟨⟨_,Ahs,Tryz.func100,tX⟩,?_⟩;refine J.2 ⟨⟨_,Aht,Tryz.func101,tY⟩,?_⟩;refine J.2 ⟨⟨_,Ahu,Tryz.func102,tZ⟩,?_⟩;refine J.2 ⟨⟨_,Ahv,Tryz.func103,uA⟩,?_⟩;refine J.2 ⟨⟨_,Ahw,Tryz.func104,uB⟩,?_⟩;refine J.2 ⟨⟨_,Ahx,Tryz.func105,uC⟩,?_⟩;refine J.2 ⟨⟨_,Ahy,Tryz.func106,uD⟩,?_⟩;refine J.2 ⟨⟨_,Ahz,Tryz.func108,uE⟩,?_⟩;refine J.2 ⟨⟨_,Aia,Tryz.func110,uF⟩,?_⟩;refine J.2 ⟨⟨_,Aib,Tryz.func111,uG⟩,?_⟩;refine J.2 ⟨⟨_,Aic,Tryz.func112,uH⟩,?_⟩;refine J.2 ⟨⟨_,Aid,Tryz.func113,uI⟩,?_⟩;refine J.2 ⟨⟨_,Aie,Tryz.func114,uJ⟩,?_⟩;refine J.2 ⟨⟨_,Aif,Tryz.func115,uK⟩,?_⟩;refine J.2 ⟨⟨_,Aig,Tryz.func116,uL⟩,?_⟩;refine J.2 ⟨⟨_,Aih,Tryz.func117,uM⟩,?_⟩;refine J.2 ⟨⟨_,Aii,Tryz.func118,uN⟩,?_⟩;refine J.2 ⟨⟨_,Aij,Tryz.func119,uO⟩,?_⟩;refine J.2 ⟨⟨_,Aik,Tryz.func120,uP⟩,?_⟩;refine J.2 ⟨⟨_,Ail,Tryz.func121,uQ⟩,?_⟩;refine J.2 ⟨⟨_,Aim,Tryz.func122,uR⟩,?_⟩;refine J.2 ⟨⟨_,Ain,Tryz.func123,uS⟩,?_⟩;refine J.2 ⟨⟨_,Aio,Tryz.func124,uT⟩,?_⟩;refine J.2 ⟨⟨_,Aip,Tryz.func125,uU⟩,?_⟩;refine J.2 ⟨⟨_,Aiq,Tryz.func126,uV⟩,?_⟩;refine J.2 ⟨⟨_,Air,Tryz.func127,uW⟩,?_⟩;refine J.2 ⟨⟨_,Ais,Tryz.func128,uX⟩,?_⟩;refine J.2 ⟨⟨_,Ait,Tryz.func129,uY⟩,?_⟩;refine J.2 ⟨⟨_,Aiu,Tryz.func130,uZ⟩,?_⟩;refine J.2 ⟨⟨_,Aiv,Tryz.func131,vA⟩,?_⟩;refine J.2 ⟨⟨_,Aiw,Tryz.func132,vB⟩,?_⟩;refine J.2 ⟨⟨_,Aix,Tryz.func133,vC⟩,?_⟩;refine J.2 ⟨⟨_,Aiy,Tryz.func134,vD⟩,?_⟩;refine J.2 ⟨⟨_,Aiz,Tryz.func135,vE⟩,?_⟩;refine J.2 ⟨⟨_,Aja,Tryz.func136,vF⟩,?_⟩;refine J.2 ⟨⟨_,Ajb,Tryz.func137,vG⟩,?_⟩;refine J.2 ⟨⟨_,Ajc,Tryz.func138,vH⟩,?_⟩;refine J.2 ⟨⟨_,Ajd,Tryz.func143,vI⟩,?_⟩;refine J.2 ⟨⟨_,Aje,Tryz.func144,vJ⟩,?_⟩;refine J.2 ⟨⟨_,Ajf,Tryz.func145,vK⟩,?_⟩;refine J.2 ⟨⟨_,Ajg,Tryz.func146,vL⟩,?_⟩;refine J.2 ⟨⟨_,Ajh,Tryz.func147,vM⟩,?_⟩;refine J.2 ⟨⟨_,Aji,Tryz.func148,vN⟩,?_⟩;refine J.2 ⟨⟨_,Ajj,Tryz.func149,vO⟩,?_⟩;refine J.2 ⟨⟨_,Ajk,Tryz.func150,vP⟩,?_⟩;refine J.2 ⟨⟨_,Ajl,Tryz.func151,vQ⟩,?_⟩;refine J.2 ⟨⟨_,Ajm,Tryz.func152,vR⟩,?_⟩;refine J.2 ⟨⟨_,Ajn,Tryz.func153,vS⟩,?_⟩;refine J.2 ⟨⟨_,Ajo,Tryz.func154,vT⟩,?_⟩;refine J.2 ⟨⟨_,Ajp,Tryz.func155,vU⟩,?_⟩;refine J.2 ⟨⟨_,Ajq,Tryz.func156,vV⟩,?_⟩;refine J.2 ⟨⟨_,Ajr,Tryz.func157,vW⟩,?_⟩;refine J.2 ⟨⟨_,Ajs,Tryz.func158,vX⟩,?_⟩;refine J.2 ⟨⟨_,Ajt,Tryz.func159,vY⟩,?_⟩;refine J.2 ⟨⟨_,Aju,Tryz.func160,vZ⟩,?_⟩;refine J.2 ⟨⟨_,Ajv,Tryz.func161,wA⟩,?_⟩;refine J.2 ⟨⟨_,Ajw,Tryz.func162,wB⟩,?_⟩;refine J.2 ⟨⟨_,Ajx,Tryz.func163,wC⟩,?_⟩;refine J.2 ⟨⟨_,Ajy,Tryz.func164,wD⟩,?_⟩;refine J.2 ⟨⟨_,Ajz,Tryz.func165,wE⟩,?_⟩;refine J.2 ⟨⟨_,Aka,Tryz.func177,wF⟩,?_⟩;refine J.2 ⟨⟨_,Akb,Tryz.func178,wG⟩,?_⟩;refine J.2 ⟨⟨_,Akc,Tryz.func179,wH⟩,?_⟩;refine J.2 ⟨⟨_,Akd,Tryz.func180,wI⟩,?_⟩;refine J.2 ⟨⟨_,Ake,Tryz.func181,wJ⟩,?_⟩;refine J.2 ⟨⟨_,Akf,Tryz.func182,wK⟩,?_⟩;refine J.2 ⟨⟨_,Akg,Tryz.func183,wL⟩,?_⟩;refine J.2 ⟨⟨_,Akh,Tryz.func184,wM⟩,?_⟩;refine J.2 ⟨⟨_,Aki,Tryz.func187,wN⟩,?_⟩;refine J.2 ⟨⟨_,Akj,Tryz.func188,wO⟩,?_⟩;refine J.2 ⟨⟨_,Akk,Tryz.func189,wP⟩,?_⟩;intro p hp;cases hp
theorem SZ{α:Type}{f:Nat}{x:α}:∀ {l:List (Nat × α)},l.lookup f=some x->(f,x)∈l
 | [],h=>by cases h
 | (g,y)::l,h=>by
  simp only[List.lookup] at h;by_cases hg:f=g
  ·subst hg;simp at h;subst h;exact AZ
  ·have:(f==g)=false:=by simpa using hg
   rw[this] at h;exact AS _ (SZ h)
theorem Axa:∀ f ifn,I f=some ifn->∃ fn roots,c.funcs[f]?=some fn/\AU c roots fn ifn=true:=fun _ _ h=>Ala _ (SZ h)
theorem A5f:I 7=some WL:=by kernel_rfl
theorem Axb:I 12=some rJ:=by kernel_rfl
theorem Axc:I 13=some U1:=by kernel_rfl
theorem Axd:I 15=some Xz:=by kernel_rfl
theorem Axe:I 18=some NA:=by kernel_rfl
theorem Axf:I 20=some aD:=by kernel_rfl
theorem Axg:I 21=some aE:=by kernel_rfl
theorem Axh:I 22=some aF:=by kernel_rfl
theorem Axi:I 23=some rK:=by kernel_rfl
theorem Axj:I 24=some rL:=by kernel_rfl
theorem Axk:I 25=some rM:=by kernel_rfl
theorem Axl:I 27=some Pi:=by kernel_rfl
theorem Axm:I 28=some rN:=by kernel_rfl
theorem Axn:I 33=some aG:=by kernel_rfl
theorem Axo:I 34=some aH:=by kernel_rfl
theorem Axp:I 35=some QA:=by kernel_rfl
theorem Axq:I 46=some aI:=by kernel_rfl
theorem Axr:I 47=some rO:=by kernel_rfl
theorem Axs:I 49=some rP:=by kernel_rfl
theorem Axt:I 50=some aJ:=by kernel_rfl
theorem Axu:I 51=some X1:=by kernel_rfl
theorem Axv:I 52=some aL:=by kernel_rfl
theorem Axw:I 53=some aM:=by kernel_rfl
theorem Axx:I 54=some U4:=by kernel_rfl
theorem Axy:I 55=some aN:=by kernel_rfl
theorem Axz:I 56=some X3:=by kernel_rfl
theorem Aya:I 57=some aO:=by kernel_rfl
theorem Ayb:I 62=some rQ:=by kernel_rfl
theorem Ayc:I 63=some aP:=by kernel_rfl
theorem Ayd:I 64=some U5:=by kernel_rfl
theorem Aye:I 65=some aR:=by kernel_rfl
theorem Ayf:I 66=some aT:=by kernel_rfl
theorem Ayg:I 67=some SP:=by kernel_rfl
theorem Ayh:I 68=some aU:=by kernel_rfl
theorem Ayi:I 69=some X5:=by kernel_rfl
theorem Ayj:I 70=some X6:=by kernel_rfl
theorem Ayk:I 72=some U6:=by kernel_rfl
theorem Ayl:I 73=some Pj:=by kernel_rfl
theorem Aym:I 74=some rR:=by kernel_rfl
theorem Ayn:I 75=some X7:=by kernel_rfl
theorem Ayo:I 76=some NB:=by kernel_rfl
theorem Ayp:I 77=some rS:=by kernel_rfl
theorem Ayq:I 79=some U7:=by kernel_rfl
theorem Ayr:I 80=some aW:=by kernel_rfl
theorem Ays:I 82=some U8:=by kernel_rfl
theorem Ayt:I 83=some SR:=by kernel_rfl
theorem Ayu:I 84=some aY:=by kernel_rfl
theorem Ayv:I 85=some NC:=by kernel_rfl
theorem Ayw:I 86=some X8:=by kernel_rfl
theorem Ayx:I 95=some U9:=by kernel_rfl
theorem Ayy:I 96=some bA:=by kernel_rfl
theorem Ayz:I 97=some bB:=by kernel_rfl
theorem Aza:I 98=some rT:=by kernel_rfl
theorem Azb:I 99=some bD:=by kernel_rfl
theorem Alb:I 100=some R9:=by kernel_rfl
theorem Alc:I 101=some YN:=by kernel_rfl
theorem Ald:I 102=some RA:=by kernel_rfl
theorem Ale:I 103=some ND:=by kernel_rfl
theorem Alf:I 104=some RB:=by kernel_rfl
theorem Alg:I 105=some PB:=by kernel_rfl
theorem Alh:I 106=some UB:=by kernel_rfl
theorem Ali:I 108=some RC:=by kernel_rfl
theorem Alj:I 110=some UD:=by kernel_rfl
theorem Alk:I 111=some YO:=by kernel_rfl
theorem Alm:I 112=some UF:=by kernel_rfl
theorem Aln:I 113=some YP:=by kernel_rfl
theorem Alo:I 114=some Ic:=by kernel_rfl
theorem Alp:I 115=some RE:=by kernel_rfl
theorem Alq:I 116=some UH:=by kernel_rfl
theorem Alr:I 117=some UJ:=by kernel_rfl
theorem Als:I 118=some UK:=by kernel_rfl
theorem Alt:I 119=some UL:=by kernel_rfl
theorem Alu:I 120=some PE:=by kernel_rfl
theorem Alv:I 121=some UM:=by kernel_rfl
theorem Alw:I 122=some UO:=by kernel_rfl
theorem Alx:I 123=some UQ:=by kernel_rfl
theorem Aly:I 124=some YQ:=by kernel_rfl
theorem Alz:I 125=some UR:=by kernel_rfl
theorem Ama:I 126=some YR:=by kernel_rfl
theorem Amb:I 127=some YS:=by kernel_rfl
theorem Amc:I 128=some Jy:=by kernel_rfl
theorem Amd:I 129=some US:=by kernel_rfl
theorem Ame:I 130=some RG:=by kernel_rfl
theorem Amf:I 131=some YT:=by kernel_rfl
theorem Amg:I 132=some YU:=by kernel_rfl
theorem Amh:I 133=some UT:=by kernel_rfl
theorem Ami:I 134=some RH:=by kernel_rfl
theorem Amj:I 135=some RI:=by kernel_rfl
theorem Amk:I 136=some UU:=by kernel_rfl
theorem Aml:I 137=some UW:=by kernel_rfl
theorem Amm:I 138=some UX:=by kernel_rfl
theorem Amn:I 143=some RJ:=by kernel_rfl
theorem Amo:I 144=some UY:=by kernel_rfl
theorem Amp:I 145=some UZ:=by kernel_rfl
theorem Amq:I 146=some U_:=by kernel_rfl
theorem Amr:I 147=some RK:=by kernel_rfl
theorem Ams:I 148=some Va:=by kernel_rfl
theorem Amt:I 149=some Vb:=by kernel_rfl
theorem Amu:I 150=some YV:=by kernel_rfl
theorem Amv:I 151=some RS:=by kernel_rfl
theorem Amw:I 152=some RT:=by kernel_rfl
theorem Amx:I 153=some Ve:=by kernel_rfl
theorem Amy:I 154=some YW:=by kernel_rfl
theorem Amz:I 155=some PJ:=by kernel_rfl
theorem Ana:I 156=some Vg:=by kernel_rfl
theorem Anb:I 157=some Vh:=by kernel_rfl
theorem Anc:I 158=some Vi:=by kernel_rfl
theorem Ane:I 159=some RV:=by kernel_rfl
theorem Anf:I 160=some Vj:=by kernel_rfl
theorem Ang:I 161=some Vk:=by kernel_rfl
theorem Anh:I 162=some Vl:=by kernel_rfl
theorem Ani:I 163=some RW:=by kernel_rfl
theorem Anj:I 164=some Vm:=by kernel_rfl
theorem Ank:I 165=some PL:=by kernel_rfl
theorem Anl:I 177=some Vn:=by kernel_rfl
theorem Anm:I 178=some RX:=by kernel_rfl
theorem Ann:I 179=some Vo:=by kernel_rfl
theorem Ano:I 180=some PM:=by kernel_rfl
theorem Anp:I 181=some Vp:=by kernel_rfl
theorem Anq:I 182=some Vr:=by kernel_rfl
theorem Anr:I 183=some Vt:=by kernel_rfl
theorem Ans:I 184=some YX:=by kernel_rfl
theorem Ant:I 187=some Vv:=by kernel_rfl
theorem Anu:I 188=some Vw:=by kernel_rfl
theorem Anv:I 189=some Vy:=by kernel_rfl
def Ypr:Pr := .n (.n (.n (.n (.n (.n (.n (.n .e (some YS) .e) (some aP) .e) none (.n (.n .e (some RV) .e) (some U9) .e)) (some Xz) (.n (.n (.n .e (some RJ) .e) (some U7) .e) (some rO) (.n (.n .e none .e) (some YO) .e))) (some WL) (.n (.n (.n (.n .e (some RI) .e) none .e) none (.n (.n .e none .e) (some ND) .e)) (some rK) (.n (.n (.n .e (some RS) .e) none .e) (some aN) (.n (.n .e (some Vt) .e) (some UL) .e)))) none (.n (.n (.n (.n (.n .e (some YT) .e) (some SP) .e) (some QA) (.n (.n .e (some RW) .e) (some bD) .e)) none (.n (.n (.n .e (some RK) .e) (some SR) .e) (some X1) (.n (.n .e (some Vo) .e) (some RE) .e))) none (.n (.n (.n (.n .e none .e) (some X7) .e) none (.n (.n .e none .e) none .e)) (some Pi) (.n (.n (.n .e (some PJ) .e) none .e) none (.n (.n .e (some Vv) .e) (some UQ) .e))))) none (.n (.n (.n (.n (.n (.n .e (some US) .e) (some aR) .e) (some aG) (.n (.n .e (some Vk) .e) (some bB) .e)) none (.n (.n (.n .e (some UZ) .e) none .e) (some rP) (.n (.n .e (some Vn) .e) (some YP) .e))) none (.n (.n (.n (.n .e (some UW) .e) (some Pj) .e) none (.n (.n .e none .e) (some PB) .e)) (some rM) (.n (.n (.n .e (some Ve) .e) none .e) (some aO) (.n (.n .e none .e) (some UM) .e)))) none (.n (.n (.n (.n (.n .e (some UT) .e) (some X5) .e) none (.n (.n .e (some PL) .e) (some YN) .e)) (some aE) (.n (.n (.n .e (some Vb) .e) (some NC) .e) (some aM) (.n (.n .e (some Vp) .e) (some UJ) .e))) (some U1) (.n (.n (.n (.n .e none .e) (some rS) .e) none (.n (.n .e none .e) none .e)) none (.n (.n (.n .e (some Vh) .e) none .e) none (.n (.n .e (some Vy) .e) (some UR) .e)))))) none (.n (.n (.n (.n (.n (.n (.n .e (some Jy) .e) (some U5) .e) none (.n (.n .e (some Vj) .e) (some bA) .e)) none (.n (.n (.n .e (some UY) .e) (some aW) .e) none (.n (.n .e none .e) (some UF) .e))) none (.n (.n (.n (.n .e (some UU) .e) (some U6) .e) none (.n (.n .e none .e) (some RB) .e)) (some rL) (.n (.n (.n .e (some RT) .e) none .e) (some X3) (.n (.n .e (some YX) .e) (some PE) .e)))) none (.n (.n (.n (.n (.n .e (some YU) .e) (some aU) .e) none (.n (.n .e (some Vm) .e) (some R9) .e)) (some aD) (.n (.n (.n .e (some Va) .e) (some aY) .e) (some aL) (.n (.n .e (some PM) .e) (some UH) .e))) (some rJ) (.n (.n (.n (.n .e none .e) (some NB) .e) none (.n (.n .e none .e) (some RC) .e)) (some rN) (.n (.n (.n .e (some Vg) .e) none .e) none (.n (.n .e (some Vw) .e) (some YQ) .e))))) none (.n (.n (.n (.n (.n (.n .e (some RG) .e) (some aT) .e) (some aH) (.n (.n .e (some Vl) .e) (some rT) .e)) (some NA) (.n (.n (.n .e (some U_) .e) (some U8) .e) (some aJ) (.n (.n .e (some RX) .e) (some Ic) .e))) none (.n (.n (.n (.n .e (some UX) .e) (some rR) .e) none (.n (.n .e none .e) (some UB) .e)) none (.n (.n (.n .e (some YW) .e) none .e) none (.n (.n .e none .e) (some UO) .e)))) none (.n (.n (.n (.n (.n .e (some RH) .e) (some X6) .e) none (.n (.n .e none .e) (some RA) .e)) (some aF) (.n (.n (.n .e (some YV) .e) (some X8) .e) (some U4) (.n (.n .e (some Vr) .e) (some UK) .e))) none (.n (.n (.n (.n .e none .e) none .e) (some aI) (.n (.n .e none .e) (some UD) .e)) none (.n (.n (.n .e (some Vi) .e) none .e) (some rQ) (.n .e (some YR) .e))))))
theorem Anw:TU (fun f fn=>I f=some fn) Ypr id:=⟨(fun _ h=>nomatch h),⟨(fun _ h=>nomatch h),⟨(fun _ h=>nomatch h),⟨(fun _ h=>A5f.trans h),⟨(fun _ h=>Axd.trans h),⟨(fun _ h=>nomatch h),⟨(fun _ h=>Ayc.trans h),⟨(fun _ h=>Amb.trans h),trivial,trivial⟩,trivial⟩,⟨(fun _ h=>Ayx.trans h),⟨(fun _ h=>Ane.trans h),trivial,trivial⟩,trivial⟩⟩,⟨(fun _ h=>Axr.trans h),⟨(fun _ h=>Ayq.trans h),⟨(fun _ h=>Amn.trans h),trivial,trivial⟩,trivial⟩,⟨(fun _ h=>Alk.trans h),⟨(fun _ h=>nomatch h),trivial,trivial⟩,trivial⟩⟩⟩,⟨(fun _ h=>Axi.trans h),⟨(fun _ h=>nomatch h),⟨(fun _ h=>nomatch h),⟨(fun _ h=>Amj.trans h),trivial,trivial⟩,trivial⟩,⟨(fun _ h=>Ale.trans h),⟨(fun _ h=>nomatch h),trivial,trivial⟩,trivial⟩⟩,⟨(fun _ h=>Axy.trans h),⟨(fun _ h=>nomatch h),⟨(fun _ h=>Amv.trans h),trivial,trivial⟩,trivial⟩,⟨(fun _ h=>Alt.trans h),⟨(fun _ h=>Anr.trans h),trivial,trivial⟩,trivial⟩⟩⟩⟩,⟨(fun _ h=>nomatch h),⟨(fun _ h=>nomatch h),⟨(fun _ h=>Axp.trans h),⟨(fun _ h=>Ayg.trans h),⟨(fun _ h=>Amf.trans h),trivial,trivial⟩,trivial⟩,⟨(fun _ h=>Azb.trans h),⟨(fun _ h=>Ani.trans h),trivial,trivial⟩,trivial⟩⟩,⟨(fun _ h=>Axu.trans h),⟨(fun _ h=>Ayt.trans h),⟨(fun _ h=>Amr.trans h),trivial,trivial⟩,trivial⟩,⟨(fun _ h=>Alp.trans h),⟨(fun _ h=>Ann.trans h),trivial,trivial⟩,trivial⟩⟩⟩,⟨(fun _ h=>Axl.trans h),⟨(fun _ h=>nomatch h),⟨(fun _ h=>Ayn.trans h),⟨(fun _ h=>nomatch h),trivial,trivial⟩,trivial⟩,⟨(fun _ h=>nomatch h),⟨(fun _ h=>nomatch h),trivial,trivial⟩,trivial⟩⟩,⟨(fun _ h=>nomatch h),⟨(fun _ h=>nomatch h),⟨(fun _ h=>Amz.trans h),trivial,trivial⟩,trivial⟩,⟨(fun _ h=>Alx.trans h),⟨(fun _ h=>Ant.trans h),trivial,trivial⟩,trivial⟩⟩⟩⟩⟩,⟨(fun _ h=>nomatch h),⟨(fun _ h=>nomatch h),⟨(fun _ h=>nomatch h),⟨(fun _ h=>Axn.trans h),⟨(fun _ h=>Aye.trans h),⟨(fun _ h=>Amd.trans h),trivial,trivial⟩,trivial⟩,⟨(fun _ h=>Ayz.trans h),⟨(fun _ h=>Ang.trans h),trivial,trivial⟩,trivial⟩⟩,⟨(fun _ h=>Axs.trans h),⟨(fun _ h=>nomatch h),⟨(fun _ h=>Amp.trans h),trivial,trivial⟩,trivial⟩,⟨(fun _ h=>Aln.trans h),⟨(fun _ h=>Anl.trans h),trivial,trivial⟩,trivial⟩⟩⟩,⟨(fun _ h=>Axk.trans h),⟨(fun _ h=>nomatch h),⟨(fun _ h=>Ayl.trans h),⟨(fun _ h=>Aml.trans h),trivial,trivial⟩,trivial⟩,⟨(fun _ h=>Alg.trans h),⟨(fun _ h=>nomatch h),trivial,trivial⟩,trivial⟩⟩,⟨(fun _ h=>Aya.trans h),⟨(fun _ h=>nomatch h),⟨(fun _ h=>Amx.trans h),trivial,trivial⟩,trivial⟩,⟨(fun _ h=>Alv.trans h),⟨(fun _ h=>nomatch h),trivial,trivial⟩,trivial⟩⟩⟩⟩,⟨(fun _ h=>Axc.trans h),⟨(fun _ h=>Axg.trans h),⟨(fun _ h=>nomatch h),⟨(fun _ h=>Ayi.trans h),⟨(fun _ h=>Amh.trans h),trivial,trivial⟩,trivial⟩,⟨(fun _ h=>Alc.trans h),⟨(fun _ h=>Ank.trans h),trivial,trivial⟩,trivial⟩⟩,⟨(fun _ h=>Axw.trans h),⟨(fun _ h=>Ayv.trans h),⟨(fun _ h=>Amt.trans h),trivial,trivial⟩,trivial⟩,⟨(fun _ h=>Alr.trans h),⟨(fun _ h=>Anp.trans h),trivial,trivial⟩,trivial⟩⟩⟩,⟨(fun _ h=>nomatch h),⟨(fun _ h=>nomatch h),⟨(fun _ h=>Ayp.trans h),⟨(fun _ h=>nomatch h),trivial,trivial⟩,trivial⟩,⟨(fun _ h=>nomatch h),⟨(fun _ h=>nomatch h),trivial,trivial⟩,trivial⟩⟩,⟨(fun _ h=>nomatch h),⟨(fun _ h=>nomatch h),⟨(fun _ h=>Anb.trans h),trivial,trivial⟩,trivial⟩,⟨(fun _ h=>Alz.trans h),⟨(fun _ h=>Anv.trans h),trivial,trivial⟩,trivial⟩⟩⟩⟩⟩⟩,⟨(fun _ h=>nomatch h),⟨(fun _ h=>nomatch h),⟨(fun _ h=>nomatch h),⟨(fun _ h=>nomatch h),⟨(fun _ h=>nomatch h),⟨(fun _ h=>Ayd.trans h),⟨(fun _ h=>Amc.trans h),trivial,trivial⟩,trivial⟩,⟨(fun _ h=>Ayy.trans h),⟨(fun _ h=>Anf.trans h),trivial,trivial⟩,trivial⟩⟩,⟨(fun _ h=>nomatch h),⟨(fun _ h=>Ayr.trans h),⟨(fun _ h=>Amo.trans h),trivial,trivial⟩,trivial⟩,⟨(fun _ h=>Alm.trans h),⟨(fun _ h=>nomatch h),trivial,trivial⟩,trivial⟩⟩⟩,⟨(fun _ h=>Axj.trans h),⟨(fun _ h=>nomatch h),⟨(fun _ h=>Ayk.trans h),⟨(fun _ h=>Amk.trans h),trivial,trivial⟩,trivial⟩,⟨(fun _ h=>Alf.trans h),⟨(fun _ h=>nomatch h),trivial,trivial⟩,trivial⟩⟩,⟨(fun _ h=>Axz.trans h),⟨(fun _ h=>nomatch h),⟨(fun _ h=>Amw.trans h),trivial,trivial⟩,trivial⟩,⟨(fun _ h=>Alu.trans h),⟨(fun _ h=>Ans.trans h),trivial,trivial⟩,trivial⟩⟩⟩⟩,⟨(fun _ h=>Axb.trans h),⟨(fun _ h=>Axf.trans h),⟨(fun _ h=>nomatch h),⟨(fun _ h=>Ayh.trans h),⟨(fun _ h=>Amg.trans h),trivial,trivial⟩,trivial⟩,⟨(fun _ h=>Alb.trans h),⟨(fun _ h=>Anj.trans h),trivial,trivial⟩,trivial⟩⟩,⟨(fun _ h=>Axv.trans h),⟨(fun _ h=>Ayu.trans h),⟨(fun _ h=>Ams.trans h),trivial,trivial⟩,trivial⟩,⟨(fun _ h=>Alq.trans h),⟨(fun _ h=>Ano.trans h),trivial,trivial⟩,trivial⟩⟩⟩,⟨(fun _ h=>Axm.trans h),⟨(fun _ h=>nomatch h),⟨(fun _ h=>Ayo.trans h),⟨(fun _ h=>nomatch h),trivial,trivial⟩,trivial⟩,⟨(fun _ h=>Ali.trans h),⟨(fun _ h=>nomatch h),trivial,trivial⟩,trivial⟩⟩,⟨(fun _ h=>nomatch h),⟨(fun _ h=>nomatch h),⟨(fun _ h=>Ana.trans h),trivial,trivial⟩,trivial⟩,⟨(fun _ h=>Aly.trans h),⟨(fun _ h=>Anu.trans h),trivial,trivial⟩,trivial⟩⟩⟩⟩⟩,⟨(fun _ h=>nomatch h),⟨(fun _ h=>nomatch h),⟨(fun _ h=>Axe.trans h),⟨(fun _ h=>Axo.trans h),⟨(fun _ h=>Ayf.trans h),⟨(fun _ h=>Ame.trans h),trivial,trivial⟩,trivial⟩,⟨(fun _ h=>Aza.trans h),⟨(fun _ h=>Anh.trans h),trivial,trivial⟩,trivial⟩⟩,⟨(fun _ h=>Axt.trans h),⟨(fun _ h=>Ays.trans h),⟨(fun _ h=>Amq.trans h),trivial,trivial⟩,trivial⟩,⟨(fun _ h=>Alo.trans h),⟨(fun _ h=>Anm.trans h),trivial,trivial⟩,trivial⟩⟩⟩,⟨(fun _ h=>nomatch h),⟨(fun _ h=>nomatch h),⟨(fun _ h=>Aym.trans h),⟨(fun _ h=>Amm.trans h),trivial,trivial⟩,trivial⟩,⟨(fun _ h=>Alh.trans h),⟨(fun _ h=>nomatch h),trivial,trivial⟩,trivial⟩⟩,⟨(fun _ h=>nomatch h),⟨(fun _ h=>nomatch h),⟨(fun _ h=>Amy.trans h),trivial,trivial⟩,trivial⟩,⟨(fun _ h=>Alw.trans h),⟨(fun _ h=>nomatch h),trivial,trivial⟩,trivial⟩⟩⟩⟩,⟨(fun _ h=>nomatch h),⟨(fun _ h=>Axh.trans h),⟨(fun _ h=>nomatch h),⟨(fun _ h=>Ayj.trans h),⟨(fun _ h=>Ami.trans h),trivial,trivial⟩,trivial⟩,⟨(fun _ h=>Ald.trans h),⟨(fun _ h=>nomatch h),trivial,trivial⟩,trivial⟩⟩,⟨(fun _ h=>Axx.trans h),⟨(fun _ h=>Ayw.trans h),⟨(fun _ h=>Amu.trans h),trivial,trivial⟩,trivial⟩,⟨(fun _ h=>Als.trans h),⟨(fun _ h=>Anq.trans h),trivial,trivial⟩,trivial⟩⟩⟩,⟨(fun _ h=>nomatch h),⟨(fun _ h=>Axq.trans h),⟨(fun _ h=>nomatch h),⟨(fun _ h=>nomatch h),trivial,trivial⟩,trivial⟩,⟨(fun _ h=>Alj.trans h),⟨(fun _ h=>nomatch h),trivial,trivial⟩,trivial⟩⟩,⟨(fun _ h=>Ayb.trans h),⟨(fun _ h=>nomatch h),⟨(fun _ h=>Anc.trans h),trivial,trivial⟩,trivial⟩,⟨(fun _ h=>Ama.trans h),trivial,trivial⟩⟩⟩⟩⟩⟩⟩
theorem BO:∀ f fn,Ypr.get f=some fn->I f=some fn:=fun _ _ h=>NK Anw h
end Go.Proofs.YtajompaehjkgkaaGreat
namespace Go.Ai
open Bool renaming true_and->Oy
open Decidable renaming decide->B
open Go.Ai.AV renaming int->A6l
open Int renaming add_zero->B2,le_refl->Dp,mul_add->CE,mul_assoc->A9,mul_comm->A8,mul_zero->AC,natAbs_mul->BM,natCast_pow->CT,ofNat_lt->A4w,pow_pos->EF,pow_succ->Ax,pow_zero->CD
open List renaming cons_append->HO,drop->g,getD_cons_succ->JO,getD_cons_zero->IG,getD_eq_getElem?_getD->Z,getElem?_drop->Bn,getElem?_eq_getElem->Af,getElem?_map->C7,getElem?_take_of_lt->By,length_cons->Bq,length_eq_zero_iff->Uj,length_singleton->Nl,map_cons->Cw,map_set->Awf,mem_cons->CS,mem_cons_of_mem->AS,mem_cons_self->AZ,mem_of_getElem?->SD,mem_of_mem_take->Ct,replicate->Ar,replicate_succ->FZ,set_cons_succ->A6g,set_cons_zero->A6f,set_eq_take_append_cons_drop->qT,take_append_drop->Xn
open Nat renaming add_sub_cancel->F5,add_zero->FC,le_refl->An,lt_of_lt_of_le->EL,lt_or_ge->Ck,mod_lt->H8,mul_one->Iu,pow_add->C8,pow_le_pow_right->B4,pow_succ->F7,sub_self->OY
def lm(xs:List Int):List AV:=xs.map (A6l .u32)
def AL(xs:List Int):Prop:=∀ x∈xs,0<=x/\x<4294967296
def Ac:List Int->Int
 | []=>0
 | x::xs=>x+4294967296*Ac xs
theorem NM(xs:List Int):(lm xs).length=xs.length:=by simp [lm]
theorem bK{xs:List Int}{i:Nat}(h:i<xs.length):(lm xs)[i]?=some (.int .u32 (xs.getD i 0)):=by
 simp[lm,C7,Af h,Z]
theorem DW{xs:List Int}{i:Nat}(h:i<xs.length):Bm (g (i*1) (lm xs)) 0 1 true=some (.int .u32 (xs.getD i 0)):=by
 simp only[Bm,if_true,Iu,Bn,FC];exact bK h
theorem V5{xs:List Int}{i:Nat}(h:i<xs.length):Bm (lm xs) (i*1) 1 true=some (.int .u32 (xs.getD i 0)):=by
 simp only[Bm,if_true,Iu];exact bK h
theorem Ig{xs:List Int}{i:Nat}{v:Int}(h:i<xs.length):Cu (lm xs) (i*1) [.int .u32 v]=some (lm (xs.set i v)):=by
 unfold Cu;rw[if_pos (by simp[NM];omega)];congr 1;simp only[lm,Awf,Iu,Nl];rw[qT,if_pos (by simpa using h)];simp
theorem EO(n:Nat):Cp [.int .u32 0] n=lm (Ar n 0):=by
 induction n with
 | zero=>rfl
 | succ n ih=>simp only[Cp,ih,lm,FZ,Cw];rfl
theorem AE{xs:List Int}(h:AL xs)(i:Nat):0<=xs.getD i 0/\xs.getD i 0<4294967296:=by
 rw[Z];cases hx:xs[i]? with
 | none=>simp
 | some x=>exact h x (SD hx)
theorem AT{xs:List Int}(h:AL xs):0<=Ac xs:=by
 induction xs with
 | nil=>exact Dp _
 | cons x xs ih =>
  have h1:=h x AZ;have h2:=ih fun y hy=>h y (AS _ hy);simp only[Ac];omega
theorem Gk(xs ys:List Int):Ac (xs++ys)=Ac xs+4294967296^xs.length*Ac ys:=by
 induction xs with
 | nil=>simp[Ac]
 | cons x xs ih =>
  simp only[HO,Ac,ih,Bq,Ax];rw[CE,<- Int.add_assoc];congr 1;rw[<- A9,A8 4294967296 (4294967296^xs.length)]
theorem Ez(n:Nat):Ac (Ar n 0)=0:=by
 induction n with
 | zero=>rfl
 | succ n ih=>simp[FZ,Ac,ih]
theorem D9{xs:List Int}(h:AL xs):Ac xs<4294967296^xs.length:=by
 induction xs with
 | nil=>simp[Ac]
 | cons x xs ih =>
  have h1:=h x AZ;have h2:=ih fun y hy=>h y (AS _ hy);simp only[Ac,Bq,Ax];omega
theorem DE(xs:List Int)(i:Nat)(v:Int)(h:i<xs.length):Ac (xs.set i v)=Ac xs+4294967296^i*(v-xs.getD i 0):=by
 induction xs generalizing i with
 | nil=>simp at h
 | cons x xs ih =>
  cases i with
  | zero=>simp only[A6f,Ac,CD,IG];omega
  | succ i =>
   simp only[A6g,Ac,JO];rw[ih i (by simpa using h),Ax,CE,<- A9,A8 4294967296 (4294967296^i)];omega
theorem Cq{xs:List Int}(h:AL xs){i:Nat}{v:Int}(hv:0<=v/\v<4294967296):AL (xs.set i v):=by
 intro x hx;rcases List.mem_or_eq_of_mem_set hx with h1 | h1
 ·exact h x h1
 ·rw[h1];exact hv
def l(xs:List Int):Nat->Nat
 | 0=>0
 | n+1=>if xs.getD n 0=0 then l xs n else n+1
def Y(xs:List Int):List Int:=xs.take (l xs xs.length)
theorem GG(xs:List Int)(n:Nat):l xs n<=n:=by
 induction n with
 | zero=>exact An _
 | succ n ih=>simp only[l];split <;> omega
theorem XG(xs:List Int)(n:Nat):l xs n=0\/xs.getD (l xs n-1) 0 ≠ 0:=by
 induction n with
 | zero=>exact .inl rfl
 | succ n ih =>
  simp only[l];split
  ·exact ih
  ·exact .inr (by simpa)
theorem My(xs:List Int)(n:Nat):∀ i,l xs n<=i->i<n->xs.getD i 0=0:=by
 induction n with
 | zero=>intro i _ h;omega
 | succ n ih =>
  intro i h1 h2;simp only[l] at h1;split at h1
  ·rename_i h0;by_cases hi:i=n
   ·subst hi;exact h0
   ·exact ih i h1 (by omega)
  ·omega
def Fg(xs:List Int):Prop:=AL xs/\(xs=[]\/xs.getD (xs.length-1) 0 ≠ 0)
theorem Fq{xs:List Int}(h:AL xs):Fg (Y xs):=by
 have hl:=GG xs xs.length;have hlen:(Y xs).length=l xs xs.length:=by simp[Y];omega
 refine⟨fun x hx=>h x (Ct hx),?_⟩;by_cases hz:l xs xs.length=0
 ·left;simp[Y,hz]
 ·right;have h0:=(XG xs xs.length).resolve_left hz;rw[hlen,Z,Y,By (by omega),<- Z];exact h0
theorem TJ{xs:List Int}(h:∀ i,i<xs.length->xs.getD i 0=0):Ac xs=0:=by
 induction xs with
 | nil=>rfl
 | cons x xs ih =>
  have h0:=h 0 (by simp);simp only[IG] at h0;subst h0;simp only[Ac];rw[ih fun i hi=>by simpa using h (i+1) (by simpa using hi)];rfl
theorem Ea(xs:List Int):Ac (Y xs)=Ac xs:=by
 have e:Ac xs=Ac (xs.take (l xs xs.length)++xs.drop (l xs xs.length)):=by rw[Xn]
 rw[e,Gk];have:Ac (xs.drop (l xs xs.length))=0:=by
  apply TJ;intro i hi;have hi':l xs xs.length+i<xs.length:=by simp at hi;omega
  have:=My xs xs.length (l xs xs.length+i) (by omega) hi';rw[Z,Bn,<- Z];exact this
 rw[this,AC,B2];rfl
theorem KP{x:Int}{xs:List Int}(h:Fg (x::xs)):Fg xs:=by
 refine⟨fun y hy=>h.1 y (AS _ hy),?_⟩;cases xs with
 | nil=>exact .inl rfl
 | cons y ys =>
  right;rcases h.2 with h0 | h0
  ·cases h0
  ·simpa using h0
theorem I3:∀ {xs:List Int},Fg xs->xs ≠ []->0<Ac xs
 | [],_,h=>absurd rfl h
 | [x],h,_=>by
  have h1:=h.1 x AZ;rcases h.2 with h0 | h0
  ·cases h0
  ·simp only[Nl,OY,IG] at h0;simp only[Ac];omega
 | x::y::ys,h,_=>by
  have h1:=h.1 x AZ;have h2:=I3 (KP h) (by simp);simp only[Ac] at h2 |-;omega
theorem Sa:∀ {xs ys:List Int},Fg xs->Fg ys->Ac xs=Ac ys->xs=ys
 | [],[],_,_,_=>rfl
 | [],y::ys,_,h2,h=>by
  have:=I3 h2 (by simp);rw[<- h] at this;simp[Ac] at this
 | x::xs,[],h1,_,h=>by
  have:=I3 h1 (by simp);rw[h] at this;simp[Ac] at this
 | x::xs,y::ys,h1,h2,h=>by
  have a1:=h1.1 x AZ;have a2:=h2.1 y AZ;simp only[Ac] at h;have e1:x=y:=by omega
  have e2:Ac xs=Ac ys:=by omega
  rw[e1,Sa (KP h1) (KP h2) e2]
def M0:Nat->Nat->List Int
 | 0,_=>[]
 | f+1,n=>if n=0 then [] else ((n % 4294967296:Nat):Int)::M0 f (n / 4294967296)
def G(n:Nat):List Int:=M0 (n+1) n
theorem PO:∀ (f n:Nat),n<f->Fg (M0 f n)/\Ac (M0 f n)=n/\(M0 f n=[]↔n=0):=by
 intro f;induction f with
 | zero=>intro n h;omega
 | succ f ih =>
  intro n h;simp only[M0];by_cases h0:n=0
  ·subst h0;simp[Ac,Fg,AL]
  ·rw[if_neg h0];obtain⟨c1,c2,c3⟩:=ih (n / 4294967296) (by omega);have hm:=H8 n (show 0<4294967296 by omega);refine⟨⟨?_,?_⟩,?_,by simp[h0]⟩
   ·intro x hx;rcases CS.1 hx with rfl | hx
    ·omega
    ·exact c1.1 x hx
   ·right;cases hl:M0 f (n / 4294967296) with
    | nil =>
     have:=c3.1 hl;simp;omega
    | cons y ys =>
     rcases c1.2 with h1 | h1
     ·rw[hl] at h1;cases h1
     ·rw[hl] at h1;simpa using h1
   ·simp only[Ac,c2];omega
theorem Cc(n:Nat):Fg (G n):=(PO _ n (by omega)).1
theorem Cn(n:Nat):Ac (G n)=n:=(PO _ n (by omega)).2.1
theorem I4(n:Nat):G n=[]↔n=0:=(PO _ n (by omega)).2.2
theorem I5{xs:List Int}(h:AL xs):Y xs=G (Ac xs).toNat:=by
 apply Sa (Fq h) (Cc _);rw[Ea,Cn];have:=AT h;omega
def o(n:Int):AV := .agg [.bool (B (n<0)),.sl (G n.natAbs).length (lm (G n.natAbs))]
def C6(n:Int):AV := .frs (.st (B (n<0))) 1 (G n.natAbs).length (lm (G n.natAbs))
theorem Cr(n:Nat):(0:Int)<4294967296^n:=EF (by decide)
theorem OB:∀ {xs:List Int},Fg xs->xs ≠ []->(4294967296:Int)^(xs.length-1)<=Ac xs
 | [],_,h=>absurd rfl h
 | [x],h,_=>by
  have:=I3 h (by simp);simp only[Nl,OY,CD];omega
 | x::y::ys,h,_=>by
  have h1:=h.1 x AZ;have h2:=OB (KP h) (by simp);simp only[Bq,F5] at h2 |-;rw[Ax];show _<=x+4294967296*Ac (y::ys);omega
theorem         Gb {a b : Nat} (h : a <= b) : (4294967296 : Int) ^ a <= 4294967296 ^ b := by
  induction b with
  | zero => have : a = 0 := by omega
            subst this; exact          Dp _
  | succ b ih =>
    by_cases hh : a = b + 1
    · subst hh; exact          Dp _
    · have := ih (by omega)
      have hp :=        Cr b
      rw [          Ax]; omega
theorem Ks{xs:List Int}(h:Fg xs){k:Nat}(hv:Ac xs<4294967296^k):xs.length<=k:=by
 by_cases hn:xs=[]
 ·subst hn;simp
 ·have h1:=OB h hn;rcases Ck k xs.length with h2 | h2
  ·have:=Gb (show k<=xs.length-1 by omega);omega
  ·exact h2
theorem M1{n k:Nat}(h:(n:Int)<4294967296^k):(G n).length<=k:=Ks (Cc n) (by rw [Cn];exact h)
def Bj(k:Nat)(n:Int):Prop:=n.natAbs<4294967296^k
theorem Bj.len{k:Nat}{n:Int}(h:Bj k n):(G n.natAbs).length<=k:=by
 apply M1;have h1:(n.natAbs:Int)<((4294967296^k:Nat):Int):=A4w.mpr h;rwa [CT] at h1
theorem Bj.mono{j k:Nat}{n:Int}(h:Bj j n)(hk:j<=k):Bj k n:=EL h (B4 (by decide) hk)
theorem Bj.mul{j k:Nat}{a b:Int}(ha:Bj j a)(hb:Bj k b):Bj (j+k) (a*b):=by
 unfold Bj at *
 rw[BM,C8];exact Nat.mul_lt_mul'' ha hb
theorem Bj.add{j:Nat}{a b:Int}(ha:Bj j a)(hb:Bj j b):Bj (j+1) (a+b):=by
 unfold Bj at *
 rw[F7];have:=Int.natAbs_add_le a b;omega
theorem Bj.neg{j:Nat}{a:Int}(ha:Bj j a):Bj j (-a):=by
 unfold Bj at *
 rwa [Int.natAbs_neg]
theorem OC{n:Int}(h : -9223372036854775808<=n/\n<=9223372036854775807):Bj 2 n:=by
 unfold Bj;have:(4294967296:Nat)^2=18446744073709551616:=by decide
 omega
def rv(neg:Bool)(xs:List Int):Int:=if neg then -Ac xs else Ac xs
theorem Ze{neg:Bool}{xs:List Int}(hu:AL xs):(rv neg xs).natAbs=(Ac xs).toNat:=by
 have:=AT hu;unfold rv;cases neg <;> simp <;> omega
theorem OD{neg:Bool}{xs:List Int}(hu:AL xs):Y xs=G (rv neg xs).natAbs:=by
 rw[Ze hu,I5 hu]
theorem Fr(n:Int):rv (B (n<0)) (G n.natAbs)=n:=by
 unfold rv;rw[Cn];by_cases h:n<0 <;> simp[h] <;> omega
theorem Db(n:Nat):(G n).length=0↔n=0:=by rw [Uj,I4]
theorem sA{neg:Bool}{xs:List Int}(hu:AL xs):(neg&&decide (0<(G (rv neg xs).natAbs).length))=decide (rv neg xs<0):=by
 have h1:=Db (rv neg xs).natAbs;have h2:=AT hu;have h3:=Ze (neg:=neg) hu;unfold rv at *
 cases neg
 ·simp;omega
 ·simp only[Oy,if_true] at *
  rw[decide_eq_decide];omega
theorem Bf(xs:List Int):(Y xs).length<=xs.length:=by simp [Y];omega
theorem E6{neg:Bool}{xs:List Int}(hu:AL xs):(G (rv neg xs).natAbs).length<=xs.length:=by rw [<- OD hu];exact Bf xs
theorem V6{neg:Bool}{xs:List Int}(hu:AL xs):Bj xs.length (rv neg xs):=by
 unfold Bj;rw[Ze hu];have h1:=AT hu;have h2:=D9 hu;have h3:((4294967296^xs.length:Nat):Int)=(4294967296:Int)^xs.length:=by rw[CT];rfl
 omega
theorem BK(n:Nat):AL (G n):=(Cc n).1
def vl(xs : List Int) : Reg := .val (.sl xs.length (lm xs))
def vi(n : Int) : Reg := .val (.int .i64 n)
end Go.Ai
namespace Go.Proofs.YtajompaehjkgkaaGreat
open Go.Ai
set_option maxRecDepth 100000
open Bool renaming false_and->Kt,false_eq_true->Ca
open Decidable renaming decide->B
open Go.Ai.AV renaming agg->A6r,bool->A6m,fresh->A6p,int->A6l,sl->A6n
open Go.Ai.Reg renaming own->A6q,val->A6o
open Go.IntKind renaming bits->Al,i64->R,u32->A5,u64->U,wrap->D
open Int renaming fdiv->d,fdiv_eq_ediv_of_nonneg->t,mul_add->CE,mul_le_mul->DR,mul_le_mul_of_nonneg_left->Ag,mul_nonneg->A3,mul_one->CN,natAbs->E,natCast_nonneg->Hy,pow_succ->Ax,sub_zero->EJ,toNat->A,toNat_natCast->F,zero_add->DA
open List renaming drop->g,drop_eq_getElem_cons->CV,drop_zero->EP,eq_of_mem_replicate->Awe,getD_eq_getElem?_getD->Z,getElem?_eq_getElem->Af,getElem?_replicate->K9,getElem?_set_ne->F9,length->Bk,length_eq_zero_iff->Uj,map_take->R5,mem_cons->CS,mem_of_mem_take->Ct,not_mem_nil->TG,replicate->Ar,take->B1,take_length->E3
open Nat renaming add_assoc->D6,add_zero->FC,le_refl->An,le_trans->Bp,sub_zero->JH
theorem H.to{prog:Nat->Option IFunc}{f:Nat}{args:List AV}{r r':AV}(h:H prog f args r)(e:r=r'):H prog f args r':=e ▸ h
theorem Bg{n:Int}(h1 : -9223372036854775808<=n)(h2:n<=9223372036854775807):D R n=n:=by
 simp only[D,Al,IntKind.signed];simp;omega
theorem B3(n:Int):D U n=n % 18446744073709551616:=by
 simp only[D,Al,IntKind.signed,Kt,Ca,if_false];omega
theorem DL(n:Int):D A5 n=n % 4294967296:=by
 simp only[D,Al,IntKind.signed,Kt,Ca,if_false];omega
def TB0:Cm:=[]
theorem EY:BY I TB0:=BY.nil _
def S'(N:Nat)(cs:List AV)(n:Int):Ak:=(A6o (A6n N cs)::(Q 1 (A6q 1 0 []::(A6o (A6l R n)::(Q 18 [])))))
theorem Azc(N:Nat)(cs:List AV)(n x:Int)(c1:B (n>0)=true)(c2:(x==0)=true)(n1:0<=(D R (n-1))/\(D R (n-1))<(N:Int))(n2:Bm (g (A (D R (n-1))*1) cs) 0 1 true=some (A6l A5 x)):W I bC (S' N cs n) .norm (S' N cs (D R (n-1))):=C EY 300 [.b true,.v (A6l A5 x),.b true] [0,2,3] (P c1 (P n1 (P n2 (P c2 a0)))) (by kernel_rfl)
theorem Azd(N:Nat)(cs:List AV)(n x:Int)(c1:B (n>0)=true)(c2:(x==0)=false)(n1:0<=(D R (n-1))/\(D R (n-1))<(N:Int))(n2:Bm (g (A (D R (n-1))*1) cs) 0 1 true=some (A6l A5 x)):W I bC (S' N cs n) (.exit 0) (S' N cs n):=C EY 300 [.b true,.v (A6l A5 x),.b false] [0,2,3] (P c1 (P n1 (P n2 (P c2 a0)))) (by kernel_rfl)
theorem Aze(N:Nat)(cs:List AV)(n:Int)(c1:B (n>0)=false):W I bC (S' N cs n) (.exit 0) (S' N cs n):=C EY 300 [.b false,.b false] [0,2,3] (P c1 (P FA a0)) (by kernel_rfl)
theorem Anx(xs:List Int)(hN:xs.length<=35184372088832):∀ m,m<=xs.length->W I (.loop bC) (S' xs.length (lm xs) (m:Int)) (.exit 0) (S' xs.length (lm xs) ((l xs m:Nat):Int)):=by
 intro m;induction m with
 | zero =>
  intro _;exact Am (Aze xs.length (lm xs) ((0:Nat):Int) (by simp)) (by nofun)
 | succ m ih =>
  intro hm;have e1:D R (((m+1:Nat):Int)-1)=(m:Int):=by rw[Bg (by omega) (by omega)];omega
  have hx:=DW (xs:=xs) (i:=m) (by omega);simp only[l];by_cases h0:xs.getD m 0=0
  ·rw[if_pos h0];have h1:=Azc xs.length (lm xs) ((m+1:Nat):Int) (xs.getD m 0) (by simp) (by rw[h0];rfl) (by rw[e1];omega) (by rw[e1,F];exact hx);rw[e1] at h1;exact W.loop h1 (ih (by omega))
  ·rw[if_neg h0];exact Am (Azd xs.length (lm xs) ((m+1:Nat):Int) (xs.getD m 0) (by simp) (by simpa using h0) (by rw[e1];omega) (by rw[e1,F];exact hx)) (by nofun)
theorem DX{xs:List Int}(hN:xs.length<=35184372088832):H I 99 [sL lm xs] (A6p 1 (Y xs).length (lm (Y xs))):=by
 have hle:=GG xs xs.length;have hlen:(Y xs).length=l xs xs.length:=by simp[Y];omega
 have hl:=Anx xs hN xs.length (An _);have hsc:0<=(A ((l xs xs.length:Nat):Int))/\(A ((l xs xs.length:Nat):Int))<=xs.length/\xs.length<=xs.length/\(false=true->true=true):=by rw[F];exact⟨by omega,hle,An _,fun h=>by cases h⟩
 have htk:B1 ((A ((l xs xs.length:Nat):Int)-0)*1) (g (0*1) (lm xs))=lm (Y xs):=by
  rw[F];simp[lm,Y,R5]
 have hal:Bk (B1 ((A ((l xs xs.length:Nat):Int)-0)*1) (g (0*1) (lm xs)))=(A ((l xs xs.length:Nat):Int)-0)*1:=by
  rw[htk,NM,hlen,F];omega
 have han:(A ((l xs xs.length:Nat):Int)-0)<=35184372088832:=by rw[F];omega
 have:=X (prog:=I) (f:=99) (args:=[sL lm xs]) (r := A6p 1 (A ((l xs xs.length:Nat):Int)-0) (B1 ((A ((l xs xs.length:Nat):Int)-0)*1) (g (0*1) (lm xs)))) (fn:=bD) (s:=(A6o (sL lm xs)::(Q 1 (A6q 1 ((A ((l xs xs.length:Nat):Int))-0) (B1 (((A ((l xs xs.length:Nat):Int))-0)*1) (g (0*1) (lm xs)))::(A6o (A6l R ((l xs xs.length:Nat):Int))::(Q 14 (A6o (sL lm xs)::(A6o (A6l R ((l xs xs.length:Nat):Int))::(A6o (A6n ((A ((l xs xs.length:Nat):Int))-0) (B1 (((A ((l xs xs.length:Nat):Int))-0)*1) (g (0*1) (lm xs))))::(Q 1 [])))))))))) (ex := .ret) rfl rfl
  (W.seq (DK (t:=(A6o (sL lm xs)::(Q 1 (A6q 1 0 []::(Q 19 []))))) (ex := .norm) (ps:=[]) EY 300 [] [0,2] (by kernel_rfl) trivial)
  (W.seq (DK (t:=(A6o (sL lm xs)::(Q 1 (A6q 1 0 []::(A6o (A6l R (xs.length:Int))::(Q 18 [])))))) (ex := .norm) (ps:=[]) EY 300 [] [0,2,3] (by kernel_rfl) trivial)
  (W.seq (W.block hl)
  (DK (t:=(A6o (sL lm xs)::(Q 1 (A6q 1 ((A ((l xs xs.length:Nat):Int))-0) (B1 (((A ((l xs xs.length:Nat):Int))-0)*1) (g (0*1) (lm xs)))::(A6o (A6l R ((l xs xs.length:Nat):Int))::(Q 14 (A6o (sL lm xs)::(A6o (A6l R ((l xs xs.length:Nat):Int))::(A6o (A6n ((A ((l xs xs.length:Nat):Int))-0) (B1 (((A ((l xs xs.length:Nat):Int))-0)*1) (g (0*1) (lm xs))))::(Q 1 [])))))))))) (ex := .ret) (ps:=[0<=((l xs xs.length:Nat):Int),0<=(A ((l xs xs.length:Nat):Int))/\(A ((l xs xs.length:Nat):Int))<=xs.length/\xs.length<=xs.length/\(false=true->true=true),Bk (B1 (((A ((l xs xs.length:Nat):Int))-0)*1) (g (0*1) (lm xs)))=((A ((l xs xs.length:Nat):Int))-0)*1,((A ((l xs xs.length:Nat):Int))-0)<=35184372088832]) EY 300 [] [0,2,3,18,19,20] (by kernel_rfl) ⟨(Hy _),hsc,hal,han,trivial⟩)))) (by nofun) rfl
 (first|rw[htk,F,JH,<- hlen] at this|(rw[htk,F,JH] at this;unfold sL at this;rw[<- hlen] at this));exact this
def V7(neg:Bool)(xs:List Int):AV :=
 match neg with
 | true=>(.frs (.st (B ((((Y xs).length:Nat):Int)>0))) 1 ((Y xs).length) (lm (Y xs)))
 | false=>(.frs (.st false) 1 ((Y xs).length) (lm (Y xs)))
theorem Azf(neg:Bool)(xs:List Int)(hN:xs.length<=1048576):H I 98 [A6m neg,sL lm xs] (V7 neg xs):=by
 unfold V7;cases neg
 ·exact Bt (r := .frs (.st false) 1 ((Y xs).length) (lm (Y xs))) (ps:=[H I 99 [sL lm xs] (A6p 1 ((Y xs).length) (lm (Y xs))),false=false]) EY rfl 300 rfl [.r (A6p 1 ((Y xs).length) (lm (Y xs))),.b false] (by kernel_rfl) ⟨(DX (Bp hN (by decide))),rfl,trivial⟩
 ·exact Bt (r := .frs (.st (B ((((Y xs).length:Nat):Int)>0))) 1 ((Y xs).length) (lm (Y xs))) (ps:=[H I 99 [sL lm xs] (A6p 1 ((Y xs).length) (lm (Y xs))),true=true]) EY rfl 300 rfl [.r (A6p 1 ((Y xs).length) (lm (Y xs))),.b true] (by kernel_rfl) ⟨(DX (Bp hN (by decide))),rfl,trivial⟩
theorem PP{neg:Bool}{xs:List Int}(hu:AL xs)(hN:xs.length<=1048576):H I 98 [A6m neg,sL lm xs] (C6 (if neg then -Ac xs else Ac xs)):=by
 have h:=Azf neg xs hN;have e:V7 neg xs=C6 (if neg then -Ac xs else Ac xs):=by
  have hv:=AT hu;have ht:=I5 hu;have hp:(Y xs).length=0↔Ac xs=0:=by
   rw[ht,Uj,I4];omega
  cases neg with
  | false =>
   have e1:(Ac xs).natAbs=(Ac xs).toNat:=by omega
   have e2:decide (Ac xs<0)=false:=by simp;omega
   simp only[V7,C6,Ca,if_false,e1,e2,ht]
  | true =>
   have e1:(-Ac xs).natAbs=(Ac xs).toNat:=by omega
   have e2:decide ((((Y xs).length:Nat):Int)>0)=decide (-Ac xs<0):=by
    rw[decide_eq_decide];omega
   simp only[V7,C6,if_true,e1,e2,<- ht]
 rw[<- e];exact h
theorem LI{u:Int}(h:0<=u/\u<18446744073709551616):AL [D A5 u,D A5 (d u (2^(min (A 32) (Al .u64))))]/\Ac [D A5 u,D A5 (d u (2^(min (A 32) (Al .u64))))]=u:=by
 have e:d u (2^(min (A 32) (Al .u64)))=u / 4294967296:=by
  show d u 4294967296=_;rw[t _ (by omega)]
 rw[e,DL,DL];refine⟨fun x hx => ?_,?_⟩
 ·simp only[CS,TG,or_false] at hx;rcases hx with rfl | rfl <;> omega
 ·simp only[Ac];omega
theorem wX(n:Int)(c1:decide (n<0)=true)(hcall:H I 98 [A6m (B (n<0)),A6n 2 [A6l A5 (D A5 (D U (0-(D U n)))),A6l A5 (D A5 (d (D U (0-(D U n))) (2^(min (A 32) (Al .u64)))))]] (.frs (.st (B (n<0))) 1 ((G (E n)).length) (lm (G (E n))))):H I 49 [A6l R n] (A6r [A6m (B (n<0)),A6n ((G (E n)).length) (lm (G (E n)))]):=Bt (ps:=[(B (n<0))=true,¬ (32:Int)<0,H I 98 [A6m (B (n<0)),A6n 2 [A6l A5 (D A5 (D U (0-(D U n)))),A6l A5 (D A5 (d (D U (0-(D U n))) (2^(min (A 32) (Al .u64)))))]] (.frs (.st (B (n<0))) 1 ((G (E n)).length) (lm (G (E n))))]) EY rfl 300 rfl [.b true,.r (.frs (.st (B (n<0))) 1 ((G (E n)).length) (lm (G (E n))))] (by kernel_rfl) ⟨c1,(by decide),hcall,trivial⟩
theorem wY(n:Int)(c1:decide (n<0)=false)(hcall:H I 98 [A6m (B (n<0)),A6n 2 [A6l A5 (D A5 (D U n)),A6l A5 (D A5 (d (D U n) (2^(min (A 32) (Al .u64)))))]] (.frs (.st (B (n<0))) 1 ((G (E n)).length) (lm (G (E n))))):H I 49 [A6l R n] (A6r [A6m (B (n<0)),A6n ((G (E n)).length) (lm (G (E n)))]):=Bt (ps:=[(B (n<0))=false,¬ (32:Int)<0,H I 98 [A6m (B (n<0)),A6n 2 [A6l A5 (D A5 (D U n)),A6l A5 (D A5 (d (D U n) (2^(min (A 32) (Al .u64)))))]] (.frs (.st (B (n<0))) 1 ((G (E n)).length) (lm (G (E n))))]) EY rfl 300 rfl [.b false,.r (.frs (.st (B (n<0))) 1 ((G (E n)).length) (lm (G (E n))))] (by kernel_rfl) ⟨c1,(by decide),hcall,trivial⟩
theorem TV{n:Int}(hn : -9223372036854775808<=n/\n<=9223372036854775807):H I 49 [A6l R n] (o n):=by
 cases c1:decide (n<0) with
 | true =>
  have h0:n<0:=by simpa using c1
  have eu:D U (0-D U n) = -n:=by rw[B3,B3];omega
  obtain⟨k1,k2⟩:=LI (u:=D U (0-D U n)) (by rw[eu];omega);refine wX n c1 ?_;have:=PP (neg:=true) k1 (by simp);have e:(if true=true then -Ac [D A5 (D U (0-D U n)),D A5 (d (D U (0-D U n)) (2^(min (A 32) (Al .u64))))] else Ac [D A5 (D U (0-D U n)),D A5 (d (D U (0-D U n)) (2^(min (A 32) (Al .u64))))])=n:=by
   rw[k2,if_pos rfl,eu];omega
  rw[e,C6,c1] at this;rw[c1];exact this
 | false =>
  have h0:¬ n<0:=by simpa using c1
  have eu:D U n=n:=by rw[B3];omega
  obtain⟨k1,k2⟩:=LI (u:=D U n) (by rw[eu];omega);refine wY n c1 ?_;have:=PP (neg:=false) k1 (by simp);have e:(if false=true then -Ac [D A5 (D U n),D A5 (d (D U n) (2^(min (A 32) (Al .u64))))] else Ac [D A5 (D U n),D A5 (d (D U n) (2^(min (A 32) (Al .u64))))])=n:=by
   rw[if_neg (by decide),k2,eu]
  rw[e,C6,c1] at this;rw[c1];exact this
def TBA:Cm:=TB0
theorem Dw:BY I TBA:=EY
def Hp(N:Nat)(cs:List AV)(M:Nat)(ds:List AV)(v i:Int):Ak:=(A6o (A6n N cs)::(A6o (A6n M ds)::(Q 2 (A6o (A6l R v)::(A6o (A6l R i)::(Q 35 []))))))
theorem Any(N:Nat)(cs:List AV)(M:Nat)(ds:List AV)(v i x y:Int)(c1:B (i>=0)=true)(c2:(x != y)=true)(c3:B (x<y)=true)(n1:0<=i/\i<(N:Int))(n2:Bm (g (A i*1) cs) 0 1 true=some (A6l A5 x))(n3:0<=i/\i<(M:Int))(n4:Bm (g (A i*1) ds) 0 1 true=some (A6l A5 y))(n5:0<=i/\i<(N:Int))(n6:Bm (g (A i*1) cs) 0 1 true=some (A6l A5 x))(n7:0<=i/\i<(M:Int))(n8:Bm (g (A i*1) ds) 0 1 true=some (A6l A5 y)):W I Mt (Hp N cs M ds v i) .ret (Hp N cs M ds (-1) i):=C Dw 300 [.b true,.v (A6l A5 x),.v (A6l A5 y),.b true,.v (A6l A5 x),.v (A6l A5 y),.b true] [0,1,4,5] (P c1 (P n1 (P n2 (P n3 (P n4 (P c2 (P n5 (P n6 (P n7 (P n8 (P c3 a0))))))))))) (by kernel_rfl)
theorem Anz(N:Nat)(cs:List AV)(M:Nat)(ds:List AV)(v i x y:Int)(c1:B (i>=0)=true)(c2:(x != y)=true)(c3:B (x<y)=false)(n1:0<=i/\i<(N:Int))(n2:Bm (g (A i*1) cs) 0 1 true=some (A6l A5 x))(n3:0<=i/\i<(M:Int))(n4:Bm (g (A i*1) ds) 0 1 true=some (A6l A5 y))(n5:0<=i/\i<(N:Int))(n6:Bm (g (A i*1) cs) 0 1 true=some (A6l A5 x))(n7:0<=i/\i<(M:Int))(n8:Bm (g (A i*1) ds) 0 1 true=some (A6l A5 y)):W I Mt (Hp N cs M ds v i) .ret (Hp N cs M ds 1 i):=C Dw 300 [.b true,.v (A6l A5 x),.v (A6l A5 y),.b true,.v (A6l A5 x),.v (A6l A5 y),.b false] [0,1,4,5] (P c1 (P n1 (P n2 (P n3 (P n4 (P c2 (P n5 (P n6 (P n7 (P n8 (P c3 a0))))))))))) (by kernel_rfl)
theorem Aoa(N:Nat)(cs:List AV)(M:Nat)(ds:List AV)(v i x y:Int)(c1:B (i>=0)=true)(c2:(x != y)=false)(n1:0<=i/\i<(N:Int))(n2:Bm (g (A i*1) cs) 0 1 true=some (A6l A5 x))(n3:0<=i/\i<(M:Int))(n4:Bm (g (A i*1) ds) 0 1 true=some (A6l A5 y)):W I Mt (Hp N cs M ds v i) .norm (Hp N cs M ds v (D R (i-1))):=C Dw 300 [.b true,.v (A6l A5 x),.v (A6l A5 y),.b false] [0,1,4,5] (P c1 (P n1 (P n2 (P n3 (P n4 (P c2 a0)))))) (by kernel_rfl)
theorem Aob(N:Nat)(cs:List AV)(M:Nat)(ds:List AV)(v i:Int)(c1:B (i>=0)=false):W I Mt (Hp N cs M ds v i) (.exit 0) (Hp N cs M ds v i):=C Dw 300 [.b false] [0,1,4,5] (P c1 a0) (by kernel_rfl)
def CC(a b:Int):Int:=if a<b then -1 else if b<a then 1 else 0
def BL(n:Int):Int:=if n<0 then -1 else if 0<n then 1 else 0
def Jz(xs ys:List Int):Nat->Int
 | 0=>0
 | m+1=>if xs.getD m 0=ys.getD m 0 then Jz xs ys m else if xs.getD m 0<ys.getD m 0 then -1 else 1
theorem DM(xs:List Int)(m:Nat)(h:m<xs.length):Ac (xs.take (m+1))=Ac (xs.take m)+4294967296^m*xs.getD m 0:=by
 rw[List.take_add_one,Af h,Option.toList_some,Gk];have:(xs.take m).length=m:=by simp;omega
 rw[this];simp[Ac,Z,Af h]
theorem XH{A B x y P:Int}(hA:0<=A/\A<P)(hB:0<=B/\B<P)(h:x<y):A+P*x<B+P*y:=by
 have:=Ag (show x+1<=y by omega) (show 0<=P by omega);rw[CE,CN] at this;omega
theorem XI{xs ys:List Int}(hx:AL xs)(hy:AL ys):∀ m,m<=xs.length->m<=ys.length->Jz xs ys m=CC (Ac (xs.take m)) (Ac (ys.take m)):=by
 intro m;induction m with
 | zero=>intro _ _;simp[Jz,CC,Ac]
 | succ m ih =>
  intro h1 h2;simp only[Jz];rw[DM xs m (by omega),DM ys m (by omega)];have ux:AL (xs.take m):=fun x hx'=>hx x (Ct hx');have uy:AL (ys.take m):=fun x hx'=>hy x (Ct hx');have a1:=AT ux;have a2:=D9 ux;have b1:=AT uy;have b2:=D9 uy;rw[show (xs.take m).length=m by simp;omega] at a2;rw[show (ys.take m).length=m by simp;omega] at b2;by_cases h:xs.getD m 0=ys.getD m 0
  ·rw[if_pos h,ih (by omega) (by omega),h];unfold CC;congr 1
   ·rw[eq_iff_iff];omega
   ·congr 1;rw[eq_iff_iff];omega
  ·rw[if_neg h];by_cases hlt:xs.getD m 0<ys.getD m 0
   ·rw[if_pos hlt];have:=XH ⟨a1,a2⟩ ⟨b1,b2⟩ hlt;unfold CC;rw[if_pos this]
   ·rw[if_neg hlt];have:=XH ⟨b1,b2⟩ ⟨a1,a2⟩ (show ys.getD m 0<xs.getD m 0 by omega);unfold CC;rw[if_neg (by omega),if_pos this]
theorem wZ(xs ys:List Int)(hN:xs.length<=1048576)(hl:xs.length=ys.length):∀ m,m<=xs.length ->
  (Jz xs ys m=0/\W I (.loop Mt) (Hp xs.length (lm xs) ys.length (lm ys) 0 ((m:Int)-1)) (.exit 0) (Hp xs.length (lm xs) ys.length (lm ys) 0 (-1))) \/
  (Jz xs ys m ≠ 0/\∃ j,W I (.loop Mt) (Hp xs.length (lm xs) ys.length (lm ys) 0 ((m:Int)-1)) .ret (Hp xs.length (lm xs) ys.length (lm ys) (Jz xs ys m) j)):=by
 intro m;induction m with
 | zero =>
  intro _;left;refine⟨rfl,?_⟩;exact Am (Aob xs.length (lm xs) ys.length (lm ys) 0 (((0:Nat):Int)-1) (by simp)) (by nofun)
 | succ m ih =>
  intro hm;have e0:((m+1:Nat):Int)-1=(m:Int):=by omega
  have e1:D R ((m:Int)-1)=(m:Int)-1:=Bg (by omega) (by omega);have hx:=DW (xs:=xs) (i:=m) (by omega);have hy:=DW (xs:=ys) (i:=m) (by omega);rw[e0];simp only[Jz];by_cases h:xs.getD m 0=ys.getD m 0
  ·rw[if_pos h];have h1:=Aoa xs.length (lm xs) ys.length (lm ys) 0 (m:Int) (xs.getD m 0) (ys.getD m 0) (by simp) (by simpa using h) (by omega) (by rw[F];exact hx) (by omega) (by rw[F];exact hy);rw[e1] at h1;rcases ih (by omega) with ⟨k1,k2⟩ | ⟨k1,j,k2⟩
   ·exact .inl ⟨k1,W.loop h1 k2⟩
   ·exact .inr ⟨k1,j,W.loop h1 k2⟩
  ·rw[if_neg h];right;by_cases hlt:xs.getD m 0<ys.getD m 0
   ·rw[if_pos hlt];refine⟨by decide,(m:Int),?_⟩;exact Am (Any xs.length (lm xs) ys.length (lm ys) 0 (m:Int) (xs.getD m 0) (ys.getD m 0) (by simp) (by simpa using h) (by simpa using hlt) (by omega) (by rw[F];exact hx) (by omega) (by rw[F];exact hy) (by omega) (by rw[F];exact hx) (by omega) (by rw[F];exact hy)) (by nofun)
   ·rw[if_neg hlt];refine⟨by decide,(m:Int),?_⟩;exact Am (Anz xs.length (lm xs) ys.length (lm ys) 0 (m:Int) (xs.getD m 0) (ys.getD m 0) (by simp) (by simpa using h) (by simpa using hlt) (by omega) (by rw[F];exact hx) (by omega) (by rw[F];exact hy) (by omega) (by rw[F];exact hx) (by omega) (by rw[F];exact hy)) (by nofun)
theorem bL(xs ys:List Int)(h:((xs.length:Int) != (ys.length:Int))=true)(h2:(B ((xs.length:Int)<(ys.length:Int)))=true):H I 134 [sL lm xs,sL lm ys] (A6l R (-1)):=Bt (ps:=[((xs.length:Int) != (ys.length:Int))=true,(B ((xs.length:Int)<(ys.length:Int)))=true]) Dw rfl 300 rfl [.b true,.b true] (by kernel_rfl) ⟨h,h2,trivial⟩
theorem bO(xs ys:List Int)(h:((xs.length:Int) != (ys.length:Int))=true)(h2:(B ((xs.length:Int)<(ys.length:Int)))=false):H I 134 [sL lm xs,sL lm ys] (A6l R 1):=Bt (ps:=[((xs.length:Int) != (ys.length:Int))=true,(B ((xs.length:Int)<(ys.length:Int)))=false]) Dw rfl 300 rfl [.b true,.b false] (by kernel_rfl) ⟨h,h2,trivial⟩
theorem bP(xs ys:List Int)(h:((xs.length:Int) != (ys.length:Int))=false)(hl:W I (.loop Mt) (Hp xs.length (lm xs) ys.length (lm ys) 0 (D R ((xs.length:Int)-1))) (.exit 0) (Hp xs.length (lm xs) ys.length (lm ys) 0 (-1))):H I 134 [sL lm xs,sL lm ys] (A6l R 0):=X (fn:=RH) (s:=(A6o (sL lm xs)::(A6o (sL lm ys)::(Q 2 (A6o (A6l R 0)::(A6o (A6l R (-1))::(Q 35 []))))))) (ex := .ret) rfl rfl (W.seq (C (t:=(vl xs::(vl ys::(Q 2 (vi 0::(Q 36 [])))))) Dw 300 [] [0,1,4] a0) (W.seq (C (t:=(vl xs::(vl ys::(Q 2 (vi 0::(Q 1 (vl xs::(vi (xs.length:Int)::(vl ys::(vi (ys.length:Int)::(A6o (A6m ((xs.length:Int) != (ys.length:Int)))::(Q 30 [])))))))))))) Dw 300 [.b false] [0,1,4,6,7,8,9,10] (P (show ((xs.length:Int) != (ys.length:Int))=false from h) a0)) (W.seq (W.seq (C (t:=(vl xs::(vl ys::(Q 2 (vi 0::(vi (D R ((xs.length:Int)-1))::(Q 35 []))))))) Dw 300 [] [0,1,4,5] a0) (W.block hl)) (C (t:=(vl xs::(vl ys::(Q 2 (vi 0::(vi (-1)::(Q 35 []))))))) (ex := .ret) Dw 300 [] [0,1,4,5] a0)))) (by nofun) rfl
theorem bQ(xs ys:List Int)(r j:Int)(h:((xs.length:Int) != (ys.length:Int))=false)(hl:W I (.loop Mt) (Hp xs.length (lm xs) ys.length (lm ys) 0 (D R ((xs.length:Int)-1))) .ret (Hp xs.length (lm xs) ys.length (lm ys) r j)):H I 134 [sL lm xs,sL lm ys] (A6l R r):=X (fn:=RH) (s:=(A6o (sL lm xs)::(A6o (sL lm ys)::(Q 2 (A6o (A6l R r)::(A6o (A6l R j)::(Q 35 []))))))) (ex := .ret) rfl rfl (W.seq (C (t:=(vl xs::(vl ys::(Q 2 (vi 0::(Q 36 [])))))) Dw 300 [] [0,1,4] a0) (W.seq (C (t:=(vl xs::(vl ys::(Q 2 (vi 0::(Q 1 (vl xs::(vi (xs.length:Int)::(vl ys::(vi (ys.length:Int)::(A6o (A6m ((xs.length:Int) != (ys.length:Int)))::(Q 30 [])))))))))))) Dw 300 [.b false] [0,1,4,6,7,8,9,10] (P (show ((xs.length:Int) != (ys.length:Int))=false from h) a0)) (p (W.seq (C (t:=(vl xs::(vl ys::(Q 2 (vi 0::(vi (D R ((xs.length:Int)-1))::(Q 35 []))))))) Dw 300 [] [0,1,4,5] a0) (DU hl)) (by nofun)))) (by nofun) rfl
theorem I6{xs ys:List Int}(hx:Fg xs)(hy:Fg ys)(h:xs.length<ys.length):Ac xs<Ac ys:=by
 have h1:=D9 hx.1;have h2:=OB hy (by intro e;rw[e] at h;simp at h);have:=Gb (show xs.length<=ys.length-1 by omega);omega
theorem NN{xs ys:List Int}(hx:Fg xs)(hy:Fg ys)(hN:xs.length<=1048576):H I 134 [sL lm xs,sL lm ys] (A6l R (CC (Ac xs) (Ac ys))):=by
 by_cases hl:xs.length=ys.length
 ·have h:((xs.length:Int) != (ys.length:Int))=false:=by rw[hl];simp
  have hg:=XI hx.1 hy.1 xs.length (An _) (by omega);rw[E3,hl,E3,<- hl] at hg;have e1:D R ((xs.length:Int)-1)=(xs.length:Int)-1:=Bg (by omega) (by omega);rcases wZ xs ys hN hl xs.length (An _) with ⟨k1,k2⟩ | ⟨k1,j,k2⟩
  ·rw[<- hg,k1];exact bP xs ys h (by rw[e1];exact k2)
  ·rw[<- hg];exact bQ xs ys _ j h (by rw[e1];exact k2)
 ·have h:((xs.length:Int) != (ys.length:Int))=true:=by simp;omega
  by_cases hlt:xs.length<ys.length
  ·have e:CC (Ac xs) (Ac ys) = -1:=by unfold CC;rw[if_pos (I6 hx hy hlt)]
   rw[e];exact bL xs ys h (by simp;omega)
  ·have:=I6 hy hx (by omega);have e:CC (Ac xs) (Ac ys)=1:=by unfold CC;rw[if_neg (by omega),if_pos this]
   rw[e];exact bO xs ys h (by simp;omega)
theorem Zf(n:Nat):Y (G n)=G n:=by
 have:=I5 (Cc n).1;rw[this,Cn,F]
theorem PQ{n:Nat}(hN:(G n).length<=1048576):H I 99 [A6n (G n).length (lm (G n))] (A6p 1 (G n).length (lm (G n))):=by
 have:=DX (Bp hN (by decide));rwa [Zf] at this
def Zg(neg:Bool)(m:Nat):AV :=
 match (((G m).length:Nat):Int)==0 with
 | true=>(A6l R 0)
 | false=>(match neg with
 | true=>(A6l R (-1))
 | false=>(A6l R 1))
theorem Azg(neg:Bool)(m:Nat)(hN:(G m).length<=1048576):H I 79 [A6r [A6m neg,A6n ((G m).length) (lm (G m))]] (Zg neg m):=by
 unfold Zg;cases c1:((((G m).length:Nat):Int)==0)
 ·cases neg
  ·exact Bt (r := A6l R 1) (ps:=[H I 99 [A6n ((G m).length) (lm (G m))] (A6p 1 ((G m).length) (lm (G m))),((((G m).length:Nat):Int)==0)=false,false=false]) Dw rfl 300 rfl [.r (A6p 1 ((G m).length) (lm (G m))),.b false,.b false] (by kernel_rfl) ⟨(PQ hN),c1,rfl,trivial⟩
  ·exact Bt (r := A6l R (-1)) (ps:=[H I 99 [A6n ((G m).length) (lm (G m))] (A6p 1 ((G m).length) (lm (G m))),((((G m).length:Nat):Int)==0)=false,true=true]) Dw rfl 300 rfl [.r (A6p 1 ((G m).length) (lm (G m))),.b false,.b true] (by kernel_rfl) ⟨(PQ hN),c1,rfl,trivial⟩
 ·exact Bt (r := A6l R 0) (ps:=[H I 99 [A6n ((G m).length) (lm (G m))] (A6p 1 ((G m).length) (lm (G m))),((((G m).length:Nat):Int)==0)=true]) Dw rfl 300 rfl [.r (A6p 1 ((G m).length) (lm (G m))),.b true] (by kernel_rfl) ⟨(PQ hN),c1,trivial⟩
def bS(neg:Bool)(m:Nat):Int:=if m=0 then 0 else if neg then -1 else 1
theorem xA{neg:Bool}{m:Nat}(hN:(G m).length<=1048576):H I 79 [A6r [A6m neg,A6n (G m).length (lm (G m))]] (A6l R (bS neg m)):=by
 have h:=Azg neg m hN;have e:Zg neg m = A6l R (bS neg m):=by
  unfold Zg bS;have hz:(G m).length=0↔m=0:=by rw[Uj,I4]
  by_cases h0:m=0
  ·have e1:((((G m).length:Nat):Int)==0)=true:=by rw[beq_iff_eq];omega
   rw[e1,if_pos h0]
  ·have e1:((((G m).length:Nat):Int)==0)=false:=by rw[beq_eq_false_iff_ne];omega
   rw[e1,if_neg h0];cases neg <;> rfl
 rw[<- e];exact h
theorem Aoc(n:Int):bS (B (n<0)) n.natAbs=BL n:=by
 unfold bS BL;by_cases h0:n=0
 ·subst h0;rfl
 ·rw[if_neg (by omega)];by_cases h1:n<0
  ·simp[h1]
  ·have h2:0<n:=by omega
   simp[h1,h2]
theorem XJ{n:Int}(hN:(G n.natAbs).length<=1048576):H I 79 [o n] (A6l R (BL n)):=by
 have:=xA (neg:=decide (n<0)) hN;rwa [Aoc] at this
def TBB:Cm:=TBA
theorem En:BY I TBB:=Dw
def KR(la:Nat)(xa:List AV)(lb:Nat)(bs:List AV)(n:Nat)(cs:List AV)(i:Int):Ak:=(A6o (A6n la xa)::(A6o (A6n lb bs)::(Q 2 (A6q 1 0 []::(A6q 1 n cs::(A6o (A6l R i)::(Q 59 [])))))))
def KS(la:Nat)(xa:List AV)(lb:Nat)(bs:List AV)(n:Nat)(cs:List AV)(i c k:Int):Ak:=(A6o (A6n la xa)::(A6o (A6n lb bs)::(Q 2 (A6q 1 0 []::(A6q 1 n cs::(A6o (A6l R i)::(A6o (A6l U c)::(A6o (A6l R k)::(Q 57 [])))))))))
theorem xB(la:Nat)(xa:List AV)(lb:Nat)(bs:List AV)(n:Nat)(cs ds:List AV)(i c k x y z:Int)(c1:B (k<(lb:Int))=true)(n1:0<=(D R (i+k))/\(D R (i+k))<(n:Int))(n2:Bm cs (A (D R (i+k))*1) 1 true=some (A6l A5 z))(n3:0<=i/\i<(la:Int))(n4:Bm (g (A i*1) xa) 0 1 true=some (A6l A5 x))(n5:0<=k/\k<(lb:Int))(n6:Bm (g (A k*1) bs) 0 1 true=some (A6l A5 y))(n7:0<=(D R (i+k))/\(D R (i+k))<(n:Int))(n8:Cu cs (A (D R (i+k))*1) [A6l A5 (D A5 (D U (c+(D U ((D U z)+(D U ((D U x)*(D U y))))))))]=some ds):W I QD (KS la xa lb bs n cs i c k) .norm (KS la xa lb bs n ds i (d (D U (c+(D U ((D U z)+(D U ((D U x)*(D U y))))))) (2^(min (A 32) (Al .u64)))) (D R (k+1))):=C En 300 [.b true,.v (A6l A5 z),.v (A6l A5 x),.v (A6l A5 y),.l ds] [0,1,4,5,6,7,8] (P c1 (P n1 (P n2 (P n3 (P n4 (P n5 (P n6 (P n7 (P n8 (P HX a0)))))))))) (by kernel_rfl)
theorem xC(la:Nat)(xa:List AV)(lb:Nat)(bs:List AV)(n:Nat)(cs:List AV)(i c k:Int)(c1:B (k<(lb:Int))=false):W I QD (KS la xa lb bs n cs i c k) (.exit 2) (KS la xa lb bs n cs i c k):=C En 300 [.b false] [0,1,4,5,6,7,8] (P c1 a0) (by kernel_rfl)
theorem jU(la:Nat)(xa:List AV)(lb:Nat)(bs:List AV)(n:Nat)(cs:List AV)(i:Int)(h:(B (i<(la:Int)))=false):W I QE (KR la xa lb bs n cs i) (.exit 0) (KR la xa lb bs n cs i):=C En 300 [.b false] [0,1,4,5,6] (P (show (B (i<(la:Int)))=false from h) a0) (by kernel_rfl)
theorem bT(la:Nat)(xa:List AV)(lb:Nat)(bs:List AV)(n:Nat)(cs ds es:List AV)(i c k:Int)(h:(B (i<(la:Int)))=true)(hl:W I (.loop QD) (KS la xa lb bs n cs i 0 0) (.exit 2) (KS la xa lb bs n ds i c k))(hix:0<=D R (i+(lb:Int))/\D R (i+(lb:Int))<(n:Int))(hst:Cu ds (A (D R (i+(lb:Int)))*1) [A6l A5 (D A5 c)]=some es):W I QE (KR la xa lb bs n cs i) .norm (KR la xa lb bs n es (D R (i+1))):=(W.seq (C (t:=(A6o (A6n la xa)::(A6o (A6n lb bs)::(Q 2 (A6q 1 0 []::(A6q 1 n cs::(vi i::(Q 8 (vi i::(A6o (A6n la xa)::(vi (la:Int)::(A6o (A6m (B (i<(la:Int))))::(Q 47 []))))))))))))) En 300 [.b true] [0,1,4,5,6,15,16,17,18] (P (show (B (i<(la:Int)))=true from h) a0)) (W.seq (Ci (W.seq (C (t:=(A6o (A6n la xa)::(A6o (A6n lb bs)::(Q 2 (A6q 1 0 []::(A6q 1 n cs::(vi i::(A6o (A6l U 0)::(Q 7 (vi i::(A6o (A6n la xa)::(vi (la:Int)::(A6o (A6m (B (i<(la:Int))))::(Q 47 [])))))))))))))) En 300 [] [0,1,4,5,6,7,15,16,17,18] a0) (W.seq (W.seq (C (t:=(A6o (A6n la xa)::(A6o (A6n lb bs)::(Q 2 (A6q 1 0 []::(A6q 1 n cs::(vi i::(A6o (A6l U 0)::(vi 0::(Q 57 [])))))))))) En 300 [] [0,1,4,5,6,7,8] a0) (W.block hl)) (C (t:=(A6o (A6n la xa)::(A6o (A6n lb bs)::(Q 2 (A6q 1 0 []::(A6q 1 n es::(vi i::(A6o (A6l U c)::(vi k::(Q 48 (.dup 5::(vi i::(A6o (A6n lb bs)::(vi (lb:Int)::(vi (D R (i+(lb:Int)))::(A6o (A6l U c)::(A6o (A6l A5 (D A5 c))::(.ptr 5 (A (D R (i+(lb:Int)))*1)::(Q 1 []))))))))))))))))))) En 300 [.l es] [0,1,4,5,6,7,8,57,58,59,60,61,62,63,64] (P (show 0<=(D R (i+(lb:Int)))/\(D R (i+(lb:Int)))<(n:Int) from hix) (P (show Cu ds (A (D R (i+(lb:Int)))*1) [A6l A5 (D A5 c)]=some es from hst) a0)))))) (C (t:=(A6o (A6n la xa)::(A6o (A6n lb bs)::(Q 2 (A6q 1 0 []::(A6q 1 n es::(vi (D R (i+1))::(Q 59 [])))))))) En 300 [] [0,1,4,5,6] a0)))
def Hq(a:Int)(bs:List Int)(i:Nat):Nat->Nat->List Int->Int->List Int × Int
 | 0,_,out,c=>(out,c)
 | r+1,k,out,c=>Hq a bs i r (k+1) (out.set (i+k) ((c+(out.getD (i+k) 0+a*bs.getD k 0)) % 4294967296)) ((c+(out.getD (i+k) 0+a*bs.getD k 0)) / 4294967296)
theorem V8{a b c o:Int}(ha:0<=a/\a<4294967296)(hb:0<=b/\b<4294967296)(hc:0<=c/\c<4294967296)(ho:0<=o/\o<4294967296) :
  0<=a*b/\a*b<=18446744065119617025/\0<=c+(o+a*b)/\c+(o+a*b)<18446744073709551616:=by
 have h1:=A3 ha.1 hb.1;have h2:a*b<=4294967295*4294967295:=DR (by omega) (by omega) hb.1 (by omega);omega
theorem M2{xs:List Int}{i j:Nat}{v:Int}(h:i ≠ j):(xs.set i v).getD j 0=xs.getD j 0:=by
 simp only[Z,F9 h]
theorem XK{a:Int}{bs:List Int}{i:Nat}(ha:0<=a/\a<4294967296)(hb:AL bs):∀ (r k:Nat) (out:List Int) (c:Int),r+k=bs.length->i+bs.length<=out.length->AL out->0<=c/\c<4294967296 ->
  (Hq a bs i r k out c).1.length=out.length/\AL (Hq a bs i r k out c).1/\(0<=(Hq a bs i r k out c).2/\(Hq a bs i r k out c).2<4294967296) /\
  Ac (Hq a bs i r k out c).1+4294967296^(i+bs.length)*(Hq a bs i r k out c).2=Ac out+4294967296^(i+k)*(c+a*Ac (bs.drop k)) /\
  ∀ j,i+bs.length<=j->(Hq a bs i r k out c).1.getD j 0=out.getD j 0:=by
 intro r;induction r with
 | zero =>
  intro k out c hk _ hu hc;have hk':k=bs.length:=by omega
  subst hk';refine⟨rfl,hu,hc,?_,fun _ _=>rfl⟩;simp[Hq,Ac]
 | succ r ih =>
  intro k out c hk hl hu hc;have hbk:=AE hb k;have hok:=AE hu (i+k);obtain⟨w1,w2,w3,w4⟩:=V8 ha hbk hc hok;have hlt:i+k<out.length:=by omega
  simp only[Hq];generalize hW:c+(out.getD (i+k) 0+a*bs.getD k 0)=W at *
  have hm:0<=W % 4294967296/\W % 4294967296<4294967296:=by omega
  obtain⟨g1,g2,g3,g4,g5⟩:=ih (k+1) (out.set (i+k) (W % 4294967296)) (W / 4294967296) (by omega) (by simpa using hl) (Cq hu hm) (by omega);refine⟨by simpa using g1,g2,g3,?_,fun j hj => ?_⟩
  ·rw[g4,DE out (i+k) _ hlt];have hd:Ac (bs.drop k)=bs.getD k 0+4294967296*Ac (bs.drop (k+1)):=by
    rw[CV (show k<bs.length by omega)];simp[Ac,Z,Af (show k<bs.length by omega)]
   rw[hd];have hp:(4294967296:Int)^(i+(k+1))=4294967296^(i+k)*4294967296:=by rw[<- D6,Ax]
   rw[hp];generalize (4294967296:Int)^(i+k)=p at *
   generalize Ac (bs.drop (k+1))=V at *
   have e1:W=4294967296*(W / 4294967296)+W % 4294967296:=by omega
   have e2:c=W-out.getD (i+k) 0-a*bs.getD k 0:=by omega
   rw[e2];generalize W / 4294967296=q at *
   generalize W % 4294967296=m at *
   generalize out.getD (i+k) 0=o at *
   generalize bs.getD k 0=b at *
   subst e1;grind
  ·rw[g5 j hj,M2 (by omega)]
theorem jV(xa bs:List Int)(ha:AL xa)(hb:AL bs)(n i:Nat)(hn:n<=1048576)(hi:i<xa.length)(hib:i+bs.length<=n):∀ (r k:Nat) (out:List Int) (c:Int),r+k=bs.length->out.length=n->AL out->0<=c/\c<4294967296 ->
  W I (.loop QD) (KS xa.length (lm xa) bs.length (lm bs) n (lm out) (i:Int) c (k:Int)) (.exit 2)
   (KS xa.length (lm xa) bs.length (lm bs) n (lm (Hq (xa.getD i 0) bs i r k out c).1) (i:Int) (Hq (xa.getD i 0) bs i r k out c).2 (bs.length:Int)):=by
 intro r;induction r with
 | zero =>
  intro k out c hk _ _ _;have hk':k=bs.length:=by omega
  subst hk';exact Am (xC xa.length (lm xa) bs.length (lm bs) n (lm out) (i:Int) c (bs.length:Int) (by simp)) (by nofun)
 | succ r ih =>
  intro k out c hk hl hu hc;have hai:=AE ha i;have hbk:=AE hb k;have hok:=AE hu (i+k);obtain⟨w1,w2,w3,w4⟩:=V8 hai hbk hc hok;have ei:D R ((i:Int)+(k:Int))=((i+k:Nat):Int):=by rw[Bg (by omega) (by omega)];omega
  have ek:D R ((k:Int)+1)=((k+1:Nat):Int):=by rw[Bg (by omega) (by omega)];omega
  have hz:=V5 (xs:=out) (i:=i+k) (by omega);have hx:=DW (xs:=xa) (i:=i) hi;have hy:=DW (xs:=bs) (i:=k) (by omega);have hst:=Ig (xs:=out) (i:=i+k) (v:=(c+(out.getD (i+k) 0+xa.getD i 0*bs.getD k 0)) % 4294967296) (by omega);have eW:D U (c+D U (D U (out.getD (i+k) 0)+D U (D U (xa.getD i 0)*D U (bs.getD k 0))))=c+(out.getD (i+k) 0+xa.getD i 0*bs.getD k 0):=by
   have q1:D U (xa.getD i 0)=xa.getD i 0:=by rw[B3];omega
   have q2:D U (bs.getD k 0)=bs.getD k 0:=by rw[B3];omega
   have q3:D U (out.getD (i+k) 0)=out.getD (i+k) 0:=by rw[B3];omega
   rw[q1,q2,q3,B3,B3,B3];omega
  have eS:d (c+(out.getD (i+k) 0+xa.getD i 0*bs.getD k 0)) (2^(min (A 32) (Al .u64)))=(c+(out.getD (i+k) 0+xa.getD i 0*bs.getD k 0)) / 4294967296:=by
   show d _ 4294967296=_;rw[t _ (by omega)]
  have h1:=xB xa.length (lm xa) bs.length (lm bs) n (lm out) (lm (out.set (i+k) ((c+(out.getD (i+k) 0+xa.getD i 0*bs.getD k 0)) % 4294967296))) (i:Int) c (k:Int) (xa.getD i 0) (bs.getD k 0) (out.getD (i+k) 0)
   (by simp;omega) (by rw[ei];omega) (by rw[ei,F];exact hz) (by omega) (by rw[F];exact hx) (by omega) (by rw[F];exact hy) (by rw[ei];omega) (by rw[ei,F,eW,DL];exact hst)
  rw[eW,eS,ek] at h1;exact W.loop h1 (ih (k+1) _ _ (by omega) (by simpa using hl) (Cq hu (by omega)) (by omega))
theorem jW(xa bs:List Int)(ha:AL xa)(hb:AL bs)(hN:xa.length+bs.length<=1048576):∀ (r i:Nat) (out:List Int),r+i=xa.length->out.length=xa.length+bs.length->AL out->(∀ j,i+bs.length<=j->out.getD j 0=0) ->
  ∃ out',out'.length=xa.length+bs.length/\AL out'/\Ac out'=Ac out+4294967296^i*(Ac (xa.drop i)*Ac bs) /\
   W I (.loop QE) (KR xa.length (lm xa) bs.length (lm bs) (xa.length+bs.length) (lm out) (i:Int)) (.exit 0) (KR xa.length (lm xa) bs.length (lm bs) (xa.length+bs.length) (lm out') (xa.length:Int)):=by
 intro r;induction r with
 | zero =>
  intro i out hi hl hu _;have hi':i=xa.length:=by omega
  subst hi';refine⟨out,hl,hu,by simp[Ac],?_⟩;exact Am (jU xa.length (lm xa) bs.length (lm bs) (xa.length+bs.length) (lm out) (xa.length:Int) (by simp)) (by nofun)
 | succ r ih =>
  intro i out hi hl hu hz;have hai:=AE ha i;have hlt:i<xa.length:=by omega
  have hin:=jV xa bs ha hb (xa.length+bs.length) i hN hlt (by omega) bs.length 0 out 0 (by omega) hl hu (by omega);obtain⟨g1,g2,g3,g4,g5⟩:=XK (i:=i) hai hb bs.length 0 out 0 (by omega) (by omega) hu (by omega);generalize Hq (xa.getD i 0) bs i bs.length 0 out 0=q at *
  obtain⟨ds,c⟩:=q;dsimp only at g1 g2 g3 g4 g5 hin;have ei:D R ((i:Int)+(bs.length:Int))=((i+bs.length:Nat):Int):=by rw[Bg (by omega) (by omega)];omega
  have ei1:D R ((i:Int)+1)=((i+1:Nat):Int):=by rw[Bg (by omega) (by omega)];omega
  have ec:D A5 c=c:=by rw[DL];omega
  have hst:=Ig (xs:=ds) (i:=i+bs.length) (v:=c) (by omega);have h1:=bT xa.length (lm xa) bs.length (lm bs) (xa.length+bs.length) (lm out) (lm ds) (lm (ds.set (i+bs.length) c)) (i:Int) c (bs.length:Int) (by simp;omega) hin (by rw[ei];omega) (by rw[ei,F,ec];exact hst);rw[ei1] at h1;obtain⟨out',k1,k2,k3,k4⟩:=ih (i+1) (ds.set (i+bs.length) c) (by omega) (by simp;omega) (Cq g2 g3) (fun j hj=>by rw[M2 (by omega),g5 j (by omega),hz j (by omega)]);refine⟨out',k1,k2,?_,W.loop h1 k4⟩;have hv:Ac (ds.set (i+bs.length) c)=Ac out+4294967296^i*(xa.getD i 0*Ac bs):=by
   rw[DE ds _ _ (by omega),g5 _ (An _),hz _ (An _)];simp only[FC,EP,DA,EJ] at g4 |-;exact g4
  have hd:Ac (xa.drop i)=xa.getD i 0+4294967296*Ac (xa.drop (i+1)):=by
   rw[CV hlt];simp[Ac,Z,Af hlt]
  rw[k3,hv,hd,Ax];generalize (4294967296:Int)^i=p at *
  generalize Ac (xa.drop (i+1))=V at *
  grind
theorem bW{xa bs:List Int}(ha:AL xa)(hb:AL bs)(hN:xa.length+bs.length<=1048576) :
  ∃ out,out.length=xa.length+bs.length/\AL out/\Ac out=Ac xa*Ac bs/\H I 146 [sL lm xa,sL lm bs] (A6p 1 out.length (lm out)):=by
 have en:D R ((xa.length:Int)+(bs.length:Int))=((xa.length+bs.length:Nat):Int):=by rw[Bg (by omega) (by omega)];omega
 have eN:(A (D R ((xa.length:Int)+(bs.length:Int))))=xa.length+bs.length:=by rw[en,F]
 obtain⟨out,h1,h2,h3,h4⟩:=jW xa bs ha hb hN xa.length 0 (Ar (xa.length+bs.length) 0) (by omega) (by simp) (fun x hx=>by rw[Awe hx];omega) (fun j _=>by simp[Z,K9];split <;> rfl);refine⟨out,h1,h2,?_,?_⟩
 ·rw[h3,Ez];simp
 have hmk:0<=D R ((xa.length:Int)+(bs.length:Int))/\D R ((xa.length:Int)+(bs.length:Int))<=1048576:=by rw[en];omega
 have hl:W I (.loop QE) (KR xa.length (lm xa) bs.length (lm bs) (A (D R ((xa.length:Int)+(bs.length:Int)))) (Cp [A6l A5 0] (A (D R ((xa.length:Int)+(bs.length:Int))))) 0) (.exit 0) (KR xa.length (lm xa) bs.length (lm bs) (A (D R ((xa.length:Int)+(bs.length:Int)))) (lm out) (xa.length:Int)):=by
  rw[eN,EO];exact h4
 have:=X (prog:=I) (f:=146) (args:=[sL lm xa,sL lm bs]) (r := A6p 1 (A (D R ((xa.length:Int)+(bs.length:Int)))) (lm out)) (fn:=U_) (s:=(A6o (sL lm xa)::(A6o (sL lm bs)::(Q 2 (A6q 1 (A (D R ((xa.length:Int)+(bs.length:Int)))) (lm out)::(Q 1 (A6o (A6l R (xa.length:Int))::(Q 59 [])))))))) (ex := .ret) rfl rfl
  (W.seq (DK (t:=(A6o (sL lm xa)::(A6o (sL lm bs)::(Q 2 (A6q 1 0 []::(Q 61 [])))))) (ex := .norm) (ps:=[]) En 300 [] [0,1,4] (by kernel_rfl) trivial)
  (W.seq (DK (t:=(A6o (sL lm xa)::(A6o (sL lm bs)::(Q 2 (A6q 1 0 []::(A6q 1 (A (D R ((xa.length:Int)+(bs.length:Int)))) (Cp [A6l A5 0] (A (D R ((xa.length:Int)+(bs.length:Int)))))::(Q 3 (A6o (sL lm xa)::(A6o (A6l R (xa.length:Int))::(A6o (sL lm bs)::(A6o (A6l R (bs.length:Int))::(A6o (A6l R (D R ((xa.length:Int)+(bs.length:Int))))::(Q 52 []))))))))))))) (ex := .norm) (ps:=[0<=(D R ((xa.length:Int)+(bs.length:Int)))/\(D R ((xa.length:Int)+(bs.length:Int)))<=1048576]) En 300 [] [0,1,4,5,9,10,11,12,13] (by kernel_rfl) ⟨hmk,trivial⟩)
  (W.seq (W.seq (DK (t:=(A6o (sL lm xa)::(A6o (sL lm bs)::(Q 2 (A6q 1 0 []::(A6q 1 (A (D R ((xa.length:Int)+(bs.length:Int)))) (Cp [A6l A5 0] (A (D R ((xa.length:Int)+(bs.length:Int)))))::(A6o (A6l R 0)::(Q 59 [])))))))) (ex := .norm) (ps:=[]) En 300 [] [0,1,4,5,6] (by kernel_rfl) trivial)
  (W.block hl))
  (DK (t:=(A6o (sL lm xa)::(A6o (sL lm bs)::(Q 2 (A6q 1 (A (D R ((xa.length:Int)+(bs.length:Int)))) (lm out)::(Q 1 (A6o (A6l R (xa.length:Int))::(Q 59 [])))))))) (ex := .ret) (ps:=[]) En 300 [] [0,1,4,6] (by kernel_rfl) trivial)))) (by nofun) rfl
 rw[eN,<- h1] at this;exact this
def TBC:Cm:=TBB
theorem C1:BY I TBC:=En
end Go.Proofs.YtajompaehjkgkaaGreat
namespace Go.Ai
open Bool renaming false_eq_true->Ca
open Decidable renaming decide->B
open Int renaming le_of_dvd->A4j,lt_trichotomy->FD,mul_add->CE,mul_eq_zero->FJ,mul_neg->DZ,mul_one->CN,natAbs->E,pow_succ->Ax,pow_zero->CD,sub_zero->EJ,toNat->A,zero_add->DA
open List renaming all->qW,all_cons->Avr,all_eq_true->BQ,drop->g,drop_eq_getElem_cons->CV,drop_zero->EP,eq_nil_of_length_eq_zero->A1,eq_of_mem_replicate->Awe,ext_getElem->Y9,flatMap_cons->WE,getD_cons_succ->JO,getD_cons_zero->IG,getD_eq_getElem?_getD->Z,getElem?_append_right->AR,getElem?_drop->Bn,getElem?_eq_getElem->Af,getElem?_eq_none->AB,getElem?_map->C7,getElem?_replicate->K9,getElem?_set_ne->F9,length_append->AY,length_cons->Bq,length_drop->Eh,length_nil->Jw,map_append->Ef,map_map->Awg,map_take->R5,mem_cons->CS,mem_map->DS,mem_of_getElem?->SD,mem_of_mem_take->Ct,mem_range->Lo,not_mem_nil->TG,range->Ao,range_succ->Hi,replicate->Ar,replicate_succ->FZ,set_append_right->A4v,set_cons_succ->A6g,set_cons_zero->A6f,set_eq_take_append_cons_drop->qT,take->B1
open Nat renaming add_assoc->D6,add_comm->Hn,add_mul->DN,add_zero->FC,le_refl->An,le_trans->Bp,lt_or_ge->Ck,mul_one->Iu,one_mul->EV,pow_pos->Cx,zero_add->Ch,zero_le->Bv
theorem Cy:∀ (xs:List Int) (i:Nat),Ac (xs.drop i)=xs.getD i 0+4294967296*Ac (xs.drop (i+1))
 | [],i=>by simp[Ac]
 | x::xs,0=>by simp[Ac]
 | x::xs,i+1=>by
  have:=Cy xs i;simpa using this
theorem Co{xs:List Int}{i j:Nat}{v:Int}(h:i ≠ j):(xs.set i v).getD j 0=xs.getD j 0:=by
 simp only[Z,F9 h]
theorem Bs{xs:List Int}{i:Nat}(h:xs.length<=i):xs.getD i 0=0:=by
 simp[Z,AB h]
theorem DF{xs:List Int}{i:Nat}(h:xs.length<=i):Ac (xs.drop i)=0:=by
 rw[List.drop_eq_nil_of_le h];rfl
def Ih(xs ys:List Int):Nat->Nat->List Int->Int->List Int × Int
 | 0,_,o,c=>(o,c)
 | r+1,i,o,c=>Ih xs ys r (i+1) (o.set i ((xs.getD i 0+c+ys.getD i 0) % 4294967296)) ((xs.getD i 0+c+ys.getD i 0) / 4294967296)
theorem xD{xs ys:List Int}(hx:AL xs)(hy:AL ys)(hl:ys.length<=xs.length):∀ (r i:Nat) (o:List Int) (c:Int),r+i=xs.length->xs.length<o.length->AL o->0<=c/\c<=1->(∀ j,i<=j->o.getD j 0=0) ->
  (Ih xs ys r i o c).1.length=o.length/\AL (Ih xs ys r i o c).1/\(0<=(Ih xs ys r i o c).2/\(Ih xs ys r i o c).2<=1) /\
  Ac (Ih xs ys r i o c).1+4294967296^xs.length*(Ih xs ys r i o c).2=Ac o+4294967296^i*(c+Ac (xs.drop i)+Ac (ys.drop i)) /\
  ∀ j,xs.length<=j->(Ih xs ys r i o c).1.getD j 0=0:=by
 intro r;induction r with
 | zero =>
  intro i o c hi _ hu hc hz;have hi':i=xs.length:=by omega
  subst hi';refine⟨rfl,hu,hc,?_,fun j hj=>hz j hj⟩;rw[DF (An _),DF hl];simp[Ih]
 | succ r ih =>
  intro i o c hi hlo hu hc hz;have h1:=AE hx i;have h2:=AE hy i;simp only[Ih];have ex:=Cy xs i;have ey:=Cy ys i;have hoz:=hz i (An _);generalize hW:xs.getD i 0+c+ys.getD i 0=W at *
  have hm:0<=W % 4294967296/\W % 4294967296<4294967296:=by omega
  obtain⟨g1,g2,g3,g4,g5⟩:=ih (i+1) (o.set i (W % 4294967296)) (W / 4294967296) (by omega) (by simpa using hlo) (Cq hu hm) (by omega) (fun j hj=>by rw[Co (by omega)];exact hz j (by omega));refine⟨by simpa using g1,g2,g3,?_,g5⟩;rw[g4,DE o i _ (by omega),ex,ey,hoz,Ax];generalize (4294967296:Int)^i=p at *
  generalize Ac (xs.drop (i+1))=V at *
  generalize Ac (ys.drop (i+1))=U at *
  have e1:W=4294967296*(W / 4294967296)+W % 4294967296:=by omega
  have e2:c=W-xs.getD i 0-ys.getD i 0:=by omega
  rw[e2];generalize W / 4294967296=q at *
  generalize W % 4294967296=m at *
  generalize xs.getD i 0=a at *
  generalize ys.getD i 0=b at *
  subst e1;grind
def I7(xs ys:List Int):Nat->Nat->List Int->Int->List Int × Int
 | 0,_,o,c=>(o,c)
 | r+1,i,o,c=>I7 xs ys r (i+1) (o.set i ((xs.getD i 0-c-ys.getD i 0) % 4294967296)) (-((xs.getD i 0-c-ys.getD i 0) / 4294967296))
theorem xE{xs ys:List Int}(hx:AL xs)(hy:AL ys)(hl:ys.length<=xs.length):∀ (r i:Nat) (o:List Int) (c:Int),r+i=xs.length->xs.length<=o.length->AL o->0<=c/\c<=1->(∀ j,i<=j->o.getD j 0=0) ->
  (I7 xs ys r i o c).1.length=o.length/\AL (I7 xs ys r i o c).1/\(0<=(I7 xs ys r i o c).2/\(I7 xs ys r i o c).2<=1) /\
  Ac (I7 xs ys r i o c).1=Ac o+4294967296^i*(Ac (xs.drop i)-Ac (ys.drop i)-c)+4294967296^xs.length*(I7 xs ys r i o c).2:=by
 intro r;induction r with
 | zero =>
  intro i o c hi _ hu hc hz;have hi':i=xs.length:=by omega
  subst hi';refine⟨rfl,hu,hc,?_⟩;rw[DF (An _),DF hl];simp only[I7];generalize (4294967296:Int)^xs.length=p;grind
 | succ r ih =>
  intro i o c hi hlo hu hc hz;have h1:=AE hx i;have h2:=AE hy i;simp only[I7];have ex:=Cy xs i;have ey:=Cy ys i;have hoz:=hz i (An _);generalize hW:xs.getD i 0-c-ys.getD i 0=W at *
  have hm:0<=W % 4294967296/\W % 4294967296<4294967296:=by omega
  obtain⟨g1,g2,g3,g4⟩:=ih (i+1) (o.set i (W % 4294967296)) (-(W / 4294967296)) (by omega) (by simpa using hlo) (Cq hu hm) (by omega) (fun j hj=>by rw[Co (by omega)];exact hz j (by omega));refine⟨by simpa using g1,g2,g3,?_⟩;rw[g4,DE o i _ (by omega),ex,ey,hoz,Ax];generalize (4294967296:Int)^i=p at *
  generalize Ac (xs.drop (i+1))=V at *
  generalize Ac (ys.drop (i+1))=U at *
  have e1:W=4294967296*(W / 4294967296)+W % 4294967296:=by omega
  have e2:c=xs.getD i 0-ys.getD i 0-W:=by omega
  rw[e2];generalize W / 4294967296=q at *
  generalize W % 4294967296=m at *
  generalize xs.getD i 0=a at *
  generalize ys.getD i 0=b at *
  subst e1;grind
theorem Dx(n j:Nat):(Ar n (0:Int)).getD j 0=0:=by
 simp[Z,K9];split <;> rfl
theorem EC(n:Nat):AL (Ar n 0):=fun x hx=>by rw [Awe hx];omega
theorem jX{xs ys:List Int}(hx:AL xs)(hy:AL ys)(hl:ys.length<=xs.length)(o:List Int)(c:Int)(e:Ih xs ys xs.length 0 (Ar (xs.length+1) 0) 0=(o,c)) :
  o.length=xs.length+1/\AL o/\(0<=c/\c<=1)/\AL (o.set xs.length c)/\Ac (o.set xs.length c)=Ac xs+Ac ys:=by
 obtain⟨g1,g2,g3,g4,g5⟩:=xD hx hy hl xs.length 0 (Ar (xs.length+1) 0) 0 (by omega) (by simp) (EC _) (by omega) (fun j _=>Dx _ j);rw[e] at g1 g2 g3 g4 g5;dsimp only at g1 g2 g3 g4 g5;have hlo:o.length=xs.length+1:=by simpa using g1
 refine⟨hlo,g2,g3,Cq g2 (by omega),?_⟩;rw[DE o _ _ (by omega),g5 _ (An _),EJ,g4,Ez];simp
theorem jY{xs ys:List Int}(hx:AL xs)(hy:AL ys)(hl:ys.length<=xs.length)(hv:Ac ys<=Ac xs)(o:List Int)(c:Int)(e:I7 xs ys xs.length 0 (Ar xs.length 0) 0=(o,c)) :
  o.length=xs.length/\AL o/\Ac o=Ac xs-Ac ys:=by
 obtain⟨g1,g2,g3,g4⟩:=xE hx hy hl xs.length 0 (Ar xs.length 0) 0 (by omega) (by simp) (EC _) (by omega) (fun j _=>Dx _ j);rw[e] at g1 g2 g3 g4;dsimp only at g1 g2 g3 g4;have hlo:o.length=xs.length:=by simpa using g1
 refine⟨hlo,g2,?_⟩;rw[Ez] at g4;simp at g4;have h1:=D9 g2;rw[hlo] at h1;have hp:=Cr xs.length;rcases (show c=0\/c=1 by omega) with h | h
 ·rw[g4,h];simp
 ·rw[h,CN] at g4;omega
abbrev Rn:=Bool × List Int
def O(r:Rn):Int:=rv r.1 r.2
def cn(n:Int):Rn:=(B (n<0),G n.natAbs)
def pc(rs:List Rn):List AV:=rs.flatMap fun r=>[.bool r.1,.sl r.2.length (lm r.2)]
def M(rs:List Rn):List Int:=rs.map O
def pk(ps:List Int):List AV:=pc (ps.map cn)
def z0:Rn:=(false,[])
def AN(K:Nat)(r:Rn):Prop:=AL r.2/\r.2.length<=K
def At(r:Rn):AV := .agg [.bool r.1,.sl r.2.length (lm r.2)]
theorem u(n:Int):O (cn n)=n:=Fr n
theorem V9:O z0=0:=rfl
theorem v(ps:List Int):M (ps.map cn)=ps:=by
 unfold M;rw[Awg];have:(O ∘ cn)=id:=funext u;rw[this,List.map_id]
theorem B9{k:Nat}{n:Int}(h:Bj k n):AN k (cn n):=⟨BK _,h.len⟩
theorem LJ(k:Nat):AN k z0:=⟨fun x hx=>(by cases hx),Bv _⟩
theorem AN.mono{j k:Nat}{r:Rn}(h:AN j r)(hk:j<=k):AN k r:=⟨h.1,Bp h.2 hk⟩
theorem AN.fits{k:Nat}{r:Rn}(h:AN k r):Bj k (O r):=(V6 h.1).mono h.2
theorem VA(rs:List Rn):(pc rs).length=rs.length*2:=by
 induction rs with
 | nil=>rfl
 | cons r rs ih=>simp only[pc,WE,AY,Bq,Jw] at ih |-;omega
theorem LK(r:Rn)(rs:List Rn):pc (r::rs) = .bool r.1 :: .sl r.2.length (lm r.2)::pc rs:=rfl
theorem M3(rs ss:List Rn):pc (rs++ss)=pc rs++pc ss:=by simp [pc]
theorem QO:∀ (i:Nat) (rs:List Rn),(pc rs).drop (i*2)=pc (rs.drop i)
 | 0,rs=>by simp
 | i+1,[]=>by simp[pc]
 | i+1,r::rs=>by
  rw[LK,DN,EV];show (pc rs).drop (i*2)=_;rw[QO i rs];rfl
theorem bX:∀ (i:Nat) (rs:List Rn),(pc rs).take (i*2)=pc (rs.take i)
 | 0,rs=>by simp[pc]
 | i+1,[]=>by simp[pc]
 | i+1,r::rs=>by
  rw[LK,DN,EV];show _::_::(pc rs).take (i*2)=_;rw[bX i rs];rfl
theorem NO{rs:List Rn}{i:Nat}(h:i<rs.length):Bm (g (i*2) (pc rs)) 0 2 false=some (At (rs.getD i z0)):=by
 rw[QO,CV h,LK];simp[Bm,At,Z,Af h]
theorem Azh{rs:List Rn}{i:Nat}(h:i<rs.length):Bm (pc rs) (i*2) 2 false=some (At (rs.getD i z0)):=by
 have h1:=NO h;have hl:=VA rs;simp only[Bm,Ca,if_false,Ch,EP,Eh] at h1 |-;rw[if_pos (by omega)] at h1;rw[if_pos (by omega)];exact h1
theorem Zh{rs:List Rn}{i:Nat}{r:Rn}(h:i<rs.length):Cu (pc rs) (i*2) [.bool r.1,.sl r.2.length (lm r.2)]=some (pc (rs.set i r)):=by
 have hl:=VA rs;simp only[Cu,Bq,Jw];rw[if_pos (by omega)];congr 1;have hs:rs.set i r=rs.take i++r::rs.drop (i+1):=by rw[qT,if_pos h]
 rw[hs,M3,LK,bX];have:(pc rs).drop (i*2+(0+1+1))=pc (rs.drop (i+1)):=by rw[<- QO];congr 1;omega
 simp only[Ch] at this;rw[this];simp
theorem NP(n:Nat):Cp [.bool false,.sl 0 []] n=pc (Ar n z0):=by
 induction n with
 | zero=>rfl
 | succ n ih=>rw[FZ,LK,<- ih];rfl
theorem sB(rs:List Rn):qW (pc rs) (fun c => !Uk c)=true:=by
 rw[BQ];intro c hc;simp only[pc,List.mem_flatMap,CS,TG,or_false] at hc;obtain⟨r,_,rfl | rfl⟩:=hc <;> rfl
theorem Aod(xs:List Int):qW (lm xs) Uk=true:=by
 rw[BQ];intro c hc;simp only[lm,DS] at hc;obtain⟨x,_,rfl⟩:=hc;rfl
theorem Pm(n:Int):Gx (o n)=true:=by
 simp only[o,Gx,Avr,L7,Aod,List.all_nil,Bool.and_self]
theorem s(rs:List Rn):(M rs).length=rs.length:=by simp [M]
theorem C9(rs:List Rn)(i:Nat):(M rs).getD i 0=O (rs.getD i z0):=by
 simp only[M,Z,C7];cases rs[i]? <;> rfl
theorem Be{K:Nat}{rs:List Rn}(h:∀ r∈rs,AN K r)(i:Nat):AN K (rs.getD i z0):=by
 rw[Z];cases e:rs[i]? with
 | none=>exact LJ K
 | some r=>exact h r (SD e)
theorem LL{k:Nat}{ps:List Int}(h:∀ x∈ps,Bj k x):∀ r∈ps.map cn,AN k r:=fun r hr=>by
 obtain⟨x,hx,rfl⟩:=DS.1 hr;exact B9 (h x hx)
theorem Cs{k:Nat}{rs:List Rn}(h:∀ r∈rs,AN k r):∀ x∈M rs,Bj k x:=fun x hx=>by
 obtain⟨r,hr,rfl⟩:=DS.1 hx;exact (h r hr).fits
theorem XL{xs ys:List Int}(h:∀ i,xs.getD i 0=ys.getD i 0):∀ n,l xs n=l ys n:=by
 intro n;induction n with
 | zero=>rfl
 | succ n ih=>simp only[l,h n,ih]
theorem VB(xs:List Int):∀ d,l xs (xs.length+d)=l xs xs.length:=by
 intro d;induction d with
 | zero=>rfl
 | succ d ih =>
  rw[<- D6];simp only[l];rw[Bs (by omega),if_pos rfl,ih]
theorem CG(xs:List Int)(i:Nat):(Y xs).getD i 0=xs.getD i 0:=by
 unfold Y;rcases Ck i (l xs xs.length) with h | h
 ·simp only[Z,List.getElem?_take,if_pos h]
 ·have e:(xs.take (l xs xs.length)).getD i 0=0:=Bs (by simp;omega);rw[e];rcases Ck i xs.length with h2 | h2
  ·exact (My xs xs.length i h h2).symm
  ·exact (Bs h2).symm
theorem JZ{xs ys:List Int}(hl:xs.length=ys.length)(h:∀ i,xs.getD i 0=ys.getD i 0):xs=ys:=by
 apply Y9 hl;intro i h1 h2;have:=h i;simpa [Z,Af h1,Af h2] using this
theorem Fi{xs ys:List Int}(h:∀ i,xs.getD i 0=ys.getD i 0):Y xs=Y ys:=by
 have hlen:(Y xs).length=(Y ys).length:=by
  have h1:∀ zs:List Int,(Y zs).length=l zs zs.length:=fun zs=>by have:=GG zs zs.length;simp[Y];omega
  rw[h1,h1];rcases Nat.le_total xs.length ys.length with g | g
  ·have:=VB xs (ys.length-xs.length);rw[show xs.length+(ys.length-xs.length)=ys.length by omega] at this;rw[<- this,XL h]
  ·have:=VB ys (xs.length-ys.length);rw[show ys.length+(xs.length-ys.length)=xs.length by omega] at this;rw[<- this,XL h]
 refine JZ hlen fun i => ?_;rw[CG,CG,h i]
theorem Fs(xs:List Int):(Y xs).length=l xs xs.length:=by have:=GG xs xs.length;simp [Y];omega
theorem xF{xs:List Int}{x:Int}(h:x∈Y xs):x∈xs:=Ct h
theorem HH(xs:List Int):Y (Y xs)=Y xs:=Fi (CG xs)
def Aa:List Int->Int->Int
 | [],_=>0
 | p::ps,x=>p+x*Aa ps x
theorem S_{xs:List Int}(h:∀ i,xs.getD i 0=0)(x:Int):Aa xs x=0:=by
 induction xs with
 | nil=>rfl
 | cons p ps ih =>
  have h0:=h 0;simp at h0;have:=ih (fun i=>by simpa using h (i+1));simp[Aa,h0,this]
theorem Gl:∀ {xs ys:List Int},(∀ i,xs.getD i 0=ys.getD i 0)->∀ x,Aa xs x=Aa ys x
 | [],ys,h,x=>(S_ (fun i=>(h i).symm) x).symm
 | p::ps,[],h,x=>S_ (fun i=>h i) x
 | p::ps,q::qs,h,x=>by
  have h0:=h 0;simp at h0;simp only[Aa,h0];rw[Gl (fun i=>by simpa using h (i+1)) x]
theorem Dy(xs:List Int)(x:Int):Aa (Y xs) x=Aa xs x:=Gl (CG xs) x
def E7(g:Nat->Rn)(i r:Nat):List Rn:=(Ao i).map g++Ar r z0
theorem Kw(g:Nat->Rn)(i r:Nat):(E7 g i r).length=i+r:=by simp [E7]
theorem M4(g:Nat->Rn)(r:Nat):E7 g 0 r=Ar r z0:=by simp [E7]
theorem M5(g:Nat->Rn)(i:Nat):E7 g i 0=(Ao i).map g:=by simp [E7]
theorem NQ(g:Nat->Rn)(i r:Nat):(E7 g i (r+1)).set i (g i)=E7 g (i+1) r:=by
 unfold E7;rw[A4v _ _ (by simp),Hi,Ef,FZ];simp
theorem jZ(g:Nat->Rn)(i r:Nat):(E7 g i (r+1)).getD i z0=z0:=by
 unfold E7;rw[Z,AR (by simp)];simp
theorem Jc(g:Nat->Rn)(n i:Nat):(M ((Ao n).map g)).getD i 0=if i<n then O (g i) else 0:=by
 rw[C9,Z];by_cases h:i<n
 ·simp[h]
 ·simp[h,V9]
theorem Sb(xs:List Int):(Ao xs.length).map (fun i=>cn (xs.getD i 0))=xs.map cn:=by
 apply Y9 (by simp);intro i h1 h2;have h3:i<xs.length:=by simpa using h2
 simp[Z,Af h3]
theorem M6{K:Nat}{g:Nat->Rn}{n:Nat}(h:∀ i,i<n->AN K (g i)):∀ r∈(Ao n).map g,AN K r:=fun r hr=>by
 obtain⟨i,hi,rfl⟩:=DS.1 hr;exact h i (Lo.1 hi)
theorem GH(k:Nat):Bj k 0:=by unfold Bj;simp;exact Cx (by decide)
theorem VC{k:Nat}{xs:List Int}(h:∀ x∈xs,Bj k x)(i:Nat):Bj k (xs.getD i 0):=by
 rw[Z];cases e:xs[i]? with
 | none=>exact GH k
 | some x=>exact h x (SD e)
def Dl(ps qs:List Int):List Int:=Y ((Ao (max ps.length qs.length)).map fun i=>ps.getD i 0+qs.getD i 0)
def BZ(ps:List Int):List Int:=ps.map fun x => -x
theorem C'(ps qs:List Int)(i:Nat):(Dl ps qs).getD i 0=ps.getD i 0+qs.getD i 0:=by
 unfold Dl;rw[CG,Z];by_cases h:i<max ps.length qs.length
 ·simp[h]
 ·have h1:ps.length<=i:=by omega
  have h2:qs.length<=i:=by omega
  rw[Bs h1,Bs h2];simp[h]
theorem GI(ps:List Int)(i:Nat):(BZ ps).getD i 0 = -(ps.getD i 0):=by
 unfold BZ;simp only[Z,C7];cases ps[i]? <;> simp
theorem PR(ps qs:List Int):Y (Dl ps qs)=Dl ps qs:=HH _
theorem NR(xs:List Int)(x:Int):Aa xs x=xs.getD 0 0+x*Aa (xs.drop 1) x:=by
 cases xs <;> simp[Aa]
theorem TK:∀ (n:Nat) (us bs cs:List Int),us.length<=n->bs.length<=n->cs.length<=n->(∀ i,cs.getD i 0=us.getD i 0+bs.getD i 0)->∀ x,Aa cs x=Aa us x+Aa bs x:=by
 intro n;induction n with
 | zero =>
  intro us bs cs h1 h2 h3 _ x;rw[A1 (by omega:us.length=0),A1 (by omega:bs.length=0),A1 (by omega:cs.length=0)];rfl
 | succ n ih =>
  intro us bs cs h1 h2 h3 h x;rw[NR us,NR bs,NR cs,h 0,ih (us.drop 1) (bs.drop 1) (cs.drop 1) (by simp;omega) (by simp;omega) (by simp;omega) (fun i=>by
   have:=h (i+1);simpa [Z,Hn] using this) x]
  rw[CE];omega
theorem BJ(ps qs:List Int)(x:Int):Aa (Dl ps qs) x=Aa ps x+Aa qs x :=
 TK (max (max ps.length qs.length) (Dl ps qs).length) ps qs _ (by omega) (by omega) (by omega) (C' ps qs) x
theorem Jd(ps:List Int)(x:Int):Aa (BZ ps) x = -Aa ps x:=by
 induction ps with
 | nil=>rfl
 | cons p ps ih =>
  have:BZ (p::ps) = -p::BZ ps:=rfl;rw[this];simp only[Aa,ih];rw[DZ];omega
def vp(rs : List Rn) : Reg := .val (.sl rs.length (pc rs))
def bR(r : Rn) : Reg := .box [.bool r.1, .sl r.2.length (lm r.2)]
def bN(n : Int) : Reg := .box [.bool (decide (n < 0)), .sl ((G (E n)).length) (lm (G (E n)))]
section
variable {prog:Nat->Option IFunc}
theorem WO{c:Opd}{a b:ICode}{s t:Ak}{ex:Ex}(h:c.av s=some (.bool true))(h1:D7 prog a s ex t):D7 prog (.cond c a b) s ex t:=by
 obtain⟨n,h1⟩:=h1;refine⟨n+1,?_⟩;have e1:=Fo (Es prog (show n<=n+1 by omega)) (An n) h1;simp only[Cg,Js,h,e1]
theorem WP{c:Opd}{a b:ICode}{s t:Ak}{ex:Ex}(h:c.av s=some (.bool false))(h1:D7 prog b s ex t):D7 prog (.cond c a b) s ex t:=by
 obtain⟨n,h1⟩:=h1;refine⟨n+1,?_⟩;have e1:=Fo (Es prog (show n<=n+1 by omega)) (An n) h1;simp only[Cg,Js,h,e1]
theorem IJ{c:Opd}{a b:ICode}{s t:Ak}{ex:Ex}{x:Bool}(h:c.av s=some (.bool x))(hx:x=true)(h1:W prog a s ex t):W prog (.cond c a b) s ex t:=by
 subst hx;obtain⟨u,k1,k2⟩:=h1;exact⟨u,WO h k1,k2⟩
theorem IK{c:Opd}{a b:ICode}{s t:Ak}{ex:Ex}{x:Bool}(h:c.av s=some (.bool x))(hx:x=false)(h1:W prog b s ex t):W prog (.cond c a b) s ex t:=by
 subst hx;obtain⟨u,k1,k2⟩:=h1;exact⟨u,WP h k1,k2⟩
theorem xG{id:Nat}{c:ICode}{s t:Ak}{i:Nat}(h:W prog c s (.exit i) t)(hi:i ≠ id):W prog (.block id c) s (.exit i) t:=by
 obtain⟨u,k1,k2⟩:=h;exact⟨u,LF k1 hi,k2⟩
theorem W.up{c:ICode}{ex:Ex}{fin:Ak}(st:Nat->Ak)(n:Nat)(hex:ex ≠ .norm)(step:∀ i,i<n->W prog c (st i) .norm (st (i+1)))(out:W prog c (st n) ex fin):∀ i,i<=n->W prog (.loop c) (st i) ex fin:=by
 have key:∀ r i,i+r=n->W prog (.loop c) (st i) ex fin:=by
  intro r;induction r with
  | zero =>
   intro i hi;have:i=n:=by omega
   subst this;exact Am out hex
  | succ r ih =>
   intro i hi;exact W.loop (step i (by omega)) (ih (i+1) (by omega))
 intro i hi;exact key (n-i) i (by omega)
theorem W.to{c:ICode}{ex:Ex}{s t s' t':Ak}(h:W prog c s ex t)(hs:s=s')(ht:t=t'):W prog c s' ex t':=hs ▸ ht ▸ h
end
theorem Gz{X:Int}{n:Nat}(h:0<=X/\X<(n:Int)):A X<n:=by omega
theorem AM{xs:List Int}{X:Int}(h:0<=X/\X<(xs.length:Int)):Bm (g (A X*1) (lm xs)) 0 1 true=some (.int .u32 (xs.getD (A X) 0)):=DW (Gz h)
theorem XM(ws:List Int)(l h:Nat):B1 ((h-l)*1) (g (l*1) (lm ws))=lm ((ws.drop l).take (h-l)):=by
 simp[lm,R5,List.map_drop]
theorem Ta{ws:List Int}{l h m:Nat}{X:Int}{a b:Bool}(hx:0<=X/\X<((h-l:Nat):Int))(hl:l<=h/\h<=m/\m<=ws.length/\(a=true->b=true)):Bm (g (A X*1) (B1 ((h-l)*1) (g (l*1) (lm ws)))) 0 1 true=some (.int .u32 (((ws.drop l).take (h-l)).getD (A X) 0)):=by
 rw[XM];exact DW (by have:=Gz hx;simp;omega)
theorem Ce{xs:List Int}{n:Nat}(hl:xs.length=n){X:Int}(h:0<=X/\X<(n:Int)):Bm (lm xs) (A X*1) 1 true=some (.int .u32 (xs.getD (A X) 0)):=V5 (hl ▸ Gz h)
theorem CQ{xs:List Int}{n:Nat}(hl:xs.length=n){X:Int}(h:0<=X/\X<(n:Int)){v:Int}:Cu (lm xs) (A X*1) [.int .u32 v]=some (lm (xs.set (A X) v)):=Ig (hl ▸ Gz h)
theorem x{rs:List Rn}{X:Int}(h:0<=X/\X<(rs.length:Int)):Bm (g (A X*2) (pc rs)) 0 2 false=some (At (rs.getD (A X) z0)):=NO (Gz h)
theorem FQ{rs:List Rn}{n:Nat}(hl:rs.length=n){X:Int}(h:0<=X/\X<(n:Int)):Bm (pc rs) (A X*2) 2 false=some (At (rs.getD (A X) z0)):=Azh (hl ▸ Gz h)
theorem Ft{rs:List Rn}{n:Nat}(hl:rs.length=n){X:Int}(h:0<=X/\X<(n:Int)){r:Rn}:Cu (pc rs) (A X*2) [.bool r.1,.sl r.2.length (lm r.2)]=some (pc (rs.set (A X) r)):=Zh (hl ▸ Gz h)
theorem WQ{rs:List Rn}{i:Nat}(h:i<rs.length):g (i*2) (pc rs) = .bool (rs.getD i z0).1 :: .sl (rs.getD i z0).2.length (lm (rs.getD i z0).2)::pc (rs.drop (i+1)):=by
 rw[QO,CV h,LK];simp[Z,Af h]
theorem XN{rs:List Rn}{X:Int}(h:0<=X/\X<(rs.length:Int)):Bm (g 1 (g (A X*2) (pc rs))) 0 1 true=some (.sl (rs.getD (A X) z0).2.length (lm (rs.getD (A X) z0).2)):=by
 rw[WQ (Gz h)];rfl
def pp(ps:List (List Rn)):List AV:=ps.map fun rs => sL pc rs
theorem Azi{ps:List (List Rn)}{i:Nat}(h:i<ps.length):(pp ps)[i]?=some (.sl (ps.getD i []).length (pc (ps.getD i []))):=by
 simp[pp,C7,Af h,Z]
theorem Fj{ps:List (List Rn)}{X:Int}(h:0<=X/\X<(ps.length:Int)):Bm (g (A X*1) (pp ps)) 0 1 true=some (.sl (ps.getD (A X) []).length (pc (ps.getD (A X) []))):=by
 simp only[Bm,if_true,Iu,Bn,FC];exact Azi (Gz h)
theorem VD(xs:List Int)(i:Nat)(v x:Int)(h:i<xs.length):Aa (xs.set i v) x=Aa xs x+x^i*(v-xs.getD i 0):=by
 induction xs generalizing i with
 | nil=>simp at h
 | cons p ps ih =>
  cases i with
  | zero=>simp only[A6f,Aa,CD,IG];omega
  | succ i =>
   simp only[A6g,Aa,JO];rw[ih i (by simpa using h),Ax];generalize x^i=q;generalize Aa ps x=y;generalize ps.getD i 0=z;grind
theorem QP(n:Nat)(x:Int):Aa (Ar n 0) x=0:=by
 induction n with
 | zero=>rfl
 | succ n ih=>simp[FZ,Aa,ih]
theorem Aoe:∀ (d:List Int) (b:Int),(∀ x,b<=x->Aa d x=0)->∀ i,d.getD i 0=0
 | [],_,_,i=>by simp
 | c::d,b,h,i=>by
  have hc:c=0:=by
   have h1:=h (max b (c.natAbs+1)) (by omega);simp only[Aa] at h1;have h2:(max b ((c.natAbs:Int)+1))∣c:=⟨-(Aa d (max b ((c.natAbs:Int)+1))),by rw[DZ];omega⟩;rcases FD c 0 with g | g | g
   ·have:=A4j (a:=max b ((c.natAbs:Int)+1)) (b := -c) (by omega) ((Int.dvd_neg).2 h2);omega
   ·exact g
   ·have:=A4j (a:=max b ((c.natAbs:Int)+1)) (b:=c) (by omega) h2;omega
  cases i with
  | zero=>simpa using hc
  | succ i =>
   have:=Aoe d (max b 1) (fun x hx=>by
    have h1:=h x (by omega);simp only[Aa,hc,DA] at h1;rcases FJ.1 h1 with g | g
    ·omega
    ·exact g) i
   simpa using this
theorem CW{p q:List Int}(h:∀ x,Aa p x=Aa q x)(i:Nat):p.getD i 0=q.getD i 0:=by
 have:=Aoe (Dl p (BZ q)) 0 (fun x _=>by rw[BJ,Jd,h x];omega) i;rw[C',GI] at this;omega
theorem EZ{p q:List Int}(h:∀ x,Aa p x=Aa q x):Y p=Y q:=Fi (CW h)
def KT(p q:List Int):List Int:=Dl p (BZ q)
theorem EN(p q:List Int)(x:Int):Aa (KT p q) x=Aa p x-Aa q x:=by rw [KT,BJ,Jd];omega
theorem PS(p q:List Int)(i:Nat):(KT p q).getD i 0=p.getD i 0-q.getD i 0:=by rw [KT,C',GI];omega
def Av(a:Int)(q:List Int):List Int:=q.map fun x=>a*x
theorem Ap(a:Int)(q:List Int)(x:Int):Aa (Av a q) x=a*Aa q x:=by
 induction q with
 | nil=>simp[Av,Aa]
 | cons c q ih =>
  have:Av a (c::q)=a*c::Av a q:=rfl;rw[this];simp only[Aa,ih];generalize Aa q x=y;grind
theorem AJ(a:Int)(q:List Int)(i:Nat):(Av a q).getD i 0=a*q.getD i 0:=by
 unfold Av;simp only[Z,C7];cases q[i]? <;> simp
def Bo:List Int->List Int->List Int
 | [],_=>[]
 | a::p,q=>Dl (Av a q) (0::Bo p q)
theorem AP(p q:List Int)(x:Int):Aa (Bo p q) x=Aa p x*Aa q x:=by
 induction p with
 | nil=>simp[Bo,Aa]
 | cons a p ih =>
  simp only[Bo,BJ,Ap,Aa,ih];generalize Aa q x=y;generalize Aa p x=z;grind
theorem PT(p q:List Int):Y (Bo p q)=Bo p q:=by
 cases p with
 | nil=>rfl
 | cons a p=>exact PR _ _
theorem GJ{k:Nat}{p:List Int}(hp:∀ x∈p,Bj k x):∀ x∈Y p,Bj k x:=fun x hx=>hp x (xF hx)
theorem XO(p q:List Int):(Dl p q).length<=max p.length q.length:=by
 have:=Bf ((Ao (max p.length q.length)).map fun i=>p.getD i 0+q.getD i 0);simpa [Dl] using this
theorem DG(p:List Int):(BZ p).length=p.length:=by simp [BZ]
def hv:List Int->Int->Int->Int
 | [],_,_=>0
 | t::ts,x,d=>t*d^ts.length+x*hv ts x d
end Go.Ai
namespace Go.Proofs.YtajompaehjkgkaaGreat
open Go.Ai
set_option maxRecDepth 100000
open BitVec renaming ofInt->T,ofInt_natCast->JV,toNat_ofNat->IF,toNat_or->iJ
open Bool renaming and_true->K6,false_and->Kt,false_eq_true->Ca,true_and->Oy
open Decidable renaming decide->B
open Go.Ai.AV renaming agg->A6r,bool->A6m,fresh->A6p,int->A6l,sl->A6n,tup->A6t
open Go.Ai.Reg renaming box->A6s,own->A6q,val->A6o
open Go.IntKind renaming bits->Al,i64->R,u32->A5,u64->U,wrap->D
open Int renaming add_comm->J',emod_add_mul_ediv->SA,emod_eq_of_lt->FY,fdiv->d,fdiv_eq_ediv_of_nonneg->t,lt_of_le_of_lt->xM,mul_le_mul_of_nonneg_left->Ag,mul_le_mul_of_nonneg_right->Ae,mul_nonneg->A3,natAbs->E,natCast_mul->CZ,natCast_nonneg->Hy,natCast_pow->CT,one_mul->CO,pow_add->BC,pow_mul->iM,pow_pos->EF,pow_succ->Ax,pow_zero->CD,sub_zero->EJ,tdiv->As,tdiv_eq_ediv_of_nonneg->B5,tmod->AA,tmod_eq_emod_of_nonneg->Bl,toNat->A,toNat_natCast->F,zero_add->DA
open List renaming append_assoc->MZ,append_nil->O_,drop->g,drop_zero->EP,length->Bk,length_append->AY,length_replicate->E',length_set->AW,map_take->R5,mem_append->BR,mem_singleton->Is,replicate->Ar,take->B1,take_length->E3
open Nat renaming add_mul->DN,add_zero->FC,div_add_mod->iH,le_refl->An,le_trans->Bp,lt_of_le_of_lt->Dk,lt_or_ge->Ck,mod_eq_of_lt->Fk,mul_comm->CM,mul_le_mul_right->AD,mul_one->Iu,one_mul->EV,pow_add->C8,pow_le_pow_right->B4,two_pow_add_eq_or_of_lt->Awc
theorem kD(neg:Bool)(xs:List Int)(c1:((((Y xs).length:Nat):Int)==0)=true)(n1:H I 99 [sL lm xs] (A6p 1 ((Y xs).length) (lm (Y xs)))):H I 79 [A6r [A6m neg,sL lm xs]] (A6l R 0):=i (fn:=U7) C1 rfl 400 rfl [.r (A6p 1 ((Y xs).length) (lm (Y xs))),.b true] (P n1 (P c1 a0))
theorem kF(neg:Bool)(xs:List Int)(c1:((((Y xs).length:Nat):Int)==0)=false)(c2:(neg)=true)(n1:H I 99 [sL lm xs] (A6p 1 ((Y xs).length) (lm (Y xs)))):H I 79 [A6r [A6m neg,sL lm xs]] (A6l R (-1)):=i (fn:=U7) C1 rfl 400 rfl [.r (A6p 1 ((Y xs).length) (lm (Y xs))),.b false,.b true] (P n1 (P c1 (P c2 a0)))
theorem kG(neg:Bool)(xs:List Int)(c1:((((Y xs).length:Nat):Int)==0)=false)(c2:(neg)=false)(n1:H I 99 [sL lm xs] (A6p 1 ((Y xs).length) (lm (Y xs)))):H I 79 [A6r [A6m neg,sL lm xs]] (A6l R 1):=i (fn:=U7) C1 rfl 400 rfl [.r (A6p 1 ((Y xs).length) (lm (Y xs))),.b false,.b false] (P n1 (P c1 (P c2 a0)))
theorem Aof(neg:Bool)(xs:List Int)(v:Int)(n1:H I 98 [A6m (!neg),sL lm xs] (C6 v)):H I 161 [A6r [A6m neg,sL lm xs]] (o v):=i (fn:=Vk) C1 rfl 400 rfl [.r (C6 v)] (P n1 a0)
theorem Azj(neg:Bool)(xs:List Int)(v:Int)(n1:H I 98 [A6m neg,sL lm xs] (C6 v)):H I 97 [A6r [A6m neg,sL lm xs]] (o v):=i (fn:=bB) C1 rfl 400 rfl [.r (C6 v)] (P n1 a0)
def Hr(xs:List Int)(ys:List Int)(n:Nat)(cs:List AV)(c:Int)(i:Int):Ak:=(A6o (sL lm xs)::(A6o (sL lm ys)::(Q 3 (A6q 1 n cs::(A6o (A6l U c)::(A6o (A6l R i)::(Q 46 [])))))))
theorem Aog(xs:List Int)(ys:List Int)(n:Nat)(cs:List AV)(c:Int)(i:Int)(c1:B (i<(xs.length:Int))=true)(c2:B (i<(ys.length:Int))=true)(n1:0<=i/\i<(xs.length:Int))(n2:0<=i/\i<(ys.length:Int))(n3:n+1<=35184372088832):W I Ms (Hr xs ys n cs c i) .norm (Hr xs ys (n+1) (cs++([A6l A5 (D A5 (D U ((D U (c+(D U (xs.getD (A i) 0))))+(D U (ys.getD (A i) 0)))))]:List AV)) (d (D U ((D U (c+(D U (xs.getD (A i) 0))))+(D U (ys.getD (A i) 0)))) (2^(min (A 32) (Al .u64)))) (D R (i+1))):=(C C1 400 [.b true,.b true,.b true,.b true,.v (A6l A5 (xs.getD (A i) 0)),.b true,.v (A6l A5 (ys.getD (A i) 0))] [0,1,5,6,7] (P c1 (P HY (P HY (P c1 (P n1 (P (AM n1) (P c2 (P n2 (P (AM n2) (P (show Bk ([A6l A5 (D A5 (D U ((D U (c+(D U (xs.getD (A i) 0))))+(D U (ys.getD (A i) 0)))))]:List AV)=1*1 from rfl) (P n3 (P HX a0)))))))))))))
theorem Aoh(xs:List Int)(ys:List Int)(n:Nat)(cs:List AV)(c:Int)(i:Int)(c1:B (i<(xs.length:Int))=true)(c2:B (i<(ys.length:Int))=false)(n1:0<=i/\i<(xs.length:Int))(n2:n+1<=35184372088832):W I Ms (Hr xs ys n cs c i) .norm (Hr xs ys (n+1) (cs++([A6l A5 (D A5 (D U (c+(D U (xs.getD (A i) 0)))))]:List AV)) (d (D U (c+(D U (xs.getD (A i) 0)))) (2^(min (A 32) (Al .u64)))) (D R (i+1))):=(C C1 400 [.b true,.b true,.b true,.b true,.v (A6l A5 (xs.getD (A i) 0)),.b false] [0,1,5,6,7] (P c1 (P HY (P HY (P c1 (P n1 (P (AM n1) (P c2 (P (show Bk ([A6l A5 (D A5 (D U (c+(D U (xs.getD (A i) 0)))))]:List AV)=1*1 from rfl) (P n2 (P HX a0)))))))))))
theorem Aoi(xs:List Int)(ys:List Int)(n:Nat)(cs:List AV)(c:Int)(i:Int)(c1:B (i<(xs.length:Int))=false)(c2:B (i<(ys.length:Int))=true)(n1:0<=i/\i<(ys.length:Int))(n2:n+1<=35184372088832):W I Ms (Hr xs ys n cs c i) .norm (Hr xs ys (n+1) (cs++([A6l A5 (D A5 (D U (c+(D U (ys.getD (A i) 0)))))]:List AV)) (d (D U (c+(D U (ys.getD (A i) 0)))) (2^(min (A 32) (Al .u64)))) (D R (i+1))):=(C C1 400 [.b false,.b true,.b true,.b false,.b true,.v (A6l A5 (ys.getD (A i) 0))] [0,1,5,6,7] (P c1 (P c2 (P HY (P c1 (P c2 (P n1 (P (AM n1) (P (show Bk ([A6l A5 (D A5 (D U (c+(D U (ys.getD (A i) 0)))))]:List AV)=1*1 from rfl) (P n2 (P HX a0)))))))))))
theorem Aoj(xs:List Int)(ys:List Int)(n:Nat)(cs:List AV)(c:Int)(i:Int)(c1:B (i<(xs.length:Int))=false)(c2:B (i<(ys.length:Int))=false)(c3:B (c>0)=true)(n1:n+1<=35184372088832):W I Ms (Hr xs ys n cs c i) .norm (Hr xs ys (n+1) (cs++([A6l A5 (D A5 c)]:List AV)) (d c (2^(min (A 32) (Al .u64)))) (D R (i+1))):=(C C1 400 [.b false,.b false,.b true,.b false,.b false] [0,1,5,6,7] (P c1 (P c2 (P c3 (P c1 (P c2 (P (show Bk ([A6l A5 (D A5 c)]:List AV)=1*1 from rfl) (P n1 (P HX a0)))))))))
theorem bY(xs:List Int)(ys:List Int)(n:Nat)(cs:List AV)(c:Int)(i:Int)(c1:B (i<(xs.length:Int))=false)(c2:B (i<(ys.length:Int))=false)(c3:B (c>0)=false):W I Ms (Hr xs ys n cs c i) (.exit 0) (Hr xs ys n cs c i):=(C C1 400 [.b false,.b false,.b false] [0,1,5,6,7] (P c1 (P c2 (P c3 a0))))
theorem Aok(xs ys:List Int)(n:Nat)(cs:List AV)(c i:Int)(hl1:W I (.loop Ms) (Hr xs ys 0 ([]:List AV) 0 0) (.exit 0) (Hr xs ys n cs c i)):H I 144 [sL lm xs,sL lm ys] (A6p 1 n cs):=X (fn:=UY) (s:=(Q 1 (A6o (sL lm ys)::(Q 2 (A6q 1 n cs::(Q 49 [])))))) (ex := .ret) rfl rfl (L (L (q (W.seq (C C1 400 [] [0,1,5,6,7] a0) (W.seq (W.block hl1) (C C1 400 [] [1,4] a0)))))) (by nofun) rfl
def J0(xs:List Int)(ys:List Int)(n:Nat)(cs:List AV)(c:Int)(i:Int):Ak:=(A6o (sL lm xs)::(A6o (sL lm ys)::(Q 3 (A6q 1 n cs::(A6o (A6l U c)::(A6o (A6l R i)::(Q 34 [])))))))
theorem Aol(xs:List Int)(ys:List Int)(n:Nat)(cs:List AV)(c:Int)(i:Int)(c1:B (i<(xs.length:Int))=true)(c2:B (i<(ys.length:Int))=true)(n1:0<=i/\i<(ys.length:Int))(n2:0<=i/\i<(xs.length:Int))(n3:n+1<=35184372088832):W I PH (J0 xs ys n cs c i) .norm (J0 xs ys (n+1) (cs++([A6l A5 (D A5 (D U ((D U ((D U (xs.getD (A i) 0))-(D U (ys.getD (A i) 0))))-c)))]:List AV)) (d (D U ((D U ((D U (xs.getD (A i) 0))-(D U (ys.getD (A i) 0))))-c)) (2^(min (A 63) (Al .u64)))) (D R (i+1))):=(C C1 400 [.b true,.b true,.v (A6l A5 (ys.getD (A i) 0)),.v (A6l A5 (xs.getD (A i) 0))] [0,1,5,6,7] (P c1 (P c2 (P n1 (P (AM n1) (P n2 (P (AM n2) (P (show Bk ([A6l A5 (D A5 (D U ((D U ((D U (xs.getD (A i) 0))-(D U (ys.getD (A i) 0))))-c)))]:List AV)=1*1 from rfl) (P n3 (P WM a0))))))))))
theorem Aom(xs:List Int)(ys:List Int)(n:Nat)(cs:List AV)(c:Int)(i:Int)(c1:B (i<(xs.length:Int))=true)(c2:B (i<(ys.length:Int))=false)(n1:0<=i/\i<(xs.length:Int))(n2:n+1<=35184372088832):W I PH (J0 xs ys n cs c i) .norm (J0 xs ys (n+1) (cs++([A6l A5 (D A5 (D U ((D U ((D U (xs.getD (A i) 0))-0))-c)))]:List AV)) (d (D U ((D U ((D U (xs.getD (A i) 0))-0))-c)) (2^(min (A 63) (Al .u64)))) (D R (i+1))):=(C C1 400 [.b true,.b false,.v (A6l A5 (xs.getD (A i) 0))] [0,1,5,6,7] (P c1 (P c2 (P n1 (P (AM n1) (P (show Bk ([A6l A5 (D A5 (D U ((D U ((D U (xs.getD (A i) 0))-0))-c)))]:List AV)=1*1 from rfl) (P n2 (P WM a0))))))))
theorem Aon(xs:List Int)(ys:List Int)(n:Nat)(cs:List AV)(c:Int)(i:Int)(c1:B (i<(xs.length:Int))=false):W I PH (J0 xs ys n cs c i) (.exit 0) (J0 xs ys n cs c i):=(C C1 400 [.b false] [0,1,5,6,7] (P c1 a0))
theorem Aoo(xs ys:List Int)(n:Nat)(cs:List AV)(c i:Int)(hl1:W I (.loop PH) (J0 xs ys 0 ([]:List AV) 0 0) (.exit 0) (J0 xs ys n cs c i)):H I 145 [sL lm xs,sL lm ys] (A6p 1 n cs):=X (fn:=UZ) (s:=(Q 1 (A6o (sL lm ys)::(Q 2 (A6q 1 n cs::(Q 37 [])))))) (ex := .ret) rfl rfl (L (L (q (W.seq (C C1 400 [] [0,1,5,6,7] a0) (W.seq (W.block hl1) (C C1 400 [] [1,4] a0)))))) (by nofun) rfl
theorem H5(xs:List Int)(v:Int):lm xs++([A6l A5 v]:List AV)=lm (xs++[v]):=by simp [lm]
theorem LM{xs:List Int}(h:AL xs){v:Int}(hv:0<=v/\v<4294967296):AL (xs++[v]):=by
 intro x hx;rcases BR.1 hx with g | g
 ·exact h x g
 ·rw[Is.1 g];exact hv
theorem Kx(xs:List Int)(v:Int):Ac (xs++[v])=Ac xs+4294967296^xs.length*v:=by rw [Gk];simp [Ac]
theorem bZ{s:Int}:d s (2^(min (A 32) (Al .u64)))=s / 4294967296:=by
 show d s 4294967296=_;rw[t _ (by omega)]
theorem A4k{s:Int}:d s (2^(min (A 63) (Al .u64)))=s / 9223372036854775808:=by
 show d s 9223372036854775808=_;rw[t _ (by omega)]
theorem xH{xs ys:List Int}(hx:AL xs)(hy:AL ys)(h1:xs.length<1048576)(h2:ys.length<1048576):∀ (r i:Nat) (acc:List Int) (c:Int),i+r=max xs.length ys.length->acc.length=i->AL acc->0<=c/\c<=1 ->
  ∃ (zs:List Int) (c' i':Int),AL zs/\zs.length<=max xs.length ys.length+1/\Ac zs=Ac acc+4294967296^i*(c+Ac (xs.drop i)+Ac (ys.drop i)) /\
   W I (.loop Ms) (Hr xs ys i (lm acc) c (i:Nat)) (.exit 0) (Hr xs ys zs.length (lm zs) c' i'):=by
 intro r;induction r with
 | zero =>
  intro i acc c hi hl hu hc;have e1:Ac (xs.drop i)=0:=DF (by omega);have e2:Ac (ys.drop i)=0:=DF (by omega);have g1:decide ((i:Int)<(xs.length:Int))=false:=by simp;omega
  have g2:decide ((i:Int)<(ys.length:Int))=false:=by simp;omega
  by_cases hc0:c=0
  ·refine⟨acc,c,i,hu,by omega,by rw[e1,e2,hc0];simp,?_⟩;rw[hl];exact Am (bY xs ys i (lm acc) c (i:Nat) g1 g2 (by simp;omega)) (by nofun)
  ·have hc1:c=1:=by omega
   subst hc1;refine⟨acc++[1],0,D R ((i:Int)+1),LM hu (by omega),by simp;omega,by rw[Kx,e1,e2,hl];simp,?_⟩;have k:=Aoj xs ys i (lm acc) 1 (i:Nat) g1 g2 (by simp) (by omega);rw[bZ,DL,show (1:Int) % 4294967296=1 by decide,show (1:Int) / 4294967296=0 by decide,H5] at k;have ei:D R ((i:Int)+1)=((i+1:Nat):Int):=by rw[Bg (by omega) (by omega)];omega
   rw[ei] at k |-;have k2:=bY xs ys (i+1) (lm (acc++[1])) 0 ((i+1:Nat):Int) (by simp;omega) (by simp;omega) (by simp);have hll:(acc++[1]).length=i+1:=by simp[hl]
   rw[hll];exact W.loop k (Am k2 (by nofun))
 | succ r ih =>
  intro i acc c hi hl hu hc;have bx:=AE hx i;have byy:=AE hy i;have ei:D R ((i:Int)+1)=((i+1:Nat):Int):=by rw[Bg (by omega) (by omega)];omega
  have step:W I Ms (Hr xs ys i (lm acc) c (i:Nat)) .norm (Hr xs ys (i+1) (lm (acc++[(c+xs.getD i 0+ys.getD i 0) % 4294967296])) ((c+xs.getD i 0+ys.getD i 0) / 4294967296) ((i+1:Nat):Int)):=by
   have wx:D U (xs.getD i 0)=xs.getD i 0:=by rw[B3];omega
   have wy:D U (ys.getD i 0)=ys.getD i 0:=by rw[B3];omega
   by_cases g1:i<xs.length <;> by_cases g2:i<ys.length
   ·have k:=Aog xs ys i (lm acc) c (i:Nat) (by simp;omega) (by simp;omega) (by omega) (by omega) (by omega);have w1:D U (D U (c+xs.getD i 0)+ys.getD i 0)=c+xs.getD i 0+ys.getD i 0:=by rw[B3,B3];omega
    simp only[F,wx,wy,w1,bZ,DL,ei,H5] at k;exact k
   ·have k:=Aoh xs ys i (lm acc) c (i:Nat) (by simp;omega) (by simp;omega) (by omega) (by omega);have hz:ys.getD i 0=0:=Bs (by omega);have w1:D U (c+xs.getD i 0)=c+xs.getD i 0+ys.getD i 0:=by rw[B3,hz];omega
    simp only[F,wx,w1,bZ,DL,ei,H5] at k;exact k
   ·have k:=Aoi xs ys i (lm acc) c (i:Nat) (by simp;omega) (by simp;omega) (by omega) (by omega);have hz:xs.getD i 0=0:=Bs (by omega);have w1:D U (c+ys.getD i 0)=c+xs.getD i 0+ys.getD i 0:=by rw[B3,hz];omega
    simp only[F,wy,w1,bZ,DL,ei,H5] at k;exact k
   ·omega
  obtain⟨zs,c',i',q1,q2,q3,q4⟩:=ih (i+1) (acc++[(c+xs.getD i 0+ys.getD i 0) % 4294967296]) ((c+xs.getD i 0+ys.getD i 0) / 4294967296) (by omega) (by simp[hl]) (LM hu (by omega)) (by omega);refine⟨zs,c',i',q1,q2,?_,W.loop step q4⟩;rw[q3,Kx,hl,Cy xs i,Cy ys i,Ax];have hd:=SA (c+xs.getD i 0+ys.getD i 0) 4294967296;generalize (c+xs.getD i 0+ys.getD i 0) % 4294967296=m at *
  generalize (c+xs.getD i 0+ys.getD i 0) / 4294967296=d at *
  generalize (4294967296:Int)^i=p at *
  generalize Ac (xs.drop (i+1))=X at *
  generalize Ac (ys.drop (i+1))=Y at *
  have:c+(xs.getD i 0+4294967296*X)+(ys.getD i 0+4294967296*Y)=m+4294967296*(d+X+Y):=by omega
  rw[this];grind
theorem cA{xs ys:List Int}(hx:AL xs)(hy:AL ys)(h1:xs.length<1048576)(h2:ys.length<1048576):∃ zs,AL zs/\Ac zs=Ac xs+Ac ys/\zs.length<=max xs.length ys.length+1/\H I 144 [sL lm xs,sL lm ys] (A6p 1 zs.length (lm zs)):=by
 obtain⟨zs,c',i',q1,q2,q3,q4⟩:=xH hx hy h1 h2 (max xs.length ys.length) 0 [] 0 (by omega) rfl (fun x hx=>by cases hx) (by omega);refine⟨zs,q1,by rw[q3];simp[Ac],q2,?_⟩;exact Aok xs ys _ _ _ _ q4
theorem xI{xs ys:List Int}(hx:AL xs)(hy:AL ys)(hl2:ys.length<=xs.length)(h1:xs.length<=1048576):∀ (r i:Nat) (acc:List Int) (c:Int),i+r=xs.length->acc.length=i->AL acc->0<=c/\c<=1 ->
  ∃ (zs:List Int) (c' i':Int),AL zs/\zs.length=xs.length/\0<=c'/\Ac zs-4294967296^xs.length*c'=Ac acc+4294967296^i*(Ac (xs.drop i)-Ac (ys.drop i)-c) /\
   W I (.loop PH) (J0 xs ys i (lm acc) c (i:Nat)) (.exit 0) (J0 xs ys zs.length (lm zs) c' i'):=by
 intro r;induction r with
 | zero =>
  intro i acc c hi hl hu hc;have e1:Ac (xs.drop i)=0:=DF (by omega);have e2:Ac (ys.drop i)=0:=DF (by omega);have hii:xs.length=i:=by omega
  refine⟨acc,c,i,hu,by omega,hc.1,by rw[e1,e2,hii];grind,?_⟩;rw[hl];exact Am (Aon xs ys i (lm acc) c (i:Nat) (by simp;omega)) (by nofun)
 | succ r ih =>
  intro i acc c hi hl hu hc;have bx:=AE hx i;have byy:=AE hy i;have ei:D R ((i:Int)+1)=((i+1:Nat):Int):=by rw[Bg (by omega) (by omega)];omega
  have step:W I PH (J0 xs ys i (lm acc) c (i:Nat)) .norm (J0 xs ys (i+1) (lm (acc++[(xs.getD i 0-ys.getD i 0-c) % 4294967296])) (-((xs.getD i 0-ys.getD i 0-c) / 4294967296)) ((i+1:Nat):Int)):=by
   have wx:D U (xs.getD i 0)=xs.getD i 0:=by rw[B3];omega
   have wy:D U (ys.getD i 0)=ys.getD i 0:=by rw[B3];omega
   by_cases g2:i<ys.length
   ·have k:=Aol xs ys i (lm acc) c (i:Nat) (by simp;omega) (by simp;omega) (by omega) (by omega) (by omega);have w1:D U (D U (xs.getD i 0-ys.getD i 0)-c) % 4294967296=(xs.getD i 0-ys.getD i 0-c) % 4294967296:=by rw[B3,B3];omega
    have w2:D U (D U (xs.getD i 0-ys.getD i 0)-c) / 9223372036854775808 = -((xs.getD i 0-ys.getD i 0-c) / 4294967296):=by rw[B3,B3];omega
    simp only[F,wx,wy,A4k,DL,w1,w2,ei,H5] at k;exact k
   ·have k:=Aom xs ys i (lm acc) c (i:Nat) (by simp;omega) (by simp;omega) (by omega) (by omega);have hz:ys.getD i 0=0:=Bs (by omega);have w1:D U (D U (xs.getD i 0-0)-c) % 4294967296=(xs.getD i 0-ys.getD i 0-c) % 4294967296:=by rw[B3,B3,hz];omega
    have w2:D U (D U (xs.getD i 0-0)-c) / 9223372036854775808 = -((xs.getD i 0-ys.getD i 0-c) / 4294967296):=by rw[B3,B3,hz];omega
    simp only[F,wx,A4k,DL,w1,w2,ei,H5] at k;exact k
  obtain⟨zs,c',i',q1,q2,q0,q3,q4⟩:=ih (i+1) (acc++[(xs.getD i 0-ys.getD i 0-c) % 4294967296]) (-((xs.getD i 0-ys.getD i 0-c) / 4294967296)) (by omega) (by simp[hl]) (LM hu (by omega)) (by omega);refine⟨zs,c',i',q1,q2,q0,?_,W.loop step q4⟩;rw[q3,Kx,hl,Cy xs i,Cy ys i,Ax];have hd:=SA (xs.getD i 0-ys.getD i 0-c) 4294967296;generalize (xs.getD i 0-ys.getD i 0-c) % 4294967296=m at *
  generalize (xs.getD i 0-ys.getD i 0-c) / 4294967296=d at *
  generalize (4294967296:Int)^i=p at *
  generalize Ac (xs.drop (i+1))=X at *
  generalize Ac (ys.drop (i+1))=Y at *
  have:xs.getD i 0+4294967296*X-(ys.getD i 0+4294967296*Y)-c=m+4294967296*(d+X-Y):=by omega
  rw[this];grind
theorem Tb{xs ys:List Int}(hx:AL xs)(hy:AL ys)(hl:ys.length<=xs.length)(hv:Ac ys<=Ac xs)(h1:xs.length<=1048576):∃ zs,AL zs/\Ac zs=Ac xs-Ac ys/\zs.length=xs.length/\H I 145 [sL lm xs,sL lm ys] (A6p 1 zs.length (lm zs)):=by
 obtain⟨zs,c',i',q1,q2,q0,q3,q4⟩:=xI hx hy hl h1 xs.length 0 [] 0 (by omega) rfl (fun x hx=>by cases hx) (by omega);simp only[Ac,CD,EP,CO,DA,EJ] at q3;have hlt:=D9 q1;rw[q2] at hlt;have hp:=Cr xs.length;have hc:c'=0:=by
  generalize (4294967296:Int)^xs.length=p at *
  rcases Int.lt_or_le 0 c' with g | g
  ·have:p*1<=p*c':=Ag (by omega) (by omega);omega
  ·omega
 subst hc;refine⟨zs,q1,by simpa using q3,q2,?_⟩;exact Aoo xs ys _ _ _ _ q4
theorem FR{neg:Bool}{xs:List Int}(hu:AL xs)(hN:xs.length<=1048576):H I 98 [A6m neg,sL lm xs] (C6 (rv neg xs)):=PP hu hN
theorem Gm{neg:Bool}{xs:List Int}(hu:AL xs)(hN:xs.length<=1048576):H I 79 [A6r [A6m neg,sL lm xs]] (A6l R (BL (rv neg xs))):=by
 have hm:=DX (Bp hN (by decide));have hz:(Y xs).length=0↔Ac xs=0:=by
  have:=AT hu;rw[I5 hu,Db];omega
 have hv:=AT hu;by_cases h0:Ac xs=0
 ·have h:=kD neg xs (by rw[beq_iff_eq];omega) hm;have e:BL (rv neg xs)=0:=by unfold rv;rw[h0];cases neg <;> rfl
  rw[e];exact h
 ·cases neg with
  | true =>
   have h:=kF true xs (by rw[beq_eq_false_iff_ne];omega) rfl hm;have e:BL (rv true xs) = -1:=by simp only[rv,if_true,BL]; (repeat' split) <;> omega
   rw[e];exact h
  | false =>
   have h:=kG false xs (by rw[beq_eq_false_iff_ne];omega) rfl hm;have e:BL (rv false xs)=1:=by simp only[rv,Ca,if_false,BL]; (repeat' split) <;> omega
   rw[e];exact h
theorem Aop(neg:Bool)(xs:List Int):rv (!neg) xs = -(rv neg xs):=by unfold rv;cases neg <;> simp
theorem Sd{neg:Bool}{xs:List Int}(hu:AL xs)(hN:xs.length<=1048576):H I 161 [A6r [A6m neg,sL lm xs]] (o (-(rv neg xs))):=by
 have h:=FR (neg := !neg) hu hN;rw[Aop] at h;exact Aof neg xs _ h
theorem VE{neg:Bool}{xs:List Int}(hu:AL xs)(hN:xs.length<=1048576):H I 97 [A6r [A6m neg,sL lm xs]] (o (rv neg xs)):=Azj neg xs _ (FR hu hN)
theorem Aoq(na nb:Bool)(xs ys zs:List Int)(v:Int)(n1:H I 99 [sL lm xs] (A6p 1 ((Y xs).length) (lm (Y xs))))(n2:H I 99 [sL lm ys] (A6p 1 ((Y ys).length) (lm (Y ys))))(n3:H I 146 [A6n ((Y xs).length) (lm (Y xs)),A6n ((Y ys).length) (lm (Y ys))] (A6p 1 zs.length (lm zs)))(n4:H I 98 [A6m (!(na==nb)),sL lm zs] (C6 v)):H I 96 [A6r [A6m na,sL lm xs],A6r [A6m nb,sL lm ys]] (o v):=i (fn:=bA) C1 rfl 400 rfl [.r (A6p 1 ((Y xs).length) (lm (Y xs))),.r (A6p 1 ((Y ys).length) (lm (Y ys))),.r (A6p 1 zs.length (lm zs)),.r (C6 v)] (P n1 (P n2 (P n3 (P n4 a0))))
theorem xJ(na nb:Bool)(xs ys zs:List Int)(v:Int)(c1:(na==nb)=true)(n1:H I 99 [sL lm xs] (A6p 1 ((Y xs).length) (lm (Y xs))))(n2:H I 99 [sL lm ys] (A6p 1 ((Y ys).length) (lm (Y ys))))(n3:H I 144 [A6n ((Y xs).length) (lm (Y xs)),A6n ((Y ys).length) (lm (Y ys))] (A6p 1 zs.length (lm zs)))(n4:H I 98 [A6m na,sL lm zs] (C6 v)):H I 95 [A6r [A6m na,sL lm xs],A6r [A6m nb,sL lm ys]] (o v):=i (fn:=U9) C1 rfl 400 rfl [.r (A6p 1 ((Y xs).length) (lm (Y xs))),.r (A6p 1 ((Y ys).length) (lm (Y ys))),.b true,.r (A6p 1 zs.length (lm zs)),.r (C6 v)] (P n1 (P n2 (P c1 (P n3 (P n4 a0)))))
theorem xK(na nb:Bool)(xs ys zs:List Int)(v c:Int)(c1:(na==nb)=false)(c2:B (c>=0)=true)(n1:H I 99 [sL lm xs] (A6p 1 ((Y xs).length) (lm (Y xs))))(n2:H I 99 [sL lm ys] (A6p 1 ((Y ys).length) (lm (Y ys))))(n3:H I 134 [A6n ((Y xs).length) (lm (Y xs)),A6n ((Y ys).length) (lm (Y ys))] (A6l R c))(n4:H I 145 [A6n ((Y xs).length) (lm (Y xs)),A6n ((Y ys).length) (lm (Y ys))] (A6p 1 zs.length (lm zs)))(n5:H I 98 [A6m na,sL lm zs] (C6 v)):H I 95 [A6r [A6m na,sL lm xs],A6r [A6m nb,sL lm ys]] (o v):=i (fn:=U9) C1 rfl 400 rfl [.r (A6p 1 ((Y xs).length) (lm (Y xs))),.r (A6p 1 ((Y ys).length) (lm (Y ys))),.b false,.r (A6l R c),.b true,.r (A6p 1 zs.length (lm zs)),.r (C6 v)] (P n1 (P n2 (P c1 (P n3 (P c2 (P n4 (P n5 a0)))))))
theorem xL(na nb:Bool)(xs ys zs:List Int)(v c:Int)(c1:(na==nb)=false)(c2:B (c>=0)=false)(n1:H I 99 [sL lm xs] (A6p 1 ((Y xs).length) (lm (Y xs))))(n2:H I 99 [sL lm ys] (A6p 1 ((Y ys).length) (lm (Y ys))))(n3:H I 134 [A6n ((Y xs).length) (lm (Y xs)),A6n ((Y ys).length) (lm (Y ys))] (A6l R c))(n4:H I 145 [A6n ((Y ys).length) (lm (Y ys)),A6n ((Y xs).length) (lm (Y xs))] (A6p 1 zs.length (lm zs)))(n5:H I 98 [A6m nb,sL lm zs] (C6 v)):H I 95 [A6r [A6m na,sL lm xs],A6r [A6m nb,sL lm ys]] (o v):=i (fn:=U9) C1 rfl 400 rfl [.r (A6p 1 ((Y xs).length) (lm (Y xs))),.r (A6p 1 ((Y ys).length) (lm (Y ys))),.b false,.r (A6l R c),.b false,.r (A6p 1 zs.length (lm zs)),.r (C6 v)] (P n1 (P n2 (P c1 (P n3 (P c2 (P n4 (P n5 a0)))))))
theorem Aor(na nb:Bool)(xs ys:List Int)(v w:Int)(n1:H I 161 [A6r [A6m nb,sL lm ys]] (o w))(n2:H I 95 [A6r [A6m na,sL lm xs],o w] (o v)):H I 129 [A6r [A6m na,sL lm xs],A6r [A6m nb,sL lm ys]] (o v):=i (fn:=US) C1 rfl 400 rfl [.r (o w),.r (o v)] (P n1 (P n2 a0))
theorem VF(neg:Bool)(xs:List Int):rv neg (Y xs)=rv neg xs:=by unfold rv;rw [Ea]
theorem OE{xs:List Int}(h:AL xs):AL (Y xs):=(Fq h).1
theorem Azk(na nb:Bool)(xs ys zs:List Int)(h:Ac zs=Ac xs*Ac ys):rv (!(na==nb)) zs=rv na xs*rv nb ys:=by
 unfold rv;rw[h];generalize Ac xs=X;generalize Ac ys=Y;cases na <;> cases nb <;> simp <;> grind
theorem NS{na nb:Bool}{xs ys:List Int}(hx:AL xs)(hy:AL ys)(hN:xs.length+ys.length<=1048576):H I 96 [A6r [A6m na,sL lm xs],A6r [A6m nb,sL lm ys]] (o (rv na xs*rv nb ys)):=by
 have t1:=Bf xs;have t2:=Bf ys;obtain⟨zs,z1,z2,z3,z4⟩:=bW (OE hx) (OE hy) (by omega);have hk:=FR (neg := !(na==nb)) z2 (by omega);rw[Azk na nb (Y xs) (Y ys) zs z3,VF,VF] at hk;exact Aoq na nb xs ys zs _ (DX (by omega)) (DX (by omega)) z4 hk
theorem PU{na nb:Bool}{xs ys:List Int}(hx:AL xs)(hy:AL ys)(h1:xs.length<1048576)(h2:ys.length<1048576):H I 95 [A6r [A6m na,sL lm xs],A6r [A6m nb,sL lm ys]] (o (rv na xs+rv nb ys)):=by
 have t1:=Bf xs;have t2:=Bf ys;have c1:=Fq hx;have c2:=Fq hy;have m1:=DX (xs:=xs) (by omega);have m2:=DX (xs:=ys) (by omega);have hcmp:=NN c1 c2 (by omega);by_cases hn:na=nb
 ·subst hn;obtain⟨zs,z1,z2,z3,z4⟩:=cA c1.1 c2.1 (by omega) (by omega);have hk:=FR (neg:=na) z1 (by omega);have e:rv na zs=rv na xs+rv na ys:=by
   unfold rv;rw[z2,Ea,Ea];cases na <;> simp;omega
  rw[e] at hk;exact xJ na na xs ys zs _ (by simp) m1 m2 z4 hk
 ·have hb:nb = !na:=by cases na <;> cases nb <;> simp at hn |-
  by_cases hc:CC (Ac (Y xs)) (Ac (Y ys))>=0
  ·have hle:Ac (Y ys)<=Ac (Y xs):=by unfold CC at hc;split at hc <;> (try split at hc) <;> omega
   have hlen:(Y ys).length<=(Y xs).length:=Ks c2 (xM hle (D9 c1.1));obtain⟨zs,z1,z2,z3,z4⟩:=Tb c1.1 c2.1 hlen hle (by omega);have hk:=FR (neg:=na) z1 (by omega);have e:rv na zs=rv na xs+rv nb ys:=by
    unfold rv;rw[z2,Ea,Ea,hb];cases na <;> simp <;> omega
   rw[e] at hk;exact xK na nb xs ys zs _ _ (by rw[hb];cases na <;> rfl) (by simpa using hc) m1 m2 hcmp z4 hk
  ·have hle:Ac (Y xs)<=Ac (Y ys):=by unfold CC at hc;split at hc <;> (try split at hc) <;> omega
   have hlen:(Y xs).length<=(Y ys).length:=Ks c1 (xM hle (D9 c2.1));obtain⟨zs,z1,z2,z3,z4⟩:=Tb c2.1 c1.1 hlen hle (by omega);have hk:=FR (neg:=nb) z1 (by omega);have e:rv nb zs=rv na xs+rv nb ys:=by
    unfold rv;rw[z2,Ea,Ea,hb];cases na <;> simp <;> omega
   rw[e] at hk;exact xL na nb xs ys zs _ _ (by rw[hb];cases na <;> rfl) (by simpa using hc) m1 m2 hcmp z4 hk
theorem Tc{na nb:Bool}{xs ys:List Int}(hx:AL xs)(hy:AL ys)(h1:xs.length<1048576)(h2:ys.length<1048576):H I 129 [A6r [A6m na,sL lm xs],A6r [A6m nb,sL lm ys]] (o (rv na xs-rv nb ys)):=by
 have hn:=Sd (neg:=nb) hy (by omega);have hl:(G (-(rv nb ys)).natAbs).length<1048576:=by rw[Int.natAbs_neg];exact Dk (E6 hy) h2
 have h:=PU (na:=na) (nb:=decide (-(rv nb ys)<0)) hx (BK (-(rv nb ys)).natAbs) h1 hl;rw[Fr] at h;exact Aor na nb xs ys _ _ hn h
def TBD:Cm:=TBC
theorem Ky:BY I TBD:=C1
theorem Aos{q c:Int}{s:Nat}(hq:0<=q)(hs:q*2^s<18446744073709551616)(hs':s<=64)(hc:0<=c/\c<2^s) :
  D U ((T (Al .u64) (q*2^s) ||| T (Al .u64) c).toNat)=q*2^s+c:=by
 obtain⟨a,rfl⟩:∃ a:Nat,q=a:=⟨q.toNat,by omega⟩;obtain⟨b,rfl⟩:∃ b:Nat,c=b:=⟨c.toNat,by omega⟩;have e1:(a:Int)*2^s=((a*2^s:Nat):Int):=by rw[CZ,CT];rfl
 have hb:b<2^s:=by
  have:(b:Int)<((2^s:Nat):Int):=by rw[CT];exact hc.2
  omega
 have h64:2^s<=2^64:=B4 (by decide) hs';have e64:2^64=18446744073709551616:=by decide
 rw[e1] at hs |-;show D U ((T 64 ((a*2^s:Nat):Int) ||| T 64 (b:Int)).toNat:Int)=_;rw[iJ,JV,JV,IF,IF,Fk (by omega),Fk (by omega),CM a,<- Awc hb,CM (2^s) a,B3];have hsum:a*2^s+b<18446744073709551616:=by
  have hd:a*2^s+2^s<=2^64:=by
   have hk:2^64=2^(64-s)*2^s:=by rw[<- C8];congr 1;omega
   have h1:a<2^(64-s):=by
    rcases Ck a (2^(64-s)) with g | g
    ·exact g
    ·have:=AD (2^s) g;omega
   have h2:=AD (2^s) (show a+1<=2^(64-s) by omega);rw[DN,EV] at h2;omega
  omega
 omega
theorem BG(n:Nat):(0:Int)<2^n:=EF (by decide)
theorem Gv{a b:Nat}(h:a<=b):(2:Int)^a<=2^b:=by
 have h1:2^a<=2^b:=B4 (by decide) h;have e:∀ n:Nat,(2:Int)^n=((2^n:Nat):Int):=fun n=>by rw[CT];rfl
 rw[e,e];omega
theorem M7(n:Nat):(4294967296:Int)^n=2^(32*n):=by
 rw[iM];rfl
theorem HP(n:Nat):(2:Int)^n=4294967296^(n / 32)*2^(n % 32):=by
 rw[M7,<- BC,iH]
def Td(neg:Bool)(xs:List Int)(n:Nat)(cs:List AV)(c:Int)(s:Int)(ms:List Int)(i:Int):Ak:=(Q 2 (A6s [A6m neg,sL lm xs]::(Q 1 (A6s [A6m false,A6n 0 []]::(A6q 1 n cs::(A6o (A6l A5 c)::(A6o (A6l U s)::(A6o (sL lm ms)::(A6o (A6l R i)::(Q 41 []))))))))))
theorem Azl(neg:Bool)(xs:List Int)(n:Nat)(cs:List AV)(c:Int)(s:Int)(ms:List Int)(i:Int)(c1:B (i<(ms.length:Int))=true)(n1:0<=i/\i<(ms.length:Int))(n2:¬ s<0)(n3:n+1<=35184372088832):W I aX (Td neg xs n cs c s ms i) .norm (Td neg xs (n+1) (cs++([A6l A5 (D A5 (D U ((T (Al .u64) (D U ((D U (ms.getD (A i) 0))*2^(min (A s) (Al .u64)))) ||| T (Al .u64) (D U c)).toNat)))]:List AV)) (D A5 (d (D U ((T (Al .u64) (D U ((D U (ms.getD (A i) 0))*2^(min (A s) (Al .u64)))) ||| T (Al .u64) (D U c)).toNat)) (2^(min (A 32) (Al .u64))))) s ms (D R (i+1))):=(C Ky 400 [.b true,.v (A6l A5 (ms.getD (A i) 0))] [2,4,5,6,7,8,9] (P c1 (P n1 (P (AM n1) (P n2 (P (show Bk ([A6l A5 (D A5 (D U ((T (Al .u64) (D U ((D U (ms.getD (A i) 0))*2^(min (A s) (Al .u64)))) ||| T (Al .u64) (D U c)).toNat)))]:List AV)=1*1 from rfl) (P n3 (P HX a0))))))))
theorem Azm(neg:Bool)(xs:List Int)(n:Nat)(cs:List AV)(c:Int)(s:Int)(ms:List Int)(i:Int)(c1:B (i<(ms.length:Int))=false):W I aX (Td neg xs n cs c s ms i) (.exit 0) (Td neg xs n cs c s ms i):=(C Ky 400 [.b false] [2,4,5,6,7,8,9] (P c1 a0))
theorem Azn(neg:Bool)(xs:List Int)(sh:Int)(n:Nat)(cs:List AV)(c i v:Int)(n1:0<=(D R (As sh 32))/\(D R (As sh 32))<=1048576)(n2:H I 99 [sL lm xs] (A6p 1 ((Y xs).length) (lm (Y xs))))(hl3:W I (.loop aX) (Td neg xs (A (D R (As sh 32))) (Cp [A6l A5 0] (A (D R (As sh 32)))) 0 (D U (AA sh 32)) (Y xs) 0) (.exit 0) (Td neg xs n cs c (D U (AA sh 32)) (Y xs) i))(n4:n+1<=35184372088832)(n5:H I 98 [A6m neg,A6n (n+1) (cs++([A6l A5 c]:List AV))] (C6 v)):H I 84 [A6r [A6m neg,sL lm xs],A6l R sh] (C6 v):=X (fn:=aY) (s:=(Q 4 (.bxl 50::(Q 45 (.agn (.st (B (v<0))) 1 ((G (E v)).length) (lm (G (E v)))::[]))))) (ex := .ret) rfl rfl (L (L (L (L (q (W.seq (C Ky 400 [.r (A6p 1 ((Y xs).length) (lm (Y xs)))] [2,4,5,6,7,8,9] (P FB (P n1 (P FB (P n2 a0))))) (W.seq (W.block hl3) (C Ky 400 [.r (C6 v)] [4,50] (P (show Bk ([A6l A5 c]:List AV)=1*1 from rfl) (P n4 (P n5 a0))))))))))) (by nofun) rfl
theorem cB{x c:Int}{s:Nat}(hx:0<=x/\x<4294967296)(hs:s<32)(hc:0<=c/\c<2^s) :
  D U ((T (Al .u64) (D U ((D U x)*2^(min (A (s:Int)) (Al .u64)))) ||| T (Al .u64) (D U c)).toNat)=x*2^s+c
  /\ 0<=(x*2^s+c) / 4294967296/\(x*2^s+c) / 4294967296<2^s/\(2:Int)^s<=2147483648:=by
 have hp:=BG s;have hp2:(2:Int)^s<=2147483648:=Gv (show s<=31 by omega);have hm:x*2^s<=4294967295*2^s:=Ae (by omega) (by omega);have hm0:0<=x*2^s:=A3 hx.1 (by omega);have hmin:min (A (s:Int)) (Al .u64)=s:=by
  rw[F];show min s 64=s;omega
 have w1:D U x=x:=by rw[B3];omega
 have w2:D U (x*2^s)=x*2^s:=by rw[B3];omega
 have w3:D U c=c:=by rw[B3];omega
 refine⟨?_,by omega,by omega,hp2⟩;rw[hmin,w1,w2,w3];exact Aos hx.1 (by omega) (by omega) hc
theorem Aot{neg:Bool}{xs ms pre:List Int}(hu:AL ms){s:Nat}(hs:s<32)(hN:pre.length+ms.length<=1048576):∀ (r i:Nat) (acc:List Int) (c:Int),i+r=ms.length->acc.length=i->AL acc->0<=c/\c<2^s ->
  ∃ (zs:List Int) (c':Int),AL zs/\zs.length=ms.length/\(0<=c'/\c'<2^s)/\Ac zs+4294967296^ms.length*c'=Ac acc+4294967296^i*(c+2^s*Ac (ms.drop i)) /\
   W I (.loop aX) (Td neg xs (pre.length+i) (lm (pre++acc)) c (s:Nat) ms (i:Nat)) (.exit 0) (Td neg xs (pre.length+ms.length) (lm (pre++zs)) c' (s:Nat) ms (ms.length:Nat)):=by
 intro r;induction r with
 | zero =>
  intro i acc c hi hl hacc hc;have e1:Ac (ms.drop i)=0:=DF (by omega);have hi':i=ms.length:=by omega
  refine⟨acc,c,hacc,by omega,hc,by rw[e1,hi'];simp,?_⟩;rw[hi'];exact Am (Azm neg xs _ _ c (s:Nat) ms (ms.length:Nat) (by simp)) (by nofun)
 | succ r ih =>
  intro i acc c hi hl hacc hc;have bm:=AE hu i;obtain⟨w1,w2,w3,w4⟩:=cB bm hs hc;have ei:D R ((i:Int)+1)=((i+1:Nat):Int):=by rw[Bg (by omega) (by omega)];omega
  have k:=Azl neg xs (pre.length+i) (lm (pre++acc)) c (s:Nat) ms (i:Nat) (by simp;omega) (by omega) (by omega) (by omega);have wd:D A5 ((ms.getD i 0*2^s+c) / 4294967296)=(ms.getD i 0*2^s+c) / 4294967296:=by rw[DL];omega
  simp only[F i,w1,bZ,wd,DL (ms.getD i 0*2^s+c),ei,H5,MZ] at k;obtain⟨zs,c',q1,q2,q3,q4,q5⟩:=ih (i+1) (acc++[(ms.getD i 0*2^s+c) % 4294967296]) ((ms.getD i 0*2^s+c) / 4294967296) (by omega) (by simp[hl]) (LM hacc (by omega)) ⟨w2,w3⟩;refine⟨zs,c',q1,q2,q3,?_,W.loop k q5⟩;rw[q4,Kx,hl,Cy ms i,Ax];have hd:=SA (ms.getD i 0*2^s+c) 4294967296;generalize (ms.getD i 0*2^s+c) % 4294967296=m at *
  generalize (ms.getD i 0*2^s+c) / 4294967296=d at *
  generalize (4294967296:Int)^i=p at *
  generalize Ac (ms.drop (i+1))=X at *
  generalize (2:Int)^s=T at *
  generalize ms.getD i 0=y at *
  have:c+T*(y+4294967296*X)=m+4294967296*(d+T*X):=by
   have:c+T*(y+4294967296*X)=(y*T+c)+4294967296*(T*X):=by grind
   omega
  rw[this];grind
theorem XP{neg:Bool}{xs ys:List Int}{t:Int}(h:Ac ys=t*Ac xs):rv neg ys=rv neg xs*t:=by
 unfold rv;rw[h];generalize Ac xs=X;cases neg <;> simp <;> grind
theorem QQ{neg:Bool}{xs:List Int}(hu:AL xs)(n:Nat)(hN:n / 32+xs.length+1<=1048576):H I 84 [A6r [A6m neg,sL lm xs],A6l R (n:Nat)] (C6 (rv neg xs*2^n)):=by
 have t1:=Bf xs;have e1:D R (As (n:Int) 32)=((n / 32:Nat):Int):=by
  rw[B5 (by omega),Bg (by omega) (by omega)];omega
 have e2:D U (AA (n:Int) 32)=((n % 32:Nat):Int):=by
  rw[Bl (by omega),B3];omega
 obtain⟨zs,c',q1,q2,q3,q4,q5⟩:=Aot (neg:=neg) (xs:=xs) (pre:=Ar (n / 32) 0) (OE hu) (s:=n % 32) (by omega) (by simp;omega) (Y xs).length 0 [] 0 (by omega) rfl (fun x hx=>by cases hx) ⟨by omega,BG _⟩;have w4:(2:Int)^(n % 32)<=2147483648:=Gv (show n % 32<=31 by omega);simp only[E',O_,FC,Ac,CD,EP,CO,DA] at q4 q5;have huz:AL (Ar (n / 32) 0++zs++[c']):=by
  refine LM ?_ (by omega);intro x hx;rcases BR.1 hx with g | g
  ·exact EC _ x g
  ·exact q1 x g
 have hlen:(Ar (n / 32) 0++zs++[c']).length=n / 32+(Y xs).length+1:=by simp[q2];omega
 have hk:=FR (neg:=neg) huz (by omega);have hval:Ac (Ar (n / 32) 0++zs++[c'])=2^n*Ac xs:=by
  rw[Kx,Gk,Ez,HP n,AY,E',BC,q2];rw[Ea] at q4;generalize (4294967296:Int)^(n / 32)=p at *
  generalize (4294967296:Int)^(Y xs).length=q at *
  generalize (2:Int)^(n % 32)=T at *
  generalize Ac xs=X at *
  generalize Ac zs=Z at *
  grind
 rw[XP hval] at hk;unfold sL at hk;rw[hlen] at hk;refine Azn neg xs (n:Nat) (n / 32+(Y xs).length) (lm (Ar (n / 32) 0++zs)) c' ((Y xs).length:Nat) _ (by rw[e1];omega) (DX (by omega)) (by rw[e1,e2,F,EO];exact q5) (by omega) (by rw[H5];exact hk)
def TBE:Cm:=TBD
theorem f:BY I TBE:=Ky
def TQ0:Cm:=[]
theorem Cf:BY I TQ0:=BY.nil _
def J1(neg:Bool)(N:Nat)(cs:List AV)(n:Int):Ak:=(Q 1 (A6s [A6m neg,A6n N cs]::(A6o (A6m false)::(A6q 1 0 []::(A6o (A6l R n)::(Q 26 []))))))
theorem Aou(neg:Bool)(N:Nat)(cs:List AV)(n:Int)(x:Int)(c1:B (n>0)=true)(c2:(x==0)=true)(n1:0<=(D R (n-1))/\(D R (n-1))<(N:Int))(n2:Bm (g (A (D R (n-1))*1) cs) 0 1 true=some (A6l A5 x)):W I PG (J1 neg N cs n) .norm (J1 neg N cs (D R (n-1))):=C Cf 300 [.b true,.v (A6l A5 x),.b true] [1,2,3,4] (P c1 (P n1 (P n2 (P c2 a0)))) (by kernel_rfl)
theorem Aov(neg:Bool)(N:Nat)(cs:List AV)(n:Int)(x:Int)(c1:B (n>0)=true)(c2:(x==0)=false)(n1:0<=(D R (n-1))/\(D R (n-1))<(N:Int))(n2:Bm (g (A (D R (n-1))*1) cs) 0 1 true=some (A6l A5 x)):W I PG (J1 neg N cs n) (.exit 0) (J1 neg N cs n):=C Cf 300 [.b true,.v (A6l A5 x),.b false] [1,2,3,4] (P c1 (P n1 (P n2 (P c2 a0)))) (by kernel_rfl)
theorem Aow(neg:Bool)(N:Nat)(cs:List AV)(n:Int)(c1:B (n>0)=false):W I PG (J1 neg N cs n) (.exit 0) (J1 neg N cs n):=C Cf 300 [.b false,.b false] [1,2,3,4] (P c1 (P FA a0)) (by kernel_rfl)
theorem XQ(neg:Bool)(xs:List Int)(hN:xs.length<=1048576):∀ m,m<=xs.length->W I (.loop PG) (J1 neg xs.length (lm xs) (m:Int)) (.exit 0) (J1 neg xs.length (lm xs) ((l xs m:Nat):Int)):=by
 intro m;induction m with
 | zero =>
  intro _;exact Am (Aow neg xs.length (lm xs) ((0:Nat):Int) (by simp)) (by nofun)
 | succ m ih =>
  intro hm;have e1:D R (((m+1:Nat):Int)-1)=(m:Int):=by rw[Bg (by omega) (by omega)];omega
  have hx:=DW (xs:=xs) (i:=m) (by omega);simp only[l];by_cases h0:xs.getD m 0=0
  ·rw[if_pos h0];have h1:=Aou neg xs.length (lm xs) ((m+1:Nat):Int) (xs.getD m 0) (by simp) (by rw[h0];rfl) (by rw[e1];omega) (by rw[e1,F];exact hx);rw[e1] at h1;exact W.loop h1 (ih (by omega))
  ·rw[if_neg h0];exact Am (Aov neg xs.length (lm xs) ((m+1:Nat):Int) (xs.getD m 0) (by simp) (by simpa using h0) (by rw[e1];omega) (by rw[e1,F];exact hx)) (by nofun)
theorem WR(xs:List Int)(hl:W I (.loop PG) (J1 true xs.length (lm xs) (xs.length:Int)) (.exit 0) (J1 true xs.length (lm xs) ((l xs xs.length:Nat):Int)))(hsc:0<=(A ((l xs xs.length:Nat):Int))/\(A ((l xs xs.length:Nat):Int))<=xs.length/\xs.length<=xs.length/\(false=true->true=true)):H I 143 [A6r [A6m true,sL lm xs]] (A6t [A6m (B (((l xs xs.length:Nat):Int)>0)),A6n ((A ((l xs xs.length:Nat):Int))-0) (B1 (((A ((l xs xs.length:Nat):Int))-0)*1) (g (0*1) (lm xs)))]):=X (fn:=RJ) (s:=(Q 1 (A6s [A6m true,sL lm xs]::(A6o (A6m (B (((l xs xs.length:Nat):Int)>0)))::(A6o (A6n ((A ((l xs xs.length:Nat):Int))-0) (B1 (((A ((l xs xs.length:Nat):Int))-0)*1) (g (0*1) (lm xs))))::(A6o (A6l R ((l xs xs.length:Nat):Int))::(Q 16 (.ptr 1 0::(A6o (A6m true)::(A6o (A6m true)::(A6o (A6l R ((l xs xs.length:Nat):Int))::(A6o (A6m (B (((l xs xs.length:Nat):Int)>0)))::(A6o (A6m (B (((l xs xs.length:Nat):Int)>0)))::(.ptr 1 1::(A6o (sL lm xs)::(A6o (A6l R ((l xs xs.length:Nat):Int))::(A6o (A6n ((A ((l xs xs.length:Nat):Int))-0) (B1 (((A ((l xs xs.length:Nat):Int))-0)*1) (g (0*1) (lm xs))))::[]))))))))))))))))) (ex := .ret) rfl rfl (W.seq (C (t:=(A6o (A6r [A6m true,sL lm xs])::(A6s [A6m true,sL lm xs]::(A6o (A6m false)::(A6q 1 0 []::(Q 27 [])))))) Cf 300 [] [0,1,2,3] a0) (W.seq (C (t:=(Q 1 (A6s [A6m true,sL lm xs]::(A6o (A6m false)::(A6q 1 0 []::(vi (xs.length:Int)::(Q 26 []))))))) Cf 300 [] [1,2,3,4] a0) (W.seq (W.block hl) (C (t:=(Q 1 (A6s [A6m true,sL lm xs]::(A6o (A6m (B (((l xs xs.length:Nat):Int)>0)))::(A6o (A6n ((A ((l xs xs.length:Nat):Int))-0) (B1 (((A ((l xs xs.length:Nat):Int))-0)*1) (g (0*1) (lm xs))))::(vi ((l xs xs.length:Nat):Int)::(Q 16 (.ptr 1 0::(A6o (A6m true)::(A6o (A6m true)::(vi ((l xs xs.length:Nat):Int)::(A6o (A6m (B (((l xs xs.length:Nat):Int)>0)))::(A6o (A6m (B (((l xs xs.length:Nat):Int)>0)))::(.ptr 1 1::(vl xs::(vi ((l xs xs.length:Nat):Int)::(A6o (A6n ((A ((l xs xs.length:Nat):Int))-0) (B1 (((A ((l xs xs.length:Nat):Int))-0)*1) (g (0*1) (lm xs))))::[]))))))))))))))))) (ex := .ret) Cf 300 [.b true] [1,2,3,4,21,22,23,24,25,26,27,28,29,30] (P HY (P (show 0<=((l xs xs.length:Nat):Int) from (Hy _)) (P (show 0<=(A ((l xs xs.length:Nat):Int))/\(A ((l xs xs.length:Nat):Int))<=xs.length/\xs.length<=xs.length/\(false=true->true=true) from hsc) a0))))))) (by nofun) rfl
theorem VG(xs:List Int)(hl:W I (.loop PG) (J1 false xs.length (lm xs) (xs.length:Int)) (.exit 0) (J1 false xs.length (lm xs) ((l xs xs.length:Nat):Int)))(hsc:0<=(A ((l xs xs.length:Nat):Int))/\(A ((l xs xs.length:Nat):Int))<=xs.length/\xs.length<=xs.length/\(false=true->true=true)):H I 143 [A6r [A6m false,sL lm xs]] (A6t [A6m false,A6n ((A ((l xs xs.length:Nat):Int))-0) (B1 (((A ((l xs xs.length:Nat):Int))-0)*1) (g (0*1) (lm xs)))]):=X (fn:=RJ) (s:=(Q 1 (A6s [A6m false,sL lm xs]::(A6o (A6m false)::(A6o (A6n ((A ((l xs xs.length:Nat):Int))-0) (B1 (((A ((l xs xs.length:Nat):Int))-0)*1) (g (0*1) (lm xs))))::(A6o (A6l R ((l xs xs.length:Nat):Int))::(Q 16 (.ptr 1 0::(A6o (A6m false)::(A6o (A6m false)::(A6o (.undef)::(A6o (.undef)::(A6o (A6m false)::(.ptr 1 1::(A6o (sL lm xs)::(A6o (A6l R ((l xs xs.length:Nat):Int))::(A6o (A6n ((A ((l xs xs.length:Nat):Int))-0) (B1 (((A ((l xs xs.length:Nat):Int))-0)*1) (g (0*1) (lm xs))))::[]))))))))))))))))) (ex := .ret) rfl rfl (W.seq (C (t:=(A6o (A6r [A6m false,sL lm xs])::(A6s [A6m false,sL lm xs]::(A6o (A6m false)::(A6q 1 0 []::(Q 27 [])))))) Cf 300 [] [0,1,2,3] a0) (W.seq (C (t:=(Q 1 (A6s [A6m false,sL lm xs]::(A6o (A6m false)::(A6q 1 0 []::(vi (xs.length:Int)::(Q 26 []))))))) Cf 300 [] [1,2,3,4] a0) (W.seq (W.block hl) (C (t:=(Q 1 (A6s [A6m false,sL lm xs]::(A6o (A6m false)::(A6o (A6n ((A ((l xs xs.length:Nat):Int))-0) (B1 (((A ((l xs xs.length:Nat):Int))-0)*1) (g (0*1) (lm xs))))::(vi ((l xs xs.length:Nat):Int)::(Q 16 (.ptr 1 0::(A6o (A6m false)::(A6o (A6m false)::(A6o (.undef)::(A6o (.undef)::(A6o (A6m false)::(.ptr 1 1::(vl xs::(vi ((l xs xs.length:Nat):Int)::(A6o (A6n ((A ((l xs xs.length:Nat):Int))-0) (B1 (((A ((l xs xs.length:Nat):Int))-0)*1) (g (0*1) (lm xs))))::[]))))))))))))))))) (ex := .ret) Cf 300 [.b false] [1,2,3,4,21,22,23,24,25,26,27,28,29,30] (P FA (P (show 0<=((l xs xs.length:Nat):Int) from (Hy _)) (P (show 0<=(A ((l xs xs.length:Nat):Int))/\(A ((l xs xs.length:Nat):Int))<=xs.length/\xs.length<=xs.length/\(false=true->true=true) from hsc) a0))))))) (by nofun) rfl
theorem cC(xs:List Int):(A ((l xs xs.length:Nat):Int)-0)=(Y xs).length/\(B1 ((A ((l xs xs.length:Nat):Int)-0)*1) (g (0*1) (lm xs)))=lm (Y xs)/\(0<=(A ((l xs xs.length:Nat):Int))/\(A ((l xs xs.length:Nat):Int))<=xs.length/\xs.length<=xs.length/\(false=true->true=true)):=by
 have hle:=GG xs xs.length;rw[F];refine⟨by simp[Y];omega,by simp[lm,Y,R5],by omega,hle,An _,fun h=>by cases h⟩
theorem Dh{neg:Bool}{xs:List Int}(hu:AL xs)(hN:xs.length<=1048576):H I 143 [A6r [A6m neg,sL lm xs]]
  (A6t [A6m (B (rv neg xs<0)),A6n (G (rv neg xs).natAbs).length (lm (G (rv neg xs).natAbs))]):=by
 obtain⟨e1,e2,e3⟩:=cC xs;have ht:=OD (neg:=neg) hu;have hn:=sA (neg:=neg) hu;have hlen:(Y xs).length=l xs xs.length:=by rw[<- e1,F];rfl
 cases neg with
 | true =>
  have h:=WR xs (XQ true xs hN xs.length (An _)) e3;rw[e2,e1,ht] at h;have e4:decide (((l xs xs.length:Nat):Int)>0)=decide (rv true xs<0):=by
   rw[<- hn,Oy,<- ht,hlen,decide_eq_decide];omega
  rw[e4] at h;exact h
 | false =>
  have h:=VG xs (XQ false xs hN xs.length (An _)) e3;rw[e2,e1,ht] at h;rw[Kt] at hn;rw[<- hn];exact h
def J2(neg:Bool)(N:Nat)(cs:List AV)(n:Int):Ak:=(A6o (A6m neg)::(A6o (A6n N cs)::(Q 2 (A6s [A6m false,A6n 0 []]::(A6o (A6l R n)::(Q 23 []))))))
theorem Aox(neg:Bool)(N:Nat)(cs:List AV)(n:Int)(x:Int)(c1:B (n>0)=true)(c2:(x==0)=true)(n1:0<=(D R (n-1))/\(D R (n-1))<(N:Int))(n2:Bm (g (A (D R (n-1))*1) cs) 0 1 true=some (A6l A5 x)):W I PI (J2 neg N cs n) .norm (J2 neg N cs (D R (n-1))):=C Cf 300 [.b true,.v (A6l A5 x),.b true] [0,1,4,5] (P c1 (P n1 (P n2 (P c2 a0)))) (by kernel_rfl)
theorem Aoy(neg:Bool)(N:Nat)(cs:List AV)(n:Int)(x:Int)(c1:B (n>0)=true)(c2:(x==0)=false)(n1:0<=(D R (n-1))/\(D R (n-1))<(N:Int))(n2:Bm (g (A (D R (n-1))*1) cs) 0 1 true=some (A6l A5 x)):W I PI (J2 neg N cs n) (.exit 0) (J2 neg N cs n):=C Cf 300 [.b true,.v (A6l A5 x),.b false] [0,1,4,5] (P c1 (P n1 (P n2 (P c2 a0)))) (by kernel_rfl)
theorem Aoz(neg:Bool)(N:Nat)(cs:List AV)(n:Int)(c1:B (n>0)=false):W I PI (J2 neg N cs n) (.exit 0) (J2 neg N cs n):=C Cf 300 [.b false,.b false] [0,1,4,5] (P c1 (P FA a0)) (by kernel_rfl)
theorem xN(neg:Bool)(xs:List Int)(hN:xs.length<=1048576):∀ m,m<=xs.length->W I (.loop PI) (J2 neg xs.length (lm xs) (m:Int)) (.exit 0) (J2 neg xs.length (lm xs) ((l xs m:Nat):Int)):=by
 intro m;induction m with
 | zero =>
  intro _;exact Am (Aoz neg xs.length (lm xs) ((0:Nat):Int) (by simp)) (by nofun)
 | succ m ih =>
  intro hm;have e1:D R (((m+1:Nat):Int)-1)=(m:Int):=by rw[Bg (by omega) (by omega)];omega
  have hx:=DW (xs:=xs) (i:=m) (by omega);simp only[l];by_cases h0:xs.getD m 0=0
  ·rw[if_pos h0];have h1:=Aox neg xs.length (lm xs) ((m+1:Nat):Int) (xs.getD m 0) (by simp) (by rw[h0];rfl) (by rw[e1];omega) (by rw[e1,F];exact hx);rw[e1] at h1;exact W.loop h1 (ih (by omega))
  ·rw[if_neg h0];exact Am (Aoy neg xs.length (lm xs) ((m+1:Nat):Int) (xs.getD m 0) (by simp) (by simpa using h0) (by rw[e1];omega) (by rw[e1,F];exact hx)) (by nofun)
theorem kH(neg:Bool)(xs:List Int)(hz:(((l xs xs.length:Nat):Int)==0)=true)(hl:W I (.loop PI) (J2 neg xs.length (lm xs) (xs.length:Int)) (.exit 0) (J2 neg xs.length (lm xs) ((l xs xs.length:Nat):Int))):H I 152 [A6m neg,sL lm xs] (A6r [A6m false,A6n 0 []]):=X (fn:=RT) (s:=(A6o (A6m neg)::(A6o (sL lm xs)::(Q 2 (A6s [A6m false,A6n 0 []]::(A6o (A6l R ((l xs xs.length:Nat):Int))::(Q 14 (A6o (A6l R ((l xs xs.length:Nat):Int))::(A6o (A6m (((l xs xs.length:Nat):Int)==0))::(A6o (A6r [A6m false,A6n 0 []])::(Q 6 []))))))))))) (ex := .ret) rfl rfl (W.seq (C (t:=(A6o (A6m neg)::(vl xs::(Q 2 (A6s [A6m false,A6n 0 []]::(Q 24 [])))))) Cf 300 [] [0,1,4] a0) (W.seq (C (t:=(A6o (A6m neg)::(vl xs::(Q 2 (A6s [A6m false,A6n 0 []]::(vi (xs.length:Int)::(Q 23 []))))))) Cf 300 [] [0,1,4,5] a0) (W.seq (W.block hl) (C (t:=(A6o (A6m neg)::(vl xs::(Q 2 (A6s [A6m false,A6n 0 []]::(vi ((l xs xs.length:Nat):Int)::(Q 14 (vi ((l xs xs.length:Nat):Int)::(A6o (A6m (((l xs xs.length:Nat):Int)==0))::(A6o (A6r [A6m false,A6n 0 []])::(Q 6 []))))))))))) (ex := .ret) Cf 300 [.b true] [0,1,4,5,20,21,22] (P (show (((l xs xs.length:Nat):Int)==0)=true from hz) a0))))) (by nofun) rfl
theorem kI(neg:Bool)(xs:List Int)(hz:(((l xs xs.length:Nat):Int)==0)=false)(hl:W I (.loop PI) (J2 neg xs.length (lm xs) (xs.length:Int)) (.exit 0) (J2 neg xs.length (lm xs) ((l xs xs.length:Nat):Int)))(hsc:0<=(A ((l xs xs.length:Nat):Int))/\(A ((l xs xs.length:Nat):Int))<=(A ((l xs xs.length:Nat):Int))/\(A ((l xs xs.length:Nat):Int))<=xs.length/\(true=true->true=true)):H I 152 [A6m neg,sL lm xs] (A6r [A6m neg,A6n ((A ((l xs xs.length:Nat):Int))-0) (B1 (((A ((l xs xs.length:Nat):Int))-0)*1) (g (0*1) (lm xs)))]):=X (fn:=RT) (s:=(A6o (A6m neg)::(A6o (sL lm xs)::(Q 2 (A6s [A6m neg,A6n ((A ((l xs xs.length:Nat):Int))-0) (B1 (((A ((l xs xs.length:Nat):Int))-0)*1) (g (0*1) (lm xs)))]::(A6o (A6l R ((l xs xs.length:Nat):Int))::(Q 14 (A6o (A6l R ((l xs xs.length:Nat):Int))::(A6o (A6m (((l xs xs.length:Nat):Int)==0))::(Q 1 (A6o (A6m neg)::(A6o (sL lm xs)::(A6o (A6l R ((l xs xs.length:Nat):Int))::(A6o (A6l R ((l xs xs.length:Nat):Int))::(A6o (A6n ((A ((l xs xs.length:Nat):Int))-0) (B1 (((A ((l xs xs.length:Nat):Int))-0)*1) (g (0*1) (lm xs))))::(A6o (A6r [A6m neg,A6n ((A ((l xs xs.length:Nat):Int))-0) (B1 (((A ((l xs xs.length:Nat):Int))-0)*1) (g (0*1) (lm xs)))])::[])))))))))))))))) (ex := .ret) rfl rfl (W.seq (C (t:=(A6o (A6m neg)::(vl xs::(Q 2 (A6s [A6m false,A6n 0 []]::(Q 24 [])))))) Cf 300 [] [0,1,4] a0) (W.seq (C (t:=(A6o (A6m neg)::(vl xs::(Q 2 (A6s [A6m false,A6n 0 []]::(vi (xs.length:Int)::(Q 23 []))))))) Cf 300 [] [0,1,4,5] a0) (W.seq (W.block hl) (C (t:=(A6o (A6m neg)::(vl xs::(Q 2 (A6s [A6m neg,A6n ((A ((l xs xs.length:Nat):Int))-0) (B1 (((A ((l xs xs.length:Nat):Int))-0)*1) (g (0*1) (lm xs)))]::(vi ((l xs xs.length:Nat):Int)::(Q 14 (vi ((l xs xs.length:Nat):Int)::(A6o (A6m (((l xs xs.length:Nat):Int)==0))::(Q 1 (A6o (A6m neg)::(vl xs::(vi ((l xs xs.length:Nat):Int)::(vi ((l xs xs.length:Nat):Int)::(A6o (A6n ((A ((l xs xs.length:Nat):Int))-0) (B1 (((A ((l xs xs.length:Nat):Int))-0)*1) (g (0*1) (lm xs))))::(A6o (A6r [A6m neg,A6n ((A ((l xs xs.length:Nat):Int))-0) (B1 (((A ((l xs xs.length:Nat):Int))-0)*1) (g (0*1) (lm xs)))])::[])))))))))))))))) (ex := .ret) Cf 300 [.b false] [0,1,4,5,20,21,23,24,25,26,27,28] (P (show (((l xs xs.length:Nat):Int)==0)=false from hz) (P (show 0<=((l xs xs.length:Nat):Int) from (Hy _)) (P (show 0<=((l xs xs.length:Nat):Int) from (Hy _)) (P (show 0<=(A ((l xs xs.length:Nat):Int))/\(A ((l xs xs.length:Nat):Int))<=(A ((l xs xs.length:Nat):Int))/\(A ((l xs xs.length:Nat):Int))<=xs.length/\(true=true->true=true) from hsc) a0)))))))) (by nofun) rfl
theorem E8{neg:Bool}{xs:List Int}(hu:AL xs)(hN:xs.length<=1048576):H I 152 [A6m neg,sL lm xs] (o (rv neg xs)):=by
 obtain⟨e1,e2,e3⟩:=cC xs;have ht:=OD (neg:=neg) hu;have hn:=sA (neg:=neg) hu;have hlen:(Y xs).length=l xs xs.length:=by rw[<- e1,F];rfl
 have hl:=xN neg xs hN xs.length (An _);by_cases h0:l xs xs.length=0
 ·have h:=kH neg xs (by rw[h0];rfl) hl;have hz:(G (rv neg xs).natAbs).length=0:=by rw[<- ht,hlen,h0]
  have hv:rv neg xs=0:=by have:=(Db _).1 hz;omega
  rw[hv];exact h
 ·have h:=kI neg xs (by rw[beq_eq_false_iff_ne];omega) hl ⟨e3.1,An _,e3.2.1,fun _=>rfl⟩;rw[e2,e1,ht] at h;have hp:decide (0<(G (rv neg xs).natAbs).length)=true:=by rw[<- ht,hlen];simp;omega
  rw[hp,K6] at hn;rw[o,<- hn];exact h
theorem kJ(n:Int)(c1:decide (n<0)=true)(hcall:H I 152 [A6m (B (n<0)),A6n 2 [A6l A5 (D A5 (D U (0-(D U n)))),A6l A5 (D A5 (d (D U (0-(D U n))) (2^(min (A 32) (Al .u64)))))]] (A6r [A6m (B (n<0)),A6n ((G (E n)).length) (lm (G (E n)))])):H I 132 [A6l R n] (A6r [A6m (B (n<0)),A6n ((G (E n)).length) (lm (G (E n)))]):=Bt (ps:=[(B (n<0))=true,¬ (32:Int)<0,H I 152 [A6m (B (n<0)),A6n 2 [A6l A5 (D A5 (D U (0-(D U n)))),A6l A5 (D A5 (d (D U (0-(D U n))) (2^(min (A 32) (Al .u64)))))]] (A6r [A6m (B (n<0)),A6n ((G (E n)).length) (lm (G (E n)))])]) Cf rfl 300 rfl [.b true,.r (A6r [A6m (B (n<0)),A6n ((G (E n)).length) (lm (G (E n)))])] (by kernel_rfl) ⟨c1,(by decide),hcall,trivial⟩
theorem kK(n:Int)(c1:decide (n<0)=false)(hcall:H I 152 [A6m (B (n<0)),A6n 2 [A6l A5 (D A5 (D U n)),A6l A5 (D A5 (d (D U n) (2^(min (A 32) (Al .u64)))))]] (A6r [A6m (B (n<0)),A6n ((G (E n)).length) (lm (G (E n)))])):H I 132 [A6l R n] (A6r [A6m (B (n<0)),A6n ((G (E n)).length) (lm (G (E n)))]):=Bt (ps:=[(B (n<0))=false,¬ (32:Int)<0,H I 152 [A6m (B (n<0)),A6n 2 [A6l A5 (D A5 (D U n)),A6l A5 (D A5 (d (D U n) (2^(min (A 32) (Al .u64)))))]] (A6r [A6m (B (n<0)),A6n ((G (E n)).length) (lm (G (E n)))])]) Cf rfl 300 rfl [.b false,.r (A6r [A6m (B (n<0)),A6n ((G (E n)).length) (lm (G (E n)))])] (by kernel_rfl) ⟨c1,(by decide),hcall,trivial⟩
theorem Apa{n:Int}(hn : -9223372036854775808<=n/\n<=9223372036854775807):H I 132 [A6l R n] (o n):=by
 cases c1:decide (n<0) with
 | true =>
  have h0:n<0:=by simpa using c1
  have eu:(D U (0-D U n)) = -n:=by rw[B3,B3];omega
  obtain⟨k1,k2⟩:=LI (u:=(D U (0-D U n))) (by rw[eu];omega);refine kJ n c1 ?_;have:=E8 (neg:=true) k1 (by simp);have e:rv true [D A5 (D U (0-D U n)),D A5 (d (D U (0-D U n)) (2^(min (A 32) (Al .u64))))]=n:=by
   unfold rv;rw[k2,if_pos rfl,eu];omega
  rw[e,o,c1] at this;rw[c1];exact this
 | false =>
  have h0:¬ n<0:=by simpa using c1
  have eu:D U n=n:=by rw[B3];omega
  obtain⟨k1,k2⟩:=LI (u:=D U n) (by rw[eu];omega);refine kK n c1 ?_;have:=E8 (neg:=false) k1 (by simp);have e:rv false [D A5 (D U n),D A5 (d (D U n) (2^(min (A 32) (Al .u64))))]=n:=by
   unfold rv;rw[if_neg (by decide),k2,eu]
  rw[e,o,c1] at this;rw[c1];exact this
theorem Apb(neg:Bool)(xs:List Int)(a r:Int)(h1:H I 143 [A6r [A6m neg,sL lm xs]] (A6t [A6m (B (a<0)),A6n ((G (E a)).length) (lm (G (E a)))]))(h2:H I 152 [A6m (B (a<0)),A6n (G (E a)).length (lm (G (E a)))] (A6r [A6m (B (r<0)),A6n ((G (E r)).length) (lm (G (E r)))]))(hal:Bk (lm (G (E a)))=(G (E a)).length*1)(han:(G (E a)).length<=1048576):H I 113 [A6r [A6m neg,sL lm xs]] (A6r [A6m (B (r<0)),A6n ((G (E r)).length) (lm (G (E r)))]):=Bt (ps:=[H I 143 [A6r [A6m neg,sL lm xs]] (A6t [A6m (B (a<0)),A6n ((G (E a)).length) (lm (G (E a)))]),Bk (lm (G (E a)))=((G (E a)).length)*1,((G (E a)).length)<=35184372088832,H I 152 [A6m (B (a<0)),A6n ((G (E a)).length) (lm (G (E a)))] (A6r [A6m (B (r<0)),A6n ((G (E r)).length) (lm (G (E r)))])]) Cf rfl 300 rfl [.r (A6t [A6m (B (a<0)),A6n ((G (E a)).length) (lm (G (E a)))]),.r (A6r [A6m (B (r<0)),A6n ((G (E r)).length) (lm (G (E r)))])] (by kernel_rfl) ⟨h1,hal,(Bp han (by decide)),h2,trivial⟩
theorem Apc(neg:Bool)(xs:List Int)(a r:Int)(h1:H I 143 [A6r [A6m neg,sL lm xs]] (A6t [A6m (B (a<0)),A6n ((G (E a)).length) (lm (G (E a)))]))(h2:H I 152 [A6m (!(decide (a<0))),A6n (G (E a)).length (lm (G (E a)))] (A6r [A6m (B (r<0)),A6n ((G (E r)).length) (lm (G (E r)))]))(hal:Bk (lm (G (E a)))=(G (E a)).length*1)(han:(G (E a)).length<=1048576):H I 131 [A6r [A6m neg,sL lm xs]] (A6r [A6m (B (r<0)),A6n ((G (E r)).length) (lm (G (E r)))]):=Bt (ps:=[H I 143 [A6r [A6m neg,sL lm xs]] (A6t [A6m (B (a<0)),A6n ((G (E a)).length) (lm (G (E a)))]),Bk (lm (G (E a)))=((G (E a)).length)*1,((G (E a)).length)<=35184372088832,H I 152 [A6m (!(decide (a<0))),A6n ((G (E a)).length) (lm (G (E a)))] (A6r [A6m (B (r<0)),A6n ((G (E r)).length) (lm (G (E r)))])]) Cf rfl 300 rfl [.r (A6t [A6m (B (a<0)),A6n ((G (E a)).length) (lm (G (E a)))]),.r (A6r [A6m (B (r<0)),A6n ((G (E r)).length) (lm (G (E r)))])] (by kernel_rfl) ⟨h1,hal,(Bp han (by decide)),h2,trivial⟩
theorem TW(xs:List Int):Bk (lm xs)=xs.length*1:=by rw [NM,Iu]
theorem Azo(n:Int):rv false (G n.natAbs)=(n.natAbs:Int):=by unfold rv;rw [if_neg (by decide),Cn]
theorem sC(n:Int):rv (!decide (n<0)) (G n.natAbs) = -n:=by
 unfold rv;rw[Cn];by_cases h:n<0 <;> simp[h] <;> omega
theorem M8{neg:Bool}{xs:List Int}(hu:AL xs)(hN:xs.length<=1048576):H I 113 [A6r [A6m neg,sL lm xs]] (o (rv neg xs)):=by
 have hl:(G (rv neg xs).natAbs).length<=1048576:=Bp (E6 hu) hN;have h2:=E8 (neg:=decide (rv neg xs<0)) (BK (rv neg xs).natAbs) hl;rw[Fr] at h2;exact Apb neg xs (rv neg xs) (rv neg xs) (Dh hu hN) h2 (TW _) hl
theorem XR{neg:Bool}{xs:List Int}(hu:AL xs)(hN:xs.length<=1048576):H I 131 [A6r [A6m neg,sL lm xs]] (o (-(rv neg xs))):=by
 have hl:(G (rv neg xs).natAbs).length<=1048576:=Bp (E6 hu) hN;have h2:=E8 (neg := !decide (rv neg xs<0)) (BK (rv neg xs).natAbs) hl;rw[sC] at h2;exact Apc neg xs (rv neg xs) (-(rv neg xs)) (Dh hu hN) h2 (TW _) hl
def TX(a:Int):AV :=
 match (((G (E a)).length:Nat):Int)==0 with
 | true=>(A6l R 0)
 | false=>(match decide (a<0) with
 | true=>(A6l R (-1))
 | false=>(A6l R 1))
theorem Apd(neg:Bool)(xs:List Int)(a:Int)(h1:H I 143 [A6r [A6m neg,sL lm xs]] (A6t [A6m (B (a<0)),A6n ((G (E a)).length) (lm (G (E a)))])):H I 101 [A6r [A6m neg,sL lm xs]] (TX a):=by
 unfold TX;cases c1:((((G (E a)).length:Nat):Int)==0)
 ·cases c2:(B (a<0))
  ·exact Bt (r := A6l R 1) (ps:=[H I 143 [A6r [A6m neg,sL lm xs]] (A6t [A6m (B (a<0)),A6n ((G (E a)).length) (lm (G (E a)))]),((((G (E a)).length:Nat):Int)==0)=false,(B (a<0))=false]) Cf rfl 300 rfl [.r (A6t [A6m (B (a<0)),A6n ((G (E a)).length) (lm (G (E a)))]),.b false,.b false] (by kernel_rfl) ⟨h1,c1,c2,trivial⟩
  ·exact Bt (r := A6l R (-1)) (ps:=[H I 143 [A6r [A6m neg,sL lm xs]] (A6t [A6m (B (a<0)),A6n ((G (E a)).length) (lm (G (E a)))]),((((G (E a)).length:Nat):Int)==0)=false,(B (a<0))=true]) Cf rfl 300 rfl [.r (A6t [A6m (B (a<0)),A6n ((G (E a)).length) (lm (G (E a)))]),.b false,.b true] (by kernel_rfl) ⟨h1,c1,c2,trivial⟩
 ·exact Bt (r := A6l R 0) (ps:=[H I 143 [A6r [A6m neg,sL lm xs]] (A6t [A6m (B (a<0)),A6n ((G (E a)).length) (lm (G (E a)))]),((((G (E a)).length:Nat):Int)==0)=true]) Cf rfl 300 rfl [.r (A6t [A6m (B (a<0)),A6n ((G (E a)).length) (lm (G (E a)))]),.b true] (by kernel_rfl) ⟨h1,c1,trivial⟩
theorem M9{neg:Bool}{xs:List Int}(hu:AL xs)(hN:xs.length<=1048576):H I 101 [A6r [A6m neg,sL lm xs]] (A6l R (BL (rv neg xs))):=by
 have h:=Apd neg xs (rv neg xs) (Dh hu hN);have e:TX (rv neg xs) = A6l R (BL (rv neg xs)):=by
  unfold TX BL;have hz:=Db (rv neg xs).natAbs;by_cases h0:rv neg xs=0
  ·rw[h0];rfl
  ·have e1:((((G (rv neg xs).natAbs).length:Nat):Int)==0)=false:=by rw[beq_eq_false_iff_ne];omega
   rw[e1];by_cases h1:rv neg xs<0
   ·simp[h1]
   ·have h2:0<rv neg xs:=by omega
    simp[h1,h2]
 rw[<- e];exact h
def TWA:Cm:=TQ0
theorem AQ:BY I TWA:=Cf
def Hs(N:Nat)(cs:List AV)(M:Nat)(ds:List AV)(v i:Int):Ak:=(A6o (A6n N cs)::(A6o (A6n M ds)::(Q 2 (A6o (A6l R v)::(A6o (A6l R i)::(Q 35 []))))))
theorem Ape(N:Nat)(cs:List AV)(M:Nat)(ds:List AV)(v i x y:Int)(c1:B (i>=0)=true)(c2:(x != y)=true)(c3:B (x<y)=true)(n1:0<=i/\i<(N:Int))(n2:Bm (g (A i*1) cs) 0 1 true=some (A6l A5 x))(n3:0<=i/\i<(M:Int))(n4:Bm (g (A i*1) ds) 0 1 true=some (A6l A5 y))(n5:0<=i/\i<(N:Int))(n6:Bm (g (A i*1) cs) 0 1 true=some (A6l A5 x))(n7:0<=i/\i<(M:Int))(n8:Bm (g (A i*1) ds) 0 1 true=some (A6l A5 y)):W I Mr (Hs N cs M ds v i) .ret (Hs N cs M ds (-1) i):=C AQ 300 [.b true,.v (A6l A5 x),.v (A6l A5 y),.b true,.v (A6l A5 x),.v (A6l A5 y),.b true] [0,1,4,5] (P c1 (P n1 (P n2 (P n3 (P n4 (P c2 (P n5 (P n6 (P n7 (P n8 (P c3 a0))))))))))) (by kernel_rfl)
theorem Apf(N:Nat)(cs:List AV)(M:Nat)(ds:List AV)(v i x y:Int)(c1:B (i>=0)=true)(c2:(x != y)=true)(c3:B (x<y)=false)(n1:0<=i/\i<(N:Int))(n2:Bm (g (A i*1) cs) 0 1 true=some (A6l A5 x))(n3:0<=i/\i<(M:Int))(n4:Bm (g (A i*1) ds) 0 1 true=some (A6l A5 y))(n5:0<=i/\i<(N:Int))(n6:Bm (g (A i*1) cs) 0 1 true=some (A6l A5 x))(n7:0<=i/\i<(M:Int))(n8:Bm (g (A i*1) ds) 0 1 true=some (A6l A5 y)):W I Mr (Hs N cs M ds v i) .ret (Hs N cs M ds 1 i):=C AQ 300 [.b true,.v (A6l A5 x),.v (A6l A5 y),.b true,.v (A6l A5 x),.v (A6l A5 y),.b false] [0,1,4,5] (P c1 (P n1 (P n2 (P n3 (P n4 (P c2 (P n5 (P n6 (P n7 (P n8 (P c3 a0))))))))))) (by kernel_rfl)
theorem Apg(N:Nat)(cs:List AV)(M:Nat)(ds:List AV)(v i x y:Int)(c1:B (i>=0)=true)(c2:(x != y)=false)(n1:0<=i/\i<(N:Int))(n2:Bm (g (A i*1) cs) 0 1 true=some (A6l A5 x))(n3:0<=i/\i<(M:Int))(n4:Bm (g (A i*1) ds) 0 1 true=some (A6l A5 y)):W I Mr (Hs N cs M ds v i) .norm (Hs N cs M ds v (D R (i-1))):=C AQ 300 [.b true,.v (A6l A5 x),.v (A6l A5 y),.b false] [0,1,4,5] (P c1 (P n1 (P n2 (P n3 (P n4 (P c2 a0)))))) (by kernel_rfl)
theorem Aph(N:Nat)(cs:List AV)(M:Nat)(ds:List AV)(v i:Int)(c1:B (i>=0)=false):W I Mr (Hs N cs M ds v i) (.exit 0) (Hs N cs M ds v i):=C AQ 300 [.b false] [0,1,4,5] (P c1 a0) (by kernel_rfl)
theorem xO(xs ys:List Int)(hN:xs.length<=1048576)(hl:xs.length=ys.length):∀ m,m<=xs.length ->
  (Jz xs ys m=0/\W I (.loop Mr) (Hs xs.length (lm xs) ys.length (lm ys) 0 ((m:Int)-1)) (.exit 0) (Hs xs.length (lm xs) ys.length (lm ys) 0 (-1))) \/
  (Jz xs ys m ≠ 0/\∃ j,W I (.loop Mr) (Hs xs.length (lm xs) ys.length (lm ys) 0 ((m:Int)-1)) .ret (Hs xs.length (lm xs) ys.length (lm ys) (Jz xs ys m) j)):=by
 intro m;induction m with
 | zero =>
  intro _;left;refine⟨rfl,?_⟩;exact Am (Aph xs.length (lm xs) ys.length (lm ys) 0 (((0:Nat):Int)-1) (by simp)) (by nofun)
 | succ m ih =>
  intro hm;have e0:((m+1:Nat):Int)-1=(m:Int):=by omega
  have e1:D R ((m:Int)-1)=(m:Int)-1:=Bg (by omega) (by omega);have hx:=DW (xs:=xs) (i:=m) (by omega);have hy:=DW (xs:=ys) (i:=m) (by omega);rw[e0];simp only[Jz];by_cases h:xs.getD m 0=ys.getD m 0
  ·rw[if_pos h];have h1:=Apg xs.length (lm xs) ys.length (lm ys) 0 (m:Int) (xs.getD m 0) (ys.getD m 0) (by simp) (by simpa using h) (by omega) (by rw[F];exact hx) (by omega) (by rw[F];exact hy);rw[e1] at h1;rcases ih (by omega) with ⟨k1,k2⟩ | ⟨k1,j,k2⟩
   ·exact .inl ⟨k1,W.loop h1 k2⟩
   ·exact .inr ⟨k1,j,W.loop h1 k2⟩
  ·rw[if_neg h];right;by_cases hlt:xs.getD m 0<ys.getD m 0
   ·rw[if_pos hlt];refine⟨by decide,(m:Int),?_⟩;exact Am (Ape xs.length (lm xs) ys.length (lm ys) 0 (m:Int) (xs.getD m 0) (ys.getD m 0) (by simp) (by simpa using h) (by simpa using hlt) (by omega) (by rw[F];exact hx) (by omega) (by rw[F];exact hy) (by omega) (by rw[F];exact hx) (by omega) (by rw[F];exact hy)) (by nofun)
   ·rw[if_neg hlt];refine⟨by decide,(m:Int),?_⟩;exact Am (Apf xs.length (lm xs) ys.length (lm ys) 0 (m:Int) (xs.getD m 0) (ys.getD m 0) (by simp) (by simpa using h) (by simpa using hlt) (by omega) (by rw[F];exact hx) (by omega) (by rw[F];exact hy) (by omega) (by rw[F];exact hx) (by omega) (by rw[F];exact hy)) (by nofun)
theorem cD(xs ys:List Int)(h:((xs.length:Int) != (ys.length:Int))=true)(h2:(B ((xs.length:Int)<(ys.length:Int)))=true):H I 151 [sL lm xs,sL lm ys] (A6l R (-1)):=Bt (ps:=[((xs.length:Int) != (ys.length:Int))=true,(B ((xs.length:Int)<(ys.length:Int)))=true]) AQ rfl 300 rfl [.b true,.b true] (by kernel_rfl) ⟨h,h2,trivial⟩
theorem cE(xs ys:List Int)(h:((xs.length:Int) != (ys.length:Int))=true)(h2:(B ((xs.length:Int)<(ys.length:Int)))=false):H I 151 [sL lm xs,sL lm ys] (A6l R 1):=Bt (ps:=[((xs.length:Int) != (ys.length:Int))=true,(B ((xs.length:Int)<(ys.length:Int)))=false]) AQ rfl 300 rfl [.b true,.b false] (by kernel_rfl) ⟨h,h2,trivial⟩
theorem cF(xs ys:List Int)(h:((xs.length:Int) != (ys.length:Int))=false)(hl:W I (.loop Mr) (Hs xs.length (lm xs) ys.length (lm ys) 0 (D R ((xs.length:Int)-1))) (.exit 0) (Hs xs.length (lm xs) ys.length (lm ys) 0 (-1))):H I 151 [sL lm xs,sL lm ys] (A6l R 0):=X (fn:=RS) (s:=(A6o (sL lm xs)::(A6o (sL lm ys)::(Q 2 (A6o (A6l R 0)::(A6o (A6l R (-1))::(Q 35 []))))))) (ex := .ret) rfl rfl (W.seq (C (t:=(vl xs::(vl ys::(Q 2 (vi 0::(Q 36 [])))))) AQ 300 [] [0,1,4] a0) (W.seq (C (t:=(vl xs::(vl ys::(Q 2 (vi 0::(Q 1 (vl xs::(vi (xs.length:Int)::(vl ys::(vi (ys.length:Int)::(A6o (A6m ((xs.length:Int) != (ys.length:Int)))::(Q 30 [])))))))))))) AQ 300 [.b false] [0,1,4,6,7,8,9,10] (P (show ((xs.length:Int) != (ys.length:Int))=false from h) a0)) (W.seq (W.seq (C (t:=(vl xs::(vl ys::(Q 2 (vi 0::(vi (D R ((xs.length:Int)-1))::(Q 35 []))))))) AQ 300 [] [0,1,4,5] a0) (W.block hl)) (C (t:=(vl xs::(vl ys::(Q 2 (vi 0::(vi (-1)::(Q 35 []))))))) (ex := .ret) AQ 300 [] [0,1,4,5] a0)))) (by nofun) rfl
theorem cH(xs ys:List Int)(r j:Int)(h:((xs.length:Int) != (ys.length:Int))=false)(hl:W I (.loop Mr) (Hs xs.length (lm xs) ys.length (lm ys) 0 (D R ((xs.length:Int)-1))) .ret (Hs xs.length (lm xs) ys.length (lm ys) r j)):H I 151 [sL lm xs,sL lm ys] (A6l R r):=X (fn:=RS) (s:=(A6o (sL lm xs)::(A6o (sL lm ys)::(Q 2 (A6o (A6l R r)::(A6o (A6l R j)::(Q 35 []))))))) (ex := .ret) rfl rfl (W.seq (C (t:=(vl xs::(vl ys::(Q 2 (vi 0::(Q 36 [])))))) AQ 300 [] [0,1,4] a0) (W.seq (C (t:=(vl xs::(vl ys::(Q 2 (vi 0::(Q 1 (vl xs::(vi (xs.length:Int)::(vl ys::(vi (ys.length:Int)::(A6o (A6m ((xs.length:Int) != (ys.length:Int)))::(Q 30 [])))))))))))) AQ 300 [.b false] [0,1,4,6,7,8,9,10] (P (show ((xs.length:Int) != (ys.length:Int))=false from h) a0)) (p (W.seq (C (t:=(vl xs::(vl ys::(Q 2 (vi 0::(vi (D R ((xs.length:Int)-1))::(Q 35 []))))))) AQ 300 [] [0,1,4,5] a0) (DU hl)) (by nofun)))) (by nofun) rfl
theorem IL{xs ys:List Int}(hx:Fg xs)(hy:Fg ys)(hN:xs.length<=1048576):H I 151 [sL lm xs,sL lm ys] (A6l R (CC (Ac xs) (Ac ys))):=by
 by_cases hl:xs.length=ys.length
 ·have h:((xs.length:Int) != (ys.length:Int))=false:=by rw[hl];simp
  have hg:=XI hx.1 hy.1 xs.length (An _) (by omega);rw[E3,hl,E3,<- hl] at hg;have e1:D R ((xs.length:Int)-1)=(xs.length:Int)-1:=Bg (by omega) (by omega);rcases xO xs ys hN hl xs.length (An _) with ⟨k1,k2⟩ | ⟨k1,j,k2⟩
  ·rw[<- hg,k1];exact cF xs ys h (by rw[e1];exact k2)
  ·rw[<- hg];exact cH xs ys _ j h (by rw[e1];exact k2)
 ·have h:((xs.length:Int) != (ys.length:Int))=true:=by simp;omega
  by_cases hlt:xs.length<ys.length
  ·have e:CC (Ac xs) (Ac ys) = -1:=by unfold CC;rw[if_pos (I6 hx hy hlt)]
   rw[e];exact cD xs ys h (by simp;omega)
  ·have:=I6 hy hx (by omega);have e:CC (Ac xs) (Ac ys)=1:=by unfold CC;rw[if_neg (by omega),if_pos this]
   rw[e];exact cE xs ys h (by simp;omega)
def Ii(la:Nat)(xa:List AV)(lb:Nat)(xb:List AV)(n:Nat)(cs:List AV)(c:Int)(m:Int)(i:Int):Ak:=(A6o (A6n la xa)::(A6o (A6n lb xb)::(Q 2 (A6q 1 0 []::(A6q 1 n cs::(A6o (A6l U c)::(Q 14 (A6o (A6l R m)::(A6o (A6l R i)::(Q 35 []))))))))))
theorem Api(la:Nat)(xa:List AV)(lb:Nat)(xb:List AV)(n:Nat)(cs:List AV)(c:Int)(m:Int)(i:Int)(ds:List AV)(x y:Int)(c1:B (i<m)=true)(c2:B (i<(lb:Int))=true)(n1:0<=i/\i<(la:Int))(n2:Bm (g (A i*1) xa) 0 1 true=some (A6l A5 x))(n3:0<=i/\i<(lb:Int))(n4:Bm (g (A i*1) xb) 0 1 true=some (A6l A5 y))(n5:0<=i/\i<(n:Int))(n6:Cu cs (A i*1) [A6l A5 (D A5 (D U ((D U ((D U x)+c))+(D U y))))]=some ds):W I NH (Ii la xa lb xb n cs c m i) .norm (Ii la xa lb xb n ds (d (D U ((D U ((D U x)+c))+(D U y))) (2^(min (A 32) (Al .u64)))) m (D R (i+1))):=C AQ 300 [.b true,.v (A6l A5 x),.b true,.v (A6l A5 y),.l ds] [0,1,4,5,6,21,22] (P c1 (P n1 (P n2 (P c2 (P n3 (P n4 (P HX (P n5 (P n6 a0))))))))) (by kernel_rfl)
theorem Apj(la:Nat)(xa:List AV)(lb:Nat)(xb:List AV)(n:Nat)(cs:List AV)(c:Int)(m:Int)(i:Int)(ds:List AV)(x:Int)(c1:B (i<m)=true)(c2:B (i<(lb:Int))=false)(n1:0<=i/\i<(la:Int))(n2:Bm (g (A i*1) xa) 0 1 true=some (A6l A5 x))(n3:0<=i/\i<(n:Int))(n4:Cu cs (A i*1) [A6l A5 (D A5 (D U ((D U x)+c)))]=some ds):W I NH (Ii la xa lb xb n cs c m i) .norm (Ii la xa lb xb n ds (d (D U ((D U x)+c)) (2^(min (A 32) (Al .u64)))) m (D R (i+1))):=C AQ 300 [.b true,.v (A6l A5 x),.b false,.l ds] [0,1,4,5,6,21,22] (P c1 (P n1 (P n2 (P c2 (P HX (P n3 (P n4 a0))))))) (by kernel_rfl)
theorem Apk(la:Nat)(xa:List AV)(lb:Nat)(xb:List AV)(n:Nat)(cs:List AV)(c:Int)(m:Int)(i:Int)(c1:B (i<m)=false):W I NH (Ii la xa lb xb n cs c m i) (.exit 0) (Ii la xa lb xb n cs c m i):=C AQ 300 [.b false] [0,1,4,5,6,21,22] (P c1 a0) (by kernel_rfl)
theorem xP(xs ys:List Int)(hx:AL xs)(hy:AL ys)(n:Nat)(hn:n<=1048576)(hxn:xs.length<=n):∀ (r i:Nat) (o:List Int) (c:Int),r+i=xs.length->o.length=n->AL o->0<=c/\c<=1 ->
  W I (.loop NH) (Ii xs.length (lm xs) ys.length (lm ys) n (lm o) c (xs.length:Int) (i:Int)) (.exit 0)
   (Ii xs.length (lm xs) ys.length (lm ys) n (lm (Ih xs ys r i o c).1) (Ih xs ys r i o c).2 (xs.length:Int) (xs.length:Int)):=by
 intro r;induction r with
 | zero =>
  intro i o c hi _ _ _;have hi':i=xs.length:=by omega
  subst hi';exact Am (Apk xs.length (lm xs) ys.length (lm ys) n (lm o) c (xs.length:Int) (xs.length:Int) (by simp)) (by nofun)
 | succ r ih =>
  intro i o c hi hlo hu hc;have h1:=AE hx i;have h2:=AE hy i;have ei:D R ((i:Int)+1)=((i+1:Nat):Int):=by rw[Bg (by omega) (by omega)];omega
  have hxi:=DW (xs:=xs) (i:=i) (by omega);have hst:=Ig (xs:=o) (i:=i) (v:=(xs.getD i 0+c+ys.getD i 0) % 4294967296) (by omega);by_cases hy2:i<ys.length
  ·have hyi:=DW (xs:=ys) (i:=i) hy2;have eW:D A5 (D U (D U (D U (xs.getD i 0)+c)+D U (ys.getD i 0)))=(xs.getD i 0+c+ys.getD i 0) % 4294967296:=by rw[DL,B3,B3,B3,B3];omega
   have eC:d (D U (D U (D U (xs.getD i 0)+c)+D U (ys.getD i 0))) (2^(min (A 32) (Al .u64)))=((xs.getD i 0+c+ys.getD i 0) / 4294967296):=by
    show d _ 4294967296=_;rw[t _ (by omega),B3,B3,B3,B3];omega
   have k:=Api xs.length (lm xs) ys.length (lm ys) n (lm o) c (xs.length:Int) (i:Int) (lm (o.set i ((xs.getD i 0+c+ys.getD i 0) % 4294967296))) (xs.getD i 0) (ys.getD i 0)
    (by simp;omega) (by simp;omega) (by omega) (by rw[F];exact hxi) (by omega) (by rw[F];exact hyi) (by omega) (by rw[F,eW];exact hst)
   rw[eC,ei] at k;exact W.loop k (ih (i+1) _ _ (by omega) (by simpa using hlo) (Cq hu (by omega)) (by omega))
  ·have hy0:=Bs (xs:=ys) (i:=i) (by omega);have eW:D A5 (D U (D U (xs.getD i 0)+c))=(xs.getD i 0+c+ys.getD i 0) % 4294967296:=by rw[DL,B3,B3];omega
   have eC:d (D U (D U (xs.getD i 0)+c)) (2^(min (A 32) (Al .u64)))=((xs.getD i 0+c+ys.getD i 0) / 4294967296):=by
    show d _ 4294967296=_;rw[t _ (by omega),B3,B3];omega
   have k:=Apj xs.length (lm xs) ys.length (lm ys) n (lm o) c (xs.length:Int) (i:Int) (lm (o.set i ((xs.getD i 0+c+ys.getD i 0) % 4294967296))) (xs.getD i 0)
    (by simp;omega) (by simp;omega) (by omega) (by rw[F];exact hxi) (by omega) (by rw[F,eW];exact hst)
   rw[eC,ei] at k;exact W.loop k (ih (i+1) _ _ (by omega) (by simpa using hlo) (Cq hu (by omega)) (by omega))
def Lw(la:Nat)(xa:List AV)(lb:Nat)(xb:List AV)(n:Nat)(cs:List AV)(c:Int)(m:Int)(i:Int):Ak:=(A6o (A6n la xa)::(A6o (A6n lb xb)::(Q 2 (A6q 1 0 []::(A6q 1 n cs::(A6o (A6l U c)::(Q 6 (A6o (A6l R m)::(A6o (A6l R i)::(Q 29 []))))))))))
theorem Apl(la:Nat)(xa:List AV)(lb:Nat)(xb:List AV)(n:Nat)(cs:List AV)(c:Int)(m:Int)(i:Int)(ds:List AV)(x y:Int)(c1:B (i<m)=true)(c2:B (i<(lb:Int))=true)(n1:0<=i/\i<(la:Int))(n2:Bm (g (A i*1) xa) 0 1 true=some (A6l A5 x))(n3:0<=i/\i<(lb:Int))(n4:Bm (g (A i*1) xb) 0 1 true=some (A6l A5 y))(n5:0<=i/\i<(n:Int))(n6:Cu cs (A i*1) [A6l A5 (D A5 (D U ((D U ((D U x)-c))-(D U y))))]=some ds):W I RY (Lw la xa lb xb n cs c m i) .norm (Lw la xa lb xb n ds (d (D U ((D U ((D U x)-c))-(D U y))) (2^(min (A 63) (Al .u64)))) m (D R (i+1))):=C AQ 300 [.b true,.v (A6l A5 x),.b true,.v (A6l A5 y),.l ds] [0,1,4,5,6,13,14] (P c1 (P n1 (P n2 (P c2 (P n3 (P n4 (P WM (P n5 (P n6 a0))))))))) (by kernel_rfl)
theorem Apm(la:Nat)(xa:List AV)(lb:Nat)(xb:List AV)(n:Nat)(cs:List AV)(c:Int)(m:Int)(i:Int)(ds:List AV)(x:Int)(c1:B (i<m)=true)(c2:B (i<(lb:Int))=false)(n1:0<=i/\i<(la:Int))(n2:Bm (g (A i*1) xa) 0 1 true=some (A6l A5 x))(n3:0<=i/\i<(n:Int))(n4:Cu cs (A i*1) [A6l A5 (D A5 (D U ((D U x)-c)))]=some ds):W I RY (Lw la xa lb xb n cs c m i) .norm (Lw la xa lb xb n ds (d (D U ((D U x)-c)) (2^(min (A 63) (Al .u64)))) m (D R (i+1))):=C AQ 300 [.b true,.v (A6l A5 x),.b false,.l ds] [0,1,4,5,6,13,14] (P c1 (P n1 (P n2 (P c2 (P WM (P n3 (P n4 a0))))))) (by kernel_rfl)
theorem Apn(la:Nat)(xa:List AV)(lb:Nat)(xb:List AV)(n:Nat)(cs:List AV)(c:Int)(m:Int)(i:Int)(c1:B (i<m)=false):W I RY (Lw la xa lb xb n cs c m i) (.exit 0) (Lw la xa lb xb n cs c m i):=C AQ 300 [.b false] [0,1,4,5,6,13,14] (P c1 a0) (by kernel_rfl)
theorem xQ(xs ys:List Int)(hx:AL xs)(hy:AL ys)(n:Nat)(hn:n<=1048576)(hxn:xs.length<=n):∀ (r i:Nat) (o:List Int) (c:Int),r+i=xs.length->o.length=n->AL o->0<=c/\c<=1 ->
  W I (.loop RY) (Lw xs.length (lm xs) ys.length (lm ys) n (lm o) c (xs.length:Int) (i:Int)) (.exit 0)
   (Lw xs.length (lm xs) ys.length (lm ys) n (lm (I7 xs ys r i o c).1) (I7 xs ys r i o c).2 (xs.length:Int) (xs.length:Int)):=by
 intro r;induction r with
 | zero =>
  intro i o c hi _ _ _;have hi':i=xs.length:=by omega
  subst hi';exact Am (Apn xs.length (lm xs) ys.length (lm ys) n (lm o) c (xs.length:Int) (xs.length:Int) (by simp)) (by nofun)
 | succ r ih =>
  intro i o c hi hlo hu hc;have h1:=AE hx i;have h2:=AE hy i;have ei:D R ((i:Int)+1)=((i+1:Nat):Int):=by rw[Bg (by omega) (by omega)];omega
  have hxi:=DW (xs:=xs) (i:=i) (by omega);have hst:=Ig (xs:=o) (i:=i) (v:=(xs.getD i 0-c-ys.getD i 0) % 4294967296) (by omega);by_cases hy2:i<ys.length
  ·have hyi:=DW (xs:=ys) (i:=i) hy2;have eW:D A5 (D U (D U (D U (xs.getD i 0)-c)-D U (ys.getD i 0)))=(xs.getD i 0-c-ys.getD i 0) % 4294967296:=by rw[DL,B3,B3,B3,B3];omega
   have eC:d (D U (D U (D U (xs.getD i 0)-c)-D U (ys.getD i 0))) (2^(min (A 63) (Al .u64)))=(-((xs.getD i 0-c-ys.getD i 0) / 4294967296)):=by
    show d _ 9223372036854775808=_;rw[t _ (by omega),B3,B3,B3,B3];omega
   have k:=Apl xs.length (lm xs) ys.length (lm ys) n (lm o) c (xs.length:Int) (i:Int) (lm (o.set i ((xs.getD i 0-c-ys.getD i 0) % 4294967296))) (xs.getD i 0) (ys.getD i 0)
    (by simp;omega) (by simp;omega) (by omega) (by rw[F];exact hxi) (by omega) (by rw[F];exact hyi) (by omega) (by rw[F,eW];exact hst)
   rw[eC,ei] at k;exact W.loop k (ih (i+1) _ _ (by omega) (by simpa using hlo) (Cq hu (by omega)) (by omega))
  ·have hy0:=Bs (xs:=ys) (i:=i) (by omega);have eW:D A5 (D U (D U (xs.getD i 0)-c))=(xs.getD i 0-c-ys.getD i 0) % 4294967296:=by rw[DL,B3,B3];omega
   have eC:d (D U (D U (xs.getD i 0)-c)) (2^(min (A 63) (Al .u64)))=(-((xs.getD i 0-c-ys.getD i 0) / 4294967296)):=by
    show d _ 9223372036854775808=_;rw[t _ (by omega),B3,B3];omega
   have k:=Apm xs.length (lm xs) ys.length (lm ys) n (lm o) c (xs.length:Int) (i:Int) (lm (o.set i ((xs.getD i 0-c-ys.getD i 0) % 4294967296))) (xs.getD i 0)
    (by simp;omega) (by simp;omega) (by omega) (by rw[F];exact hxi) (by omega) (by rw[F,eW];exact hst)
   rw[eC,ei] at k;exact W.loop k (ih (i+1) _ _ (by omega) (by simpa using hlo) (Cq hu (by omega)) (by omega))
theorem cI(xs ys o:List Int)(c:Int)(h:(B ((xs.length:Int)<(ys.length:Int)))=true)(hmk:0<=D R ((ys.length:Int)+1)/\D R ((ys.length:Int)+1)<=1048576)(hl:W I (.loop NH) (Ii ys.length (lm ys) xs.length (lm xs) (A (D R ((ys.length:Int)+1))) (Cp [A6l A5 0] (A (D R ((ys.length:Int)+1)))) 0 (ys.length:Int) 0) (.exit 0) (Ii ys.length (lm ys) xs.length (lm xs) (A (D R ((ys.length:Int)+1))) (lm o) c (ys.length:Int) (ys.length:Int)))(hix:0<=(ys.length:Int)/\(ys.length:Int)<(((A (D R ((ys.length:Int)+1))):Nat):Int))(hst:Cu (lm o) (A (ys.length:Int)*1) [A6l A5 (D A5 c)]=some (lm (o.set ys.length c))):H I 178 [sL lm xs,sL lm ys] (A6p 1 (A (D R ((ys.length:Int)+1))) (lm (o.set ys.length c))):=X (fn:=RX) (s:=(A6o (sL lm ys)::(A6o (sL lm xs)::(Q 2 (A6q 1 (A (D R ((ys.length:Int)+1))) (lm (o.set ys.length c))::(Q 1 (A6o (A6l U c)::(Q 14 (A6o (A6l R (ys.length:Int))::(A6o (A6l R (ys.length:Int))::(Q 28 (.dup 5::(A6o (sL lm ys)::(A6o (A6l R (ys.length:Int))::(A6o (A6l U c)::(A6o (A6l A5 (D A5 c))::(.ptr 5 (A (ys.length:Int)*1)::(Q 1 [])))))))))))))))))) (ex := .ret) rfl rfl (W.seq (C (t:=(vl xs::(vl ys::(Q 2 (A6q 1 0 []::(Q 53 [])))))) AQ 300 [] [0,1,4] a0) (W.seq (C (t:=(vl ys::(vl xs::(Q 2 (A6q 1 0 []::(Q 4 (vl xs::(vi (xs.length:Int)::(vl ys::(vi (ys.length:Int)::(A6o (A6m (B ((xs.length:Int)<(ys.length:Int))))::(vl ys::(vl xs::(Q 42 [])))))))))))))) AQ 300 [.b true] [0,1,4,9,10,11,12,13,14,15] (P (show (B ((xs.length:Int)<(ys.length:Int)))=true from h) a0)) (W.seq (C (t:=(vl ys::(vl xs::(Q 2 (A6q 1 0 []::(A6q 1 (A (D R ((ys.length:Int)+1))) (Cp [A6l A5 0] (A (D R ((ys.length:Int)+1))))::(Q 3 (vl xs::(vi (xs.length:Int)::(vl ys::(vi (ys.length:Int)::(A6o (A6m (B ((xs.length:Int)<(ys.length:Int))))::(vl ys::(vl xs::(vl ys::(vi (ys.length:Int)::(vi (D R ((ys.length:Int)+1))::(Q 39 [])))))))))))))))))) AQ 300 [] [0,1,4,5,9,10,11,12,13,14,15,16,17,18] (P (show 0<=(D R ((ys.length:Int)+1))/\(D R ((ys.length:Int)+1))<=1048576 from hmk) a0)) (W.seq (C (t:=(vl ys::(vl xs::(Q 2 (A6q 1 0 []::(A6q 1 (A (D R ((ys.length:Int)+1))) (Cp [A6l A5 0] (A (D R ((ys.length:Int)+1))))::(A6o (A6l U 0)::(Q 2 (vl xs::(vi (xs.length:Int)::(vl ys::(vi (ys.length:Int)::(A6o (A6m (B ((xs.length:Int)<(ys.length:Int))))::(vl ys::(vl xs::(vl ys::(vi (ys.length:Int)::(vi (D R ((ys.length:Int)+1))::(Q 39 []))))))))))))))))))) AQ 300 [] [0,1,4,5,6,9,10,11,12,13,14,15,16,17,18] a0) (W.seq (W.seq (C (t:=(vl ys::(vl xs::(Q 2 (A6q 1 0 []::(A6q 1 (A (D R ((ys.length:Int)+1))) (Cp [A6l A5 0] (A (D R ((ys.length:Int)+1))))::(A6o (A6l U 0)::(Q 14 (vi (ys.length:Int)::(vi 0::(Q 35 []))))))))))) AQ 300 [] [0,1,4,5,6,21,22] a0) (W.block hl)) (C (t:=(vl ys::(vl xs::(Q 2 (A6q 1 (A (D R ((ys.length:Int)+1))) (lm (o.set ys.length c))::(Q 1 (A6o (A6l U c)::(Q 14 (vi (ys.length:Int)::(vi (ys.length:Int)::(Q 28 (.dup 5::(vl ys::(vi (ys.length:Int)::(A6o (A6l U c)::(A6o (A6l A5 (D A5 c))::(.ptr 5 (A (ys.length:Int)*1)::(Q 1 [])))))))))))))))))) (ex := .ret) AQ 300 [.l (lm (o.set ys.length c))] [0,1,4,6,21,22,51,52,53,54,55,56] (P (show 0<=(ys.length:Int)/\(ys.length:Int)<(((A (D R ((ys.length:Int)+1))):Nat):Int) from hix) (P (show Cu (lm o) (A (ys.length:Int)*1) [A6l A5 (D A5 c)]=some (lm (o.set ys.length c)) from hst) a0)))))))) (by nofun) rfl
theorem cJ(xs ys o:List Int)(c:Int)(h:(B ((xs.length:Int)<(ys.length:Int)))=false)(hmk:0<=D R ((xs.length:Int)+1)/\D R ((xs.length:Int)+1)<=1048576)(hl:W I (.loop NH) (Ii xs.length (lm xs) ys.length (lm ys) (A (D R ((xs.length:Int)+1))) (Cp [A6l A5 0] (A (D R ((xs.length:Int)+1)))) 0 (xs.length:Int) 0) (.exit 0) (Ii xs.length (lm xs) ys.length (lm ys) (A (D R ((xs.length:Int)+1))) (lm o) c (xs.length:Int) (xs.length:Int)))(hix:0<=(xs.length:Int)/\(xs.length:Int)<(((A (D R ((xs.length:Int)+1))):Nat):Int))(hst:Cu (lm o) (A (xs.length:Int)*1) [A6l A5 (D A5 c)]=some (lm (o.set xs.length c))):H I 178 [sL lm xs,sL lm ys] (A6p 1 (A (D R ((xs.length:Int)+1))) (lm (o.set xs.length c))):=X (fn:=RX) (s:=(A6o (sL lm xs)::(A6o (sL lm ys)::(Q 2 (A6q 1 (A (D R ((xs.length:Int)+1))) (lm (o.set xs.length c))::(Q 1 (A6o (A6l U c)::(Q 14 (A6o (A6l R (xs.length:Int))::(A6o (A6l R (xs.length:Int))::(Q 28 (.dup 5::(A6o (sL lm xs)::(A6o (A6l R (xs.length:Int))::(A6o (A6l U c)::(A6o (A6l A5 (D A5 c))::(.ptr 5 (A (xs.length:Int)*1)::(Q 1 [])))))))))))))))))) (ex := .ret) rfl rfl (W.seq (C (t:=(vl xs::(vl ys::(Q 2 (A6q 1 0 []::(Q 53 [])))))) AQ 300 [] [0,1,4] a0) (W.seq (C (t:=(vl xs::(vl ys::(Q 2 (A6q 1 0 []::(Q 4 (vl xs::(vi (xs.length:Int)::(vl ys::(vi (ys.length:Int)::(A6o (A6m (B ((xs.length:Int)<(ys.length:Int))))::(Q 44 [])))))))))))) AQ 300 [.b false] [0,1,4,9,10,11,12,13] (P (show (B ((xs.length:Int)<(ys.length:Int)))=false from h) a0)) (W.seq (C (t:=(vl xs::(vl ys::(Q 2 (A6q 1 0 []::(A6q 1 (A (D R ((xs.length:Int)+1))) (Cp [A6l A5 0] (A (D R ((xs.length:Int)+1))))::(Q 3 (vl xs::(vi (xs.length:Int)::(vl ys::(vi (ys.length:Int)::(A6o (A6m (B ((xs.length:Int)<(ys.length:Int))))::(Q 2 (vl xs::(vi (xs.length:Int)::(vi (D R ((xs.length:Int)+1))::(Q 39 []))))))))))))))))) AQ 300 [] [0,1,4,5,9,10,11,12,13,16,17,18] (P (show 0<=(D R ((xs.length:Int)+1))/\(D R ((xs.length:Int)+1))<=1048576 from hmk) a0)) (W.seq (C (t:=(vl xs::(vl ys::(Q 2 (A6q 1 0 []::(A6q 1 (A (D R ((xs.length:Int)+1))) (Cp [A6l A5 0] (A (D R ((xs.length:Int)+1))))::(A6o (A6l U 0)::(Q 2 (vl xs::(vi (xs.length:Int)::(vl ys::(vi (ys.length:Int)::(A6o (A6m (B ((xs.length:Int)<(ys.length:Int))))::(Q 2 (vl xs::(vi (xs.length:Int)::(vi (D R ((xs.length:Int)+1))::(Q 39 [])))))))))))))))))) AQ 300 [] [0,1,4,5,6,9,10,11,12,13,16,17,18] a0) (W.seq (W.seq (C (t:=(vl xs::(vl ys::(Q 2 (A6q 1 0 []::(A6q 1 (A (D R ((xs.length:Int)+1))) (Cp [A6l A5 0] (A (D R ((xs.length:Int)+1))))::(A6o (A6l U 0)::(Q 14 (vi (xs.length:Int)::(vi 0::(Q 35 []))))))))))) AQ 300 [] [0,1,4,5,6,21,22] a0) (W.block hl)) (C (t:=(vl xs::(vl ys::(Q 2 (A6q 1 (A (D R ((xs.length:Int)+1))) (lm (o.set xs.length c))::(Q 1 (A6o (A6l U c)::(Q 14 (vi (xs.length:Int)::(vi (xs.length:Int)::(Q 28 (.dup 5::(vl xs::(vi (xs.length:Int)::(A6o (A6l U c)::(A6o (A6l A5 (D A5 c))::(.ptr 5 (A (xs.length:Int)*1)::(Q 1 [])))))))))))))))))) (ex := .ret) AQ 300 [.l (lm (o.set xs.length c))] [0,1,4,6,21,22,51,52,53,54,55,56] (P (show 0<=(xs.length:Int)/\(xs.length:Int)<(((A (D R ((xs.length:Int)+1))):Nat):Int) from hix) (P (show Cu (lm o) (A (xs.length:Int)*1) [A6l A5 (D A5 c)]=some (lm (o.set xs.length c)) from hst) a0)))))))) (by nofun) rfl
theorem Pn{xs ys:List Int}(hx:AL xs)(hy:AL ys)(hl:ys.length<=xs.length)(hN:xs.length<1048576):∃ o c,(o:List Int).length=xs.length+1/\AL (o.set xs.length c)/\Ac (o.set xs.length c)=Ac xs+Ac ys/\(0<=c/\c<=1) /\
  W I (.loop NH) (Ii xs.length (lm xs) ys.length (lm ys) (xs.length+1) (lm (Ar (xs.length+1) 0)) 0 (xs.length:Int) 0) (.exit 0) (Ii xs.length (lm xs) ys.length (lm ys) (xs.length+1) (lm o) c (xs.length:Int) (xs.length:Int)):=by
 have hg:=xP xs ys hx hy (xs.length+1) (by omega) (by omega) xs.length 0 (Ar (xs.length+1) 0) 0 (by omega) (by simp) (EC _) (by omega);cases e:Ih xs ys xs.length 0 (Ar (xs.length+1) 0) 0 with
 | mk o c =>
  obtain⟨g1,g2,g3,g4,g5⟩:=jX hx hy hl o c e;rw[e] at hg;exact⟨o,c,g1,g4,g5,g3,hg⟩
theorem WS{xs ys:List Int}(hx:AL xs)(hy:AL ys)(h1:xs.length<1048576)(h2:ys.length<1048576):∃ zs,AL zs/\Ac zs=Ac xs+Ac ys/\zs.length<=1048576/\H I 178 [sL lm xs,sL lm ys] (A6p 1 zs.length (lm zs)):=by
 by_cases hlt:xs.length<ys.length
 ·obtain⟨o,c,g1,g2,g3,g4,g5⟩:=Pn hy hx (by omega) h2;have e1:D R ((ys.length:Int)+1)=((ys.length+1:Nat):Int):=by rw[Bg (by omega) (by omega)];omega
  have e2:A (D R ((ys.length:Int)+1))=ys.length+1:=by rw[e1,F]
  have hst:=Ig (xs:=o) (i:=ys.length) (v:=c) (by omega);have h:=cI xs ys o c (by simp;omega) (by rw[e1];omega) (by rw[e2,EO];exact g5) (by rw[e2];omega) (by rw[F,DL,FY (by omega) (by omega)];exact hst);refine⟨o.set ys.length c,g2,by rw[g3,J'],by simp;omega,?_⟩;rw[e2] at h;rw[AW,g1];exact h
 ·obtain⟨o,c,g1,g2,g3,g4,g5⟩:=Pn hx hy (by omega) h1;have e1:D R ((xs.length:Int)+1)=((xs.length+1:Nat):Int):=by rw[Bg (by omega) (by omega)];omega
  have e2:A (D R ((xs.length:Int)+1))=xs.length+1:=by rw[e1,F]
  have hst:=Ig (xs:=o) (i:=xs.length) (v:=c) (by omega);have h:=cJ xs ys o c (by simp;omega) (by rw[e1];omega) (by rw[e2,EO];exact g5) (by rw[e2];omega) (by rw[F,DL,FY (by omega) (by omega)];exact hst);refine⟨o.set xs.length c,g2,g3,by simp;omega,?_⟩;rw[e2] at h;rw[AW,g1];exact h
theorem Apo(xs ys o:List Int)(c:Int)(hmk:0<=(xs.length:Int)/\(xs.length:Int)<=1048576)(hl:W I (.loop RY) (Lw xs.length (lm xs) ys.length (lm ys) (A (xs.length:Int)) (Cp [A6l A5 0] (A (xs.length:Int))) 0 (xs.length:Int) 0) (.exit 0) (Lw xs.length (lm xs) ys.length (lm ys) (A (xs.length:Int)) (lm o) c (xs.length:Int) (xs.length:Int))):H I 179 [sL lm xs,sL lm ys] (A6p 1 (A (xs.length:Int)) (lm o)):=X (fn:=Vo) (s:=(A6o (sL lm xs)::(A6o (sL lm ys)::(Q 2 (A6q 1 (A (xs.length:Int)) (lm o)::(Q 1 (A6o (A6l U c)::(Q 6 (A6o (A6l R (xs.length:Int))::(A6o (A6l R (xs.length:Int))::(Q 29 []))))))))))) (ex := .ret) rfl rfl (W.seq (C (t:=(vl xs::(vl ys::(Q 2 (A6q 1 0 []::(Q 39 [])))))) AQ 300 [] [0,1,4] a0) (W.seq (C (t:=(vl xs::(vl ys::(Q 2 (A6q 1 0 []::(A6q 1 (A (xs.length:Int)) (Cp [A6l A5 0] (A (xs.length:Int)))::(Q 3 (vl xs::(vi (xs.length:Int)::(Q 33 [])))))))))) AQ 300 [] [0,1,4,5,9,10] (P (show 0<=(xs.length:Int)/\(xs.length:Int)<=1048576 from hmk) a0)) (W.seq (C (t:=(vl xs::(vl ys::(Q 2 (A6q 1 0 []::(A6q 1 (A (xs.length:Int)) (Cp [A6l A5 0] (A (xs.length:Int)))::(A6o (A6l U 0)::(Q 2 (vl xs::(vi (xs.length:Int)::(Q 33 []))))))))))) AQ 300 [] [0,1,4,5,6,9,10] a0) (W.seq (W.seq (C (t:=(vl xs::(vl ys::(Q 2 (A6q 1 0 []::(A6q 1 (A (xs.length:Int)) (Cp [A6l A5 0] (A (xs.length:Int)))::(A6o (A6l U 0)::(Q 6 (vi (xs.length:Int)::(vi 0::(Q 29 []))))))))))) AQ 300 [] [0,1,4,5,6,13,14] a0) (W.block hl)) (C (t:=(vl xs::(vl ys::(Q 2 (A6q 1 (A (xs.length:Int)) (lm o)::(Q 1 (A6o (A6l U c)::(Q 6 (vi (xs.length:Int)::(vi (xs.length:Int)::(Q 29 []))))))))))) (ex := .ret) AQ 300 [] [0,1,4,6,13,14] a0))))) (by nofun) rfl
theorem Po{xs ys:List Int}(hx:AL xs)(hy:AL ys)(hl:ys.length<=xs.length)(hv:Ac ys<=Ac xs)(hN:xs.length<=1048576):∃ zs,AL zs/\Ac zs=Ac xs-Ac ys/\zs.length<=1048576/\H I 179 [sL lm xs,sL lm ys] (A6p 1 zs.length (lm zs)):=by
 have hg:=xQ xs ys hx hy xs.length hN (An _) xs.length 0 (Ar xs.length 0) 0 (by omega) (by simp) (EC _) (by omega);cases e:I7 xs ys xs.length 0 (Ar xs.length 0) 0 with
 | mk o c =>
  obtain⟨g1,g2,g3⟩:=jY hx hy hl hv o c e;rw[e] at hg;have h:=Apo xs ys o c (by omega) (by rw[F,EO];exact hg);rw[F] at h;refine⟨o,g2,g3,by omega,?_⟩;rw[g1];exact h
theorem kL(na:Bool)(p:Nat)(nb:Bool)(q:Nat)(zs:List Int)(r:Int)(h:(na==nb)=true)(h1:H I 178 [A6n (G p).length (lm (G p)),A6n (G q).length (lm (G q))] (A6p 1 zs.length (lm zs)))(h2:H I 152 [A6m na,sL lm zs] (A6r [A6m (B (r<0)),A6n ((G (E r)).length) (lm (G (E r)))])):H I 154 [A6m na,A6n ((G p).length) (lm (G p)),A6m nb,A6n ((G q).length) (lm (G q))] (A6r [A6m (B (r<0)),A6n ((G (E r)).length) (lm (G (E r)))]):=Bt (ps:=[(na==nb)=true,H I 178 [A6n ((G p).length) (lm (G p)),A6n ((G q).length) (lm (G q))] (A6p 1 zs.length (lm zs)),H I 152 [A6m na,sL lm zs] (A6r [A6m (B (r<0)),A6n ((G (E r)).length) (lm (G (E r)))])]) AQ rfl 300 rfl [.b true,.r (A6p 1 zs.length (lm zs)),.r (A6r [A6m (B (r<0)),A6n ((G (E r)).length) (lm (G (E r)))])] (by kernel_rfl) ⟨h,h1,h2,trivial⟩
theorem kM(na:Bool)(p:Nat)(nb:Bool)(q:Nat)(zs:List Int)(r:Int)(k:Int)(h:(na==nb)=false)(h3:H I 151 [A6n (G p).length (lm (G p)),A6n (G q).length (lm (G q))] (A6l R k))(hk:(B (k>=0))=true)(h1:H I 179 [A6n (G p).length (lm (G p)),A6n (G q).length (lm (G q))] (A6p 1 zs.length (lm zs)))(h2:H I 152 [A6m na,sL lm zs] (A6r [A6m (B (r<0)),A6n ((G (E r)).length) (lm (G (E r)))])):H I 154 [A6m na,A6n ((G p).length) (lm (G p)),A6m nb,A6n ((G q).length) (lm (G q))] (A6r [A6m (B (r<0)),A6n ((G (E r)).length) (lm (G (E r)))]):=Bt (ps:=[(na==nb)=false,H I 151 [A6n ((G p).length) (lm (G p)),A6n ((G q).length) (lm (G q))] (A6l R k),(B (k>=0))=true,H I 179 [A6n ((G p).length) (lm (G p)),A6n ((G q).length) (lm (G q))] (A6p 1 zs.length (lm zs)),H I 152 [A6m na,sL lm zs] (A6r [A6m (B (r<0)),A6n ((G (E r)).length) (lm (G (E r)))])]) AQ rfl 300 rfl [.b false,.r (A6l R k),.b true,.r (A6p 1 zs.length (lm zs)),.r (A6r [A6m (B (r<0)),A6n ((G (E r)).length) (lm (G (E r)))])] (by kernel_rfl) ⟨h,h3,hk,h1,h2,trivial⟩
theorem kN(na:Bool)(p:Nat)(nb:Bool)(q:Nat)(zs:List Int)(r:Int)(k:Int)(h:(na==nb)=false)(h3:H I 151 [A6n (G p).length (lm (G p)),A6n (G q).length (lm (G q))] (A6l R k))(hk:(B (k>=0))=false)(h1:H I 179 [A6n (G q).length (lm (G q)),A6n (G p).length (lm (G p))] (A6p 1 zs.length (lm zs)))(h2:H I 152 [A6m nb,sL lm zs] (A6r [A6m (B (r<0)),A6n ((G (E r)).length) (lm (G (E r)))])):H I 154 [A6m na,A6n ((G p).length) (lm (G p)),A6m nb,A6n ((G q).length) (lm (G q))] (A6r [A6m (B (r<0)),A6n ((G (E r)).length) (lm (G (E r)))]):=Bt (ps:=[(na==nb)=false,H I 151 [A6n ((G p).length) (lm (G p)),A6n ((G q).length) (lm (G q))] (A6l R k),(B (k>=0))=false,H I 179 [A6n ((G q).length) (lm (G q)),A6n ((G p).length) (lm (G p))] (A6p 1 zs.length (lm zs)),H I 152 [A6m nb,sL lm zs] (A6r [A6m (B (r<0)),A6n ((G (E r)).length) (lm (G (E r)))])]) AQ rfl 300 rfl [.b false,.r (A6l R k),.b false,.r (A6p 1 zs.length (lm zs)),.r (A6r [A6m (B (r<0)),A6n ((G (E r)).length) (lm (G (E r)))])] (by kernel_rfl) ⟨h,h3,hk,h1,h2,trivial⟩
theorem cK{na nb:Bool}{p q:Nat}(hp:(G p).length<1048576)(hq:(G q).length<1048576):H I 154 [A6m na,A6n (G p).length (lm (G p)),A6m nb,A6n (G q).length (lm (G q))] (o (rv na (G p)+rv nb (G q))):=by
 have up:=BK p;have uq:=BK q;by_cases e:na=nb
 ·subst e;obtain⟨zs,z1,z2,z3,z4⟩:=WS up uq hp hq;have h2:=E8 (neg:=na) z1 z3;have ev:rv na zs=rv na (G p)+rv na (G q):=by
   unfold rv;rw[z2];cases na <;> simp <;> omega
  rw[ev] at h2;exact kL na p na q zs _ (by simp) z4 h2
 ·have hne:(na==nb)=false:=by simpa using e
  have hc:=IL (Cc p) (Cc q) (by omega);have hnb:nb = !na:=by cases na <;> cases nb <;> simp_all
  have lenle:∀ {a b:Nat},Ac (G a)<=Ac (G b)->(G a).length<=(G b).length:=by
   intro a b h;rcases Ck (G b).length (G a).length with g | g
   ·have:=I6 (Cc b) (Cc a) g;omega
   ·exact g
  by_cases hk:Ac (G q)<=Ac (G p)
  ·obtain⟨zs,z1,z2,z3,z4⟩:=Po up uq (lenle hk) hk (by omega);have h2:=E8 (neg:=na) z1 z3;have ev:rv na zs=rv na (G p)+rv nb (G q):=by
    subst hnb;unfold rv;rw[z2];cases na <;> simp <;> omega
   rw[ev] at h2;refine kM na p nb q zs _ _ hne hc ?_ z4 h2;unfold CC;rw[if_neg (by omega)];split <;> rfl
  ·obtain⟨zs,z1,z2,z3,z4⟩:=Po uq up (lenle (by omega)) (by omega) (by omega);have h2:=E8 (neg:=nb) z1 z3;have ev:rv nb zs=rv na (G p)+rv nb (G q):=by
    subst hnb;unfold rv;rw[z2];cases na <;> simp <;> omega
   rw[ev] at h2;refine kN na p nb q zs _ _ hne hc ?_ z4 h2;unfold CC;rw[if_pos (by omega)];rfl
theorem App(na:Bool)(xs:List Int)(nb:Bool)(ys:List Int)(a b r:Int)(h1:H I 143 [A6r [A6m na,sL lm xs]] (A6t [A6m (B (a<0)),A6n (G (E a)).length (lm (G (E a)))]))(h2:H I 143 [A6r [A6m nb,sL lm ys]] (A6t [A6m (B (b<0)),A6n (G (E b)).length (lm (G (E b)))]))(h3:H I 154 [A6m (B (a<0)),A6n (G (E a)).length (lm (G (E a))),A6m (B (b<0)),A6n (G (E b)).length (lm (G (E b)))] (A6r [A6m (B (r<0)),A6n ((G (E r)).length) (lm (G (E r)))])):H I 111 [A6r [A6m na,sL lm xs],A6r [A6m nb,sL lm ys]] (A6r [A6m (B (r<0)),A6n ((G (E r)).length) (lm (G (E r)))]):=Bt (ps:=[H I 143 [A6r [A6m na,sL lm xs]] (A6t [A6m (B (a<0)),A6n ((G (E a)).length) (lm (G (E a)))]),H I 143 [A6r [A6m nb,sL lm ys]] (A6t [A6m (B (b<0)),A6n ((G (E b)).length) (lm (G (E b)))]),H I 154 [A6m (B (a<0)),A6n ((G (E a)).length) (lm (G (E a))),A6m (B (b<0)),A6n ((G (E b)).length) (lm (G (E b)))] (A6r [A6m (B (r<0)),A6n ((G (E r)).length) (lm (G (E r)))])]) AQ rfl 300 rfl [.r (A6t [A6m (B (a<0)),A6n ((G (E a)).length) (lm (G (E a)))]),.r (A6t [A6m (B (b<0)),A6n ((G (E b)).length) (lm (G (E b)))]),.r (A6r [A6m (B (r<0)),A6n ((G (E r)).length) (lm (G (E r)))])] (by kernel_rfl) ⟨h1,h2,h3,trivial⟩
theorem OF{na nb:Bool}{xs ys:List Int}(hx:AL xs)(hy:AL ys)(h1:xs.length<1048576)(h2:ys.length<1048576):H I 111 [A6r [A6m na,sL lm xs],A6r [A6m nb,sL lm ys]] (o (rv na xs+rv nb ys)):=by
 have l1:=Dk (E6 (neg:=na) hx) h1;have l2:=Dk (E6 (neg:=nb) hy) h2;have h3:=cK (na:=decide (rv na xs<0)) (nb:=decide (rv nb ys<0)) l1 l2;rw[Fr,Fr] at h3;exact App na xs nb ys (rv na xs) (rv nb ys) _ (Dh hx (by omega)) (Dh hy (by omega)) h3
theorem xR{a b:Int}(h1:(G a.natAbs).length<1048576)(h2:(G b.natAbs).length<1048576):H I 111 [o a,o b] (o (a+b)):=by
 have:=OF (na:=decide (a<0)) (nb:=decide (b<0)) (BK a.natAbs) (BK b.natAbs) h1 h2;rwa [Fr,Fr] at this
theorem Apq(na:Bool)(xs:List Int)(nb:Bool)(ys:List Int)(a b r:Int)(h1:H I 143 [A6r [A6m na,sL lm xs]] (A6t [A6m (B (a<0)),A6n (G (E a)).length (lm (G (E a)))]))(h2:H I 143 [A6r [A6m nb,sL lm ys]] (A6t [A6m (B (b<0)),A6n (G (E b)).length (lm (G (E b)))]))(h3:H I 154 [A6m (B (a<0)),A6n (G (E a)).length (lm (G (E a))),A6m (!(decide (b<0))),A6n (G (E b)).length (lm (G (E b)))] (A6r [A6m (B (r<0)),A6n ((G (E r)).length) (lm (G (E r)))])):H I 127 [A6r [A6m na,sL lm xs],A6r [A6m nb,sL lm ys]] (A6r [A6m (B (r<0)),A6n ((G (E r)).length) (lm (G (E r)))]):=Bt (ps:=[H I 143 [A6r [A6m na,sL lm xs]] (A6t [A6m (B (a<0)),A6n ((G (E a)).length) (lm (G (E a)))]),H I 143 [A6r [A6m nb,sL lm ys]] (A6t [A6m (B (b<0)),A6n ((G (E b)).length) (lm (G (E b)))]),H I 154 [A6m (B (a<0)),A6n ((G (E a)).length) (lm (G (E a))),A6m (!(decide (b<0))),A6n ((G (E b)).length) (lm (G (E b)))] (A6r [A6m (B (r<0)),A6n ((G (E r)).length) (lm (G (E r)))])]) AQ rfl 300 rfl [.r (A6t [A6m (B (a<0)),A6n ((G (E a)).length) (lm (G (E a)))]),.r (A6t [A6m (B (b<0)),A6n ((G (E b)).length) (lm (G (E b)))]),.r (A6r [A6m (B (r<0)),A6n ((G (E r)).length) (lm (G (E r)))])] (by kernel_rfl) ⟨h1,h2,h3,trivial⟩
theorem xS{na nb:Bool}{xs ys:List Int}(hx:AL xs)(hy:AL ys)(h1:xs.length<1048576)(h2:ys.length<1048576):H I 127 [A6r [A6m na,sL lm xs],A6r [A6m nb,sL lm ys]] (o (rv na xs-rv nb ys)):=by
 have l1:=Dk (E6 (neg:=na) hx) h1;have l2:=Dk (E6 (neg:=nb) hy) h2;have h3:=cK (na:=decide (rv na xs<0)) (nb := !decide (rv nb ys<0)) l1 l2;rw[Fr,sC,<- Int.sub_eq_add_neg] at h3;exact Apq na xs nb ys (rv na xs) (rv nb ys) _ (Dh hx (by omega)) (Dh hy (by omega)) h3
def TWB:Cm:=TWA
theorem m:BY I TWB:=AQ
end Go.Proofs.YtajompaehjkgkaaGreat
namespace Go.Ai
open Int renaming add_zero->B2,ediv_lt_of_lt_mul->Km,ediv_nonneg->Jn,emod_eq_of_lt->FY,emod_lt_of_pos->El,emod_nonneg->Fy,eq_of_mul_eq_mul_left->Gw,le_of_lt->A0,lt_of_lt_of_le->Se,mul_add->CE,mul_assoc->A9,mul_comm->A8,mul_ediv_add_emod->Gs,mul_le_mul->DR,mul_le_mul_of_nonneg_left->Ag,mul_le_mul_of_nonneg_right->Ae,mul_lt_mul_of_pos_left->Hl,mul_neg->DZ,mul_nonneg->A3,mul_sub->EG,mul_zero->AC,not_le->H',not_lt->IX,pow_add->BC,pow_succ->Ax,sub_self->Tf,zero_add->DA,zero_mul->CJ
open List renaming drop_drop->L2,drop_zero->EP,ext_getElem?->FX,getD_eq_getElem?_getD->Z,getElem?_drop->Bn,getElem?_eq_getElem->Af,getElem?_eq_none->AB,getElem?_take_of_lt->By,length_set->AW,length_take->A7,mem_of_mem_drop->EK,mem_of_mem_take->Ct,take_append_drop->Xn
open Nat renaming add_comm->Hn,le_of_lt->kO,le_refl->An,lt_or_ge->Ck,zero_add->Ch
section
variable {prog:Nat->Option IFunc}
theorem cL{c:ICode}{ex:Ex}{s t t':Ak}(ks:List Nat)(h:W prog c s ex t)(e:Vz ks t=t'):W prog c s ex t':=e ▸ W.weak h (GF.refl _) (X9 ks t)
theorem Gc{c:ICode}{ex:Ex}{fin:Ak}(st:Nat->Ak)(n:Nat)(hex:ex ≠ .norm)(out:W prog c (st n) ex fin):∀ i,i<=n->(∀ t,i<=t->t<n->W prog c (st t) .norm (st (t+1)))->W prog (.loop c) (st i) ex fin:=by
 intro i hi;obtain⟨r,hr⟩:∃ r,i+r=n:=⟨n-i,by omega⟩;induction r generalizing i with
 | zero =>
  intro _;have:i=n:=by omega
  subst this;exact Am out hex
 | succ r ih =>
  intro hs;exact W.loop (hs i (An _) (by omega)) (ih (i+1) (by omega) (by omega) (fun t h1 h2=>hs t (by omega) h2))
theorem Je(f:Nat->Bool)(m:Nat):∀ r i,i+r=m->(∀ j,i<=j->j<m->f j=false)\/∃ j,i<=j/\j<m/\f j=true/\∀ t,i<=t->t<j->f t=false:=by
 intro r;induction r with
 | zero=>intro i hi;left;intro j h1 h2;omega
 | succ r ih =>
  intro i hi;cases hf:f i with
  | true=>right;exact⟨i,An _,by omega,hf,fun t h1 h2=>by omega⟩
  | false =>
   rcases ih (i+1) (by omega) with h | ⟨j,h1,h2,h3,h4⟩
   ·left;intro j h1 h2;by_cases e:j=i
    ·rw[e];exact hf
    ·exact h j (by omega) h2
   ·right;refine⟨j,by omega,h2,h3,fun t h5 h6 => ?_⟩;by_cases e:t=i
    ·rw[e];exact hf
    ·exact h4 t (by omega) h6
end
theorem Di(us:List Int){j:Nat}(h:j<=us.length):Ac us=Ac (us.take j)+4294967296^j*Ac (us.drop j):=by
 have:=Gk (us.take j) (us.drop j);rw[Xn,A7,Nat.min_eq_left h] at this;exact this
theorem xT{us ws:List Int}{j:Nat}(hl:ws.length=us.length)(h:∀ t,t<j->ws.getD t 0=us.getD t 0):ws.take j=us.take j:=by
 apply FX;intro t;rcases Ck t j with g | g
 ·rw[By g,By g];have:=h t g;rw[Z,Z] at this;rcases Ck t us.length with k | k
  ·rw[Af k,Af (by omega)] at this |-;simpa using this
  ·rw[AB k,AB (by omega)]
 ·rw[AB (by simp;omega),AB (by simp;omega)]
theorem EQ{us:List Int}(h:AL us)(j:Nat):AL (us.drop j):=fun x hx=>h x (EK hx)
theorem DH{us:List Int}(h:AL us)(j:Nat):AL (us.take j):=fun x hx=>h x (Ct hx)
theorem Jf{us:List Int}(hu:AL us){n:Nat}{V:Int}(hV:V<=4294967296^n)(h:Ac us<V):Ac (us.drop n)=0:=by
 have h0:=AT (EQ hu n);rcases Ck n us.length with g | g
 ·have e:=Di us (kO g);have h1:=AT (DH hu n);have hp:=Cr n;apply Int.le_antisymm ?_ h0;apply IX.1;intro hc;have:=Ag (show 1<=Ac (us.drop n) by omega) (show (0:Int)<=4294967296^n by omega);omega
 ·exact DF g
theorem FS{us:List Int}(hu:AL us)(n:Nat):Ac (us.take n)<4294967296^n:=by
 have h:=D9 (DH hu n);exact Se h (Gb (by simp;omega))
def F6(g:Int)(vs:List Int)(j:Nat):Nat->Nat->List Int->Int->Int->List Int × Int × Int
 | 0,_,us,b,c=>(us,b,c)
 | r+1,i,us,b,c=>F6 g vs j r (i+1) (us.set (i+j) ((us.getD (i+j) 0-(g*vs.getD i 0+c) % 4294967296-b) % 4294967296))
   (if us.getD (i+j) 0-(g*vs.getD i 0+c) % 4294967296-b<0 then 1 else 0) ((g*vs.getD i 0+c) / 4294967296)
theorem VH{g v c:Int}(hg:0<=g/\g<4294967296)(hv:0<=v/\v<4294967296)(hc:0<=c/\c<4294967296):0<=g*v+c/\g*v+c<18446744073709551616:=by
 have h1:=A3 hg.1 hv.1;have h2:=DR (show g<=4294967295 by omega) (show v<=4294967295 by omega) hv.1 (by omega);omega
theorem VI{g:Int}{vs:List Int}{j:Nat}(hg:0<=g/\g<4294967296)(hv:AL vs):∀ (r i:Nat) (us:List Int) (b c:Int),r+i=vs.length->j+vs.length<=us.length->AL us->0<=b/\b<=1->0<=c/\c<4294967296 ->
  (F6 g vs j r i us b c).1.length=us.length/\AL (F6 g vs j r i us b c).1/\(0<=(F6 g vs j r i us b c).2.1/\(F6 g vs j r i us b c).2.1<=1)/\(0<=(F6 g vs j r i us b c).2.2/\(F6 g vs j r i us b c).2.2<4294967296) /\
  Ac (F6 g vs j r i us b c).1=Ac us-4294967296^(i+j)*(g*Ac (vs.drop i)+b+c)+4294967296^(j+vs.length)*((F6 g vs j r i us b c).2.1+(F6 g vs j r i us b c).2.2) /\
  ∀ t,t<i+j\/j+vs.length<=t->(F6 g vs j r i us b c).1.getD t 0=us.getD t 0:=by
 intro r;induction r with
 | zero =>
  intro i us b c hi _ hu hb hc;refine⟨rfl,hu,hb,hc,?_,fun t _=>rfl⟩;have:i=vs.length:=by omega
  subst this;rw[DF (An _),Hn];simp only[F6,AC,DA];omega
 | succ r ih =>
  intro i us b c hi hl hu hb hc;have hvi:=AE hv i;have hui:=AE hu (i+j);have hw:=VH hg hvi hc;simp only[F6];generalize hp:g*vs.getD i 0+c=p at *
  generalize hd:us.getD (i+j) 0-p % 4294967296-b=d at *
  obtain⟨g1,g2,g3,g4,g5,g6⟩:=ih (i+1) (us.set (i+j) (d % 4294967296)) (if d<0 then 1 else 0) (p / 4294967296) (by omega) (by simpa using hl) (Cq hu (by omega)) (by split <;> omega) (by omega);refine⟨by simpa using g1,g2,g3,g4,?_,fun t ht => ?_⟩
  ·rw[g5,DE _ _ _ (by omega),Cy vs i,show i+1+j=(i+j)+1 by omega,Ax];generalize (4294967296:Int)^(i+j)=P at *
   generalize Ac (vs.drop (i+1))=V at *
   have e1:d % 4294967296=d+4294967296*(if d<0 then 1 else 0):=by split <;> omega
   rw[e1];generalize (if d<0 then (1:Int) else 0)=k at *
   have e2:p=4294967296*(p / 4294967296)+p % 4294967296:=by omega
   generalize p / 4294967296=ph at *
   generalize p % 4294967296=pl at *
   generalize us.getD (i+j) 0=u at *
   generalize vs.getD i 0=v at *
   have e3:d=u-pl-b:=by omega
   have e4:c=4294967296*ph+pl-g*v:=by omega
   subst e3;rw[e4];grind
  ·rw[g6 t (by omega),Co (by omega)]
def HQ(vs:List Int)(j:Nat):Nat->Nat->List Int->Int->List Int × Int
 | 0,_,us,c=>(us,c)
 | r+1,i,us,c=>HQ vs j r (i+1) (us.set (i+j) ((us.getD (i+j) 0+vs.getD i 0+c) % 4294967296)) ((us.getD (i+j) 0+vs.getD i 0+c) / 4294967296)
theorem VJ{vs:List Int}{j:Nat}(hv:AL vs):∀ (r i:Nat) (us:List Int) (c:Int),r+i=vs.length->j+vs.length<=us.length->AL us->0<=c/\c<=1 ->
  (HQ vs j r i us c).1.length=us.length/\AL (HQ vs j r i us c).1/\(0<=(HQ vs j r i us c).2/\(HQ vs j r i us c).2<=1) /\
  Ac (HQ vs j r i us c).1=Ac us+4294967296^(i+j)*(Ac (vs.drop i)+c)-4294967296^(j+vs.length)*(HQ vs j r i us c).2 /\
  ∀ t,t<i+j\/j+vs.length<=t->(HQ vs j r i us c).1.getD t 0=us.getD t 0:=by
 intro r;induction r with
 | zero =>
  intro i us c hi _ hu hc;refine⟨rfl,hu,hc,?_,fun t _=>rfl⟩;have:i=vs.length:=by omega
  subst this;rw[DF (An _),Hn];simp only[HQ,DA];omega
 | succ r ih =>
  intro i us c hi hl hu hc;have hvi:=AE hv i;have hui:=AE hu (i+j);simp only[HQ];generalize hd:us.getD (i+j) 0+vs.getD i 0+c=d at *
  obtain⟨g1,g2,g3,g4,g5⟩:=ih (i+1) (us.set (i+j) (d % 4294967296)) (d / 4294967296) (by omega) (by simpa using hl) (Cq hu (by omega)) (by omega);refine⟨by simpa using g1,g2,g3,?_,fun t ht => ?_⟩
  ·rw[g4,DE _ _ _ (by omega),Cy vs i,show i+1+j=(i+j)+1 by omega,Ax];generalize (4294967296:Int)^(i+j)=P at *
   generalize Ac (vs.drop (i+1))=V at *
   have e2:d=4294967296*(d / 4294967296)+d % 4294967296:=by omega
   generalize d / 4294967296=ph at *
   generalize d % 4294967296=pl at *
   generalize us.getD (i+j) 0=u at *
   generalize vs.getD i 0=v at *
   have e3:c=4294967296*ph+pl-u-v:=by omega
   rw[e3];grind
  ·rw[g5 t (by omega),Co (by omega)]
structure Dig (n:Nat) (V W w nxt x y z:Int):Prop where
 vlow:0<=V-(w*4294967296+nxt)*4294967296^n/\V-(w*4294967296+nxt)*4294967296^n<4294967296^n
 wlow:0<=W-((x*4294967296+y)*4294967296+z)*4294967296^n/\W-((x*4294967296+y)*4294967296+z)*4294967296^n<4294967296^n
 htop:2147483648<=w/\w<4294967296
 hnxt:0<=nxt/\nxt<4294967296
 hx:0<=x/\x<4294967296
 hy:0<=y/\y<4294967296
 hz:0<=z/\z<4294967296
 small:W<4294967296*V
structure DigI (V W w num g r:Int):Prop where
 sum:g*w+r=num
 r0:0<=r
 g0:0<=g
 up:W<(g+1)*V
 gle:g<=4294967297
section
variable {n:Nat} {V W w nxt x y z:Int}
theorem Dig.x_le(h:Dig n V W w nxt x y z):x<=w:=by
 have hp:=Cr n;obtain⟨h1,h2⟩:=h.vlow;obtain⟨h3,h4⟩:=h.wlow;have:=h.hnxt;have:=h.hy;have:=h.hz;have hs:=h.small;apply IX.1;intro hx;generalize (4294967296:Int)^n=P at *
 have e1:(x*4294967296+y)*4294967296+z>=(w+1)*4294967296*4294967296:=by omega
 have e2:=Ae e1 (show 0<=P by omega);have e3:w*4294967296+nxt+1<=(w+1)*4294967296:=by omega
 have e4:=Ae e3 (show 0<=P by omega);have e5:(w+1)*4294967296*4294967296*P=4294967296*((w+1)*4294967296*P):=by grind
 have e6:(w*4294967296+nxt+1)*P=(w*4294967296+nxt)*P+P:=by grind
 omega
theorem Dig.Vpos(h:Dig n V W w nxt x y z):4294967296*4294967296^n<=V:=by
 have hp:=Cr n;obtain⟨h1,h2⟩:=h.vlow;have:=h.hnxt;have:=h.htop;generalize (4294967296:Int)^n=P at *
 have:=Ae (show (4294967296:Int)<=w*4294967296+nxt by omega) (show 0<=P by omega);omega
theorem Dig.init(h:Dig n V W w nxt x y z):DigI V W w (x*4294967296+y) ((x*4294967296+y) / w) ((x*4294967296+y) % w):=by
 have hxl:=h.x_le;have ht:=h.htop;have hx:=h.hx;have hy:=h.hy;have e:=Gs (x*4294967296+y) w;have r0:=Fy (x*4294967296+y) (show w ≠ 0 by omega);have r1:=El (x*4294967296+y) (show 0<w by omega);have g0:0<=(x*4294967296+y) / w:=Jn (by omega) (by omega);have g1:(x*4294967296+y) / w<=4294967297:=by
  apply Int.lt_add_one_iff.1;apply Km (by omega);omega
 generalize hg:(x*4294967296+y) / w=g at *
 generalize hr:(x*4294967296+y) % w=r at *
 refine⟨by rw[A8];exact e,r0,g0,?_,g1⟩;have hp:=Cr n;obtain⟨h1,h2⟩:=h.vlow;obtain⟨h3,h4⟩:=h.wlow;have hnx:=h.hnxt;have hz:=h.hz;generalize (4294967296:Int)^n=P at *
 have e1:x*4294967296+y+1<=(g+1)*w:=by
  have:(g+1)*w=w*g+w:=by grind
  omega
 have e2:(x*4294967296+y)*4294967296+z+1<=(x*4294967296+y+1)*4294967296:=by omega
 have e3:=Ae e2 (show 0<=P by omega);have e4:=Ae e1 (show 0<=4294967296*P by omega);have e5:w*(4294967296*P)<=V:=by
  have:(w*4294967296+nxt)*P=w*(4294967296*P)+nxt*P:=by grind
  have:=A3 hnx.1 (show 0<=P by omega);omega
 have e6:=Ag e5 (show 0<=g+1 by omega);have e7:(g+1)*(w*(4294967296*P))=(g+1)*w*(4294967296*P):=by grind
 have e8:((x*4294967296+y)*4294967296+z+1)*P=((x*4294967296+y)*4294967296+z)*P+P:=by grind
 have e9:(x*4294967296+y+1)*4294967296*P=(x*4294967296+y+1)*(4294967296*P):=by grind
 omega
theorem Dig.step(h:Dig n V W w nxt x y z){g r:Int}(i:DigI V W w (x*4294967296+y) g r)(hc:4294967296<=g\/r*4294967296+z<g*nxt):DigI V W w (x*4294967296+y) (g-1) (r+w):=by
 have ht:=h.htop;have hVp:=h.Vpos;have hp:=Cr n;have e0:(g-1)*w+(r+w)=g*w+r:=by grind
 have hg1:1<=g:=by
  rcases hc with h1 | h1
  ·omega
  ·apply IX.1;intro hg;have:g=0:=by have:=i.g0;omega
   subst this;have:=i.r0;have:=h.hz;omega
 refine⟨by rw[e0];exact i.sum,by have:=i.r0;omega,by omega,?_,by have:=i.gle;omega⟩;rw[Int.sub_add_cancel];obtain⟨h1,h2⟩:=h.vlow;obtain⟨h3,h4⟩:=h.wlow;have hs:=h.small;rcases hc with hc | hc
 ·have:=Ae hc (show 0<=V by omega);omega
 ·have hsum:=i.sum;rw[<- hsum] at h3 h4;generalize (4294967296:Int)^n=P at *
  have e1:(g*w+r)*4294967296+z+1<=g*(w*4294967296+nxt):=by
   have:g*(w*4294967296+nxt)=g*w*4294967296+g*nxt:=by grind
   omega
  have e2:=Ae e1 (show 0<=P by omega);have e3:(w*4294967296+nxt)*P<=V:=by omega
  have e4:=Ag e3 (show 0<=g by omega);have e5:g*(w*4294967296+nxt)*P=g*((w*4294967296+nxt)*P):=by grind
  have e6:((g*w+r)*4294967296+z+1)*P=((g*w+r)*4294967296+z)*P+P:=by grind
  omega
theorem Dig.small_g(h:Dig n V W w nxt x y z){g r:Int}(i:DigI V W w (x*4294967296+y) g r)(hr:4294967296<=r):g<4294967296:=by
 have hxl:=h.x_le;have ht:=h.htop;have hy:=h.hy;apply H'.1;intro hg;have:=Ae hg (show 0<=w by omega);have:=i.sum;omega
theorem Dig.out(h:Dig n V W w nxt x y z){g r:Int}(i:DigI V W w (x*4294967296+y) g r)(hg:g<4294967296)(hc:4294967296<=r\/g*nxt<=r*4294967296+z):g*V<W+V:=by
 have ht:=h.htop;have hVp:=h.Vpos;have hp:=Cr n;have hnx:=h.hnxt;have hz:=h.hz;have hc':g*nxt<=r*4294967296+z:=by
  rcases hc with hc | hc
  ·have:=DR (show g<=4294967295 by omega) (show nxt<=4294967295 by omega) hnx.1 (by omega);omega
  ·exact hc
 obtain⟨h1,h2⟩:=h.vlow;obtain⟨h3,h4⟩:=h.wlow;have hsum:=i.sum;have hg0:=i.g0;rw[<- hsum] at h3 h4;generalize (4294967296:Int)^n=P at *
 have e1:g*(w*4294967296+nxt)<=(g*w+r)*4294967296+z:=by
  have:g*(w*4294967296+nxt)=g*w*4294967296+g*nxt:=by grind
  omega
 have e2:=Ae e1 (show 0<=P by omega);have e5:g*(w*4294967296+nxt)*P=g*((w*4294967296+nxt)*P):=by grind
 have e6:=DR (A0 hg) (show V-(w*4294967296+nxt)*P<=P by omega) (by omega) (show (0:Int)<=4294967296 by omega);have e7:g*(V-(w*4294967296+nxt)*P)=g*V-g*((w*4294967296+nxt)*P):=by grind
 have e8:g*(V-(w*4294967296+nxt)*P)<4294967296*P:=by
  rcases Int.lt_or_eq_of_le hg0 with q | q
  ·have:=Hl h2 q;have:=Ae (A0 hg) (show 0<=P by omega);omega
  ·rw[<- q,CJ];omega
 omega
end
theorem sD{us vs:List Int}{j m:Nat}(hu:AL us)(hv:AL vs)(hm:vs.length=m+2)(hj:j+m+2<us.length)(ht:2147483648<=vs.getD (m+1) 0)(hW:Ac (us.drop (j+1))<Ac vs) :
  Dig m (Ac vs) (Ac (us.drop j)) (vs.getD (m+1) 0) (vs.getD m 0) (us.getD (j+m+2) 0) (us.getD (j+m+1) 0) (us.getD (j+m) 0):=by
 have hV:=D9 hv;have z:=Jf (EQ hu (j+1)) (n:=m+2) (V:=Ac vs) (by rw[hm] at hV;omega) hW;rw[L2] at z;have e1:=Di (us.drop j) (j:=m) (by simp;omega);rw[L2] at e1;have d1:=Cy us (j+m);have d2:=Cy us (j+m+1);have d3:=Cy us (j+m+2);rw[show j+m+2+1=j+1+(m+2) by omega,z] at d3;have l1:=FS (EQ hu j) m;have l0:=AT (DH (EQ hu j) m);have f1:=Di vs (j:=m) (by omega);have c1:=Cy vs m;have c2:=Cy vs (m+1);have c3:=DF (xs:=vs) (i:=m+1+1) (by omega);rw[c3] at c2;have k1:=FS hv m;have k0:=AT (DH hv m);have g1:=Cy us j;have gj:=AE hu j;refine⟨?_,?_,⟨ht,(AE hv _).2⟩,AE hv _,AE hu _,AE hu _,AE hu _,by omega⟩
 ·rw[f1,c1,c2,A8 (_+_) (4294967296^m)];simp only[AC,B2];rw[show vs.getD (m+1) 0*4294967296+vs.getD m 0=vs.getD m 0+4294967296*vs.getD (m+1) 0 by omega];omega
 ·rw[e1,d1,d2,d3,A8 (_+_) (4294967296^m)];simp only[AC,B2];rw[show (us.getD (j+m+2) 0*4294967296+us.getD (j+m+1) 0)*4294967296+us.getD (j+m) 0=us.getD (j+m) 0+4294967296*(us.getD (j+m+1) 0+4294967296*us.getD (j+m+2) 0) by omega];omega
structure StepOk (us vs ws:List Int) (j:Nat) (q:Int):Prop where
 len:ws.length=us.length
 u32:AL ws
 val:Ac ws=Ac us-4294967296^j*(q*Ac vs)
 low:Ac (ws.drop j)<Ac vs
theorem cM{j:Nat}{a b:Int}(h:4294967296^j*a=4294967296^j*b):a=b:=Gw (by have:=Cr j;omega) h
theorem VK{us ws:List Int}{j:Nat}{k:Int}(hl:ws.length=us.length)(hj:j<=us.length)(h:∀ t,t<j->ws.getD t 0=us.getD t 0)(hv:Ac ws=Ac us+4294967296^j*k):Ac (ws.drop j)=Ac (us.drop j)+k:=by
 have e1:=Di us hj;have e2:=Di ws (j:=j) (by omega);rw[xT hl h] at e2;apply cM (j:=j);rw[CE];omega
theorem cN{us:List Int}{j n:Nat}(hj:j+n<us.length)(hz:Ac (us.drop (j+n+1))=0):Ac (us.drop j)=Ac ((us.drop j).take n)+4294967296^n*us.getD (j+n) 0:=by
 have e1:=Di (us.drop j) (j:=n) (by simp;omega);rw[L2] at e1;have d1:=Cy us (j+n);rw[hz,AC,B2] at d1;rw[e1,d1]
theorem Te{us vs:List Int}{j:Nat}(hu:AL us)(hv:AL vs)(hj:j+vs.length<us.length)(hW:Ac (us.drop (j+1))<Ac vs){g:Int}(hg:0<=g/\g<4294967296)
  (h1:Ac (us.drop j)<(g+1)*Ac vs) (h2:g*Ac vs<Ac (us.drop j)+Ac vs) :
  let m:=F6 g vs j vs.length 0 us 0 0
  let d:=m.1.getD (j+vs.length) 0-m.2.2-m.2.1
  (d>=0->StepOk us vs (m.1.set (j+vs.length) (d % 4294967296)) j g) /\
  (d<0->StepOk us vs ((HQ vs j vs.length 0 (m.1.set (j+vs.length) (d % 4294967296)) 0).1.set (j+vs.length) (((HQ vs j vs.length 0 (m.1.set (j+vs.length) (d % 4294967296)) 0).1.getD (j+vs.length) 0+(HQ vs j vs.length 0 (m.1.set (j+vs.length) (d % 4294967296)) 0).2) % 4294967296)) j (g-1)/\1<=g):=by
 intro m d;have hVlt:=D9 hv;have z:=Jf (EQ hu (j+1)) (n:=vs.length) (V:=Ac vs) (by omega) hW;rw[L2,show j+1+vs.length=j+vs.length+1 by omega] at z;obtain⟨m1,m2,m3,m4,m5,m6⟩:=VI hg hv vs.length 0 us 0 0 (by omega) (show j+vs.length<=us.length by omega) hu (by omega) (by omega);change m.1.length=us.length at m1;change AL m.1 at m2;change 0<=m.2.1/\m.2.1<=1 at m3;change 0<=m.2.2/\m.2.2<4294967296 at m4;change Ac m.1=Ac us-4294967296^(0+j)*(g*Ac (vs.drop 0)+0+0)+4294967296^(j+vs.length)*(m.2.1+m.2.2) at m5;change ∀ t,t<0+j\/j+vs.length<=t->m.1.getD t 0=us.getD t 0 at m6;have hd:d=m.1.getD (j+vs.length) 0-m.2.2-m.2.1:=rfl;clear_value d;generalize hms:m.1=ms at *
 generalize m.2.1=b at *
 generalize m.2.2=c at *
 rw[Ch,EP,B2,B2] at m5;have m6':=m6 (j+vs.length) (by omega);have w1:Ac (ms.drop j)=Ac (us.drop j)+(4294967296^vs.length*(b+c)-g*Ac vs):=by
  apply VK m1 (by omega) (fun t ht=>m6 t (by omega));rw[m5,BC,EG,A9];omega
 have zz:Ac (ms.drop (j+vs.length+1))=0:=by
  have:ms.drop (j+vs.length+1)=us.drop (j+vs.length+1):=by
   apply FX;intro t;rw[Bn,Bn];have:=m6 (j+vs.length+1+t) (by omega);rw[Z,Z] at this;rcases Ck (j+vs.length+1+t) us.length with k | k
   ·rw[Af k,Af (by omega)] at this |-;simpa using this
   ·rw[AB k,AB (by omega)]
  rw[this];exact z
 have w2:=cN (us:=ms) (j:=j) (n:=vs.length) (by omega) zz;have lo:=FS (EQ m2 j) vs.length;have lo0:=AT (DH (EQ m2 j) vs.length);have hx:=AE m2 (j+vs.length);have hX:ms.getD (j+vs.length) 0=d+b+c:=by omega
 rw[hX] at w2;have hp:=Cr vs.length;generalize hP:(4294967296:Int)^vs.length=P at *
 generalize hL:Ac ((ms.drop j).take vs.length)=L at *
 have w3:Ac (us.drop j)-g*Ac vs=L+P*d:=by
  rw[w1] at w2;have e:P*(d+b+c)=P*d+P*(b+c):=by grind
  omega
 have e2:(g+1)*Ac vs=g*Ac vs+Ac vs:=by grind
 have lset:∀ v:Int,Ac (ms.set (j+vs.length) v)=Ac us-4294967296^j*(g*Ac vs)+4294967296^j*(P*(v-d)):=by
  intro v;rw[DE _ _ _ (by omega),m5,hX,BC,hP];grind
 refine⟨fun hge => ?_,fun hlt => ?_⟩
 ·have hd0:d=0\/1<=d:=by omega
  have hd1:d<4294967296:=by omega
  refine⟨by simpa using m1,Cq m2 (by omega),?_,?_⟩
  ·rw[lset,FY hge hd1,Tf,AC,AC,B2]
  ·rw[VK (us:=us) (k := -(g*Ac vs)) (by simpa using m1) (by omega) (fun t ht=>by rw[Co (by omega)];exact m6 t (by omega)) (by rw[lset,FY hge hd1,Tf,AC,AC,B2,DZ];omega)];omega
 ·have hg1:1<=g:=by
   apply IX.1;intro hh;have hg':g=0:=by omega
   have:=AT (EQ hu j);rw[hg',CJ] at w3;have:=Ag (show d <= -1 by omega) (show 0<=P by omega);omega
  refine⟨?_,hg1⟩;have hu2:AL (ms.set (j+vs.length) (d % 4294967296)):=Cq m2 (by omega);obtain⟨a1,a2,a3,a4,a5⟩:=VJ hv vs.length 0 (ms.set (j+vs.length) (d % 4294967296)) 0 (by omega) (show j+vs.length<=_ by rw[AW];omega) hu2 (by omega);generalize HQ vs j vs.length 0 (ms.set (j+vs.length) (d % 4294967296)) 0=A at *
  have a6:=a5 (j+vs.length) (by omega);have hlen:A.1.length=us.length:=by rw[a1,AW,m1]
  have hget:(ms.set (j+vs.length) (d % 4294967296)).getD (j+vs.length) 0=d % 4294967296:=by
   simp[Z,show j+vs.length<ms.length by omega]
  rw[hget] at a6;rw[a6];rw[Ch,EP,B2,lset,BC,hP] at a4;have aset:∀ v:Int,Ac (A.1.set (j+vs.length) v)=Ac us-4294967296^j*((g-1)*Ac vs)+4294967296^j*(P*(v-d-A.2)):=by
   intro v;rw[DE _ _ _ (by omega),a4,a6,BC,hP];grind
  have hwA:∀ v:Int,Ac ((A.1.set (j+vs.length) v).drop j)=Ac (us.drop j)-(g-1)*Ac vs+P*(v-d-A.2):=by
   intro v;have:=VK (us:=us) (ws:=A.1.set (j+vs.length) v) (j:=j) (k:=P*(v-d-A.2)-(g-1)*Ac vs) (by simpa using hlen) (by omega) (fun t ht=>by rw[Co (by omega),a5 t (by omega),Co (by omega)];exact m6 t (by omega)) (by rw[aset];grind);omega
  have hge0:0<=Ac (us.drop j)-(g-1)*Ac vs:=by
   have:(g-1)*Ac vs=g*Ac vs-Ac vs:=by grind
   omega
  have hltV:Ac (us.drop j)-(g-1)*Ac vs<Ac vs:=by
   have h3:(g-1)*Ac vs=g*Ac vs-Ac vs:=by grind
   have h4:=Ag (show d <= -1 by omega) (show 0<=P by omega);omega
  have hz3:A.2 = -d:=by
   have q0:=hwA 0;have q1:=AT (EQ (Cq a2 (i:=j+vs.length) (v:=0) (by omega)) j);have zz2:Ac ((A.1.set (j+vs.length) 0).drop (j+vs.length+1))=0:=by
    have:(A.1.set (j+vs.length) 0).drop (j+vs.length+1)=ms.drop (j+vs.length+1):=by
     apply FX;intro t;rw[Bn,Bn];have h5:=a5 (j+vs.length+1+t) (by omega);rw[Co (by omega)] at h5;have h6:(A.1.set (j+vs.length) 0).getD (j+vs.length+1+t) 0=ms.getD (j+vs.length+1+t) 0:=by rw[Co (by omega)];exact h5
     rw[Z,Z] at h6;rcases Ck (j+vs.length+1+t) us.length with k | k
     ·rw[Af (by simp;omega),Af (by omega)] at h6 |-;simpa using h6
     ·rw[AB (by simp;omega),AB (by omega)]
    rw[this];exact zz
   have q2:=cN (us:=A.1.set (j+vs.length) 0) (j:=j) (n:=vs.length) (by simp;omega) zz2;have q3:(A.1.set (j+vs.length) 0).getD (j+vs.length) 0=0:=by simp[Z,show j+vs.length<A.1.length by omega]
   have q4:=FS (EQ (Cq a2 (i:=j+vs.length) (v:=0) (by omega)) j) vs.length;rw[hP] at q2 q4;rw[q3,AC,B2] at q2;rw[q0] at q1 q2;rw[<- q2] at q4;generalize Ac (us.drop j)-(g-1)*Ac vs=X at *
   have e5:P*(0-d-A.2)=P*(-d-A.2):=by rw[Int.zero_sub]
   rw[e5] at q1 q4;have c1 : -d-A.2<1:=by
    apply H'.1;intro hc;have:=Ag hc (show 0<=P by omega);omega
   have c2 : -1 < -d-A.2:=by
    apply H'.1;intro hc;have:=Ag hc (show 0<=P by omega);omega
   omega
  have hv0:(d % 4294967296+A.2) % 4294967296=0:=by omega
  rw[hv0];refine⟨by simpa using hlen,Cq a2 (by omega),?_,?_⟩
  ·rw[aset,show (0:Int)-d-A.2=0 by omega,AC,AC,B2]
  ·rw[hwA,show (0:Int)-d-A.2=0 by omega,AC,B2];exact hltV
end Go.Ai
namespace Go.Proofs.YtajompaehjkgkaaGreat
open Go.Ai
set_option maxRecDepth 100000
open BitVec renaming ofInt->T,ofInt_natCast->JV,or_comm->TL,toNat_ofNat->IF,toNat_or->iJ
open Bool renaming false_and->Kt,false_eq_true->Ca
open Decidable renaming decide->B
open Go.Ai.AV renaming agg->A6r,bool->A6m,fresh->A6p,int->A6l,sl->A6n,tup->A6t
open Go.Ai.Reg renaming own->A6q,val->A6o
open Go.IntKind renaming bits->Al,i64->R,u32->A5,u64->U,wrap->D
open Int renaming add_mul_ediv_right->A5a,add_zero->B2,ediv_eq_zero_of_lt->GC,emod_nonneg->Fy,fdiv->d,fdiv_eq_ediv_of_nonneg->t,mul_comm->A8,mul_emod_mul_of_pos->A4y,mul_le_mul->DR,mul_lt_mul_of_pos_right->B0,mul_nonneg->A3,mul_zero->AC,natCast_ediv->Apv,natCast_mul->CZ,natCast_pow->CT,pow_add->BC,pow_nonneg->No,tdiv->As,tmod->AA,toNat->A,toNat_natCast->F,zero_add->DA
open List renaming all_eq_true->BQ,drop->g,length->Bk,length_pos_iff->Aj,range->Ao,take->B1
open Nat renaming add_mul->DN,log2->Cb,log2_eq_iff->Qr,log2_lt->Pa,lt_or_ge->Ck,mod_eq_of_lt->Fk,mul_comm->CM,mul_le_mul_right->AD,one_mul->EV,pow_add->C8,pow_le_pow_right->B4,two_pow_add_eq_or_of_lt->Awc,two_pow_pos->Avy
theorem QR{n:Int}(h:0<=n/\n<4294967296):D A5 n=n:=by rw [DL];omega
theorem C2{n:Int}(h:0<=n/\n<18446744073709551616):D U n=n:=by rw [B3];omega
theorem p32:(2:Int)^(min (A 32) (Al .u64))=4294967296:=by decide
theorem p63:(2:Int)^(min (A 63) (Al .u64))=9223372036854775808:=by decide
theorem XT(s:Int):d s (2^(min (A 32) (Al .u64)))=s / 4294967296:=by
 rw[p32,t _ (by decide)]
theorem Apr(s:Int):d s (2^(min (A 63) (Al .u64)))=s / 9223372036854775808:=by
 rw[p63,t _ (by decide)]
theorem MA{r x:Int}(hr:0<=r/\r<4294967296)(hx:0<=x/\x<4294967296) :
  D U ((T (Al .u64) (D U (r*2^(min (A 32) (Al .u64)))) ||| T (Al .u64) (D U x)).toNat)=r*4294967296+x:=by
 rw[p32,C2 (n:=r*4294967296) (by omega),C2 (n:=x) (by omega)];have:=Aos (q:=r) (c:=x) (s:=32) hr.1 (by rw[show (2:Int)^32=4294967296 by decide];omega) (by omega) (by rw[show (2:Int)^32=4294967296 by decide];exact hx);rw[show (2:Int)^32=4294967296 by decide] at this;exact this
theorem Aps{q c:Int}{s:Nat}(hq:0<=q)(hs:q*2^s<4294967296)(hs':s<=32)(hc:0<=c/\c<2^s) :
  D A5 ((T (Al .u32) c ||| T (Al .u32) (q*2^s)).toNat)=q*2^s+c:=by
 obtain⟨a,rfl⟩:∃ a:Nat,q=a:=⟨q.toNat,by omega⟩;obtain⟨b,rfl⟩:∃ b:Nat,c=b:=⟨c.toNat,by omega⟩;have e1:(a:Int)*2^s=((a*2^s:Nat):Int):=by rw[CZ,CT];rfl
 have hb:b<2^s:=by
  have:(b:Int)<((2^s:Nat):Int):=by rw[CT];exact hc.2
  omega
 have h64:2^s<=2^32:=B4 (by decide) hs';have e64:2^32=4294967296:=by decide
 rw[e1] at hs |-;show D A5 ((T 32 (b:Int) ||| T 32 ((a*2^s:Nat):Int)).toNat:Int)=_;rw[TL,iJ,JV,JV,IF,IF,Fk (by omega),Fk (by omega),CM a,<- Awc hb,CM (2^s) a,DL];have hsum:a*2^s+b<4294967296:=by
  have hd:a*2^s+2^s<=2^32:=by
   have hk:2^32=2^(32-s)*2^s:=by rw[<- C8];congr 1;omega
   have h1:a<2^(32-s):=by
    rcases Ck a (2^(32-s)) with g | g
    ·exact g
    ·have:=AD (2^s) g;omega
   have h2:=AD (2^s) (show a+1<=2^(32-s) by omega);rw[DN,EV] at h2;omega
  omega
 omega
theorem QS{s:Nat}(hs:s<=32):(4294967296:Int)=2^(32-s)*2^s:=by rw [<- BC,show 32-s+s=32 by omega];decide
theorem VL{x:Int}{s:Nat}(hx:0<=x/\x<4294967296)(hs:s<32) :
  0<=x*2^s/\x*2^s<18446744073709551616/\x*2^s / 4294967296<2^s/\∃ q:Int,0<=q/\x*2^s % 4294967296=q*2^s:=by
 have hp:=BG s;have hp2:(2:Int)^s<=2147483648:=by
  have:=Gv (show s<=31 by omega);rwa [show (2:Int)^31=2147483648 by decide] at this
 have h0:=A3 hx.1 (show (0:Int)<=2^s by omega);have h1:=DR (show x<=4294967295 by omega) hp2 (by omega) (by omega);have h2:=B0 hx.2 hp;refine⟨h0,by omega,by omega,?_⟩;have e:(4294967296:Int)=2^(32-s)*2^s:=by
  rw[<- BC,show 32-s+s=32 by omega];decide
 refine⟨x % 2^(32-s),Fy _ (by have:=BG (32-s);omega),?_⟩;rw[e,A8 x,A8 (2^(32-s)),A4y _ _ hp,A8]
def Zi(n:Nat):Nat:=if n=0 then 0 else Cb n+1
def HR(i:Int):Int:=(Zi i.toNat:Nat)
theorem xU:∀ n:Nat,n<256->(Ey[n]?).map (fun c=>(c.toNat:Int))=some ((Zi n:Nat):Int):=by
 have h:(Ao 256).all (fun n=>decide ((Ey[n]?).map (fun c=>(c.toNat:Int))=some ((Zi n:Nat):Int)))=true:=by decide +kernel
 intro n hn;have:=BQ.1 h n (by simpa using hn);simpa using this
theorem QT(x:Int):((if 0<=(IntKind.u8.wrap x) then (Ey)[(A (IntKind.u8.wrap x))]? else none).map fun c=>(c.toNat:Int))=some (HR (IntKind.u8.wrap x)):=by
 have hw:0<=IntKind.u8.wrap x/\IntKind.u8.wrap x<256:=by
  simp only[D,Al,IntKind.signed,Kt,Ca,if_false];omega
 rw[if_pos hw.1];exact xU _ (by omega)
def TY(x:Int):Int :=
 match decide (x>=65536) with
 | true=>(match decide ((d x (2^(min (A 16) (Al .u32))))>=256) with
 | true=>(D R (24+(D R (HR (IntKind.u8.wrap (d (d x (2^(min (A 16) (Al .u32)))) (2^(min (A 8) (Al .u32)))))))))
 | false=>(D R (16+(D R (HR (IntKind.u8.wrap (d x (2^(min (A 16) (Al .u32))))))))))
 | false=>(match decide (x>=256) with
 | true=>(D R (8+(D R (HR (IntKind.u8.wrap (d x (2^(min (A 8) (Al .u32)))))))))
 | false=>(D R (0+(D R (HR (IntKind.u8.wrap x))))))
theorem Apt(x:Int)  : H I 150 [A6l A5 x] (A6l R (TY x)):=by
 unfold TY;cases c1:(B (x>=65536))
 ·cases c2:(B (x>=256))
  ·exact Bt (r := A6l R (D R (0+(D R (HR (IntKind.u8.wrap x)))))) (ps:=[(B (x>=65536))=false,(B (x>=256))=false,((if 0<=(IntKind.u8.wrap x) then (Ey)[(A (IntKind.u8.wrap x))]? else none).map fun c=>(c.toNat:Int))=some (HR (IntKind.u8.wrap x))]) AQ rfl 300 rfl [.b false,.b false,.v (A6l .u8 (HR (IntKind.u8.wrap x)))] (by kernel_rfl) ⟨c1,c2,(QT _),trivial⟩
  ·exact Bt (r := A6l R (D R (8+(D R (HR (IntKind.u8.wrap (d x (2^(min (A 8) (Al .u32)))))))))) (ps:=[(B (x>=65536))=false,(B (x>=256))=true,¬ (8:Int)<0,((if 0<=(IntKind.u8.wrap (d x (2^(min (A 8) (Al .u32))))) then (Ey)[(A (IntKind.u8.wrap (d x (2^(min (A 8) (Al .u32))))))]? else none).map fun c=>(c.toNat:Int))=some (HR (IntKind.u8.wrap (d x (2^(min (A 8) (Al .u32))))))]) AQ rfl 300 rfl [.b false,.b true,.v (A6l .u8 (HR (IntKind.u8.wrap (d x (2^(min (A 8) (Al .u32)))))))] (by kernel_rfl) ⟨c1,c2,(by decide),(QT _),trivial⟩
 ·cases c2:(B ((d x (2^(min (A 16) (Al .u32))))>=256))
  ·exact Bt (r := A6l R (D R (16+(D R (HR (IntKind.u8.wrap (d x (2^(min (A 16) (Al .u32)))))))))) (ps:=[(B (x>=65536))=true,¬ (16:Int)<0,(B ((d x (2^(min (A 16) (Al .u32))))>=256))=false,((if 0<=(IntKind.u8.wrap (d x (2^(min (A 16) (Al .u32))))) then (Ey)[(A (IntKind.u8.wrap (d x (2^(min (A 16) (Al .u32))))))]? else none).map fun c=>(c.toNat:Int))=some (HR (IntKind.u8.wrap (d x (2^(min (A 16) (Al .u32))))))]) AQ rfl 300 rfl [.b true,.b false,.v (A6l .u8 (HR (IntKind.u8.wrap (d x (2^(min (A 16) (Al .u32)))))))] (by kernel_rfl) ⟨c1,(by decide),c2,(QT _),trivial⟩
  ·exact Bt (r := A6l R (D R (24+(D R (HR (IntKind.u8.wrap (d (d x (2^(min (A 16) (Al .u32)))) (2^(min (A 8) (Al .u32)))))))))) (ps:=[(B (x>=65536))=true,¬ (16:Int)<0,(B ((d x (2^(min (A 16) (Al .u32))))>=256))=true,¬ (8:Int)<0,((if 0<=(IntKind.u8.wrap (d (d x (2^(min (A 16) (Al .u32)))) (2^(min (A 8) (Al .u32))))) then (Ey)[(A (IntKind.u8.wrap (d (d x (2^(min (A 16) (Al .u32)))) (2^(min (A 8) (Al .u32))))))]? else none).map fun c=>(c.toNat:Int))=some (HR (IntKind.u8.wrap (d (d x (2^(min (A 16) (Al .u32)))) (2^(min (A 8) (Al .u32))))))]) AQ rfl 300 rfl [.b true,.b true,.v (A6l .u8 (HR (IntKind.u8.wrap (d (d x (2^(min (A 16) (Al .u32)))) (2^(min (A 8) (Al .u32)))))))] (by kernel_rfl) ⟨c1,(by decide),c2,(by decide),(QT _),trivial⟩
theorem Apu(x l:Int)(n1:H I 150 [A6l A5 x] (A6l R l)):H I 188 [A6l A5 x] (A6l R (D R (32-l))):=i (fn:=Vw) AQ rfl 400 rfl [.r (A6l R l)] (P n1 a0)
theorem A5g(n na:Bool)(xs as1:List Int)(v:Int)(n1:Bk (lm as1)=as1.length*1)
  (n2:as1.length<=35184372088832)
  (n3:H I 143 [A6r [A6m n,sL lm xs]] (A6t [A6m na,sL lm as1]))
  (n4:H I 152 [A6m false,sL lm as1] (o v)):H I 160 [A6r [A6m n,sL lm xs]] (o v) :=
 i (fn:=Vj) AQ rfl 400 rfl [.r (A6t [A6m na,sL lm as1]),.r (o v)] (P n3 (P n1 (P n2 (P n4 a0)))) (by kernel_rfl)
theorem A5h(n na:Bool)(xs as1:List Int)(n1:H I 143 [A6r [A6m n,sL lm xs]] (A6t [A6m na,sL lm as1])):H I 177 [A6r [A6m n,sL lm xs]] (A6l R (as1.length:Int)) :=
 i (fn:=Vn) AQ rfl 400 rfl [.r (A6t [A6m na,sL lm as1])] (P n1 a0) (by kernel_rfl)
theorem kP(n na:Bool)(xs as1:List Int)(c1:((as1.length:Int)==0)=true)(n1:H I 143 [A6r [A6m n,sL lm xs]] (A6t [A6m na,sL lm as1])):H I 102 [A6r [A6m n,sL lm xs]] (A6l R 0):=i (fn:=RA) AQ rfl 400 rfl [.r (A6t [A6m na,sL lm as1]),.b true] (P n1 (P c1 a0))
theorem kQ(n na:Bool)(xs as1:List Int)(l:Int)(c1:((as1.length:Int)==0)=false)(n1:0<=(D R ((as1.length:Int)-1))/\(D R ((as1.length:Int)-1))<(as1.length:Int))(n2:H I 143 [A6r [A6m n,sL lm xs]] (A6t [A6m na,sL lm as1]))(n3:H I 150 [A6l A5 (as1.getD (A (D R ((as1.length:Int)-1))) 0)] (A6l R l)):H I 102 [A6r [A6m n,sL lm xs]] (A6l R (D R ((D R (32*(D R ((as1.length:Int)-1))))+l))):=i (fn:=RA) AQ rfl 400 rfl [.r (A6t [A6m na,sL lm as1]),.b false,.v (A6l A5 (as1.getD (A (D R ((as1.length:Int)-1))) 0)),.r (A6l R l)] (P n2 (P c1 (P n1 (P (AM n1) (P n3 a0)))))
theorem GK(n k:Nat)(h:n / 2^k ≠ 0):Cb n=Cb (n / 2^k)+k:=by
 have hn:n ≠ 0:=by intro e;subst e;simp at h
 have:=(Qr h).1 rfl;rw[Qr hn];generalize Cb (n / 2^k)=j at *
 have hp:0<2^k:=Avy k;constructor
 ·rw[C8];exact (Nat.le_div_iff_mul_le hp).1 this.1
 ·have:n<2^(j+1)*2^k:=(Nat.div_lt_iff_lt_mul hp).1 this.2;rw[<- C8] at this;have e:j+k+1=j+1+k:=by omega
  rw[e];exact this
theorem xV(v:Nat)(h:v<256)(h0:v ≠ 0):HR (IntKind.u8.wrap (v:Int))=((Cb v+1:Nat):Int):=by
 have hw:IntKind.u8.wrap (v:Int)=v:=by
  simp only[D,Al,IntKind.signed,Kt,Ca,if_false];omega
 rw[hw];unfold HR Zi;rw[F,if_neg h0]
theorem kR(n:Nat)(k:Nat)(hk:k<=32):d (n:Int) (2^(min (A (k:Int)) (Al .u32)))=((n / 2^k:Nat):Int):=by
 have e:min (A (k:Int)) (Al .u32)=k:=by
  show min (A (k:Int)) 32=k;rw[F];omega
 rw[e,t _ (No (by omega))];have:(2:Int)^k=((2^k:Nat):Int):=by simp
 rw[this,<- Apv]
theorem xW(n:Nat)(h:n<4294967296)(h0:n ≠ 0):TY (n:Int)=((Cb n+1:Nat):Int):=by
 have s16 (n:Nat):d (n:Int) (2^(min (A 16) (Al .u32)))=((n / 2^16:Nat):Int):=kR n 16 (by omega);have s8 (n:Nat):d (n:Int) (2^(min (A 8) (Al .u32)))=((n / 2^8:Nat):Int):=kR n 8 (by omega);have fin (v c:Nat) (hv:v<256) (hv0:v ≠ 0) (hc:c<=56):D R ((c:Int)+D R (HR (IntKind.u8.wrap (v:Int))))=((Cb v+1+c:Nat):Int):=by
  have:Cb v<8:=(Pa hv0).2 hv;rw[xV v hv hv0,Bg (n:=((Cb v+1:Nat):Int)) (by omega) (by omega),Bg (by omega) (by omega)];omega
 unfold TY;simp only[s16,s8];by_cases b:n<65536
 ·have b':decide ((n:Int)>=65536)=false:=by simp;omega
  rw[b'];by_cases c:n<256
  ·have c':decide ((n:Int)>=256)=false:=by simp;omega
   rw[c'];exact fin n 0 c h0 (by omega)
  ·have c':decide ((n:Int)>=256)=true:=by simp;omega
   rw[c',GK n 8 (by omega)];have:=fin (n / 2^8) 8 (by omega) (by omega) (by omega);exact this.trans (by omega)
 ·have b':decide ((n:Int)>=65536)=true:=by simp;omega
  rw[b'];dsimp only;by_cases c:n / 2^16<256
  ·have c':decide (((n / 2^16:Nat):Int)>=256)=false:=by simp;omega
   rw[c',GK n 16 (by omega)];have:=fin (n / 2^16) 16 (by omega) (by omega) (by omega);exact this.trans (by omega)
  ·have c':decide (((n / 2^16:Nat):Int)>=256)=true:=by simp;omega
   rw[c',GK n 16 (by omega),GK (n / 2^16) 8 (by omega)];have:=fin (n / 2^16 / 2^8) 24 (by omega) (by omega) (by omega);exact this.trans (by omega)
theorem VM{n:Nat}(h:n<4294967296)(h0:n ≠ 0):H I 150 [A6l A5 (n:Nat)] (A6l R ((Cb n+1:Nat):Int)):=by
 have:=Apt (n:Nat);rwa [xW n h h0] at this
theorem sE{x:Int}(hx:0<x/\x<4294967296):∃ s:Nat,s<32/\2147483648<=x*2^s/\x*2^s<4294967296/\H I 188 [A6l A5 x] (A6l R (s:Nat)):=by
 obtain⟨n,rfl⟩:∃ n:Nat,x=n:=⟨x.toNat,by omega⟩;have hn0:n ≠ 0:=by omega
 have hl:=(Qr hn0).1 rfl;have hlt:Cb n<32:=(Pa hn0).2 (by omega);refine⟨31-Cb n,by omega,?_,?_,?_⟩
 ·have:2^31<=n*2^(31-Cb n):=by
   have h:=AD (2^(31-Cb n)) hl.1;rwa [<- C8,show Cb n+(31-Cb n)=31 by omega] at h
  have e:(n:Int)*2^(31-Cb n)=((n*2^(31-Cb n):Nat):Int):=by rw[CZ,CT];rfl
  rw[e];omega
 ·have:n*2^(31-Cb n)<2^32:=by
   have h:=Nat.mul_lt_mul_of_pos_right hl.2 (Avy (31-Cb n));rwa [<- C8,show Cb n+1+(31-Cb n)=32 by omega] at h
  have e:(n:Int)*2^(31-Cb n)=((n*2^(31-Cb n):Nat):Int):=by rw[CZ,CT];rfl
  rw[e];omega
 ·have h:=Apu (n:Nat) _ (VM (by omega) hn0);rw[Bg (by omega) (by omega)] at h;rwa [show (32:Int)-((Cb n+1:Nat):Int)=((31-Cb n:Nat):Int) by omega] at h
theorem VN{neg:Bool}{xs:List Int}(hu:AL xs)(hN:xs.length<=1048576):H I 177 [A6r [A6m neg,sL lm xs]] (A6l R (((G (rv neg xs).natAbs).length:Nat):Int)) :=
 A5h neg _ xs _ (Dh hu hN)
theorem Sf{neg:Bool}{xs:List Int}(hu:AL xs)(hN:xs.length<=1048576):H I 160 [A6r [A6m neg,sL lm xs]] (o ((rv neg xs).natAbs:Nat)):=by
 have l1:=E6 (neg:=neg) hu;have h:=E8 (neg:=false) (BK (rv neg xs).natAbs) (by omega);rw[Azo] at h;exact A5g neg _ xs _ _ (TW _) (by omega) (Dh hu hN) h
def D4(n:Nat):Nat:=if n=0 then 0 else Cb n+1
theorem XU{n:Nat}(h:n ≠ 0):1<=(G n).length/\∃ x:Nat,(G n).getD ((G n).length-1) 0=x/\x ≠ 0/\x<4294967296/\n / 2^(32*((G n).length-1))=x:=by
 have hc:=Cc n;have hn0:G n ≠ []:=by rw[Ne,I4];exact h
 have hl:=Aj.2 hn0;have ht:=AE hc.1 ((G n).length-1);have hz:(G n).getD ((G n).length-1) 0 ≠ 0:=by
  rcases hc.2 with g | g
  ·exact absurd g hn0
  ·exact g
 have hs:=Di (G n) (j:=(G n).length-1) (by omega);have hd:=Cy (G n) ((G n).length-1);rw[DF (xs:=G n) (i:=(G n).length-1+1) (by omega),AC,B2] at hd;have h1:=FS hc.1 ((G n).length-1);have h0:=AT (DH hc.1 ((G n).length-1));rw[hd,Cn] at hs;generalize (G n).length-1=j at *
 generalize (G n).getD j 0=x at *
 obtain⟨x,rfl⟩:∃ y:Nat,x=y:=⟨x.toNat,by omega⟩;refine⟨hl,x,rfl,by omega,by omega,?_⟩;generalize Ac (B1 j (G n))=L at *
 have e:((n / 2^(32*j):Nat):Int)=(x:Int):=by
  rw[Apv,CT,show ((2:Nat):Int)^(32*j)=4294967296^j by rw[M7];rfl,hs];have hp:=Cr j;rw[A8 (4294967296^j),A5a _ _ (by omega),GC h0 h1,DA]
 omega
theorem MB{neg:Bool}{xs:List Int}(hu:AL xs)(hN:xs.length<=1048576):H I 102 [A6r [A6m neg,sL lm xs]] (A6l R ((D4 (rv neg xs).natAbs:Nat):Int)):=by
 have l1:=E6 (neg:=neg) hu;have r1:=Dh (neg:=neg) hu hN;generalize rv neg xs=a at *
 by_cases h0:a.natAbs=0
 ·have h:=kP neg _ xs _ (by rw[h0];rfl) r1;rw[show D4 a.natAbs=0 by unfold D4;rw[if_pos h0]];exact h
 ·obtain⟨t1,x,t2,t3,t4,t5⟩:=XU h0;have e1:D R ((((G a.natAbs).length:Nat):Int)-1)=(((G a.natAbs).length-1:Nat):Int):=by rw[Bg (by omega) (by omega)];omega
  have hl:=VM t4 t3;have h:=kQ neg _ xs (G a.natAbs) _ (by rw[beq_eq_false_iff_ne];omega) (by rw[e1];omega) r1 (by rw[e1,F,t2];exact hl);have hlog:Cb x<32:=(Pa t3).2 t4;rw[e1,Bg (n:=32*(((G a.natAbs).length-1:Nat):Int)) (by omega) (by omega),Bg (by omega) (by omega)] at h;have e2:D4 a.natAbs=Cb x+1+32*((G a.natAbs).length-1):=by
   unfold D4;rw[if_neg h0,GK a.natAbs (32*((G a.natAbs).length-1)) (by rw[t5];exact t3),t5];omega
  rw[e2];rwa [show 32*(((G a.natAbs).length-1:Nat):Int)+((Cb x+1:Nat):Int)=((Cb x+1+32*((G a.natAbs).length-1):Nat):Int) by omega] at h
def PV(xs:List Int)(d:Int)(k:Nat)(qs:List Int)(r:Int)(i:Int):Ak:=(A6o (sL lm xs)::(A6o (A6l A5 d)::(Q 4 (A6q 1 k (lm qs)::(A6o (A6l U r)::(A6o (A6l R i)::(Q 34 [])))))))
theorem Apw(xs:List Int)(d:Int)(k:Nat)(qs:List Int)(r:Int)(i:Int)(c1:B (i>=0)=true)(n1:0<=i/\i<(xs.length:Int))(n2:¬ (D U d)=0)(n3:0<=i/\i<(k:Int))(n4:qs.length=k):W I Vu (PV xs d k qs r i) .norm (PV xs d k (qs.set (A i) (D A5 (D U (As (D U ((T (Al .u64) (D U (r*2^(min (A 32) (Al .u64)))) ||| T (Al .u64) (D U (xs.getD (A i) 0))).toNat)) (D U d))))) (AA (D U ((T (Al .u64) (D U (r*2^(min (A 32) (Al .u64)))) ||| T (Al .u64) (D U (xs.getD (A i) 0))).toNat)) (D U d)) (D R (i-1))):=(C m 400 [.b true,.v (A6l A5 (xs.getD (A i) 0)),.l (lm (qs.set (A i) (D A5 (D U (As (D U ((T (Al .u64) (D U (r*2^(min (A 32) (Al .u64)))) ||| T (Al .u64) (D U (xs.getD (A i) 0))).toNat)) (D U d))))))] [0,1,6,7,8] (P c1 (P HX (P n1 (P (AM n1) (P n2 (P n2 (P n3 (P (show Cu (lm qs) (A i*1) [A6l A5 (D A5 (D U (As (D U ((T (Al .u64) (D U (r*2^(min (A 32) (Al .u64)))) ||| T (Al .u64) (D U (xs.getD (A i) 0))).toNat)) (D U d))))]=some (lm (qs.set (A i) (D A5 (D U (As (D U ((T (Al .u64) (D U (r*2^(min (A 32) (Al .u64)))) ||| T (Al .u64) (D U (xs.getD (A i) 0))).toNat)) (D U d)))))) from (CQ n4 n3)) a0)))))))))
theorem Apx(xs:List Int)(d:Int)(k:Nat)(qs:List Int)(r:Int)(i:Int)(c1:B (i>=0)=false):W I Vu (PV xs d k qs r i) (.exit 0) (PV xs d k qs r i):=(C m 400 [.b false] [0,1,6,7,8] (P c1 a0))
theorem Apy(xs qs:List Int)(d r i:Int)(k:Nat)(n1:0<=(xs.length:Int)/\(xs.length:Int)<=1048576)(hl2:W I (.loop Vu) ((A6o (sL lm xs)::(A6o (A6l A5 d)::(Q 4 (A6q 1 (A (xs.length:Int)) (Cp [A6l A5 0] (A (xs.length:Int)))::(A6o (A6l U 0)::(A6o (A6l R (D R ((xs.length:Int)-1)))::(Q 34 [])))))))) (.exit 0) (PV xs d k qs r i)):H I 187 [sL lm xs,A6l A5 d] (A6t [A6n k (lm qs),A6l A5 (D A5 r)]):=X (fn:=Vv) (s:=(Q 1 (A6o (A6l A5 d)::(Q 2 (A6q 1 k (lm qs)::(A6o (A6l A5 (D A5 r))::(Q 37 []))))))) (ex := .ret) rfl rfl (L (L (q (W.seq (C m 400 [] [0,1,6,7,8] (P n1 a0)) (W.seq (W.block hl2) (C m 400 [] [1,4,5] a0)))))) (by nofun) rfl
def PW(xs:List Int)(s:Int)(k:Nat)(os:List Int)(n:Int)(i:Int):Ak:=(Q 1 (A6o (A6l R s)::(Q 3 (A6q 1 k (lm os)::(Q 7 (A6o (sL lm xs)::(A6o (A6l R n)::(A6o (A6l R i)::(Q 26 [])))))))))
theorem Apz(xs:List Int)(s:Int)(k:Nat)(os:List Int)(n:Int)(i:Int)(c1:B (i<n)=true)(n1:0<=i/\i<(xs.length:Int))(n2:¬ (D U s)<0)(n3:0<=i/\i<(k:Int))(n4:os.length=k)(n5:0<=(D R (i+1))/\(D R (i+1))<(k:Int))(n6:(os.set (A i) (D A5 ((T (Al .u32) (os.getD (A i) 0) ||| T (Al .u32) (D A5 (D U ((D U (xs.getD (A i) 0))*2^(min (A (D U s)) (Al .u64)))))).toNat))).length=k):W I Vx (PW xs s k os n i) .norm (PW xs s k ((os.set (A i) (D A5 ((T (Al .u32) (os.getD (A i) 0) ||| T (Al .u32) (D A5 (D U ((D U (xs.getD (A i) 0))*2^(min (A (D U s)) (Al .u64)))))).toNat))).set (A (D R (i+1))) (D A5 (d (D U ((D U (xs.getD (A i) 0))*2^(min (A (D U s)) (Al .u64)))) (2^(min (A 32) (Al .u64)))))) n (D R (i+1))):=(C m 400 [.b true,.v (A6l A5 (xs.getD (A i) 0)),.v (A6l A5 (os.getD (A i) 0)),.l (lm (os.set (A i) (D A5 ((T (Al .u32) (os.getD (A i) 0) ||| T (Al .u32) (D A5 (D U ((D U (xs.getD (A i) 0))*2^(min (A (D U s)) (Al .u64)))))).toNat)))),.l (lm ((os.set (A i) (D A5 ((T (Al .u32) (os.getD (A i) 0) ||| T (Al .u32) (D A5 (D U ((D U (xs.getD (A i) 0))*2^(min (A (D U s)) (Al .u64)))))).toNat))).set (A (D R (i+1))) (D A5 (d (D U ((D U (xs.getD (A i) 0))*2^(min (A (D U s)) (Al .u64)))) (2^(min (A 32) (Al .u64)))))))] [1,5,13,14,15] (P c1 (P n1 (P (AM n1) (P n2 (P n3 (P (Ce n4 n3) (P n3 (P (show Cu (lm os) (A i*1) [A6l A5 (D A5 ((T (Al .u32) (os.getD (A i) 0) ||| T (Al .u32) (D A5 (D U ((D U (xs.getD (A i) 0))*2^(min (A (D U s)) (Al .u64)))))).toNat))]=some (lm (os.set (A i) (D A5 ((T (Al .u32) (os.getD (A i) 0) ||| T (Al .u32) (D A5 (D U ((D U (xs.getD (A i) 0))*2^(min (A (D U s)) (Al .u64)))))).toNat)))) from (CQ n4 n3)) (P HX (P n5 (P (show Cu (lm (os.set (A i) (D A5 ((T (Al .u32) (os.getD (A i) 0) ||| T (Al .u32) (D A5 (D U ((D U (xs.getD (A i) 0))*2^(min (A (D U s)) (Al .u64)))))).toNat)))) (A (D R (i+1))*1) [A6l A5 (D A5 (d (D U ((D U (xs.getD (A i) 0))*2^(min (A (D U s)) (Al .u64)))) (2^(min (A 32) (Al .u64)))))]=some (lm ((os.set (A i) (D A5 ((T (Al .u32) (os.getD (A i) 0) ||| T (Al .u32) (D A5 (D U ((D U (xs.getD (A i) 0))*2^(min (A (D U s)) (Al .u64)))))).toNat))).set (A (D R (i+1))) (D A5 (d (D U ((D U (xs.getD (A i) 0))*2^(min (A (D U s)) (Al .u64)))) (2^(min (A 32) (Al .u64))))))) from (CQ n6 n5)) a0))))))))))))
theorem Aqa(xs:List Int)(s:Int)(k:Nat)(os:List Int)(n:Int)(i:Int)(c1:B (i<n)=false):W I Vx (PW xs s k os n i) (.exit 0) (PW xs s k os n i):=(C m 400 [.b false] [1,5,13,14,15] (P c1 a0))
theorem Aqb(xs os:List Int)(s n i:Int)(k:Nat)(n1:0<=(D R ((xs.length:Int)+1))/\(D R ((xs.length:Int)+1))<=1048576)(hl2:W I (.loop Vx) ((Q 1 (A6o (A6l R s)::(Q 3 (A6q 1 (A (D R ((xs.length:Int)+1))) (Cp [A6l A5 0] (A (D R ((xs.length:Int)+1))))::(Q 7 (A6o (sL lm xs)::(A6o (A6l R (xs.length:Int))::(A6o (A6l R 0)::(Q 26 [])))))))))) (.exit 0) (PW xs s k os n i)):H I 189 [sL lm xs,A6l R s] (A6p 1 k (lm os)):=X (fn:=Vy) (s:=(Q 1 (A6o (A6l R s)::(Q 2 (A6q 1 k (lm os)::(Q 37 [])))))) (ex := .ret) rfl rfl (L (q (W.seq (C m 400 [] [1,5,13,14,15] (P n1 a0)) (W.seq (W.block hl2) (C m 400 [] [1,4] a0))))) (by nofun) rfl
def Ej(k:Nat)(us:List Int)(vs:List Int)(n:Int)(t:Int)(t2:Int)(kq:Nat)(qs:List Int)(s:Int)(j:Int)(g:Int)(r:Int):Ak:=(Q 4 (A6q 1 kq (lm qs)::(Q 3 (A6o (A6l R s)::(A6q 1 k (lm us)::(A6o (sL lm vs)::(A6o (A6l R n)::(Q 1 (A6o (A6l U t)::(A6o (A6l U t2)::(A6o (A6l R j)::(Q 1 (A6o (A6l U g)::(A6o (A6l U r)::(Q 263 [])))))))))))))))
theorem xX(k:Nat)(us:List Int)(vs:List Int)(n:Int)(t:Int)(t2:Int)(kq:Nat)(qs:List Int)(s:Int)(j:Int)(g:Int)(r:Int)(c1:B (g>=4294967296)=true)(c2:B ((D U (r+t))>=4294967296)=true):W I HD (Ej k us vs n t t2 kq qs s j g r) (.exit 2) (Ej k us vs n t t2 kq qs s j (D U (g-1)) (D U (r+t))):=(C m 400 [.b true,.b true,.b true] [4,8,9,10,11,13,14,15,17,18] (P c1 (P HY (P c2 a0))))
theorem xY(k:Nat)(us:List Int)(vs:List Int)(n:Int)(t:Int)(t2:Int)(kq:Nat)(qs:List Int)(s:Int)(j:Int)(g:Int)(r:Int)(c1:B (g>=4294967296)=true)(c2:B ((D U (r+t))>=4294967296)=false):W I HD (Ej k us vs n t t2 kq qs s j g r) .norm (Ej k us vs n t t2 kq qs s j (D U (g-1)) (D U (r+t))):=(C m 400 [.b true,.b true,.b false] [4,8,9,10,11,13,14,15,17,18] (P c1 (P HY (P c2 a0))))
theorem xZ(k:Nat)(us:List Int)(vs:List Int)(n:Int)(t:Int)(t2:Int)(kq:Nat)(qs:List Int)(s:Int)(j:Int)(g:Int)(r:Int)(c1:B (g>=4294967296)=false)(c2:(B ((D U (g*t2))>(D U ((T (Al .u64) (D U (r*2^(min (A 32) (Al .u64)))) ||| T (Al .u64) (D U (us.getD (A (D R ((D R (j+n))-2))) 0))).toNat))))=true)(c3:B ((D U (r+t))>=4294967296)=true)(n1:0<=(D R ((D R (j+n))-2))/\(D R ((D R (j+n))-2))<(k:Int))(n2:us.length=k):W I HD (Ej k us vs n t t2 kq qs s j g r) (.exit 2) (Ej k us vs n t t2 kq qs s j (D U (g-1)) (D U (r+t))):=(C m 400 [.b false,.v (A6l A5 (us.getD (A (D R ((D R (j+n))-2))) 0)),.b true,.b true] [4,8,9,10,11,13,14,15,17,18] (P c1 (P HX (P n1 (P (Ce n2 n1) (P c2 (P c3 a0)))))))
theorem yA(k:Nat)(us:List Int)(vs:List Int)(n:Int)(t:Int)(t2:Int)(kq:Nat)(qs:List Int)(s:Int)(j:Int)(g:Int)(r:Int)(c1:B (g>=4294967296)=false)(c2:(B ((D U (g*t2))>(D U ((T (Al .u64) (D U (r*2^(min (A 32) (Al .u64)))) ||| T (Al .u64) (D U (us.getD (A (D R ((D R (j+n))-2))) 0))).toNat))))=true)(c3:B ((D U (r+t))>=4294967296)=false)(n1:0<=(D R ((D R (j+n))-2))/\(D R ((D R (j+n))-2))<(k:Int))(n2:us.length=k):W I HD (Ej k us vs n t t2 kq qs s j g r) .norm (Ej k us vs n t t2 kq qs s j (D U (g-1)) (D U (r+t))):=(C m 400 [.b false,.v (A6l A5 (us.getD (A (D R ((D R (j+n))-2))) 0)),.b true,.b false] [4,8,9,10,11,13,14,15,17,18] (P c1 (P HX (P n1 (P (Ce n2 n1) (P c2 (P c3 a0)))))))
theorem XV(k:Nat)(us:List Int)(vs:List Int)(n:Int)(t:Int)(t2:Int)(kq:Nat)(qs:List Int)(s:Int)(j:Int)(g:Int)(r:Int)(c1:B (g>=4294967296)=false)(c2:(B ((D U (g*t2))>(D U ((T (Al .u64) (D U (r*2^(min (A 32) (Al .u64)))) ||| T (Al .u64) (D U (us.getD (A (D R ((D R (j+n))-2))) 0))).toNat))))=false)(n1:0<=(D R ((D R (j+n))-2))/\(D R ((D R (j+n))-2))<(k:Int))(n2:us.length=k):W I HD (Ej k us vs n t t2 kq qs s j g r) (.exit 2) (Ej k us vs n t t2 kq qs s j g r):=(C m 400 [.b false,.v (A6l A5 (us.getD (A (D R ((D R (j+n))-2))) 0)),.b false] [4,8,9,10,11,13,14,15,17,18] (P c1 (P HX (P n1 (P (Ce n2 n1) (P c2 a0))))))
def IM(k:Nat)(us:List Int)(vs:List Int)(n:Int)(t:Int)(t2:Int)(kq:Nat)(qs:List Int)(s:Int)(j:Int)(g:Int)(b:Int)(c:Int)(i:Int):Ak:=(Q 4 (A6q 1 kq (lm qs)::(Q 3 (A6o (A6l R s)::(A6q 1 k (lm us)::(A6o (sL lm vs)::(A6o (A6l R n)::(Q 1 (A6o (A6l U t)::(A6o (A6l U t2)::(A6o (A6l R j)::(Q 1 (A6o (A6l U g)::(Q 1 (A6o (A6l U b)::(A6o (A6l U c)::(A6o (A6l R i)::(Q 260 []))))))))))))))))))
theorem yB(k:Nat)(us:List Int)(vs:List Int)(n:Int)(t:Int)(t2:Int)(kq:Nat)(qs:List Int)(s:Int)(j:Int)(g:Int)(b:Int)(c:Int)(i:Int)(c1:B (i<n)=true)(n1:0<=i/\i<(vs.length:Int))(n2:0<=(D R (i+j))/\(D R (i+j))<(k:Int))(n3:us.length=k):W I O9 (IM k us vs n t t2 kq qs s j g b c i) .norm (IM k (us.set (A (D R (i+j))) (D A5 (D U ((D U ((D U (us.getD (A (D R (i+j))) 0))-(D U (D A5 (D U ((D U (g*(D U (vs.getD (A i) 0))))+c))))))-b)))) vs n t t2 kq qs s j g (d (D U ((D U ((D U (us.getD (A (D R (i+j))) 0))-(D U (D A5 (D U ((D U (g*(D U (vs.getD (A i) 0))))+c))))))-b)) (2^(min (A 63) (Al .u64)))) (d (D U ((D U (g*(D U (vs.getD (A i) 0))))+c)) (2^(min (A 32) (Al .u64)))) (D R (i+1))):=(C m 400 [.b true,.v (A6l A5 (vs.getD (A i) 0)),.v (A6l A5 (us.getD (A (D R (i+j))) 0)),.l (lm (us.set (A (D R (i+j))) (D A5 (D U ((D U ((D U (us.getD (A (D R (i+j))) 0))-(D U (D A5 (D U ((D U (g*(D U (vs.getD (A i) 0))))+c))))))-b)))))] [4,8,9,10,11,13,14,15,17,19,20,21] (P c1 (P n1 (P (AM n1) (P HX (P n2 (P (Ce n3 n2) (P WM (P n2 (P (show Cu (lm us) (A (D R (i+j))*1) [A6l A5 (D A5 (D U ((D U ((D U (us.getD (A (D R (i+j))) 0))-(D U (D A5 (D U ((D U (g*(D U (vs.getD (A i) 0))))+c))))))-b)))]=some (lm (us.set (A (D R (i+j))) (D A5 (D U ((D U ((D U (us.getD (A (D R (i+j))) 0))-(D U (D A5 (D U ((D U (g*(D U (vs.getD (A i) 0))))+c))))))-b))))) from (CQ n3 n2)) a0))))))))))
theorem yC(k:Nat)(us:List Int)(vs:List Int)(n:Int)(t:Int)(t2:Int)(kq:Nat)(qs:List Int)(s:Int)(j:Int)(g:Int)(b:Int)(c:Int)(i:Int)(c1:B (i<n)=false):W I O9 (IM k us vs n t t2 kq qs s j g b c i) (.exit 4) (IM k us vs n t t2 kq qs s j g b c i):=(C m 400 [.b false] [4,8,9,10,11,13,14,15,17,19,20,21] (P c1 a0))
def KU(k:Nat)(us:List Int)(vs:List Int)(n:Int)(t:Int)(t2:Int)(kq:Nat)(qs:List Int)(s:Int)(j:Int)(g:Int)(c:Int)(i:Int):Ak:=(Q 4 (A6q 1 kq (lm qs)::(Q 3 (A6o (A6l R s)::(A6q 1 k (lm us)::(A6o (sL lm vs)::(A6o (A6l R n)::(Q 1 (A6o (A6l U t)::(A6o (A6l U t2)::(A6o (A6l R j)::(Q 1 (A6o (A6l U g)::(Q 7 (A6o (A6l U c)::(A6o (A6l R i)::(Q 255 [])))))))))))))))))
theorem yD(k:Nat)(us:List Int)(vs:List Int)(n:Int)(t:Int)(t2:Int)(kq:Nat)(qs:List Int)(s:Int)(j:Int)(g:Int)(c:Int)(i:Int)(c1:B (i<n)=true)(n1:0<=(D R (i+j))/\(D R (i+j))<(k:Int))(n2:us.length=k)(n3:0<=i/\i<(vs.length:Int)):W I QJ (KU k us vs n t t2 kq qs s j g c i) .norm (KU k (us.set (A (D R (i+j))) (D A5 (D U ((D U ((D U (us.getD (A (D R (i+j))) 0))+(D U (vs.getD (A i) 0))))+c)))) vs n t t2 kq qs s j g (d (D U ((D U ((D U (us.getD (A (D R (i+j))) 0))+(D U (vs.getD (A i) 0))))+c)) (2^(min (A 32) (Al .u64)))) (D R (i+1))):=(C m 400 [.b true,.v (A6l A5 (us.getD (A (D R (i+j))) 0)),.v (A6l A5 (vs.getD (A i) 0)),.l (lm (us.set (A (D R (i+j))) (D A5 (D U ((D U ((D U (us.getD (A (D R (i+j))) 0))+(D U (vs.getD (A i) 0))))+c)))))] [4,8,9,10,11,13,14,15,17,25,26] (P c1 (P n1 (P (Ce n2 n1) (P n3 (P (AM n3) (P HX (P n1 (P (show Cu (lm us) (A (D R (i+j))*1) [A6l A5 (D A5 (D U ((D U ((D U (us.getD (A (D R (i+j))) 0))+(D U (vs.getD (A i) 0))))+c)))]=some (lm (us.set (A (D R (i+j))) (D A5 (D U ((D U ((D U (us.getD (A (D R (i+j))) 0))+(D U (vs.getD (A i) 0))))+c))))) from (CQ n2 n1)) a0)))))))))
theorem yE(k:Nat)(us:List Int)(vs:List Int)(n:Int)(t:Int)(t2:Int)(kq:Nat)(qs:List Int)(s:Int)(j:Int)(g:Int)(c:Int)(i:Int)(c1:B (i<n)=false):W I QJ (KU k us vs n t t2 kq qs s j g c i) (.exit 6) (KU k us vs n t t2 kq qs s j g c i):=(C m 400 [.b false] [4,8,9,10,11,13,14,15,17,25,26] (P c1 a0))
def Ht(k:Nat)(us:List Int)(vs:List Int)(n:Int)(t:Int)(t2:Int)(kq:Nat)(qs:List Int)(s:Int)(j:Int):Ak:=(Q 4 (A6q 1 kq (lm qs)::(Q 3 (A6o (A6l R s)::(A6q 1 k (lm us)::(A6o (sL lm vs)::(A6o (A6l R n)::(Q 1 (A6o (A6l U t)::(A6o (A6l U t2)::(A6o (A6l R j)::(Q 266 []))))))))))))
theorem Aqc(k:Nat)(us:List Int)(vs:List Int)(n:Int)(t:Int)(t2:Int)(kq:Nat)(qs:List Int)(s:Int)(j:Int)(us1 us2:List Int)(g r b c cc:Int)(c1:B (j>=0)=true)(c2:((d (D U ((D U ((D U (us1.getD (A (D R (j+n))) 0))-c))-b)) (2^(min (A 63) (Al .u64)))) != 0)=true)(n1:0<=(D R (j+n))/\(D R (j+n))<(k:Int))(n2:us.length=k)(n3:0<=(D R ((D R (j+n))-1))/\(D R ((D R (j+n))-1))<(k:Int))(n4:¬ t=0)(hl5:W I (.loop HD) (Ej k us vs n t t2 kq qs s j (D U (As (D U ((T (Al .u64) (D U ((D U (us.getD (A (D R (j+n))) 0))*2^(min (A 32) (Al .u64)))) ||| T (Al .u64) (D U (us.getD (A (D R ((D R (j+n))-1))) 0))).toNat)) t)) (AA (D U ((T (Al .u64) (D U ((D U (us.getD (A (D R (j+n))) 0))*2^(min (A 32) (Al .u64)))) ||| T (Al .u64) (D U (us.getD (A (D R ((D R (j+n))-1))) 0))).toNat)) t)) (.exit 2) (Ej k us vs n t t2 kq qs s j g r))(hl6:W I (.loop O9) (IM k us vs n t t2 kq qs s j g 0 0 0) (.exit 4) (IM k us1 vs n t t2 kq qs s j g b c n))(n7:us1.length=k)(hl8:W I (.loop QJ) (KU k (us1.set (A (D R (j+n))) (D A5 (D U ((D U ((D U (us1.getD (A (D R (j+n))) 0))-c))-b)))) vs n t t2 kq qs s j (D U (g-1)) 0 0) (.exit 6) (KU k us2 vs n t t2 kq qs s j (D U (g-1)) cc n))(n9:us2.length=k)(n10:0<=j/\j<(kq:Int))(n11:qs.length=kq):W I Mv (Ht k us vs n t t2 kq qs s j) .norm (Ht k (us2.set (A (D R (j+n))) (D A5 ((us2.getD (A (D R (j+n))) 0)+(D A5 cc)))) vs n t t2 kq (qs.set (A j) (D A5 (D U (g-1)))) s (D R (j-1))):=(W.seq (C (t:=(Q 4 (A6q 1 kq (lm qs)::(Q 3 (vi s::(A6q 1 k (lm us)::(vl vs::(vi n::(Q 1 (A6o (A6l U t)::(A6o (A6l U t2)::(vi j::(Q 266 []))))))))))))) m 400 [.b true] [4,8,9,10,11,13,14,15] (P c1 a0)) (W.seq (Ci (L (W.seq (C m 400 [.v (A6l A5 (us.getD (A (D R (j+n))) 0)),.v (A6l A5 (us.getD (A (D R ((D R (j+n))-1))) 0))] [4,8,9,10,11,13,14,15,17,18] (P n1 (P (Ce n2 n1) (P HX (P n3 (P (Ce n2 n3) (P n4 (P n4 a0)))))))) (W.seq (W.block hl5) (q (W.seq (C m 400 [] [4,8,9,10,11,13,14,15,17,19,20,21] a0) (W.seq (W.block hl6) (L (q (W.seq (C (t:=(Q 4 (A6q 1 kq (lm qs)::(Q 3 (vi s::(A6q 1 k (lm (us1.set (A (D R (j+n))) (D A5 (D U ((D U ((D U (us1.getD (A (D R (j+n))) 0))-c))-b)))))::(vl vs::(vi n::(Q 1 (A6o (A6l U t)::(A6o (A6l U t2)::(vi j::(Q 1 (A6o (A6l U g)::(Q 181 (A6o (A6m ((d (D U ((D U ((D U (us1.getD (A (D R (j+n))) 0))-c))-b)) (2^(min (A 63) (Al .u64)))) != 0))::(Q 82 []))))))))))))))))) m 400 [.v (A6l A5 (us1.getD (A (D R (j+n))) 0)),.l (lm (us1.set (A (D R (j+n))) (D A5 (D U ((D U ((D U (us1.getD (A (D R (j+n))) 0))-c))-b)))))] [4,8,9,10,11,13,14,15,17,199] (P n1 (P (Ce n7 n1) (P n1 (P (show Cu (lm us1) (A (D R (j+n))*1) [A6l A5 (D A5 (D U ((D U ((D U (us1.getD (A (D R (j+n))) 0))-c))-b)))]=some (lm (us1.set (A (D R (j+n))) (D A5 (D U ((D U ((D U (us1.getD (A (D R (j+n))) 0))-c))-b))))) from (CQ n7 n1)) (P WM a0)))))) (W.seq (IJ (by rfl) c2 (L (q (W.seq (C m 400 [] [4,8,9,10,11,13,14,15,17,25,26] a0) (W.seq (W.block hl8) (C (t:=(Q 4 (A6q 1 kq (lm qs)::(Q 3 (vi s::(A6q 1 k (lm (us2.set (A (D R (j+n))) (D A5 ((us2.getD (A (D R (j+n))) 0)+(D A5 cc)))))::(vl vs::(vi n::(Q 1 (A6o (A6l U t)::(A6o (A6l U t2)::(vi j::(Q 1 (A6o (A6l U (D U (g-1)))::(Q 264 []))))))))))))))) m 400 [.v (A6l A5 (us2.getD (A (D R (j+n))) 0)),.l (lm (us2.set (A (D R (j+n))) (D A5 ((us2.getD (A (D R (j+n))) 0)+(D A5 cc)))))] [4,8,9,10,11,13,14,15,17] (P n1 (P (Ce n9 n1) (P n1 (P (show Cu (lm us2) (A (D R (j+n))*1) [A6l A5 (D A5 ((us2.getD (A (D R (j+n))) 0)+(D A5 cc)))]=some (lm (us2.set (A (D R (j+n))) (D A5 ((us2.getD (A (D R (j+n))) 0)+(D A5 cc))))) from (CQ n9 n1)) a0)))))))))) (C (t:=(Q 4 (A6q 1 kq (lm (qs.set (A j) (D A5 (D U (g-1)))))::(Q 3 (vi s::(A6q 1 k (lm (us2.set (A (D R (j+n))) (D A5 ((us2.getD (A (D R (j+n))) 0)+(D A5 cc)))))::(vl vs::(vi n::(Q 1 (A6o (A6l U t)::(A6o (A6l U t2)::(vi j::(Q 266 []))))))))))))) m 400 [.l (lm (qs.set (A j) (D A5 (D U (g-1)))))] [4,8,9,10,11,13,14,15] (P n10 (P (show Cu (lm qs) (A j*1) [A6l A5 (D A5 (D U (g-1)))]=some (lm (qs.set (A j) (D A5 (D U (g-1))))) from (CQ n11 n10)) a0)))))))))))))) (C m 400 [] [4,8,9,10,11,13,14,15] a0)))
theorem Aqd(k:Nat)(us:List Int)(vs:List Int)(n:Int)(t:Int)(t2:Int)(kq:Nat)(qs:List Int)(s:Int)(j:Int)(us1:List Int)(g r b c:Int)(c1:B (j>=0)=true)(c2:((d (D U ((D U ((D U (us1.getD (A (D R (j+n))) 0))-c))-b)) (2^(min (A 63) (Al .u64)))) != 0)=false)(n1:0<=(D R (j+n))/\(D R (j+n))<(k:Int))(n2:us.length=k)(n3:0<=(D R ((D R (j+n))-1))/\(D R ((D R (j+n))-1))<(k:Int))(n4:¬ t=0)(hl5:W I (.loop HD) (Ej k us vs n t t2 kq qs s j (D U (As (D U ((T (Al .u64) (D U ((D U (us.getD (A (D R (j+n))) 0))*2^(min (A 32) (Al .u64)))) ||| T (Al .u64) (D U (us.getD (A (D R ((D R (j+n))-1))) 0))).toNat)) t)) (AA (D U ((T (Al .u64) (D U ((D U (us.getD (A (D R (j+n))) 0))*2^(min (A 32) (Al .u64)))) ||| T (Al .u64) (D U (us.getD (A (D R ((D R (j+n))-1))) 0))).toNat)) t)) (.exit 2) (Ej k us vs n t t2 kq qs s j g r))(hl6:W I (.loop O9) (IM k us vs n t t2 kq qs s j g 0 0 0) (.exit 4) (IM k us1 vs n t t2 kq qs s j g b c n))(n7:us1.length=k)(n8:0<=j/\j<(kq:Int))(n9:qs.length=kq):W I Mv (Ht k us vs n t t2 kq qs s j) .norm (Ht k (us1.set (A (D R (j+n))) (D A5 (D U ((D U ((D U (us1.getD (A (D R (j+n))) 0))-c))-b)))) vs n t t2 kq (qs.set (A j) (D A5 g)) s (D R (j-1))):=(W.seq (C (t:=(Q 4 (A6q 1 kq (lm qs)::(Q 3 (vi s::(A6q 1 k (lm us)::(vl vs::(vi n::(Q 1 (A6o (A6l U t)::(A6o (A6l U t2)::(vi j::(Q 266 []))))))))))))) m 400 [.b true] [4,8,9,10,11,13,14,15] (P c1 a0)) (W.seq (Ci (L (W.seq (C m 400 [.v (A6l A5 (us.getD (A (D R (j+n))) 0)),.v (A6l A5 (us.getD (A (D R ((D R (j+n))-1))) 0))] [4,8,9,10,11,13,14,15,17,18] (P n1 (P (Ce n2 n1) (P HX (P n3 (P (Ce n2 n3) (P n4 (P n4 a0)))))))) (W.seq (W.block hl5) (q (W.seq (C m 400 [] [4,8,9,10,11,13,14,15,17,19,20,21] a0) (W.seq (W.block hl6) (L (q (W.seq (C (t:=(Q 4 (A6q 1 kq (lm qs)::(Q 3 (vi s::(A6q 1 k (lm (us1.set (A (D R (j+n))) (D A5 (D U ((D U ((D U (us1.getD (A (D R (j+n))) 0))-c))-b)))))::(vl vs::(vi n::(Q 1 (A6o (A6l U t)::(A6o (A6l U t2)::(vi j::(Q 1 (A6o (A6l U g)::(Q 181 (A6o (A6m ((d (D U ((D U ((D U (us1.getD (A (D R (j+n))) 0))-c))-b)) (2^(min (A 63) (Al .u64)))) != 0))::(Q 82 []))))))))))))))))) m 400 [.v (A6l A5 (us1.getD (A (D R (j+n))) 0)),.l (lm (us1.set (A (D R (j+n))) (D A5 (D U ((D U ((D U (us1.getD (A (D R (j+n))) 0))-c))-b)))))] [4,8,9,10,11,13,14,15,17,199] (P n1 (P (Ce n7 n1) (P n1 (P (show Cu (lm us1) (A (D R (j+n))*1) [A6l A5 (D A5 (D U ((D U ((D U (us1.getD (A (D R (j+n))) 0))-c))-b)))]=some (lm (us1.set (A (D R (j+n))) (D A5 (D U ((D U ((D U (us1.getD (A (D R (j+n))) 0))-c))-b))))) from (CQ n7 n1)) (P WM a0)))))) (W.seq (IK (by rfl) c2 (C (t:=(Q 4 (A6q 1 kq (lm qs)::(Q 3 (vi s::(A6q 1 k (lm (us1.set (A (D R (j+n))) (D A5 (D U ((D U ((D U (us1.getD (A (D R (j+n))) 0))-c))-b)))))::(vl vs::(vi n::(Q 1 (A6o (A6l U t)::(A6o (A6l U t2)::(vi j::(Q 1 (A6o (A6l U g)::(Q 264 []))))))))))))))) m 400 [] [4,8,9,10,11,13,14,15,17] a0)) (C (t:=(Q 4 (A6q 1 kq (lm (qs.set (A j) (D A5 g)))::(Q 3 (vi s::(A6q 1 k (lm (us1.set (A (D R (j+n))) (D A5 (D U ((D U ((D U (us1.getD (A (D R (j+n))) 0))-c))-b)))))::(vl vs::(vi n::(Q 1 (A6o (A6l U t)::(A6o (A6l U t2)::(vi j::(Q 266 []))))))))))))) m 400 [.l (lm (qs.set (A j) (D A5 g)))] [4,8,9,10,11,13,14,15] (P n8 (P (show Cu (lm qs) (A j*1) [A6l A5 (D A5 g)]=some (lm (qs.set (A j) (D A5 g))) from (CQ n9 n8)) a0)))))))))))))) (C m 400 [] [4,8,9,10,11,13,14,15] a0)))
theorem Aqe(k:Nat)(us:List Int)(vs:List Int)(n:Int)(t:Int)(t2:Int)(kq:Nat)(qs:List Int)(s:Int)(j:Int)(c1:B (j>=0)=false):W I Mv (Ht k us vs n t t2 kq qs s j) (.exit 0) (Ht k us vs n t t2 kq qs s j):=(p (C m 400 [.b false] [4,8,9,10,11,13,14,15] (P c1 a0)) (by nofun))
def Ij(k:Nat)(us:List Int)(n:Int)(kq:Nat)(qs:List Int)(kr:Nat)(rs:List Int)(s:Int)(i:Int):Ak:=(Q 4 (A6q 1 kq (lm qs)::(A6q 1 kr (lm rs)::(Q 2 (A6o (A6l R s)::(A6q 1 k (lm us)::(Q 1 (A6o (A6l R n)::(Q 16 (A6o (A6l R i)::(Q 253 [])))))))))))
theorem yF(k:Nat)(us:List Int)(n:Int)(kq:Nat)(qs:List Int)(kr:Nat)(rs:List Int)(s:Int)(i:Int)(c1:B (i<n)=true)(c2:B (s>0)=true)(n1:0<=i/\i<(k:Int))(n2:us.length=k)(n3:¬ (D U s)<0)(n4:0<=i/\i<(kr:Int))(n5:rs.length=kr)(n6:(rs.set (A i) (d (us.getD (A i) 0) (2^(min (A (D U s)) (Al .u32))))).length=kr)(n7:0<=(D R (i+1))/\(D R (i+1))<(k:Int))(n8:¬ (D U (D R (32-s)))<0):W I Mu (Ij k us n kq qs kr rs s i) .norm (Ij k us n kq qs kr ((rs.set (A i) (d (us.getD (A i) 0) (2^(min (A (D U s)) (Al .u32))))).set (A i) (D A5 ((T (Al .u32) ((rs.set (A i) (d (us.getD (A i) 0) (2^(min (A (D U s)) (Al .u32))))).getD (A i) 0) ||| T (Al .u32) (D A5 ((us.getD (A (D R (i+1))) 0)*2^(min (A (D U (D R (32-s)))) (Al .u32))))).toNat))) s (D R (i+1))):=(C m 400 [.b true,.v (A6l A5 (us.getD (A i) 0)),.l (lm (rs.set (A i) (d (us.getD (A i) 0) (2^(min (A (D U s)) (Al .u32)))))),.b true,.v (A6l A5 ((rs.set (A i) (d (us.getD (A i) 0) (2^(min (A (D U s)) (Al .u32))))).getD (A i) 0)),.v (A6l A5 (us.getD (A (D R (i+1))) 0)),.l (lm ((rs.set (A i) (d (us.getD (A i) 0) (2^(min (A (D U s)) (Al .u32))))).set (A i) (D A5 ((T (Al .u32) ((rs.set (A i) (d (us.getD (A i) 0) (2^(min (A (D U s)) (Al .u32))))).getD (A i) 0) ||| T (Al .u32) (D A5 ((us.getD (A (D R (i+1))) 0)*2^(min (A (D U (D R (32-s)))) (Al .u32))))).toNat))))] [4,5,8,9,11,28] (P c1 (P n1 (P (Ce n2 n1) (P n3 (P n4 (P (show Cu (lm rs) (A i*1) [A6l A5 (d (us.getD (A i) 0) (2^(min (A (D U s)) (Al .u32))))]=some (lm (rs.set (A i) (d (us.getD (A i) 0) (2^(min (A (D U s)) (Al .u32)))))) from (CQ n5 n4)) (P c2 (P n4 (P (Ce n6 n4) (P n7 (P (Ce n2 n7) (P n8 (P n4 (P (show Cu (lm (rs.set (A i) (d (us.getD (A i) 0) (2^(min (A (D U s)) (Al .u32)))))) (A i*1) [A6l A5 (D A5 ((T (Al .u32) ((rs.set (A i) (d (us.getD (A i) 0) (2^(min (A (D U s)) (Al .u32))))).getD (A i) 0) ||| T (Al .u32) (D A5 ((us.getD (A (D R (i+1))) 0)*2^(min (A (D U (D R (32-s)))) (Al .u32))))).toNat))]=some (lm ((rs.set (A i) (d (us.getD (A i) 0) (2^(min (A (D U s)) (Al .u32))))).set (A i) (D A5 ((T (Al .u32) ((rs.set (A i) (d (us.getD (A i) 0) (2^(min (A (D U s)) (Al .u32))))).getD (A i) 0) ||| T (Al .u32) (D A5 ((us.getD (A (D R (i+1))) 0)*2^(min (A (D U (D R (32-s)))) (Al .u32))))).toNat)))) from (CQ n6 n4)) a0)))))))))))))))
theorem yG(k:Nat)(us:List Int)(n:Int)(kq:Nat)(qs:List Int)(kr:Nat)(rs:List Int)(s:Int)(i:Int)(c1:B (i<n)=true)(c2:B (s>0)=false)(n1:0<=i/\i<(k:Int))(n2:us.length=k)(n3:¬ (D U s)<0)(n4:0<=i/\i<(kr:Int))(n5:rs.length=kr):W I Mu (Ij k us n kq qs kr rs s i) .norm (Ij k us n kq qs kr (rs.set (A i) (d (us.getD (A i) 0) (2^(min (A (D U s)) (Al .u32))))) s (D R (i+1))):=(C m 400 [.b true,.v (A6l A5 (us.getD (A i) 0)),.l (lm (rs.set (A i) (d (us.getD (A i) 0) (2^(min (A (D U s)) (Al .u32)))))),.b false] [4,5,8,9,11,28] (P c1 (P n1 (P (Ce n2 n1) (P n3 (P n4 (P (show Cu (lm rs) (A i*1) [A6l A5 (d (us.getD (A i) 0) (2^(min (A (D U s)) (Al .u32))))]=some (lm (rs.set (A i) (d (us.getD (A i) 0) (2^(min (A (D U s)) (Al .u32)))))) from (CQ n5 n4)) (P c2 a0))))))))
theorem yH(k:Nat)(us:List Int)(n:Int)(kq:Nat)(qs:List Int)(kr:Nat)(rs:List Int)(s:Int)(i:Int)(c1:B (i<n)=false):W I Mu (Ij k us n kq qs kr rs s i) (.exit 8) (Ij k us n kq qs kr rs s i):=(C m 400 [.b false] [4,5,8,9,11,28] (P c1 a0))
theorem kS(xs ys:List Int)(cm:Int)(c1:B (cm<0)=true)(n1:Bk (lm xs)=xs.length*1)(n2:xs.length<=35184372088832)(n3:H I 151 [sL lm xs,sL lm ys] (A6l R cm)):H I 180 [sL lm xs,sL lm ys] (A6t [A6n 0 [],sL lm xs]):=X (fn:=PM) (s:=(Q 1 (A6o (sL lm ys)::(Q 2 (A6q 1 0 []::(A6q 1 xs.length (lm xs)::(Q 276 []))))))) (ex := .ret) rfl rfl (L (L (L (L (L (L (L (q (p (C m 400 [.r (A6l R cm),.b true] [1,4,5] (P n3 (P c1 (P n1 (P n2 a0))))) (by nofun)))))))))) (by nofun) rfl
theorem kT(xs ys zs:List Int)(cm rr:Int)(c1:B (cm<0)=false)(c2:((ys.length:Int)==1)=true)(n1:H I 151 [sL lm xs,sL lm ys] (A6l R cm))(n2:0<=(0:Int)/\(0:Int)<(ys.length:Int))(n3:H I 187 [sL lm xs,A6l A5 (ys.getD (A 0) 0)] (A6t [sL lm zs,A6l A5 rr])):H I 180 [sL lm xs,sL lm ys] (A6t [sL lm zs,A6n 1 [A6l A5 rr]]):=X (fn:=PM) (s:=(Q 1 (A6o (sL lm ys)::(Q 2 (A6o (sL lm zs)::(A6q 1 1 [A6l A5 rr]::(Q 276 []))))))) (ex := .ret) rfl rfl (L (L (L (L (L (L (L (q (p (C m 400 [.r (A6l R cm),.b false,.b true,.v (A6l A5 (ys.getD (A 0) 0)),.r (A6t [sL lm zs,A6l A5 rr])] [1,4,5] (P n1 (P c1 (P c2 (P n2 (P (AM n2) (P n3 a0))))))) (by nofun)))))))))) (by nofun) rfl
theorem kU(xs ys us ws us1 vs qs rs:List Int)(cm s n t t2 j:Int)(k kq kr:Nat)(c1:B (cm<0)=false)(c2:((ys.length:Int)==1)=false)(n1:H I 151 [sL lm xs,sL lm ys] (A6l R cm))(n2:0<=(D R ((ys.length:Int)-1))/\(D R ((ys.length:Int)-1))<(ys.length:Int))(n3:H I 188 [A6l A5 (ys.getD (A (D R ((ys.length:Int)-1))) 0)] (A6l R s))(n4:0<=(ys.length:Int))(n5:0<=(A (ys.length:Int))/\(A (ys.length:Int))<=ws.length/\ws.length<=ws.length/\(false=true->true=true))(n6:H I 189 [sL lm xs,A6l R s] (A6p 1 us.length (lm us)))(n7:H I 189 [sL lm ys,A6l R s] (A6p 1 ws.length (lm ws)))(n8:0<=(D R ((D R ((xs.length:Int)-(ys.length:Int)))+1))/\(D R ((D R ((xs.length:Int)-(ys.length:Int)))+1))<=1048576)(n9:0<=(D R ((ys.length:Int)-1))/\(D R ((ys.length:Int)-1))<((((A (ys.length:Int))-0):Nat):Int))(n10:0<=(D R ((ys.length:Int)-2))/\(D R ((ys.length:Int)-2))<((((A (ys.length:Int))-0):Nat):Int))(hl11:W I (.loop Mv) ((Q 4 (A6q 1 (A (D R ((D R ((xs.length:Int)-(ys.length:Int)))+1))) (Cp [A6l A5 0] (A (D R ((D R ((xs.length:Int)-(ys.length:Int)))+1))))::(Q 3 (A6o (A6l R s)::(A6q 1 us.length (lm us)::(A6o (A6n ((A (ys.length:Int))-0) (B1 (((A (ys.length:Int))-0)*1) (g (0*1) (lm ws))))::(A6o (A6l R (ys.length:Int))::(Q 1 (A6o (A6l U (D U (((ws.drop 0).take ((A (ys.length:Int))-0)).getD (A (D R ((ys.length:Int)-1))) 0)))::(A6o (A6l U (D U (((ws.drop 0).take ((A (ys.length:Int))-0)).getD (A (D R ((ys.length:Int)-2))) 0)))::(A6o (A6l R (D R ((xs.length:Int)-(ys.length:Int))))::(Q 266 []))))))))))))) (.exit 0) (Ht k us1 vs n t t2 kq qs s j))(n12:0<=n/\n<=1048576)(hl13:W I (.loop Mu) ((Q 4 (A6q 1 kq (lm qs)::(A6q 1 (A n) (Cp [A6l A5 0] (A n))::(Q 2 (A6o (A6l R s)::(A6q 1 k (lm us1)::(Q 1 (A6o (A6l R n)::(Q 16 (A6o (A6l R 0)::(Q 253 [])))))))))))) (.exit 8) (Ij k us1 n kq qs kr rs s n)):H I 180 [sL lm xs,sL lm ys] (A6t [A6n kq (lm qs),A6n kr (lm rs)]):=X (fn:=PM) (s:=(Q 4 (A6q 1 kq (lm qs)::(A6q 1 kr (lm rs)::(Q 276 []))))) (ex := .ret) rfl rfl (L (L (L (L (L (L (L (q (W.seq (C m 400 [.r (A6l R cm),.b false,.b false,.v (A6l A5 (ys.getD (A (D R ((ys.length:Int)-1))) 0)),.r (A6l R s),.r (A6p 1 us.length (lm us)),.r (A6p 1 ws.length (lm ws)),.v (A6l A5 (((ws.drop 0).take ((A (ys.length:Int))-0)).getD (A (D R ((ys.length:Int)-1))) 0)),.v (A6l A5 (((ws.drop 0).take ((A (ys.length:Int))-0)).getD (A (D R ((ys.length:Int)-2))) 0))] [4,8,9,10,11,13,14,15] (P n1 (P c1 (P c2 (P n2 (P (AM n2) (P n3 (P n6 (P n7 (P n4 (P n5 (P n8 (P n9 (P (Ta n9 n5) (P n10 (P (Ta n10 n5) a0)))))))))))))))) (W.seq (W.block hl11) (q (W.seq (C m 400 [] [4,5,8,9,11,28] (P n12 a0)) (W.seq (W.block hl13) (C m 400 [] [4,5] a0)))))))))))))) (by nofun) rfl
def TQA:Cm:=TWB
theorem kV:BY I TQA:=m
end Go.Proofs.YtajompaehjkgkaaGreat
