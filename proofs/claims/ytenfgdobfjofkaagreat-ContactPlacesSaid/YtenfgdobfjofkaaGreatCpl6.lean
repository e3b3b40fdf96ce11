/- Texts of the proof of ContactPlaces: part 6 of 17. -/
import Derived.KernelRfl
import Derived.Test.YtenfgdobfjofkaaGreatCpl5
namespace Go.Proofs.YtenfgdobfjofkaaGreat
open Go.Ai
set_option maxRecDepth 100000
open Bool renaming and_eq_true->U,eq_false_or_eq_true->Ah,false_eq_true->AC
open _root_.ByteArray renaming empty->AP,size->Cc,toList->Gf
open Decidable renaming decide->E
open Go.Ai.AV renaming agg->M,bool->I,fresh->P,int->A,sl->G,tup->Dj
open Go.Ai.Reg renaming box->Q,own->An,val->X
open Go.IntKind renaming i64->D,u32->Bm,wrap->J
open Go.Proofs.Tryz renaming prog->g
open Int renaming mul_le_mul->P9,mul_nonneg->F3,natCast_mul->Arm,ofNat_le->Agi,tdiv->C_,tdiv_eq_ediv_of_nonneg->TF,toNat->L
open List renaming drop->R,drop_zero->DF,length->C,length_append->Ac,length_cons->BF,mem_append->AF,mem_cons->Aw,mem_singleton->Be,not_mem_nil->AD,set->Cg
open Nat renaming beq->Au,eq_zero_or_pos->Ic,pow_succ->Qp
open Prod.mk renaming injEq->BP
noncomputable section
def V3:ICode:=CG sD 94 56
section
variable(n lo hi:Int)
def KP:V:=vi n::W 2 (vi lo::vi hi::W 18 [])
theorem Akm(c1:E (lo<hi)=true)(c2:E (J D (J D (C_ (J D (J D (lo+hi)+1)) 2)*J D (C_ (J D (J D (lo+hi)+1)) 2))<=n)=true):w V3 (KP n lo hi) .norm (KP n (J D (C_ (J D (J D (lo+hi)+1)) 2)) hi):=B C2 [q,q] QD (Im c1 (show ¬ (2:Int)=0 from (by decide)) c2)
theorem Akn(c1:E (lo<hi)=true)(c2:E (J D (J D (C_ (J D (J D (lo+hi)+1)) 2)*J D (C_ (J D (J D (lo+hi)+1)) 2))<=n)=false):w V3 (KP n lo hi) .norm (KP n lo (J D (J D (C_ (J D (J D (lo+hi)+1)) 2)-1))):=B C2 [q,Y] QD (Im c1 (show ¬ (2:Int)=0 from (by decide)) c2)
theorem kH(c1:E (lo<hi)=false):w V3 (KP n lo hi) xZ0 (KP n lo hi):=B C2 [Y] QD (Bp c1)
end
theorem Adb(n r hi:Int)(a:w (.loop V3) (KP n 0 3037000499) xZ0 (KP n r hi)):RQ 248 [A D n] (A D r):=IU sD (W 2 (vi r::W 20 [])) (BZ (T (B C2 [] QD a0) (T (m a) (B C2 [] [2] a0))))
theorem NK{x n:Nat}(a:0<x):x<=n / x↔x*x<=n:=Nat.le_div_iff_mul_le a
theorem cM(n:Nat):∀ k r,r*r<=n->n<(r+2^k)*(r+2^k)->D5 n k r*D5 n k r<=n/\n<(D5 n k r+1)*(D5 n k r+1):=by
 intro k;induction k with
 | zero=>intro r h1 h2;simpa [D5] using ⟨h1,h2⟩
 | succ k a =>
  intro r h1 h2;have b:0<2^k:=Nat.two_pow_pos k;unfold D5;split
  ·rename_i h;rw[NK (by omega)] at h;refine a _ h ?_;have e:r+2^k+2^k=r+2^(k+1):=by rw[Qp];omega
   rw[e];exact h2
  next h=>rw[NK (by omega)] at h;exact a r h1 (by omega)
theorem QL{a b:Int}(c:0<=a)(h:a<=b):a*a<=b*b:=P9 h h c (by omega)
theorem Adc{n r:Int}(h0:0<=n)(h1:n<=9223372036854775807)(hr:0<=r)(a:r*r<=n)(b:n<(r+1)*(r+1)):B5 n=r:=by
 have c:∃ q:Nat,B5 n=q/\((q:Int)*q<=n)/\n<((q:Int)+1)*((q:Int)+1):=by
  unfold B5;by_cases hn:n<=0
  ·rw[Af hn];exact⟨0,rfl,by omega,by omega⟩
  ·rw[Ak hn];obtain⟨x,y⟩:=cM n.toNat 32 0 (by omega) (by omega);refine⟨_,rfl,?_,?_⟩
   ·have:((D5 n.toNat 32 0*D5 n.toNat 32 0:Nat):Int)<=(n.toNat:Nat):=Agi.2 x;rw[Arm] at this;omega
   ·have:(n.toNat:Int)<(((D5 n.toNat 32 0+1)*(D5 n.toNat 32 0+1):Nat):Int):=Int.ofNat_lt.2 y;rw[Arm,Int.natCast_add,Int.natCast_one] at this;omega
 obtain⟨q,e,d,f⟩:=c;rw[e];rcases Int.lt_trichotomy (q:Int) r with h | h | h
 ·have:=QL (a:=(q:Int)+1) (b:=r) (by omega) (by omega);omega
 ·exact h
 ·have:=QL (a:=r+1) (b:=(q:Int)) (by omega) (by omega);omega
theorem tG{n:Int}(_hn:0<=n):∀ (d:Nat) (lo hi:Int),0<=lo->lo<=hi->hi<=3037000499->(hi-lo).toNat<=d->lo*lo<=n->n<(hi+1)*(hi+1) ->
  ∃ r,w (.loop V3) (KP n lo hi) xZ0 (KP n r r)/\0<=r/\r*r<=n/\n<(r+1)*(r+1):=by
 intro d;induction d with
 | zero =>
  intro lo hi h0 h1 h2 p c g;have e:lo=hi:=by omega
  subst e;exact⟨lo,f (kH n lo lo (AG (by omega))),h0,c,g⟩
 | succ d l =>
  intro lo hi h0 h1 h2 p c g;by_cases o:lo<hi
  ·have q:J D (lo+hi)=lo+hi:=Bb (by omega) (by omega);have s:J D (lo+hi+1)=lo+hi+1:=Bb (by omega) (by omega);have t:C_ (lo+hi+1) 2=(lo+hi+1) / 2:=TF (by omega);have u:J D ((lo+hi+1) / 2)=(lo+hi+1) / 2:=Bb (by omega) (by omega);have z:lo<(lo+hi+1) / 2/\(lo+hi+1) / 2<=hi:=by omega
   have i:=Akm n lo hi (AN o);have h:=Akn n lo hi (AN o);rw[q,s,t,u] at i h;generalize (lo+hi+1) / 2=m at *
   have A:=QL (a:=m) (b:=3037000499) (by omega) (by omega);have B:=QL (a:=0) (b:=m) (by omega) (by omega);have v:J D (m*m)=m*m:=Bb (by omega) (by omega);have x:J D (m-1)=m-1:=Bb (by omega) (by omega);rw[v] at i h;rw[x] at h;by_cases hc:m*m<=n
   ·obtain⟨r,j,k⟩:=l m hi (by omega) (by omega) h2 (by omega) hc g;exact⟨r,Ay (i (AN hc)) j,k⟩
   ·have y:m-1+1=m:=by omega
    obtain⟨r,j,k⟩:=l lo (m-1) h0 (by omega) (by omega) (by omega) c (by rw[y];omega);exact⟨r,Ay (h (AG hc)) j,k⟩
  ·have e:lo=hi:=by omega
   subst e;exact⟨lo,f (kH n lo lo (AG (by omega))),h0,c,g⟩
theorem Ade{n:Int}(h:0<=n/\n<=9223372036854775807):RQ 248 [A D n] (A D (B5 n)):=by
 obtain⟨r,k,h0,h1,h2⟩:=tG h.1 3037000499 0 3037000499 (by omega) (by omega) (by omega) (by omega) (by omega) (by omega);rw[Adc h.1 h.2 h0 h1 h2];exact Adb n r r k
theorem NL(a b:Int):0<=i a b a b/\i a b a b<=9223372036854775807:=by
 have h1:=JK a b a b;refine⟨?_,h1⟩;unfold i;split
 ·have x:∀ c:Int,0<=c*c:=fun c=>by
   rcases Int.le_total 0 c with h | h
   ·exact F3 h h
   ·exact Int.mul_nonneg_of_nonpos_of_nonpos h h
  have:=x a;have:=x b;omega
 ·omega
def Awi:u->Option (AV × List Prop)
 | [A D n]=>some (A D (B5 n),[0<=n/\n<=9223372036854775807])
 | _=>none
def TJ1:Bo:=(248,Awi)::Awh
theorem FH:AQ Cy TJ1:=AQ.cons C2 (by
 intro args r ps h a;unfold Awi at h;split at h
 ·cases h;exact Ade a.1
 ·cases h)
def EJ(a b c d ex e:Int):Int :=
 match v a b 1048576 with
 | true=>(match v c d 1048576 with
 | true=>(match v ex e 1048576 with
 | true=>(match (J D (B5 (i ((F c d a b).1) ((F c d a b).2) ((F c d a b).1) ((F c d a b).2))*B5 (i ((F c d a b).1) ((F c d a b).2) ((F c d a b).1) ((F c d a b).2)))) != (i ((F c d a b).1) ((F c d a b).2) ((F c d a b).1) ((F c d a b).2)) with
 | true=>(0)
 | false=>(match (i ((F c d a b).1) ((F c d a b).2) ((F c d a b).1) ((F c d a b).2)) != (i ((F ex e a b).1) ((F ex e a b).2) ((F ex e a b).1) ((F ex e a b).2)) with
 | true=>(0)
 | false=>(match decide (B5 (i ((F c d a b).1) ((F c d a b).2) ((F c d a b).1) ((F c d a b).2))>262144) with
 | true=>(0)
 | false=>(match decide (j ((F c d a b).1) ((F c d a b).2) ((F ex e a b).1) ((F ex e a b).2)<=0) with
 | true=>(0)
 | false=>((B5 (i ((F c d a b).1) ((F c d a b).2) ((F c d a b).1) ((F c d a b).2))))))))
 | false=>(0))
 | false=>(0))
 | false=>(0)
theorem V4(k:ByteArray)(l a b c d ex e rs m n o:Int)  : RQ 176 [M [.str k,A D l,A D a,A D b,A D c,A D d,A D ex,A D e,A D rs,A D m,A D n,A D o]] (A D (EJ a b c d ex e)):=by
 unfold EJ;cases c1:(v a b 1048576)
 ·exact N (r := A D 0) (ps:=[(!(v a b 1048576))=true,true=true,true=true]) FH rfl 300 rfl [q,q,q] (by kernel_rfl) ⟨(by rw[c1];rfl),rfl,rfl,trivial⟩
 ·cases c2:(v c d 1048576)
  ·exact N (r := A D 0) (ps:=[(!(v a b 1048576))=false,(!(v c d 1048576))=true,true=true]) FH rfl 300 rfl [Y,q,q] (by kernel_rfl) ⟨(by rw[c1];rfl),(by rw[c2];rfl),rfl,trivial⟩
  ·cases c3:(v ex e 1048576)
   ·exact N (r := A D 0) (ps:=[(!(v a b 1048576))=false,(!(v c d 1048576))=false,(!(v ex e 1048576))=true]) FH rfl 300 rfl [Y,Y,q] (by kernel_rfl) ⟨(by rw[c1];rfl),(by rw[c2];rfl),(by rw[c3];rfl),trivial⟩
   ·cases c4:((J D (B5 (i ((F c d a b).1) ((F c d a b).2) ((F c d a b).1) ((F c d a b).2))*B5 (i ((F c d a b).1) ((F c d a b).2) ((F c d a b).1) ((F c d a b).2)))) != (i ((F c d a b).1) ((F c d a b).2) ((F c d a b).1) ((F c d a b).2)))
    ·cases f:((i ((F c d a b).1) ((F c d a b).2) ((F c d a b).1) ((F c d a b).2)) != (i ((F ex e a b).1) ((F ex e a b).2) ((F ex e a b).1) ((F ex e a b).2)))
     ·cases g:(E (B5 (i ((F c d a b).1) ((F c d a b).2) ((F c d a b).1) ((F c d a b).2))>262144))
      ·cases h:(E (j ((F c d a b).1) ((F c d a b).2) ((F ex e a b).1) ((F ex e a b).2)<=0))
       ·exact N (r := A D (B5 (i ((F c d a b).1) ((F c d a b).2) ((F c d a b).1) ((F c d a b).2)))) (ps:=[(!(v a b 1048576))=false,(!(v c d 1048576))=false,(!(v ex e 1048576))=false,0<=i ((F c d a b).1) ((F c d a b).2) ((F c d a b).1) ((F c d a b).2)/\i ((F c d a b).1) ((F c d a b).2) ((F c d a b).1) ((F c d a b).2)<=9223372036854775807,((J D (B5 (i ((F c d a b).1) ((F c d a b).2) ((F c d a b).1) ((F c d a b).2))*B5 (i ((F c d a b).1) ((F c d a b).2) ((F c d a b).1) ((F c d a b).2)))) != (i ((F c d a b).1) ((F c d a b).2) ((F c d a b).1) ((F c d a b).2)))=false,((i ((F c d a b).1) ((F c d a b).2) ((F c d a b).1) ((F c d a b).2)) != (i ((F ex e a b).1) ((F ex e a b).2) ((F ex e a b).1) ((F ex e a b).2)))=false,E (B5 (i ((F c d a b).1) ((F c d a b).2) ((F c d a b).1) ((F c d a b).2))>262144)=false,E (j ((F c d a b).1) ((F c d a b).2) ((F ex e a b).1) ((F ex e a b).2)<=0)=false]) FH rfl 300 rfl [Y,Y,Y,Y,Y,Y,Y] (by kernel_rfl) ⟨(by rw[c1];rfl),(by rw[c2];rfl),(by rw[c3];rfl),NL _ _,c4,f,g,h,trivial⟩
       ·exact N (r := A D 0) (ps:=[(!(v a b 1048576))=false,(!(v c d 1048576))=false,(!(v ex e 1048576))=false,0<=i ((F c d a b).1) ((F c d a b).2) ((F c d a b).1) ((F c d a b).2)/\i ((F c d a b).1) ((F c d a b).2) ((F c d a b).1) ((F c d a b).2)<=9223372036854775807,((J D (B5 (i ((F c d a b).1) ((F c d a b).2) ((F c d a b).1) ((F c d a b).2))*B5 (i ((F c d a b).1) ((F c d a b).2) ((F c d a b).1) ((F c d a b).2)))) != (i ((F c d a b).1) ((F c d a b).2) ((F c d a b).1) ((F c d a b).2)))=false,((i ((F c d a b).1) ((F c d a b).2) ((F c d a b).1) ((F c d a b).2)) != (i ((F ex e a b).1) ((F ex e a b).2) ((F ex e a b).1) ((F ex e a b).2)))=false,E (B5 (i ((F c d a b).1) ((F c d a b).2) ((F c d a b).1) ((F c d a b).2))>262144)=false,E (j ((F c d a b).1) ((F c d a b).2) ((F ex e a b).1) ((F ex e a b).2)<=0)=true]) FH rfl 300 rfl [Y,Y,Y,Y,Y,Y,q] (by kernel_rfl) ⟨(by rw[c1];rfl),(by rw[c2];rfl),(by rw[c3];rfl),NL _ _,c4,f,g,h,trivial⟩
      ·exact N (r := A D 0) (ps:=[(!(v a b 1048576))=false,(!(v c d 1048576))=false,(!(v ex e 1048576))=false,0<=i ((F c d a b).1) ((F c d a b).2) ((F c d a b).1) ((F c d a b).2)/\i ((F c d a b).1) ((F c d a b).2) ((F c d a b).1) ((F c d a b).2)<=9223372036854775807,((J D (B5 (i ((F c d a b).1) ((F c d a b).2) ((F c d a b).1) ((F c d a b).2))*B5 (i ((F c d a b).1) ((F c d a b).2) ((F c d a b).1) ((F c d a b).2)))) != (i ((F c d a b).1) ((F c d a b).2) ((F c d a b).1) ((F c d a b).2)))=false,((i ((F c d a b).1) ((F c d a b).2) ((F c d a b).1) ((F c d a b).2)) != (i ((F ex e a b).1) ((F ex e a b).2) ((F ex e a b).1) ((F ex e a b).2)))=false,E (B5 (i ((F c d a b).1) ((F c d a b).2) ((F c d a b).1) ((F c d a b).2))>262144)=true,true=true]) FH rfl 300 rfl [Y,Y,Y,Y,Y,q,q] (by kernel_rfl) ⟨(by rw[c1];rfl),(by rw[c2];rfl),(by rw[c3];rfl),NL _ _,c4,f,g,rfl,trivial⟩
     ·exact N (r := A D 0) (ps:=[(!(v a b 1048576))=false,(!(v c d 1048576))=false,(!(v ex e 1048576))=false,0<=i ((F c d a b).1) ((F c d a b).2) ((F c d a b).1) ((F c d a b).2)/\i ((F c d a b).1) ((F c d a b).2) ((F c d a b).1) ((F c d a b).2)<=9223372036854775807,((J D (B5 (i ((F c d a b).1) ((F c d a b).2) ((F c d a b).1) ((F c d a b).2))*B5 (i ((F c d a b).1) ((F c d a b).2) ((F c d a b).1) ((F c d a b).2)))) != (i ((F c d a b).1) ((F c d a b).2) ((F c d a b).1) ((F c d a b).2)))=false,((i ((F c d a b).1) ((F c d a b).2) ((F c d a b).1) ((F c d a b).2)) != (i ((F ex e a b).1) ((F ex e a b).2) ((F ex e a b).1) ((F ex e a b).2)))=true,true=true,true=true]) FH rfl 300 rfl [Y,Y,Y,Y,q,q,q] (by kernel_rfl) ⟨(by rw[c1];rfl),(by rw[c2];rfl),(by rw[c3];rfl),NL _ _,c4,f,rfl,rfl,trivial⟩
    ·exact N (r := A D 0) (ps:=[(!(v a b 1048576))=false,(!(v c d 1048576))=false,(!(v ex e 1048576))=false,0<=i ((F c d a b).1) ((F c d a b).2) ((F c d a b).1) ((F c d a b).2)/\i ((F c d a b).1) ((F c d a b).2) ((F c d a b).1) ((F c d a b).2)<=9223372036854775807,((J D (B5 (i ((F c d a b).1) ((F c d a b).2) ((F c d a b).1) ((F c d a b).2))*B5 (i ((F c d a b).1) ((F c d a b).2) ((F c d a b).1) ((F c d a b).2)))) != (i ((F c d a b).1) ((F c d a b).2) ((F c d a b).1) ((F c d a b).2)))=true,true=true,true=true,true=true]) FH rfl 300 rfl [Y,Y,Y,q,q,q,q] (by kernel_rfl) ⟨(by rw[c1];rfl),(by rw[c2];rfl),(by rw[c3];rfl),NL _ _,c4,rfl,rfl,rfl,trivial⟩
def Awj:u->Option (AV × List Prop)
 | [M [.str _,A D _,A D a,A D b,A D c,A D d,A D ex,A D e,A D _,A D _,A D _,A D _]]=>some (A D (EJ a b c d ex e),[])
 | _=>none
def TJ2:Bo:=(176,Awj)::TJ1
theorem V5:AQ Cy TJ2:=AQ.cons FH (by
 intro args r ps h a;unfold Awj at h;split at h
 ·cases h;exact V4 _ _ _ _ _ _ _ _ _ _ _ _ 
 ·cases h)
def Bg(a b c d ex e:Int):Int × Bool :=
 (EJ a b c d ex e,E (EJ a b c d ex e>0))
theorem Asx(f:ByteArray)(g a b c d ex e rs h i j:Int)  : RQ 76 [M [.str f,A D g,A D a,A D b,A D c,A D d,A D ex,A D e,A D rs,A D h,A D i,A D j]] (Dj [A D ((Bg a b c d ex e).1),I ((Bg a b c d ex e).2)]):=by
 unfold Bg;exact N (r := Dj [A D (EJ a b c d ex e),I (E (EJ a b c d ex e>0))]) (ps:=[]) V5 rfl 300 rfl [] (by kernel_rfl) trivial
def g76:u->Option (AV × List Prop)
 | [M [.str _,A D _,A D a,A D b,A D c,A D d,A D ex,A D e,A D _,A D _,A D _,A D _]]=>some (Dj [A D ((Bg a b c d ex e).1),I ((Bg a b c d ex e).2)],[])
 | _=>none
def TJ3:Bo:=(76,g76)::TJ2
theorem JL:AQ Cy TJ3:=AQ.cons V5 (by
 intro args r ps h a;unfold g76 at h;split at h
 ·cases h;exact Asx _ _ _ _ _ _ _ _ _ _ _ _ 
 ·cases h)
def PA(x y:Int):Bool :=
 match decide (x<(-536870912)) with
 | true=>(true)
 | false=>(match decide (x>536870912) with
 | true=>(true)
 | false=>(match decide (y<(-536870912)) with
 | true=>(true)
 | false=>((E (y>536870912)))))
theorem Ako(x y:Int)  : RQ 229 [M [A D x,A D y]] (I (PA x y)):=by
 unfold PA;cases c1:(E (x<(-536870912)))
 ·cases c2:(E (x>536870912))
  ·cases c3:(E (y<(-536870912)))
   ·exact N (r := I (E (y>536870912))) (ps:=[E (x<(-536870912))=false,E (x>536870912)=false,E (y<(-536870912))=false]) JL rfl 300 rfl [Y,Y,Y] (by kernel_rfl) ⟨c1,c2,c3,trivial⟩
   ·exact N (r := I true) (ps:=[E (x<(-536870912))=false,E (x>536870912)=false,E (y<(-536870912))=true]) JL rfl 300 rfl [Y,Y,q] (by kernel_rfl) ⟨c1,c2,c3,trivial⟩
  ·exact N (r := I true) (ps:=[E (x<(-536870912))=false,E (x>536870912)=true,true=true]) JL rfl 300 rfl [Y,q,q] (by kernel_rfl) ⟨c1,c2,rfl,trivial⟩
 ·exact N (r := I true) (ps:=[E (x<(-536870912))=true,true=true,true=true]) JL rfl 300 rfl [q,q,q] (by kernel_rfl) ⟨c1,rfl,rfl,trivial⟩
def Awk:u->Option (AV × List Prop)
 | [M [A D x,A D y]]=>some (I (PA x y),[])
 | _=>none
def TJ4:Bo:=(229,Awk)::TJ3
theorem JM:AQ Cy TJ4:=AQ.cons JL (by
 intro args r ps h a;unfold Awk at h;split at h
 ·cases h;exact Ako _ _ 
 ·cases h)
def GZ(a b e f ex g c d:Int):Bool :=
 match (Bg a b e f ex g).2 with
 | true=>(match PA c d with
 | true=>(false)
 | false=>(match decide (j ((F e f a b).1) ((F e f a b).2) ((F c d ((B7 a b 256).1) ((B7 a b 256).2)).1) ((F c d ((B7 a b 256).1) ((B7 a b 256).2)).2)>0) with
 | true=>((E (j ((F c d ((B7 a b 256).1) ((B7 a b 256).2)).1) ((F c d ((B7 a b 256).1) ((B7 a b 256).2)).2) ((F ex g a b).1) ((F ex g a b).2)>0)))
 | false=>false))
 | false=>false
theorem Akp(h:ByteArray)(i a b e f ex g rs k l m c d:Int)  : RQ 149 [M [.str h,A D i,A D a,A D b,A D e,A D f,A D ex,A D g,A D rs,A D k,A D l,A D m],M [A D c,A D d]] (I (GZ a b e f ex g c d)):=by
 unfold GZ;cases c1:((Bg a b e f ex g).2)
 ·exact N (r := I false) (ps:=[(!((Bg a b e f ex g).2))=true,true=true]) JM rfl 300 rfl [q,q] (by kernel_rfl) ⟨(by rw[c1];rfl),rfl,trivial⟩
 ·cases c2:(PA c d)
  ·cases c3:(E (j ((F e f a b).1) ((F e f a b).2) ((F c d ((B7 a b 256).1) ((B7 a b 256).2)).1) ((F c d ((B7 a b 256).1) ((B7 a b 256).2)).2)>0))
   ·exact N (r := I false) (ps:=[(!((Bg a b e f ex g).2))=false,PA c d=false,E (j ((F e f a b).1) ((F e f a b).2) ((F c d ((B7 a b 256).1) ((B7 a b 256).2)).1) ((F c d ((B7 a b 256).1) ((B7 a b 256).2)).2)>0)=false]) JM rfl 300 rfl [Y,Y,Y] (by kernel_rfl) ⟨(by rw[c1];rfl),c2,c3,trivial⟩
   ·exact N (r := I (E (j ((F c d ((B7 a b 256).1) ((B7 a b 256).2)).1) ((F c d ((B7 a b 256).1) ((B7 a b 256).2)).2) ((F ex g a b).1) ((F ex g a b).2)>0))) (ps:=[(!((Bg a b e f ex g).2))=false,PA c d=false,E (j ((F e f a b).1) ((F e f a b).2) ((F c d ((B7 a b 256).1) ((B7 a b 256).2)).1) ((F c d ((B7 a b 256).1) ((B7 a b 256).2)).2)>0)=true]) JM rfl 300 rfl [Y,Y,q] (by kernel_rfl) ⟨(by rw[c1];rfl),c2,c3,trivial⟩
  ·exact N (r := I false) (ps:=[(!((Bg a b e f ex g).2))=false,PA c d=true]) JM rfl 300 rfl [Y,q] (by kernel_rfl) ⟨(by rw[c1];rfl),c2,trivial⟩
def Awl:u->Option (AV × List Prop)
 | [M [.str _,A D _,A D a,A D b,A D c,A D d,A D ex,A D e,A D _,A D _,A D _,A D _],M [A D f,A D g]]=>some (I (GZ a b c d ex e f g),[])
 | _=>none
def TJ5:Bo:=(149,Awl)::TJ4
theorem DU:AQ Cy TJ5:=AQ.cons JM (by
 intro args r ps h a;unfold Awl at h;split at h
 ·cases h;exact Akp _ _ _ _ _ _ _ _ _ _ _ _ _ _ 
 ·cases h)
def Ls(px py a b c d ex e f:Int):Bool :=
 match (Bg a b c d ex e).2 with
 | true=>(match decide (f<1) with
 | true=>(false)
 | false=>(match decide (f>=((Bg a b c d ex e).1)) with
 | true=>(false)
 | false=>(match decide (px<(-2097152)) with
 | true=>(false)
 | false=>(match decide (px>2097152) with
 | true=>(false)
 | false=>(match decide (py<(-2097152)) with
 | true=>(false)
 | false=>(match decide (py>2097152) with
 | true=>(false)
 | false=>(match BS px py c d f with
 | true=>(true)
 | false=>(match BS px py ex e f with
 | true=>(true)
 | false=>(match GZ a b c d ex e ((B7 px py 256).1) ((B7 px py 256).2) with
 | true=>(match decide (i ((F px py a b).1) ((F px py a b).2) ((F px py a b).1) ((F px py a b).2)<J D (J D (((Bg a b c d ex e).1)+f)*J D (((Bg a b c d ex e).1)+f))) with
 | true=>((E (i ((F px py a b).1) ((F px py a b).2) ((F px py a b).1) ((F px py a b).2)>J D (J D (((Bg a b c d ex e).1)-f)*J D (((Bg a b c d ex e).1)-f)))))
 | false=>false)
 | false=>false)))))))))
 | false=>false
theorem yC(px py:Int)(o:ByteArray)(p a b c d ex f rs s t u e:Int)  : RQ 65 [M [A D px,A D py],M [.str o,A D p,A D a,A D b,A D c,A D d,A D ex,A D f,A D rs,A D s,A D t,A D u],A D e] (I (Ls px py a b c d ex f e)):=by
 unfold Ls;cases c1:((Bg a b c d ex f).2)
 ·exact N (r := I false) (ps:=[(!((Bg a b c d ex f).2))=true,true=true,true=true,true=true,true=true,true=true,true=true]) DU rfl 300 rfl [q,q,q,q,q,q,q] (by kernel_rfl) ⟨(by rw[c1];rfl),rfl,rfl,rfl,rfl,rfl,rfl,trivial⟩
 ·cases c2:(E (e<1))
  ·cases c3:(E (e>=((Bg a b c d ex f).1)))
   ·cases c4:(E (px<(-2097152)))
    ·cases g:(E (px>2097152))
     ·cases h:(E (py<(-2097152)))
      ·cases j:(E (py>2097152))
       ·cases k:(BS px py c d e)
        ·cases l:(BS px py ex f e)
         ·cases m:(GZ a b c d ex f ((B7 px py 256).1) ((B7 px py 256).2))
          ·exact N (r := I false) (ps:=[(!((Bg a b c d ex f).2))=false,E (e<1)=false,E (e>=((Bg a b c d ex f).1))=false,E (px<(-2097152))=false,E (px>2097152)=false,E (py<(-2097152))=false,E (py>2097152)=false,BS px py c d e=false,BS px py ex f e=false,GZ a b c d ex f ((B7 px py 256).1) ((B7 px py 256).2)=false,false=false]) DU rfl 300 rfl [Y,Y,Y,Y,Y,Y,Y,Y,Y,Y,Y] (by kernel_rfl) ⟨(by rw[c1];rfl),c2,c3,c4,g,h,j,k,l,m,rfl,trivial⟩
          ·cases n:(E (i ((F px py a b).1) ((F px py a b).2) ((F px py a b).1) ((F px py a b).2)<J D (J D (((Bg a b c d ex f).1)+e)*J D (((Bg a b c d ex f).1)+e))))
           ·exact N (r := I false) (ps:=[(!((Bg a b c d ex f).2))=false,E (e<1)=false,E (e>=((Bg a b c d ex f).1))=false,E (px<(-2097152))=false,E (px>2097152)=false,E (py<(-2097152))=false,E (py>2097152)=false,BS px py c d e=false,BS px py ex f e=false,GZ a b c d ex f ((B7 px py 256).1) ((B7 px py 256).2)=true,E (i ((F px py a b).1) ((F px py a b).2) ((F px py a b).1) ((F px py a b).2)<J D (J D (((Bg a b c d ex f).1)+e)*J D (((Bg a b c d ex f).1)+e)))=false]) DU rfl 300 rfl [Y,Y,Y,Y,Y,Y,Y,Y,Y,q,Y] (by kernel_rfl) ⟨(by rw[c1];rfl),c2,c3,c4,g,h,j,k,l,m,n,trivial⟩
           ·exact N (r := I (E (i ((F px py a b).1) ((F px py a b).2) ((F px py a b).1) ((F px py a b).2)>J D (J D (((Bg a b c d ex f).1)-e)*J D (((Bg a b c d ex f).1)-e))))) (ps:=[(!((Bg a b c d ex f).2))=false,E (e<1)=false,E (e>=((Bg a b c d ex f).1))=false,E (px<(-2097152))=false,E (px>2097152)=false,E (py<(-2097152))=false,E (py>2097152)=false,BS px py c d e=false,BS px py ex f e=false,GZ a b c d ex f ((B7 px py 256).1) ((B7 px py 256).2)=true,E (i ((F px py a b).1) ((F px py a b).2) ((F px py a b).1) ((F px py a b).2)<J D (J D (((Bg a b c d ex f).1)+e)*J D (((Bg a b c d ex f).1)+e)))=true]) DU rfl 300 rfl [Y,Y,Y,Y,Y,Y,Y,Y,Y,q,q] (by kernel_rfl) ⟨(by rw[c1];rfl),c2,c3,c4,g,h,j,k,l,m,n,trivial⟩
         ·exact N (r := I true) (ps:=[(!((Bg a b c d ex f).2))=false,E (e<1)=false,E (e>=((Bg a b c d ex f).1))=false,E (px<(-2097152))=false,E (px>2097152)=false,E (py<(-2097152))=false,E (py>2097152)=false,BS px py c d e=false,BS px py ex f e=true]) DU rfl 300 rfl [Y,Y,Y,Y,Y,Y,Y,Y,q] (by kernel_rfl) ⟨(by rw[c1];rfl),c2,c3,c4,g,h,j,k,l,trivial⟩
        ·exact N (r := I true) (ps:=[(!((Bg a b c d ex f).2))=false,E (e<1)=false,E (e>=((Bg a b c d ex f).1))=false,E (px<(-2097152))=false,E (px>2097152)=false,E (py<(-2097152))=false,E (py>2097152)=false,BS px py c d e=true,true=true]) DU rfl 300 rfl [Y,Y,Y,Y,Y,Y,Y,q,q] (by kernel_rfl) ⟨(by rw[c1];rfl),c2,c3,c4,g,h,j,k,rfl,trivial⟩
       ·exact N (r := I false) (ps:=[(!((Bg a b c d ex f).2))=false,E (e<1)=false,E (e>=((Bg a b c d ex f).1))=false,E (px<(-2097152))=false,E (px>2097152)=false,E (py<(-2097152))=false,E (py>2097152)=true]) DU rfl 300 rfl [Y,Y,Y,Y,Y,Y,q] (by kernel_rfl) ⟨(by rw[c1];rfl),c2,c3,c4,g,h,j,trivial⟩
      ·exact N (r := I false) (ps:=[(!((Bg a b c d ex f).2))=false,E (e<1)=false,E (e>=((Bg a b c d ex f).1))=false,E (px<(-2097152))=false,E (px>2097152)=false,E (py<(-2097152))=true,true=true]) DU rfl 300 rfl [Y,Y,Y,Y,Y,q,q] (by kernel_rfl) ⟨(by rw[c1];rfl),c2,c3,c4,g,h,rfl,trivial⟩
     ·exact N (r := I false) (ps:=[(!((Bg a b c d ex f).2))=false,E (e<1)=false,E (e>=((Bg a b c d ex f).1))=false,E (px<(-2097152))=false,E (px>2097152)=true,true=true,true=true]) DU rfl 300 rfl [Y,Y,Y,Y,q,q,q] (by kernel_rfl) ⟨(by rw[c1];rfl),c2,c3,c4,g,rfl,rfl,trivial⟩
    ·exact N (r := I false) (ps:=[(!((Bg a b c d ex f).2))=false,E (e<1)=false,E (e>=((Bg a b c d ex f).1))=false,E (px<(-2097152))=true,true=true,true=true,true=true]) DU rfl 300 rfl [Y,Y,Y,q,q,q,q] (by kernel_rfl) ⟨(by rw[c1];rfl),c2,c3,c4,rfl,rfl,rfl,trivial⟩
   ·exact N (r := I false) (ps:=[(!((Bg a b c d ex f).2))=false,E (e<1)=false,E (e>=((Bg a b c d ex f).1))=true,true=true,true=true,true=true,true=true]) DU rfl 300 rfl [Y,Y,q,q,q,q,q] (by kernel_rfl) ⟨(by rw[c1];rfl),c2,c3,rfl,rfl,rfl,rfl,trivial⟩
  ·exact N (r := I false) (ps:=[(!((Bg a b c d ex f).2))=false,E (e<1)=true,true=true,true=true,true=true,true=true,true=true]) DU rfl 300 rfl [Y,q,q,q,q,q,q] (by kernel_rfl) ⟨(by rw[c1];rfl),c2,rfl,rfl,rfl,rfl,rfl,trivial⟩
def g65:u->Option (AV × List Prop)
 | [M [A D px,A D py],M [.str _,A D _,A D a,A D b,A D c,A D d,A D ex,A D e,A D _,A D _,A D _,A D _],A D f]=>some (I (Ls px py a b c d ex e f),[])
 | _=>none
def TJ6:Bo:=(65,g65)::TJ5
theorem tH:AQ Cy TJ6:=AQ.cons DU (by
 intro args r ps h a;unfold g65 at h;split at h
 ·cases h;exact yC _ _ _ _ _ _ _ _ _ _ _ _ _ _ _ 
 ·cases h)
def Akq:Bo:=TJ6
theorem Mi:AQ Cy Akq:=tH
def Ce(c:Int):Bool :=
 match decide (c>=97) with
 | true=>((E (c<=122)))
 | false=>false
theorem JN(c:Int)  : RQ 221 [A .u8 c] (I (Ce c)):=by
 unfold Ce;cases c1:(E (c>=97))
 ·exact N (r := I false) (ps:=[E (c>=97)=false]) Mi rfl 300 rfl [Y] (by kernel_rfl) ⟨c1,trivial⟩
 ·exact N (r := I (E (c<=122))) (ps:=[E (c>=97)=true]) Mi rfl 300 rfl [q] (by kernel_rfl) ⟨c1,trivial⟩
def Awm:u->Option (AV × List Prop)
 | [A .u8 c]=>some (I (Ce c),[])
 | _=>none
def TQ1:Bo:=(221,Awm)::Akq
theorem V6:AQ Cy TQ1:=AQ.cons Mi (by
 intro args r ps h a;unfold Awm at h;split at h
 ·cases h;exact JN _ 
 ·cases h)
def HJ(c:Int):Bool :=
 match decide (c>=48) with
 | true=>((E (c<=57)))
 | false=>false
theorem kI(c:Int)  : RQ 222 [A .u8 c] (I (HJ c)):=by
 unfold HJ;cases c1:(E (c>=48))
 ·exact N (r := I false) (ps:=[E (c>=48)=false]) V6 rfl 300 rfl [Y] (by kernel_rfl) ⟨c1,trivial⟩
 ·exact N (r := I (E (c<=57))) (ps:=[E (c>=48)=true]) V6 rfl 300 rfl [q] (by kernel_rfl) ⟨c1,trivial⟩
theorem r:AQ Cy []:=AQ.nil _
def kJ(a b:Int):List El:=[⟨⟨#[115,111,117,116,104]⟩,[1,0,J D (0-a),J D (0-a),a,J D (0-a),b,0,0,0,-1,-1],false⟩,
 ⟨⟨#[101,97,115,116]⟩,[1,0,a,J D (0-a),a,a,b,0,0,0,-1,-1],false⟩,
 ⟨⟨#[110,111,114,116,104]⟩,[1,0,a,a,J D (0-a),a,b,0,0,0,-1,-1],false⟩,
 ⟨⟨#[119,101,115,116]⟩,[1,0,J D (0-a),a,J D (0-a),J D (0-a),b,0,0,0,-1,-1],false⟩]
def V7(a b:Int):u:=H cW (kJ a b)
theorem yD(a b:Int):RQ 39 [A D a,A D b] (P 13 4 (V7 a b)):=Asl a b
def Akr(t:Tbl)(l:LI)(a:Int):V:=W 2 (Q [A D 0,A D 0,A D 0,A D 0,A D 0,A D 0,A D 0,G 0 [],G 0 [],G 0 [],G 0 [],G 0 [],G 0 [],G 0 [],G 0 [],G 0 [],G 0 [],G 0 []]::Q [G (C l) (li l),A D a]::Q [A D t.r0,A D t.r1,A D t.r2,A D t.r3,A D t.r4,A D t.r5,A D t.r6,.nil,.nil,.nil,.nil,.nil,.nil,.nil,.nil,.nil,.nil,.nil]::W 144 [])
def Awn(l:LI):V:=X (G (C l) (li l))::W 1 (Q [A D 0,A D 0,A D 0,A D 0,A D 0,A D 0,A D 0,G 0 [],G 0 [],G 0 [],G 0 [],G 0 [],G 0 [],G 0 [],G 0 [],G 0 [],G 0 [],G 0 []]::W 146 [])
def Awo(l:LI)(a:Int):V:=W 2 (Q [A D 0,A D 0,A D 0,A D 0,A D 0,A D 0,A D 0,G 0 [],G 0 [],G 0 [],G 0 [],G 0 [],G 0 [],G 0 [],G 0 [],G 0 [],G 0 [],G 0 []]::Q [G (C l) (li l),A D a]::W 145 [])
def Aks:ICode := .region false [o1 2 (.new [.int .i64 0,.int .i64 0,.int .i64 0,.int .i64 0,.int .i64 0,.int .i64 0,.int .i64 0,.sl 0 [],.sl 0 [],.sl 0 [],.sl 0 [],.sl 0 [],.sl 0 [],.sl 0 [],.sl 0 [],.sl 0 [],.sl 0 [],.sl 0 []] [])]
theorem Adf(l:LI)   : w Aks (CX (iF g UQ) [G (C l) (li l)]) .norm (Awn l):=B r [] [0,2] a0
def Akt:ICode := .region false [oM 13 0,o1 14 (.clo 36 [.t 13]),⟨some 3,.tra 14,none,[15,17,19,21,23,27,30,46,49,53,59,70,78,80,82,84,86,89,92,95,98,108,111,123,129,140]⟩]
theorem Adg(l:LI)   : w Akt (Awn l) .norm (Awo l 0):=B r [.r (.gb (c l 0))] [2,3] (Bp (show RQ 36 [G (C l) (li l)] (.gb (c l 0)) from xP l))
def Aku:ICode := .region false [o1 15 (.mvp 3 3),o1 16 (.cab 37 15 3 [.c (.int .i64 64),.c (.int .i64 200)]),o1 17 (.mvp 3 3),o1 18 (.cab 37 17 3 [.c (.int .i64 1),.c (.int .i64 3)]),o1 19 (.mvp 3 3),o1 20 (.cab 38 19 3 [.c (.int .i64 16)]),o1 21 (.mvp 3 3),o1 22 (.cab 37 21 3 [.c (.int .i64 (-3)),.c (.int .i64 3)]),o1 23 (.mvp 3 3),o1 24 (.cab 38 23 3 [.c (.int .i64 30)]),o1 25 (.un .neg (.t 24)),o1 26 (.bld [.int .i64 0,.int .i64 0] [(0,1,.t 22),(1,1,.t 25)]),o1 27 (.mvp 3 3),o1 28 (.cab 38 27 3 [.c (.int .i64 3)]),o1 29 (.bin .mul (.c (.int .i64 5)) (.t 28)),o1 30 (.mvp 3 3),o1 31 (.cab 37 30 3 [.c (.int .i64 2),.c (.int .i64 8)]),o1 32 (.bld [.int .i64 0,.int .i64 0,.int .i64 0,.int .i64 0,.int .i64 0,.int .i64 0,.int .i64 0,.nil,.nil,.nil,.nil,.nil,.nil,.nil,.nil,.nil,.nil,.nil] [(0,1,.t 16),(1,1,.t 18),(2,1,.t 20),(3,2,.t 26),(5,1,.t 29),(6,1,.t 31)]),o1 4 (.new [.int .i64 0,.int .i64 0,.int .i64 0,.int .i64 0,.int .i64 0,.int .i64 0,.int .i64 0,.nil,.nil,.nil,.nil,.nil,.nil,.nil,.nil,.nil,.nil,.nil] [34,39,45,52,64,69,102,107,112,117,122,134,139]),oN (.st 4 4 18 (.t 32))]
theorem Adh(l:LI)(q a b d e f g h i j k m n o p:Int)(t:Tbl)(s:RQ 37 [.gb (c l q),A D 64,A D 200] (.io (c l a) (A D b)))(u:RQ 37 [.gb (c l a),A D 1,A D 3] (.io (c l d) (A D e)))(v:RQ 38 [.gb (c l d),A D 16] (.io (c l f) (A D g)))(x:RQ 37 [.gb (c l f),A D (-3),A D 3] (.io (c l h) (A D i)))(y:RQ 38 [.gb (c l h),A D 30] (.io (c l j) (A D k)))(z:RQ 38 [.gb (c l j),A D 3] (.io (c l m) (A D n)))(C:RQ 37 [.gb (c l m),A D 2,A D 8] (.io (c l o) (A D p))):w Aku (Awo l q) .norm (Akr ({ t with r0:=b,r1:=e,r2:=g,r3:=i,r4:=J D (0-k),r5:=J D (5*n),r6:=p }) l o):=B r [.r (.io (c l a) (A D b)),.r (.io (c l d) (A D e)),.r (.io (c l f) (A D g)),.r (.io (c l h) (A D i)),.r (.io (c l j) (A D k)),.r (.io (c l m) (A D n)),.r (.io (c l o) (A D p))] [2,3,4] (Jn s u v x y z C)
section
variable(t:Tbl)(l:LI)(a:Int)
def Akv(i:Int):V:=W 2 (Q [A D 0,A D 0,A D 0,A D 0,A D 0,A D 0,A D 0,G 0 [],G 0 [],G 0 [],G 0 [],G 0 [],G 0 [],G 0 [],G 0 [],G 0 [],G 0 [],G 0 []]::Q [G (C l) (li l),A D a]::Q [A D t.r0,A D t.r1,A D t.r2,A D t.r3,A D t.r4,A D t.r5,A D t.r6,.nil,.nil,.nil,.nil,.nil,.nil,.nil,.nil,.nil,.nil,.nil]::vi i::W 143 [])
def Mj(os:LI)(i:Int):V:=W 2 (Q [A D 0,A D 0,A D 0,A D 0,A D 0,A D 0,A D 0,G 0 [],G 0 [],G 0 [],G 0 [],G 0 [],G 0 [],G 0 [],G 0 [],G 0 [],G 0 [],G 0 []]::Q [G (C l) (li l),A D a]::.bxh [A D t.r0,A D t.r1,A D t.r2,A D t.r3,A D t.r4,A D t.r5,A D t.r6,.undef,.nil,.nil,.nil,.nil,.nil,.nil,.nil,.nil,.nil,.nil] [(7,44)]::vi i::W 38 (An 1 (C os) (H cI os)::W 104 []))
def cN(b:Nat)(co:u)(i:Int):V:=W 2 (Q [A D 0,A D 0,A D 0,A D 0,A D 0,A D 0,A D 0,G 0 [],G 0 [],G 0 [],G 0 [],G 0 [],G 0 [],G 0 [],G 0 [],G 0 [],G 0 [],G 0 []]::Q [G (C l) (li l),A D a]::.bxh [A D t.r0,A D t.r1,A D t.r2,A D t.r3,A D t.r4,A D t.r5,A D t.r6,.undef,.nil,.nil,.nil,.nil,.nil,.nil,.nil,.nil,.nil,.nil] [(7,44)]::vi i::W 38 (An 1 b co::W 104 []))
end
def NM:ICode:=CG UQ 92 244
section
variable(t:Tbl)(l:LI)(a:Int)
theorem kK(i:Int)(c1:E (i<t.r1)=true):w NM (Akv t l a i) .norm (cN t l a 1 ([A D (J D (10+i))]:u) (J D (i+1))):=B r [q] [2,3,4,5,44] (Im c1 (show C ([A D (J D (10+i))]:u)=1*1 from rfl) TI)
theorem cQ(os:LI)(i:Int)(c1:E (i<t.r1)=true)(b:C os+1<=1048576):w NM (Mj t l a os i) .norm (cN t l a (C os+1) (H cI os++([A D (J D (10+i))]:u)) (J D (i+1))):=B r [q] [2,3,4,5,44] (Im c1 (show C ([A D (J D (10+i))]:u)=1*1 from rfl) b)
theorem cT(os:LI)(i:Int)(c1:E (i<t.r1)=false):w NM (Mj t l a os i) xZ0 (Mj t l a os i):=B r [Y] [2,3,4,5,44] (Bp c1)
def Akw(os:LI):V:=W 2 (Q [A D 0,A D 0,A D 0,A D 0,A D 0,A D 0,A D 0,G 0 [],G 0 [],G 0 [],G 0 [],G 0 [],G 0 [],G 0 [],G 0 [],G 0 [],G 0 [],G 0 []]::Q [G (C l) (li l),A D a]::.bxh [A D t.r0,A D t.r1,A D t.r2,A D t.r3,A D t.r4,A D t.r5,A D t.r6,.undef,.nil,.nil,.nil,.nil,.nil,.nil,.nil,.nil,.nil,.nil] [(7,44)]::W 39 (An 1 (C os) (H cI os)::W 104 []))
def Ys9c(c:Bool):V:=W 2 (Q [A D 0,A D 0,A D 0,A D 0,A D 0,A D 0,A D 0,G 0 [],G 0 [],G 0 [],G 0 [],G 0 [],G 0 [],G 0 [],G 0 [],G 0 [],G 0 [],G 0 []]::Q [G (C l) (li l),A D a]::Q [A D t.r0,A D t.r1,A D t.r2,A D t.r3,A D t.r4,A D t.r5,A D t.r6,G (C t.tr) (H cI t.tr),.nil,.nil,.nil,.nil,.nil,.nil,.nil,.nil,.nil,.nil]::W 43 (X (I c)::W 100 []))
def V8:V:=W 2 (Q [A D 0,A D 0,A D 0,A D 0,A D 0,A D 0,A D 0,G 0 [],G 0 [],G 0 [],G 0 [],G 0 [],G 0 [],G 0 [],G 0 [],G 0 [],G 0 [],G 0 []]::Q [G (C l) (li l),A D a]::Q [A D t.r0,A D t.r1,A D t.r2,A D t.r3,A D t.r4,A D t.r5,A D t.r6,G (C t.tr) (H cI t.tr),.nil,.nil,.nil,.nil,.nil,.nil,.nil,.nil,.nil,.nil]::W 144 [])
def Tv(os:List El):V:=W 2 (Q [A D 0,A D 0,A D 0,A D 0,A D 0,A D 0,A D 0,G 0 [],G 0 [],G 0 [],G 0 [],G 0 [],G 0 [],G 0 [],G 0 [],G 0 [],G 0 [],G 0 []]::Q [G (C l) (li l),A D a]::.bxh [A D t.r0,A D t.r1,A D t.r2,A D t.r3,A D t.r4,A D t.r5,A D t.r6,G (C t.tr) (H cI t.tr),.undef,.nil,.nil,.nil,.nil,.nil,.nil,.nil,.nil,.nil] [(8,51)]::W 46 (An 13 (C os) (H cW os)::W 97 []))
def Azm(d:Nat)(co:u):V:=W 2 (Q [A D 0,A D 0,A D 0,A D 0,A D 0,A D 0,A D 0,G 0 [],G 0 [],G 0 [],G 0 [],G 0 [],G 0 [],G 0 [],G 0 [],G 0 [],G 0 [],G 0 []]::Q [G (C l) (li l),A D a]::.bxh [A D t.r0,A D t.r1,A D t.r2,A D t.r3,A D t.r4,A D t.r5,A D t.r6,G (C t.tr) (H cI t.tr),.undef,.nil,.nil,.nil,.nil,.nil,.nil,.nil,.nil,.nil] [(8,51)]::W 46 (An 13 d co::W 97 []))
end
def yE:ICode := .region false [o1 46 (.mvf 3 4 [44,51,68,106,121,138] [7]),o1 47 (.cab 38 46 3 [.c (.int .i64 4)]),o1 48 (.bin .gtr (.t 47) (.c (.int .i64 0)))]
theorem tI(t:Tbl)(l:LI)(d:Int)(os:LI)(a b:Int)(e:RQ 38 [.gb (c l d),A D 4] (.io (c l a) (A D b))):w yE (Akw t l d os) .norm (Ys9c ({ t with tr:=os }) l a (E (b>0))):=B r [.r (.io (c l a) (A D b))] [2,3,4,48] (Bp e)
def yF:ICode := .region false [o1 49 (.mvp 3 3),o1 50 (.cab 38 49 3 [.c (.int .i64 16)]),⟨some 51,.clw 39 [.c (.int .i64 3000),.t 50] 51 [4],none,[35,40,65,103,113,118,135]⟩,o1 52 (.adr 4 4 8),oN (.sth 52 4 51)]
section
variable(t:Tbl)(l:LI)(a:Int)
theorem tJ(d b:Int)(e:RQ 38 [.gb (c l a),A D 16] (.io (c l d) (A D b))):w yF (V8 t l a) .norm (Azm t l d 4 (V7 3000 b)):=B r [.r (.io (c l d) (A D b)),.r (P 13 4 (V7 3000 b))] [2,3,4,51] (GY e (show RQ 39 [A D 3000,A D b] (P 13 4 (V7 3000 b)) from yD _ _))
def V9(i:Int):V:=W 2 (Q [A D 0,A D 0,A D 0,A D 0,A D 0,A D 0,A D 0,G 0 [],G 0 [],G 0 [],G 0 [],G 0 [],G 0 [],G 0 [],G 0 [],G 0 [],G 0 [],G 0 []]::Q [G (C l) (li l),A D a]::Q [A D t.r0,A D t.r1,A D t.r2,A D t.r3,A D t.r4,A D t.r5,A D t.r6,G (C t.tr) (H cI t.tr),.nil,.nil,.nil,.nil,.nil,.nil,.nil,.nil,.nil,.nil]::W 1 (vi i::W 142 []))
def kL(os:List El)(i:Int):V:=W 2 (Q [A D 0,A D 0,A D 0,A D 0,A D 0,A D 0,A D 0,G 0 [],G 0 [],G 0 [],G 0 [],G 0 [],G 0 [],G 0 [],G 0 [],G 0 [],G 0 [],G 0 []]::Q [G (C l) (li l),A D a]::.bxh [A D t.r0,A D t.r1,A D t.r2,A D t.r3,A D t.r4,A D t.r5,A D t.r6,G (C t.tr) (H cI t.tr),.undef,.nil,.nil,.nil,.nil,.nil,.nil,.nil,.nil,.nil] [(8,51)]::W 1 (vi i::W 44 (An 13 (C os) (H cW os)::W 97 [])))
def JO(os:List El)(i:Int):V:=W 2 (Q [A D 0,A D 0,A D 0,A D 0,A D 0,A D 0,A D 0,G 0 [],G 0 [],G 0 [],G 0 [],G 0 [],G 0 [],G 0 [],G 0 [],G 0 [],G 0 [],G 0 []]::Q [G (C l) (li l),A D a]::.bxh [A D t.r0,A D t.r1,A D t.r2,A D t.r3,A D t.r4,A D t.r5,A D t.r6,G (C t.tr) (H cI t.tr),.undef,.nil,.nil,.nil,.nil,.nil,.nil,.nil,.nil,.nil] [(8,68)]::W 1 (vi i::W 61 (An 13 (C os) (H cW os)::W 80 [])))
def VA(f:Nat)(co:u)(i:Int):V:=W 2 (Q [A D 0,A D 0,A D 0,A D 0,A D 0,A D 0,A D 0,G 0 [],G 0 [],G 0 [],G 0 [],G 0 [],G 0 [],G 0 [],G 0 [],G 0 [],G 0 [],G 0 []]::Q [G (C l) (li l),A D a]::.bxh [A D t.r0,A D t.r1,A D t.r2,A D t.r3,A D t.r4,A D t.r5,A D t.r6,G (C t.tr) (H cI t.tr),.undef,.nil,.nil,.nil,.nil,.nil,.nil,.nil,.nil,.nil] [(8,68)]::W 1 (vi i::W 61 (An 13 f co::W 80 [])))
def yG(os:List El):V:=W 2 (Q [A D 0,A D 0,A D 0,A D 0,A D 0,A D 0,A D 0,G 0 [],G 0 [],G 0 [],G 0 [],G 0 [],G 0 [],G 0 [],G 0 [],G 0 [],G 0 [],G 0 []]::Q [G (C l) (li l),A D a]::.bxh [A D t.r0,A D t.r1,A D t.r2,A D t.r3,A D t.r4,A D t.r5,A D t.r6,G (C t.tr) (H cI t.tr),.undef,.nil,.nil,.nil,.nil,.nil,.nil,.nil,.nil,.nil] [(8,68)]::W 63 (An 13 (C os) (H cW os)::W 80 []))
end
def OS:ICode := .region false [o1 53 (.mvp 3 3),o1 54 (.cab 38 53 3 [.c (.int .i64 4)]),oM 6 54]
theorem VB(t:Tbl)(l:LI)(d a b:Int)(e:RQ 38 [.gb (c l d),A D 4] (.io (c l a) (A D b))):w OS (V8 t l d) .norm (V9 t l a b):=B r [.r (.io (c l a) (A D b))] [2,3,4,6] (Bp e)
theorem tK(t:Tbl)(l:LI)(d:Int)(os:List El)(a b:Int)(e:RQ 38 [.gb (c l d),A D 4] (.io (c l a) (A D b))):w OS (Tv t l d os) .norm (kL t l a os b):=B r [.r (.io (c l a) (A D b))] [2,3,4,6,51] (Bp e)
def Hp:ICode:=CG UQ 90 1012
section
variable(t:Tbl)(l:LI)(a:Int)
theorem kM(i x b d e f g h j k m n o s:Int)(es v:ByteArray)(c1:E (i>0)=true)(y:RQ 40 [.gb (c l a)] (.io (c l x) (M [.str es,A D b,A D d,A D e,A D f,A D g,A D h,A D j,A D k,A D m,A D n,A D o,A D s])))(z:RQ 41 [.str ⟨#[119]⟩,A D i] (.str v)):w Hp (V9 t l a i) .norm (VA t l x 1 ([.str v,A D b,A D d,A D e,A D f,A D g,A D h,A D j,A D k,A D m,A D n,A D o,A D s]:u) (J D (i-1))):=B r [q,.r (.io (c l x) (M [.str es,A D b,A D d,A D e,A D f,A D g,A D h,A D j,A D k,A D m,A D n,A D o,A D s])),.r (.str v)] xL (GK c1 y z (show C ([.str v,A D b,A D d,A D e,A D f,A D g,A D h,A D j,A D k,A D m,A D n,A D o,A D s]:u)=1*13 from rfl) TI)
theorem kN(i:Int)(c1:E (i>0)=false):w Hp (V9 t l a i) xZ2 (V9 t l a i):=B r [Y] [2,3,4,6] (Bp c1)
theorem kO(os:List El)(i x b d e f g h j k m n o s:Int)(es v:ByteArray)(c1:E (i>0)=true)(y:C os+1<=1048576)(z:RQ 40 [.gb (c l a)] (.io (c l x) (M [.str es,A D b,A D d,A D e,A D f,A D g,A D h,A D j,A D k,A D m,A D n,A D o,A D s])))(F:RQ 41 [.str ⟨#[119]⟩,A D i] (.str v)):w Hp (kL t l a os i) .norm (VA t l x (C os+1) (H cW os++([.str v,A D b,A D d,A D e,A D f,A D g,A D h,A D j,A D k,A D m,A D n,A D o,A D s]:u)) (J D (i-1))):=B r [q,.r (.io (c l x) (M [.str es,A D b,A D d,A D e,A D f,A D g,A D h,A D j,A D k,A D m,A D n,A D o,A D s])),.r (.str v)] xL (GK c1 z F (show C ([.str v,A D b,A D d,A D e,A D f,A D g,A D h,A D j,A D k,A D m,A D n,A D o,A D s]:u)=1*13 from rfl) y)
theorem kP(os:List El)(i:Int)(c1:E (i>0)=false):w Hp (kL t l a os i) xZ2 (kL t l a os i):=B r [Y] [2,3,4,6,51] (Bp c1)
theorem cU(os:List El)(i x b d e f g h j k m n o s:Int)(es v:ByteArray)(c1:E (i>0)=true)(y:C os+1<=1048576)(z:RQ 40 [.gb (c l a)] (.io (c l x) (M [.str es,A D b,A D d,A D e,A D f,A D g,A D h,A D j,A D k,A D m,A D n,A D o,A D s])))(F:RQ 41 [.str ⟨#[119]⟩,A D i] (.str v)):w Hp (JO t l a os i) .norm (VA t l x (C os+1) (H cW os++([.str v,A D b,A D d,A D e,A D f,A D g,A D h,A D j,A D k,A D m,A D n,A D o,A D s]:u)) (J D (i-1))):=B r [q,.r (.io (c l x) (M [.str es,A D b,A D d,A D e,A D f,A D g,A D h,A D j,A D k,A D m,A D n,A D o,A D s])),.r (.str v)] xL (GK c1 z F (show C ([.str v,A D b,A D d,A D e,A D f,A D g,A D h,A D j,A D k,A D m,A D n,A D o,A D s]:u)=1*13 from rfl) y)
theorem cV(os:List El)(i:Int)(c1:E (i>0)=false):w Hp (JO t l a os i) xZ2 (JO t l a os i):=B r [Y] xL (Bp c1)
def NN(i:Int):V:=W 2 (Q [A D 0,A D 0,A D 0,A D 0,A D 0,A D 0,A D 0,G 0 [],G 0 [],G 0 [],G 0 [],G 0 [],G 0 [],G 0 [],G 0 [],G 0 [],G 0 [],G 0 []]::Q [G (C l) (li l),A D a]::Q [A D t.r0,A D t.r1,A D t.r2,A D t.r3,A D t.r4,A D t.r5,A D t.r6,G (C t.tr) (H cI t.tr),G (C t.ws) (H cW t.ws),.nil,.nil,.nil,.nil,.nil,.nil,.nil,.nil,.nil]::W 3 (vi i::W 140 []))
def JP(os:List El)(i:Int):V:=W 2 (Q [A D 0,A D 0,A D 0,A D 0,A D 0,A D 0,A D 0,G 0 [],G 0 [],G 0 [],G 0 [],G 0 [],G 0 [],G 0 [],G 0 [],G 0 [],G 0 [],G 0 []]::Q [G (C l) (li l),A D a]::.bxh [A D t.r0,A D t.r1,A D t.r2,A D t.r3,A D t.r4,A D t.r5,A D t.r6,G (C t.tr) (H cI t.tr),G (C t.ws) (H cW t.ws),.nil,.undef,.nil,.nil,.nil,.nil,.nil,.nil,.nil] [(10,106)]::W 3 (vi i::W 97 (An 11 (C os) (H p os)::W 42 [])))
def R_(I:Nat)(co:u)(i:Int):V:=W 2 (Q [A D 0,A D 0,A D 0,A D 0,A D 0,A D 0,A D 0,G 0 [],G 0 [],G 0 [],G 0 [],G 0 [],G 0 [],G 0 [],G 0 [],G 0 [],G 0 [],G 0 []]::Q [G (C l) (li l),A D a]::.bxh [A D t.r0,A D t.r1,A D t.r2,A D t.r3,A D t.r4,A D t.r5,A D t.r6,G (C t.tr) (H cI t.tr),G (C t.ws) (H cW t.ws),.nil,.undef,.nil,.nil,.nil,.nil,.nil,.nil,.nil] [(10,106)]::W 3 (vi i::W 97 (An 11 I co::W 42 [])))
def Akx:V:=W 2 (Q [A D 0,A D 0,A D 0,A D 0,A D 0,A D 0,A D 0,G 0 [],G 0 [],G 0 [],G 0 [],G 0 [],G 0 [],G 0 [],G 0 [],G 0 [],G 0 [],G 0 []]::Q [G (C l) (li l),A D a]::Q [A D t.r0,A D t.r1,A D t.r2,A D t.r3,A D t.r4,A D t.r5,A D t.r6,G (C t.tr) (H cI t.tr),G (C t.ws) (H cW t.ws),.nil,.nil,.nil,.nil,.nil,.nil,.nil,.nil,.nil]::W 144 [])
def Aky(os:List El):V:=W 2 (Q [A D 0,A D 0,A D 0,A D 0,A D 0,A D 0,A D 0,G 0 [],G 0 [],G 0 [],G 0 [],G 0 [],G 0 [],G 0 [],G 0 [],G 0 [],G 0 [],G 0 []]::Q [G (C l) (li l),A D a]::.bxh [A D t.r0,A D t.r1,A D t.r2,A D t.r3,A D t.r4,A D t.r5,A D t.r6,G (C t.tr) (H cI t.tr),G (C t.ws) (H cW t.ws),.nil,.undef,.nil,.nil,.nil,.nil,.nil,.nil,.nil] [(10,106)]::W 101 (An 11 (C os) (H p os)::W 42 []))
end
def OT:ICode := .region false [o1 70 (.mvf 3 4 [44,51,68,106,121,138] [7,8]),o1 71 (.cab 38 70 3 [.c (.int .i64 3)]),oM 8 71]
section
variable(t:Tbl)(l:LI)(d:Int)
theorem tL(a b:Int)(e:RQ 38 [.gb (c l d),A D 3] (.io (c l a) (A D b))):w OT (V8 t l d) .norm (NN ({ t with ws:=[] }) l a b):=B r [.r (.io (c l a) (A D b))] [2,3,4,8] (Bp e)
theorem tM(os:List El)(a b:Int)(e:RQ 38 [.gb (c l d),A D 3] (.io (c l a) (A D b))):w OT (Tv t l d os) .norm (NN ({ t with ws:=os }) l a b):=B r [.r (.io (c l a) (A D b))] [2,3,4,8] (Bp e)
theorem tN(os:List El)(a b:Int)(e:RQ 38 [.gb (c l d),A D 3] (.io (c l a) (A D b))):w OT (yG t l d os) .norm (NN ({ t with ws:=os }) l a b):=B r [.r (.io (c l a) (A D b))] [2,3,4,8] (Bp e)
end
def IW:ICode:=CG UQ 89 2036
section
variable(t:Tbl)(l:LI)(k:Int)
theorem kQ(i m a b n d o e s f v g x h y z L F N K:Int)(j:ByteArray)(c1:E (i>0)=true)(c2:(z==1)=true)(O:RQ 41 [.str ⟨#[112]⟩,A D i] (.str j))(P:RQ 42 [.gb (c l k)] (.io (c l m) (M [A D a,A D b])))(R:RQ 38 [.gb (c l m),A D 300] (.io (c l n) (A D d)))(S:RQ 38 [.gb (c l n),A D 16] (.io (c l o) (A D e)))(T:RQ 38 [.gb (c l o),A D 4] (.io (c l s) (A D f)))(U:RQ 38 [.gb (c l s),A D 4] (.io (c l v) (A D g)))(Z:RQ 37 [.gb (c l v),A D (-1),A D 9] (.io (c l x) (A D h)))(n8:RQ 38 [.gb (c l x),A D 2] (.io (c l y) (A D z)))(n9:RQ 38 [.gb (c l y),A D 10] (.io (c l L) (A D F)))(a1:RQ 38 [.gb (c l L),A D 4] (.io (c l N) (A D K))):w IW (NN t l k i) .norm (R_ t l N 1 ([.str j,A D 0,A D a,A D b,A D d,A D e,A D f,A D (J D (40*F)),A D (J D (20*g)),A D K,A D h]:u) (J D (i-1))):=B r [q,.r (.str j),.r (.io (c l m) (M [A D a,A D b])),.r (.io (c l n) (A D d)),.r (.io (c l o) (A D e)),.r (.io (c l s) (A D f)),.r (.io (c l v) (A D g)),.r (.io (c l x) (A D h)),.r (.io (c l y) (A D z)),q,.r (.io (c l L) (A D F)),.r (.io (c l N) (A D K))] jC (LX c1 O P R S T U Z (Kf n8 c2 n9 a1 (show C ([.str j,A D 0,A D a,A D b,A D d,A D e,A D f,A D (J D (40*F)),A D (J D (20*g)),A D K,A D h]:u)=1*11 from rfl) TI))
theorem kS(i m a b n d o e s f v g x h y z:Int)(j:ByteArray)(c1:E (i>0)=true)(c2:(z==1)=false)(O:RQ 41 [.str ⟨#[112]⟩,A D i] (.str j))(P:RQ 42 [.gb (c l k)] (.io (c l m) (M [A D a,A D b])))(R:RQ 38 [.gb (c l m),A D 300] (.io (c l n) (A D d)))(S:RQ 38 [.gb (c l n),A D 16] (.io (c l o) (A D e)))(T:RQ 38 [.gb (c l o),A D 4] (.io (c l s) (A D f)))(U:RQ 38 [.gb (c l s),A D 4] (.io (c l v) (A D g)))(Z:RQ 37 [.gb (c l v),A D (-1),A D 9] (.io (c l x) (A D h)))(n8:RQ 38 [.gb (c l x),A D 2] (.io (c l y) (A D z))):w IW (NN t l k i) .norm (R_ t l y 1 ([.str j,A D 0,A D a,A D b,A D d,A D e,A D f,A D 0,A D (J D (20*g)),A D (-1),A D h]:u) (J D (i-1))):=B r [q,.r (.str j),.r (.io (c l m) (M [A D a,A D b])),.r (.io (c l n) (A D d)),.r (.io (c l o) (A D e)),.r (.io (c l s) (A D f)),.r (.io (c l v) (A D g)),.r (.io (c l x) (A D h)),.r (.io (c l y) (A D z)),Y] jC (Jc c1 O P R S T U Z n8 c2 (show C ([.str j,A D 0,A D a,A D b,A D d,A D e,A D f,A D 0,A D (J D (20*g)),A D (-1),A D h]:u)=1*11 from rfl) TI)
theorem kU(i:Int)(c1:E (i>0)=false):w IW (NN t l k i) xZ4 (NN t l k i):=B r [Y] [2,3,4,8] (Bp c1)
theorem cX(os:List El)(i m a b n d o e s f v g x h y z L F N K:Int)(j:ByteArray)(c1:E (i>0)=true)(c2:(z==1)=true)(O:C os+1<=1048576)(P:RQ 41 [.str ⟨#[112]⟩,A D i] (.str j))(R:RQ 42 [.gb (c l k)] (.io (c l m) (M [A D a,A D b])))(S:RQ 38 [.gb (c l m),A D 300] (.io (c l n) (A D d)))(T:RQ 38 [.gb (c l n),A D 16] (.io (c l o) (A D e)))(U:RQ 38 [.gb (c l o),A D 4] (.io (c l s) (A D f)))(Z:RQ 38 [.gb (c l s),A D 4] (.io (c l v) (A D g)))(n8:RQ 37 [.gb (c l v),A D (-1),A D 9] (.io (c l x) (A D h)))(n9:RQ 38 [.gb (c l x),A D 2] (.io (c l y) (A D z)))(a1:RQ 38 [.gb (c l y),A D 10] (.io (c l L) (A D F)))(a2:RQ 38 [.gb (c l L),A D 4] (.io (c l N) (A D K))):w IW (JP t l k os i) .norm (R_ t l N (C os+1) (H p os++([.str j,A D 0,A D a,A D b,A D d,A D e,A D f,A D (J D (40*F)),A D (J D (20*g)),A D K,A D h]:u)) (J D (i-1))):=B r [q,.r (.str j),.r (.io (c l m) (M [A D a,A D b])),.r (.io (c l n) (A D d)),.r (.io (c l o) (A D e)),.r (.io (c l s) (A D f)),.r (.io (c l v) (A D g)),.r (.io (c l x) (A D h)),.r (.io (c l y) (A D z)),q,.r (.io (c l L) (A D F)),.r (.io (c l N) (A D K))] jC (LX c1 P R S T U Z n8 (Kf n9 c2 a1 a2 (show C ([.str j,A D 0,A D a,A D b,A D d,A D e,A D f,A D (J D (40*F)),A D (J D (20*g)),A D K,A D h]:u)=1*11 from rfl) O))
theorem cY(os:List El)(i m a b n d o e s f v g x h y z:Int)(j:ByteArray)(c1:E (i>0)=true)(c2:(z==1)=false)(O:C os+1<=1048576)(P:RQ 41 [.str ⟨#[112]⟩,A D i] (.str j))(R:RQ 42 [.gb (c l k)] (.io (c l m) (M [A D a,A D b])))(S:RQ 38 [.gb (c l m),A D 300] (.io (c l n) (A D d)))(T:RQ 38 [.gb (c l n),A D 16] (.io (c l o) (A D e)))(U:RQ 38 [.gb (c l o),A D 4] (.io (c l s) (A D f)))(Z:RQ 38 [.gb (c l s),A D 4] (.io (c l v) (A D g)))(n8:RQ 37 [.gb (c l v),A D (-1),A D 9] (.io (c l x) (A D h)))(n9:RQ 38 [.gb (c l x),A D 2] (.io (c l y) (A D z))):w IW (JP t l k os i) .norm (R_ t l y (C os+1) (H p os++([.str j,A D 0,A D a,A D b,A D d,A D e,A D f,A D 0,A D (J D (20*g)),A D (-1),A D h]:u)) (J D (i-1))):=B r [q,.r (.str j),.r (.io (c l m) (M [A D a,A D b])),.r (.io (c l n) (A D d)),.r (.io (c l o) (A D e)),.r (.io (c l s) (A D f)),.r (.io (c l v) (A D g)),.r (.io (c l x) (A D h)),.r (.io (c l y) (A D z)),Y] jC (Jc c1 P R S T U Z n8 n9 c2 (show C ([.str j,A D 0,A D a,A D b,A D d,A D e,A D f,A D 0,A D (J D (20*g)),A D (-1),A D h]:u)=1*11 from rfl) O)
theorem dA(os:List El)(i:Int)(c1:E (i>0)=false):w IW (JP t l k os i) xZ4 (JP t l k os i):=B r [Y] jC (Bp c1)
def Akz(bx:Bool):V:=W 2 (Q [A D 0,A D 0,A D 0,A D 0,A D 0,A D 0,A D 0,G 0 [],G 0 [],G 0 [],G 0 [],G 0 [],G 0 [],G 0 [],G 0 [],G 0 [],G 0 [],G 0 []]::Q [G (C l) (li l),A D k]::Q [A D t.r0,A D t.r1,A D t.r2,A D t.r3,A D t.r4,A D t.r5,A D t.r6,G (C t.tr) (H cI t.tr),G (C t.ws) (H cW t.ws),.nil,G (C t.po) (H p t.po),.nil,.nil,.nil,.nil,.nil,.nil,.nil]::W 105 (X (I bx)::W 38 []))
def Ala:V:=W 2 (Q [A D 0,A D 0,A D 0,A D 0,A D 0,A D 0,A D 0,G 0 [],G 0 [],G 0 [],G 0 [],G 0 [],G 0 [],G 0 [],G 0 [],G 0 [],G 0 [],G 0 []]::Q [G (C l) (li l),A D k]::Q [A D t.r0,A D t.r1,A D t.r2,A D t.r3,A D t.r4,A D t.r5,A D t.r6,G (C t.tr) (H cI t.tr),G (C t.ws) (H cW t.ws),.nil,G (C t.po) (H p t.po),.nil,.nil,.nil,.nil,.nil,.nil,.nil]::W 144 [])
def Azn(no:Nat)(co:u):V:=W 2 (Q [A D 0,A D 0,A D 0,A D 0,A D 0,A D 0,A D 0,G 0 [],G 0 [],G 0 [],G 0 [],G 0 [],G 0 [],G 0 [],G 0 [],G 0 [],G 0 [],G 0 []]::Q [G (C l) (li l),A D k]::.bxh [A D t.r0,A D t.r1,A D t.r2,A D t.r3,A D t.r4,A D t.r5,A D t.r6,G (C t.tr) (H cI t.tr),G (C t.ws) (H cW t.ws),.undef,G (C t.po) (H p t.po),.nil,.nil,.nil,.nil,.nil,.nil,.nil] [(9,121)]::W 116 (An 12 no co::W 27 []))
def Awp(os:List El):V:=W 2 (Q [A D 0,A D 0,A D 0,A D 0,A D 0,A D 0,A D 0,G 0 [],G 0 [],G 0 [],G 0 [],G 0 [],G 0 [],G 0 [],G 0 [],G 0 [],G 0 [],G 0 []]::Q [G (C l) (li l),A D k]::.bxh [A D t.r0,A D t.r1,A D t.r2,A D t.r3,A D t.r4,A D t.r5,A D t.r6,G (C t.tr) (H cI t.tr),G (C t.ws) (H cW t.ws),.undef,G (C t.po) (H p t.po),.nil,.nil,.nil,.nil,.nil,.nil,.nil] [(9,121)]::W 116 (An 12 (C os) (H AH os)::W 27 []))
end
def QM:ICode := .region false [o1 108 (.mvf 3 4 [44,51,68,106,121,138] [7,8,10]),o1 109 (.cab 38 108 3 [.c (.int .i64 3)]),o1 110 (.bin .eql (.t 109) (.c (.int .i64 0)))]
theorem kV(t:Tbl)(l:LI)(d a b:Int)(e:RQ 38 [.gb (c l d),A D 3] (.io (c l a) (A D b))):w QM (Akx t l d) .norm (Akz ({ t with po:=[] }) l a (b==0)):=B r [.r (.io (c l a) (A D b))] [2,3,4,110] (Bp e)
theorem kW(t:Tbl)(l:LI)(d:Int)(os:List El)(a b:Int)(e:RQ 38 [.gb (c l d),A D 3] (.io (c l a) (A D b))):w QM (Aky t l d os) .norm (Akz ({ t with po:=os }) l a (b==0)):=B r [.r (.io (c l a) (A D b))] [2,3,4,110] (Bp e)
def kX:ICode:=CG UQ 89 2042
section
variable(t:Tbl)(l:LI)(a:Int)
theorem kY(q b d e f g h j k m n o:Int)(es:ByteArray)(s:RQ 43 [.gb (c l a),A D (J D (2*t.r0))] (.io (c l q) (M [.str es,A D b,A D d,A D e,A D f,A D g,A D h,A D j,A D k,A D m,A D n,A D o]))):w kX (Ala t l a) .norm (Azn t l q 1 ([.str ⟨#[97,49]⟩,A D b,A D d,A D e,A D f,A D g,A D h,A D j,A D k,A D m,A D n,A D o]:u)):=B r [.r (.io (c l q) (M [.str es,A D b,A D d,A D e,A D f,A D g,A D h,A D j,A D k,A D m,A D n,A D o]))] [2,3,4,121] (Im s (show C ([.str ⟨#[97,49]⟩,A D b,A D d,A D e,A D f,A D g,A D h,A D j,A D k,A D m,A D n,A D o]:u)=1*12 from rfl) TI)
def QN(i:Int):V:=W 2 (Q [A D 0,A D 0,A D 0,A D 0,A D 0,A D 0,A D 0,G 0 [],G 0 [],G 0 [],G 0 [],G 0 [],G 0 [],G 0 [],G 0 [],G 0 [],G 0 [],G 0 []]::Q [G (C l) (li l),A D a]::Q [A D t.r0,A D t.r1,A D t.r2,A D t.r3,A D t.r4,A D t.r5,A D t.r6,G (C t.tr) (H cI t.tr),G (C t.ws) (H cW t.ws),G (C t.ar) (H AH t.ar),G (C t.po) (H p t.po),.nil,.nil,.nil,.nil,.nil,.nil,.nil]::W 6 (vi i::W 137 []))
def KQ(os:List El)(i:Int):V:=W 2 (Q [A D 0,A D 0,A D 0,A D 0,A D 0,A D 0,A D 0,G 0 [],G 0 [],G 0 [],G 0 [],G 0 [],G 0 [],G 0 [],G 0 [],G 0 [],G 0 [],G 0 []]::Q [G (C l) (li l),A D a]::.bxh [A D t.r0,A D t.r1,A D t.r2,A D t.r3,A D t.r4,A D t.r5,A D t.r6,G (C t.tr) (H cI t.tr),G (C t.ws) (H cW t.ws),G (C t.ar) (H AH t.ar),G (C t.po) (H p t.po),.undef,.nil,.nil,.nil,.nil,.nil,.nil] [(11,138)]::W 6 (vi i::W 126 (An 15 (C os) (H cF os)::W 10 [])))
def dB(v:Nat)(co:u)(i:Int):V:=W 2 (Q [A D 0,A D 0,A D 0,A D 0,A D 0,A D 0,A D 0,G 0 [],G 0 [],G 0 [],G 0 [],G 0 [],G 0 [],G 0 [],G 0 [],G 0 [],G 0 [],G 0 []]::Q [G (C l) (li l),A D a]::.bxh [A D t.r0,A D t.r1,A D t.r2,A D t.r3,A D t.r4,A D t.r5,A D t.r6,G (C t.tr) (H cI t.tr),G (C t.ws) (H cW t.ws),G (C t.ar) (H AH t.ar),G (C t.po) (H p t.po),.undef,.nil,.nil,.nil,.nil,.nil,.nil] [(11,138)]::W 6 (vi i::W 126 (An 15 v co::W 10 [])))
def Alb:V:=W 2 (Q [A D 0,A D 0,A D 0,A D 0,A D 0,A D 0,A D 0,G 0 [],G 0 [],G 0 [],G 0 [],G 0 [],G 0 [],G 0 [],G 0 [],G 0 [],G 0 [],G 0 []]::Q [G (C l) (li l),A D a]::Q [A D t.r0,A D t.r1,A D t.r2,A D t.r3,A D t.r4,A D t.r5,A D t.r6,G (C t.tr) (H cI t.tr),G (C t.ws) (H cW t.ws),G (C t.ar) (H AH t.ar),G (C t.po) (H p t.po),.nil,.nil,.nil,.nil,.nil,.nil,.nil]::W 144 [])
def Alc(os:List El):V:=W 2 (Q [A D 0,A D 0,A D 0,A D 0,A D 0,A D 0,A D 0,G 0 [],G 0 [],G 0 [],G 0 [],G 0 [],G 0 [],G 0 [],G 0 [],G 0 [],G 0 [],G 0 []]::Q [G (C l) (li l),A D a]::.bxh [A D t.r0,A D t.r1,A D t.r2,A D t.r3,A D t.r4,A D t.r5,A D t.r6,G (C t.tr) (H cI t.tr),G (C t.ws) (H cW t.ws),G (C t.ar) (H AH t.ar),G (C t.po) (H p t.po),.undef,.nil,.nil,.nil,.nil,.nil,.nil] [(11,138)]::W 133 (An 15 (C os) (H cF os)::W 10 []))
end
def NO:ICode := .region false [o1 123 (.mvf 3 4 [44,51,68,106,121,138] [7,8,9,10]),o1 124 (.cab 38 123 3 [.c (.int .i64 3)]),oM 11 124]
theorem kZ(t:Tbl)(l:LI)(d a b:Int)(e:RQ 38 [.gb (c l d),A D 3] (.io (c l a) (A D b))):w NO (Ala t l d) .norm (QN ({ t with ar:=[] }) l a b):=B r [.r (.io (c l a) (A D b))] [2,3,4,11] (Bp e)
theorem lA(t:Tbl)(l:LI)(d:Int)(os:List El)(a b:Int)(e:RQ 38 [.gb (c l d),A D 3] (.io (c l a) (A D b))):w NO (Awp t l d os) .norm (QN ({ t with ar:=os }) l a b):=B r [.r (.io (c l a) (A D b))] [2,3,4,11] (Bp e)
def KR:ICode:=CG UQ 87 8180
section
variable(t:Tbl)(l:LI)(a:Int)
theorem lB(i z b d e f g h j k m n o s v:Int)(es x:ByteArray)(y:Bool)(c1:E (i>0)=true)(F:RQ 44 [.gb (c l a)] (.io (c l z) (M [.str es,A D b,A D d,A D e,A D f,I y,A D g,A D h,A D j,A D k,A D m,A D n,A D o,A D s,A D v])))(K:RQ 41 [.str ⟨#[102]⟩,A D i] (.str x)):w KR (QN t l a i) .norm (dB t l z 1 ([.str x,A D b,A D d,A D e,A D f,I y,A D g,A D h,A D j,A D k,A D m,A D n,A D o,A D s,A D v]:u) (J D (i-1))):=B r [q,.r (.io (c l z) (M [.str es,A D b,A D d,A D e,A D f,I y,A D g,A D h,A D j,A D k,A D m,A D n,A D o,A D s,A D v])),.r (.str x)] [2,3,4,11,138] (GK c1 F K (show C ([.str x,A D b,A D d,A D e,A D f,I y,A D g,A D h,A D j,A D k,A D m,A D n,A D o,A D s,A D v]:u)=1*15 from rfl) TI)
theorem lC(i:Int)(c1:E (i>0)=false):w KR (QN t l a i) xZ6 (QN t l a i):=B r [Y] [2,3,4,11] (Bp c1)
theorem dC(os:List El)(i z b d e f g h j k m n o s v:Int)(es x:ByteArray)(y:Bool)(c1:E (i>0)=true)(F:C os+1<=1048576)(K:RQ 44 [.gb (c l a)] (.io (c l z) (M [.str es,A D b,A D d,A D e,A D f,I y,A D g,A D h,A D j,A D k,A D m,A D n,A D o,A D s,A D v])))(L:RQ 41 [.str ⟨#[102]⟩,A D i] (.str x)):w KR (KQ t l a os i) .norm (dB t l z (C os+1) (H cF os++([.str x,A D b,A D d,A D e,A D f,I y,A D g,A D h,A D j,A D k,A D m,A D n,A D o,A D s,A D v]:u)) (J D (i-1))):=B r [q,.r (.io (c l z) (M [.str es,A D b,A D d,A D e,A D f,I y,A D g,A D h,A D j,A D k,A D m,A D n,A D o,A D s,A D v])),.r (.str x)] [2,3,4,11,138] (GK c1 K L (show C ([.str x,A D b,A D d,A D e,A D f,I y,A D g,A D h,A D j,A D k,A D m,A D n,A D o,A D s,A D v]:u)=1*15 from rfl) F)
theorem dD(os:List El)(i:Int)(c1:E (i>0)=false):w KR (KQ t l a os i) xZ6 (KQ t l a os i):=B r [Y] [2,3,4,11,138] (Bp c1)
def ZA:V:=W 2 (Q [A D 0,A D 0,A D 0,A D 0,A D 0,A D 0,A D 0,G 0 [],G 0 [],G 0 [],G 0 [],G 0 [],G 0 [],G 0 [],G 0 [],G 0 [],G 0 [],G 0 []]::Q [G (C l) (li l),A D a]::Q [A D t.r0,A D t.r1,A D t.r2,A D t.r3,A D t.r4,A D t.r5,A D t.r6,G (C t.tr) (H cI t.tr),G (C t.ws) (H cW t.ws),G (C t.ar) (H AH t.ar),G (C t.po) (H p t.po),G (C t.fl) (H cF t.fl),G (C t.zo) (H cZ t.zo),G (C t.sa) (H AU t.sa),G (C t.la) (H cL t.la),G (C t.ra) (H cR t.ra),G (C t.dr) (H cD t.dr),G (C t.ln) (H cK t.ln)]::W 144 [])
def Ys9u(N:Bool):V:=W 2 (Q [A D 0,A D 0,A D 0,A D 0,A D 0,A D 0,A D 0,G 0 [],G 0 [],G 0 [],G 0 [],G 0 [],G 0 [],G 0 [],G 0 [],G 0 [],G 0 [],G 0 []]::Q [G (C l) (li l),A D a]::Q [A D t.r0,A D t.r1,A D t.r2,A D t.r3,A D t.r4,A D t.r5,A D t.r6,G (C t.tr) (H cI t.tr),G (C t.ws) (H cW t.ws),G (C t.ar) (H AH t.ar),G (C t.po) (H p t.po),G (C t.fl) (H cF t.fl),G (C t.zo) (H cZ t.zo),G (C t.sa) (H AU t.sa),G (C t.la) (H cL t.la),G (C t.ra) (H cR t.ra),G (C t.dr) (H cD t.dr),G (C t.ln) (H cK t.ln)]::W 140 (X (I N)::W 3 []))
end
def NP:ICode := .region false [o1 140 (.mvf 3 4 [44,51,68,106,121,138] [7,8,9,10,11]),o1 141 (.ldz 4 18 [44,51,68,106,121,138] [7,8,9,10,11]),o1 142 (.cab 45 140 3 [.t 141]),oN (.st 4 4 18 (.t 142))]
theorem lD(t:Tbl)(l:LI)(b a:Int)(u:Tbl)(d:RQ 45 [.gb (c l b),M [A D t.r0,A D t.r1,A D t.r2,A D t.r3,A D t.r4,A D t.r5,A D t.r6,G (C t.tr) (H cI t.tr),G (C t.ws) (H cW t.ws),G (C t.ar) (H AH t.ar),G (C t.po) (H p t.po),G 0 [],.nil,.nil,.nil,.nil,.nil,.nil]] (.io (c l a) (M [A D t.r0,A D t.r1,A D t.r2,A D t.r3,A D t.r4,A D t.r5,A D t.r6,G (C t.tr) (H cI t.tr),G (C t.ws) (H cW t.ws),G (C t.ar) (H AH t.ar),G (C t.po) (H p t.po),G 0 [],G (C u.zo) (H cZ u.zo),G (C u.sa) (H AU u.sa),G (C u.la) (H cL u.la),G (C u.ra) (H cR u.ra),G (C u.dr) (H cD u.dr),G (C u.ln) (H cK u.ln)]))):w NP (Alb t l b) .norm (ZA ({ t with fl:=[],zo:=u.zo,sa:=u.sa,la:=u.la,ra:=u.ra,dr:=u.dr,ln:=u.ln }) l a):=B r [.r (.io (c l a) (M [A D t.r0,A D t.r1,A D t.r2,A D t.r3,A D t.r4,A D t.r5,A D t.r6,G (C t.tr) (H cI t.tr),G (C t.ws) (H cW t.ws),G (C t.ar) (H AH t.ar),G (C t.po) (H p t.po),G 0 [],G (C u.zo) (H cZ u.zo),G (C u.sa) (H AU u.sa),G (C u.la) (H cL u.la),G (C u.ra) (H cR u.ra),G (C u.dr) (H cD u.dr),G (C u.ln) (H cK u.ln)]))] [2,3,4] (Bp d)
theorem lE(t:Tbl)(l:LI)(b:Int)(os:List El)(a:Int)(u:Tbl)(d:RQ 45 [.gb (c l b),M [A D t.r0,A D t.r1,A D t.r2,A D t.r3,A D t.r4,A D t.r5,A D t.r6,G (C t.tr) (H cI t.tr),G (C t.ws) (H cW t.ws),G (C t.ar) (H AH t.ar),G (C t.po) (H p t.po),G (C os) (H cF os),.nil,.nil,.nil,.nil,.nil,.nil]] (.io (c l a) (M [A D t.r0,A D t.r1,A D t.r2,A D t.r3,A D t.r4,A D t.r5,A D t.r6,G (C t.tr) (H cI t.tr),G (C t.ws) (H cW t.ws),G (C t.ar) (H AH t.ar),G (C t.po) (H p t.po),G (C os) (H cF os),G (C u.zo) (H cZ u.zo),G (C u.sa) (H AU u.sa),G (C u.la) (H cL u.la),G (C u.ra) (H cR u.ra),G (C u.dr) (H cD u.dr),G (C u.ln) (H cK u.ln)]))):w NP (Alc t l b os) .norm (ZA ({ t with fl:=os,zo:=u.zo,sa:=u.sa,la:=u.la,ra:=u.ra,dr:=u.dr,ln:=u.ln }) l a):=B r [.r (.io (c l a) (M [A D t.r0,A D t.r1,A D t.r2,A D t.r3,A D t.r4,A D t.r5,A D t.r6,G (C t.tr) (H cI t.tr),G (C t.ws) (H cW t.ws),G (C t.ar) (H AH t.ar),G (C t.po) (H p t.po),G (C os) (H cF os),G (C u.zo) (H cZ u.zo),G (C u.sa) (H AU u.sa),G (C u.la) (H cL u.la),G (C u.ra) (H cR u.ra),G (C u.dr) (H cD u.dr),G (C u.ln) (H cK u.ln)]))] [2,3,4] (Bp d)
def VC:ICode := .region false [o1 143 (.ldz 4 18 [44,51,68,106,121,138] [7,8,9,10,11,12,13,14,15,16,17]),oC 144 46 [143],o1 145 (.bin .neq (.t 144) (.c (.int .i64 0)))]
theorem lF(t:Tbl)(l:LI)(b a:Int)(c:RQ 46 [M [A D t.r0,A D t.r1,A D t.r2,A D t.r3,A D t.r4,A D t.r5,A D t.r6,G (C t.tr) (H cI t.tr),G (C t.ws) (H cW t.ws),G (C t.ar) (H AH t.ar),G (C t.po) (H p t.po),G (C t.fl) (H cF t.fl),G (C t.zo) (H cZ t.zo),G (C t.sa) (H AU t.sa),G (C t.la) (H cL t.la),G (C t.ra) (H cR t.ra),G (C t.dr) (H cD t.dr),G (C t.ln) (H cK t.ln)]] (A D a)):w VC (ZA t l b) .norm (Ys9u t l b (a != 0)):=B r [.r (A D a)] [2,3,4,145] (Bp c)
def VD:ICode:=CG UQ 86 16378
theorem lG(t:Tbl)(l:LI)(a:Int)   : w VD (ZA t l a) .ret ((W 2 (Q [A D 100,A D 1,A D 0,A D 0,A D 0,A D 0,A D 0,G 0 [],G 4 (V7 3000 8),G 0 [],G 0 [],G 0 [],G 0 [],G 0 [],G 0 [],G 0 [],G 0 [],G 0 []]::W 146 []))):=B r [.r (P 13 4 (V7 3000 8))] [2] (Bp (show RQ 39 [A D 3000,A D 8] (P 13 4 (V7 3000 8)) from yD _ _))
def Tw(t:Tbl):V:=W 2 (Q [A D t.r0,A D t.r1,A D t.r2,A D t.r3,A D t.r4,A D t.r5,A D t.r6,G (C t.tr) (H cI t.tr),G (C t.ws) (H cW t.ws),G (C t.ar) (H AH t.ar),G (C t.po) (H p t.po),G (C t.fl) (H cF t.fl),G (C t.zo) (H cZ t.zo),G (C t.sa) (H AU t.sa),G (C t.la) (H cL t.la),G (C t.ra) (H cR t.ra),G (C t.dr) (H cD t.dr),G (C t.ln) (H cK t.ln)]::W 146 [])
def VE:ICode:=CG UQ 88 4095
theorem lH(t:Tbl)(l:LI)(a:Int)   : w VE (ZA t l a) .ret (Tw t):=B r [] [2] a0
def tO:ICode := .region false [o1 5 (.mov (.c (.int .i64 0)))]
theorem Adi(t:Tbl)(l:LI)(a:Int)   : w tO (Akr t l a) .norm (Akv t l a 0):=B r [] [2,3,4,5] a0
def Ald:ICode := .seq (.seq NO (.block 6 (.loop KR))) (.seq NP (.seq (.seq VC (.cond (.t 145) VD .skip)) VE))
def Ale:ICode := .seq (.seq QM (.cond (.t 110) kX .skip)) Ald
def Alf:ICode := .seq (.seq OT (.block 4 (.loop IW))) Ale
def Alg:ICode := .seq (.seq OS (.block 2 (.loop Hp))) Alf
def Alh:ICode := .seq (.seq yE (.cond (.t 48) yF .skip)) Alg
theorem Asy:(iF g UQ).body=(.seq Aks (.seq Akt (.seq Aku (.seq (.seq tO (.block 0 (.loop NM))) Alh)))):=by kernel_rfl
theorem BA:AQ Cy []:=AQ.nil _
section
variable(t:Tbl)(l:LI)(a:Int)
def Lt:V:=.bxg [G (C l) (li l),A D a]::W 2 (Q [A D t.r0,A D t.r1,A D t.r2,A D t.r3,A D t.r4,A D t.r5,A D t.r6,G (C t.tr) (H cI t.tr),G (C t.ws) (H cW t.ws),G (C t.ar) (H AH t.ar),G (C t.po) (H p t.po),G (C t.fl) (H cF t.fl),.nil,.nil,.nil,.nil,.nil,.nil]::Q [A D 0,A D 0,A D 0,A D 0,A D 0,A D 0,A D 0,G 0 [],G 0 [],G 0 [],G 0 [],G 0 [],G 0 [],G 0 [],G 0 [],G 0 [],G 0 [],G 0 []]::W 133 [])
def VF:V:=.bxg [G (C l) (li l),A D a]::W 2 (Q [A D t.r0,A D t.r1,A D t.r2,A D t.r3,A D t.r4,A D t.r5,A D t.r6,G (C t.tr) (H cI t.tr),G (C t.ws) (H cW t.ws),G (C t.ar) (H AH t.ar),G (C t.po) (H p t.po),G (C t.fl) (H cF t.fl),G (C t.zo) (H cZ t.zo),.nil,.nil,.nil,.nil,.nil]::Q [A D 0,A D 0,A D 0,A D 0,A D 0,A D 0,A D 0,G 0 [],G 0 [],G 0 [],G 0 [],G 0 [],G 0 [],G 0 [],G 0 [],G 0 [],G 0 [],G 0 []]::W 133 [])
def VG:V:=.bxg [G (C l) (li l),A D a]::W 2 (Q [A D t.r0,A D t.r1,A D t.r2,A D t.r3,A D t.r4,A D t.r5,A D t.r6,G (C t.tr) (H cI t.tr),G (C t.ws) (H cW t.ws),G (C t.ar) (H AH t.ar),G (C t.po) (H p t.po),G (C t.fl) (H cF t.fl),G (C t.zo) (H cZ t.zo),G (C t.sa) (H AU t.sa),.nil,.nil,.nil,.nil]::Q [A D 0,A D 0,A D 0,A D 0,A D 0,A D 0,A D 0,G 0 [],G 0 [],G 0 [],G 0 [],G 0 [],G 0 [],G 0 [],G 0 [],G 0 [],G 0 [],G 0 []]::W 133 [])
def VH:V:=.bxg [G (C l) (li l),A D a]::W 2 (Q [A D t.r0,A D t.r1,A D t.r2,A D t.r3,A D t.r4,A D t.r5,A D t.r6,G (C t.tr) (H cI t.tr),G (C t.ws) (H cW t.ws),G (C t.ar) (H AH t.ar),G (C t.po) (H p t.po),G (C t.fl) (H cF t.fl),G (C t.zo) (H cZ t.zo),G (C t.sa) (H AU t.sa),G (C t.la) (H cL t.la),.nil,.nil,.nil]::Q [A D 0,A D 0,A D 0,A D 0,A D 0,A D 0,A D 0,G 0 [],G 0 [],G 0 [],G 0 [],G 0 [],G 0 [],G 0 [],G 0 [],G 0 [],G 0 [],G 0 []]::W 133 [])
def VI:V:=.bxg [G (C l) (li l),A D a]::W 2 (Q [A D t.r0,A D t.r1,A D t.r2,A D t.r3,A D t.r4,A D t.r5,A D t.r6,G (C t.tr) (H cI t.tr),G (C t.ws) (H cW t.ws),G (C t.ar) (H AH t.ar),G (C t.po) (H p t.po),G (C t.fl) (H cF t.fl),G (C t.zo) (H cZ t.zo),G (C t.sa) (H AU t.sa),G (C t.la) (H cL t.la),G (C t.ra) (H cR t.ra),.nil,.nil]::Q [A D 0,A D 0,A D 0,A D 0,A D 0,A D 0,A D 0,G 0 [],G 0 [],G 0 [],G 0 [],G 0 [],G 0 [],G 0 [],G 0 [],G 0 [],G 0 [],G 0 []]::W 133 [])
def lI:V:=.bxg [G (C l) (li l),A D a]::W 2 (Q [A D t.r0,A D t.r1,A D t.r2,A D t.r3,A D t.r4,A D t.r5,A D t.r6,G (C t.tr) (H cI t.tr),G (C t.ws) (H cW t.ws),G (C t.ar) (H AH t.ar),G (C t.po) (H p t.po),G (C t.fl) (H cF t.fl),G (C t.zo) (H cZ t.zo),G (C t.sa) (H AU t.sa),G (C t.la) (H cL t.la),G (C t.ra) (H cR t.ra),G (C t.dr) (H cD t.dr),.nil]::Q [A D 0,A D 0,A D 0,A D 0,A D 0,A D 0,A D 0,G 0 [],G 0 [],G 0 [],G 0 [],G 0 [],G 0 [],G 0 [],G 0 [],G 0 [],G 0 [],G 0 []]::W 133 [])
def VJ(os:List El):V:=.bxg [G (C l) (li l),A D a]::W 2 (.bxh [A D t.r0,A D t.r1,A D t.r2,A D t.r3,A D t.r4,A D t.r5,A D t.r6,G (C t.tr) (H cI t.tr),G (C t.ws) (H cW t.ws),G (C t.ar) (H AH t.ar),G (C t.po) (H p t.po),G (C t.fl) (H cF t.fl),.undef,.nil,.nil,.nil,.nil,.nil] [(12,41)]::Q [A D 0,A D 0,A D 0,A D 0,A D 0,A D 0,A D 0,G 0 [],G 0 [],G 0 [],G 0 [],G 0 [],G 0 [],G 0 [],G 0 [],G 0 [],G 0 [],G 0 []]::W 36 (An 9 (C os) (H cZ os)::W 96 []))
def lJ(os:List El):V:=.bxg [G (C l) (li l),A D a]::W 2 (.bxh [A D t.r0,A D t.r1,A D t.r2,A D t.r3,A D t.r4,A D t.r5,A D t.r6,G (C t.tr) (H cI t.tr),G (C t.ws) (H cW t.ws),G (C t.ar) (H AH t.ar),G (C t.po) (H p t.po),G (C t.fl) (H cF t.fl),G (C t.zo) (H cZ t.zo),.undef,.nil,.nil,.nil,.nil] [(13,68)]::Q [A D 0,A D 0,A D 0,A D 0,A D 0,A D 0,A D 0,G 0 [],G 0 [],G 0 [],G 0 [],G 0 [],G 0 [],G 0 [],G 0 [],G 0 [],G 0 [],G 0 []]::W 63 (An 10 (C os) (H AU os)::W 69 []))
def VK(os:List El):V:=.bxg [G (C l) (li l),A D a]::W 2 (.bxh [A D t.r0,A D t.r1,A D t.r2,A D t.r3,A D t.r4,A D t.r5,A D t.r6,G (C t.tr) (H cI t.tr),G (C t.ws) (H cW t.ws),G (C t.ar) (H AH t.ar),G (C t.po) (H p t.po),G (C t.fl) (H cF t.fl),G (C t.zo) (H cZ t.zo),G (C t.sa) (H AU t.sa),.undef,.nil,.nil,.nil] [(14,88)]::Q [A D 0,A D 0,A D 0,A D 0,A D 0,A D 0,A D 0,G 0 [],G 0 [],G 0 [],G 0 [],G 0 [],G 0 [],G 0 [],G 0 [],G 0 [],G 0 [],G 0 []]::W 83 (An 6 (C os) (H cL os)::W 49 []))
def lK(os:List El):V:=.bxg [G (C l) (li l),A D a]::W 2 (.bxh [A D t.r0,A D t.r1,A D t.r2,A D t.r3,A D t.r4,A D t.r5,A D t.r6,G (C t.tr) (H cI t.tr),G (C t.ws) (H cW t.ws),G (C t.ar) (H AH t.ar),G (C t.po) (H p t.po),G (C t.fl) (H cF t.fl),G (C t.zo) (H cZ t.zo),G (C t.sa) (H AU t.sa),G (C t.la) (H cL t.la),.undef,.nil,.nil] [(15,104)]::Q [A D 0,A D 0,A D 0,A D 0,A D 0,A D 0,A D 0,G 0 [],G 0 [],G 0 [],G 0 [],G 0 [],G 0 [],G 0 [],G 0 [],G 0 [],G 0 [],G 0 []]::W 99 (An 8 (C os) (H cR os)::W 33 []))
def lL(os:List El):V:=.bxg [G (C l) (li l),A D a]::W 2 (.bxh [A D t.r0,A D t.r1,A D t.r2,A D t.r3,A D t.r4,A D t.r5,A D t.r6,G (C t.tr) (H cI t.tr),G (C t.ws) (H cW t.ws),G (C t.ar) (H AH t.ar),G (C t.po) (H p t.po),G (C t.fl) (H cF t.fl),G (C t.zo) (H cZ t.zo),G (C t.sa) (H AU t.sa),G (C t.la) (H cL t.la),G (C t.ra) (H cR t.ra),.undef,.nil] [(16,117)]::Q [A D 0,A D 0,A D 0,A D 0,A D 0,A D 0,A D 0,G 0 [],G 0 [],G 0 [],G 0 [],G 0 [],G 0 [],G 0 [],G 0 [],G 0 [],G 0 [],G 0 []]::W 112 (An 5 (C os) (H cD os)::W 20 []))
def Ali(os:List El):V:=.bxg [G (C l) (li l),A D a]::W 2 (.bxh [A D t.r0,A D t.r1,A D t.r2,A D t.r3,A D t.r4,A D t.r5,A D t.r6,G (C t.tr) (H cI t.tr),G (C t.ws) (H cW t.ws),G (C t.ar) (H AH t.ar),G (C t.po) (H p t.po),G (C t.fl) (H cF t.fl),G (C t.zo) (H cZ t.zo),G (C t.sa) (H AU t.sa),G (C t.la) (H cL t.la),G (C t.ra) (H cR t.ra),G (C t.dr) (H cD t.dr),.undef] [(17,135)]::Q [A D 0,A D 0,A D 0,A D 0,A D 0,A D 0,A D 0,G 0 [],G 0 [],G 0 [],G 0 [],G 0 [],G 0 [],G 0 [],G 0 [],G 0 [],G 0 [],G 0 []]::W 130 (An 7 (C os) (H cK os)::W 2 []))
def Alj(b:Nat)(co:u):V:=.bxg [G (C l) (li l),A D a]::W 2 (.bxh [A D t.r0,A D t.r1,A D t.r2,A D t.r3,A D t.r4,A D t.r5,A D t.r6,G (C t.tr) (H cI t.tr),G (C t.ws) (H cW t.ws),G (C t.ar) (H AH t.ar),G (C t.po) (H p t.po),G (C t.fl) (H cF t.fl),G (C t.zo) (H cZ t.zo),.undef,.nil,.nil,.nil,.nil] [(13,68)]::Q [A D 0,A D 0,A D 0,A D 0,A D 0,A D 0,A D 0,G 0 [],G 0 [],G 0 [],G 0 [],G 0 [],G 0 [],G 0 [],G 0 [],G 0 [],G 0 [],G 0 []]::W 63 (An 10 b co::W 69 []))
def Alk(b:Nat)(co:u):V:=.bxg [G (C l) (li l),A D a]::W 2 (.bxh [A D t.r0,A D t.r1,A D t.r2,A D t.r3,A D t.r4,A D t.r5,A D t.r6,G (C t.tr) (H cI t.tr),G (C t.ws) (H cW t.ws),G (C t.ar) (H AH t.ar),G (C t.po) (H p t.po),G (C t.fl) (H cF t.fl),G (C t.zo) (H cZ t.zo),G (C t.sa) (H AU t.sa),G (C t.la) (H cL t.la),.undef,.nil,.nil] [(15,104)]::Q [A D 0,A D 0,A D 0,A D 0,A D 0,A D 0,A D 0,G 0 [],G 0 [],G 0 [],G 0 [],G 0 [],G 0 [],G 0 [],G 0 [],G 0 [],G 0 [],G 0 []]::W 99 (An 8 b co::W 33 []))
def All(b:Nat)(co:u):V:=.bxg [G (C l) (li l),A D a]::W 2 (.bxh [A D t.r0,A D t.r1,A D t.r2,A D t.r3,A D t.r4,A D t.r5,A D t.r6,G (C t.tr) (H cI t.tr),G (C t.ws) (H cW t.ws),G (C t.ar) (H AH t.ar),G (C t.po) (H p t.po),G (C t.fl) (H cF t.fl),G (C t.zo) (H cZ t.zo),G (C t.sa) (H AU t.sa),G (C t.la) (H cL t.la),G (C t.ra) (H cR t.ra),.undef,.nil] [(16,117)]::Q [A D 0,A D 0,A D 0,A D 0,A D 0,A D 0,A D 0,G 0 [],G 0 [],G 0 [],G 0 [],G 0 [],G 0 [],G 0 [],G 0 [],G 0 [],G 0 [],G 0 []]::W 112 (An 5 b co::W 20 []))
def Alm(b:Nat)(co:u):V:=.bxg [G (C l) (li l),A D a]::W 2 (.bxh [A D t.r0,A D t.r1,A D t.r2,A D t.r3,A D t.r4,A D t.r5,A D t.r6,G (C t.tr) (H cI t.tr),G (C t.ws) (H cW t.ws),G (C t.ar) (H AH t.ar),G (C t.po) (H p t.po),G (C t.fl) (H cF t.fl),G (C t.zo) (H cZ t.zo),G (C t.sa) (H AU t.sa),G (C t.la) (H cL t.la),G (C t.ra) (H cR t.ra),G (C t.dr) (H cD t.dr),.undef] [(17,135)]::Q [A D 0,A D 0,A D 0,A D 0,A D 0,A D 0,A D 0,G 0 [],G 0 [],G 0 [],G 0 [],G 0 [],G 0 [],G 0 [],G 0 [],G 0 [],G 0 [],G 0 []]::W 130 (An 7 b co::W 2 []))
def PY(i:Int):V:=.bxg [G (C l) (li l),A D a]::W 2 (Q [A D t.r0,A D t.r1,A D t.r2,A D t.r3,A D t.r4,A D t.r5,A D t.r6,G (C t.tr) (H cI t.tr),G (C t.ws) (H cW t.ws),G (C t.ar) (H AH t.ar),G (C t.po) (H p t.po),G (C t.fl) (H cF t.fl),.nil,.nil,.nil,.nil,.nil,.nil]::Q [A D 0,A D 0,A D 0,A D 0,A D 0,A D 0,A D 0,G 0 [],G 0 [],G 0 [],G 0 [],G 0 [],G 0 [],G 0 [],G 0 [],G 0 [],G 0 [],G 0 []]::vi i::W 132 [])
def Iy(os:List El)(i:Int):V:=.bxg [G (C l) (li l),A D a]::W 2 (.bxh [A D t.r0,A D t.r1,A D t.r2,A D t.r3,A D t.r4,A D t.r5,A D t.r6,G (C t.tr) (H cI t.tr),G (C t.ws) (H cW t.ws),G (C t.ar) (H AH t.ar),G (C t.po) (H p t.po),G (C t.fl) (H cF t.fl),.undef,.nil,.nil,.nil,.nil,.nil] [(12,41)]::Q [A D 0,A D 0,A D 0,A D 0,A D 0,A D 0,A D 0,G 0 [],G 0 [],G 0 [],G 0 [],G 0 [],G 0 [],G 0 [],G 0 [],G 0 [],G 0 [],G 0 []]::vi i::W 35 (An 9 (C os) (H cZ os)::W 96 []))
def Uh(b:Nat)(co:u)(i:Int):V:=.bxg [G (C l) (li l),A D a]::W 2 (.bxh [A D t.r0,A D t.r1,A D t.r2,A D t.r3,A D t.r4,A D t.r5,A D t.r6,G (C t.tr) (H cI t.tr),G (C t.ws) (H cW t.ws),G (C t.ar) (H AH t.ar),G (C t.po) (H p t.po),G (C t.fl) (H cF t.fl),.undef,.nil,.nil,.nil,.nil,.nil] [(12,41)]::Q [A D 0,A D 0,A D 0,A D 0,A D 0,A D 0,A D 0,G 0 [],G 0 [],G 0 [],G 0 [],G 0 [],G 0 [],G 0 [],G 0 [],G 0 [],G 0 [],G 0 []]::vi i::W 35 (An 9 b co::W 96 []))
def Mk(i:Int):V:=.bxg [G (C l) (li l),A D a]::W 2 (Q [A D t.r0,A D t.r1,A D t.r2,A D t.r3,A D t.r4,A D t.r5,A D t.r6,G (C t.tr) (H cI t.tr),G (C t.ws) (H cW t.ws),G (C t.ar) (H AH t.ar),G (C t.po) (H p t.po),G (C t.fl) (H cF t.fl),G (C t.zo) (H cZ t.zo),G (C t.sa) (H AU t.sa),.nil,.nil,.nil,.nil]::Q [A D 0,A D 0,A D 0,A D 0,A D 0,A D 0,A D 0,G 0 [],G 0 [],G 0 [],G 0 [],G 0 [],G 0 [],G 0 [],G 0 [],G 0 [],G 0 [],G 0 []]::W 2 (vi i::W 130 []))
def Iz(os:List El)(i:Int):V:=.bxg [G (C l) (li l),A D a]::W 2 (.bxh [A D t.r0,A D t.r1,A D t.r2,A D t.r3,A D t.r4,A D t.r5,A D t.r6,G (C t.tr) (H cI t.tr),G (C t.ws) (H cW t.ws),G (C t.ar) (H AH t.ar),G (C t.po) (H p t.po),G (C t.fl) (H cF t.fl),G (C t.zo) (H cZ t.zo),G (C t.sa) (H AU t.sa),.undef,.nil,.nil,.nil] [(14,88)]::Q [A D 0,A D 0,A D 0,A D 0,A D 0,A D 0,A D 0,G 0 [],G 0 [],G 0 [],G 0 [],G 0 [],G 0 [],G 0 [],G 0 [],G 0 [],G 0 [],G 0 []]::W 2 (vi i::W 80 (An 6 (C os) (H cL os)::W 49 [])))
def Ui(b:Nat)(co:u)(i:Int):V:=.bxg [G (C l) (li l),A D a]::W 2 (.bxh [A D t.r0,A D t.r1,A D t.r2,A D t.r3,A D t.r4,A D t.r5,A D t.r6,G (C t.tr) (H cI t.tr),G (C t.ws) (H cW t.ws),G (C t.ar) (H AH t.ar),G (C t.po) (H p t.po),G (C t.fl) (H cF t.fl),G (C t.zo) (H cZ t.zo),G (C t.sa) (H AU t.sa),.undef,.nil,.nil,.nil] [(14,88)]::Q [A D 0,A D 0,A D 0,A D 0,A D 0,A D 0,A D 0,G 0 [],G 0 [],G 0 [],G 0 [],G 0 [],G 0 [],G 0 [],G 0 [],G 0 [],G 0 [],G 0 []]::W 2 (vi i::W 80 (An 6 b co::W 49 [])))
def VL(c:Bool):V:=.bxg [G (C l) (li l),A D a]::W 2 (Q [A D t.r0,A D t.r1,A D t.r2,A D t.r3,A D t.r4,A D t.r5,A D t.r6,G (C t.tr) (H cI t.tr),G (C t.ws) (H cW t.ws),G (C t.ar) (H AH t.ar),G (C t.po) (H p t.po),G (C t.fl) (H cF t.fl),G (C t.zo) (H cZ t.zo),.nil,.nil,.nil,.nil,.nil]::Q [A D 0,A D 0,A D 0,A D 0,A D 0,A D 0,A D 0,G 0 [],G 0 [],G 0 [],G 0 [],G 0 [],G 0 [],G 0 [],G 0 [],G 0 [],G 0 [],G 0 []]::W 40 (X (I c)::W 92 []))
def VM(c:Bool):V:=.bxg [G (C l) (li l),A D a]::W 2 (Q [A D t.r0,A D t.r1,A D t.r2,A D t.r3,A D t.r4,A D t.r5,A D t.r6,G (C t.tr) (H cI t.tr),G (C t.ws) (H cW t.ws),G (C t.ar) (H AH t.ar),G (C t.po) (H p t.po),G (C t.fl) (H cF t.fl),G (C t.zo) (H cZ t.zo),G (C t.sa) (H AU t.sa),G (C t.la) (H cL t.la),.nil,.nil,.nil]::Q [A D 0,A D 0,A D 0,A D 0,A D 0,A D 0,A D 0,G 0 [],G 0 [],G 0 [],G 0 [],G 0 [],G 0 [],G 0 [],G 0 [],G 0 [],G 0 [],G 0 []]::W 87 (X (I c)::W 45 []))
def VN(c:Bool):V:=.bxg [G (C l) (li l),A D a]::W 2 (Q [A D t.r0,A D t.r1,A D t.r2,A D t.r3,A D t.r4,A D t.r5,A D t.r6,G (C t.tr) (H cI t.tr),G (C t.ws) (H cW t.ws),G (C t.ar) (H AH t.ar),G (C t.po) (H p t.po),G (C t.fl) (H cF t.fl),G (C t.zo) (H cZ t.zo),G (C t.sa) (H AU t.sa),G (C t.la) (H cL t.la),G (C t.ra) (H cR t.ra),.nil,.nil]::Q [A D 0,A D 0,A D 0,A D 0,A D 0,A D 0,A D 0,G 0 [],G 0 [],G 0 [],G 0 [],G 0 [],G 0 [],G 0 [],G 0 [],G 0 [],G 0 [],G 0 []]::W 103 (X (I c)::W 29 []))
def VO(c:Bool):V:=.bxg [G (C l) (li l),A D a]::W 2 (Q [A D t.r0,A D t.r1,A D t.r2,A D t.r3,A D t.r4,A D t.r5,A D t.r6,G (C t.tr) (H cI t.tr),G (C t.ws) (H cW t.ws),G (C t.ar) (H AH t.ar),G (C t.po) (H p t.po),G (C t.fl) (H cF t.fl),G (C t.zo) (H cZ t.zo),G (C t.sa) (H AU t.sa),G (C t.la) (H cL t.la),G (C t.ra) (H cR t.ra),G (C t.dr) (H cD t.dr),.nil]::Q [A D 0,A D 0,A D 0,A D 0,A D 0,A D 0,A D 0,G 0 [],G 0 [],G 0 [],G 0 [],G 0 [],G 0 [],G 0 [],G 0 [],G 0 [],G 0 [],G 0 []]::W 116 (X (I c)::W 16 []))
end
def yH:ICode := .region false [o1 3 (.box (.t 1) [16,42,46,51,69,76,89,93,105,109,118,122,136]),o1 4 (.new [.int .i64 0,.int .i64 0,.int .i64 0,.int .i64 0,.int .i64 0,.int .i64 0,.int .i64 0,.sl 0 [],.sl 0 [],.sl 0 [],.sl 0 [],.sl 0 [],.sl 0 [],.sl 0 [],.sl 0 [],.sl 0 [],.sl 0 [],.sl 0 []] [])]
theorem lM(t:Tbl)(l:LI)(a:Int)   : w yH (CX (iF g UR) [.gb (c l a),M [A D t.r0,A D t.r1,A D t.r2,A D t.r3,A D t.r4,A D t.r5,A D t.r6,G (C t.tr) (H cI t.tr),G (C t.ws) (H cW t.ws),G (C t.ar) (H AH t.ar),G (C t.po) (H p t.po),G (C t.fl) (H cF t.fl),.nil,.nil,.nil,.nil,.nil,.nil]]) .norm (Lt t l a):=B BA [] QD a0
def dF:ICode := .region false [o1 8 (.mvf 0 3 [41,68,88,104,117,135] []),o1 9 (.cab 38 8 0 [.c (.int .i64 3)]),oM 5 9]
theorem PB(t:Tbl)(l:LI)(d a b:Int)(e:RQ 38 [.gb (c l d),A D 3] (.io (c l a) (A D b))):w dF (Lt t l d) .norm (PY t l a b):=B BA [.r (.io (c l a) (A D b))] jB (Bp e)
def I0:ICode:=CG UR 94 52
section
variable(t:Tbl)(l:LI)(k:Int)
theorem Y9(i m a b n d o e p f s g v h:Int)(j:ByteArray)(c1:E (i>0)=true)(x:RQ 42 [.gb (c l k)] (.io (c l m) (M [A D a,A D b])))(y:RQ 41 [.str ⟨#[122]⟩,A D i] (.str j))(z:RQ 37 [.gb (c l m),A D 200,A D 3000] (.io (c l n) (A D d)))(F:RQ 37 [.gb (c l n),A D 200,A D 3000] (.io (c l o) (A D e)))(G:RQ 37 [.gb (c l o),A D (-30),A D 30] (.io (c l p) (A D f)))(I:RQ 37 [.gb (c l p),A D (-30),A D 30] (.io (c l s) (A D g)))(K:RQ 37 [.gb (c l s),A D (-1),A D 3] (.io (c l v) (A D h))):w I0 (PY t l k i) .norm (Uh t l v 1 ([.str j,A D 0,A D a,A D b,A D (J D (a+d)),A D (J D (b+e)),A D f,A D g,A D h]:u) (J D (i-1))):=B BA [q,.r (.io (c l m) (M [A D a,A D b])),.r (.str j),.r (.io (c l n) (A D d)),.r (.io (c l o) (A D e)),.r (.io (c l p) (A D f)),.r (.io (c l s) (A D g)),.r (.io (c l v) (A D h))] [0,3,4,5,41] (Ig c1 x y z F G I K (show C ([.str j,A D 0,A D a,A D b,A D (J D (a+d)),A D (J D (b+e)),A D f,A D g,A D h]:u)=1*9 from rfl) TI)
theorem YA(i:Int)(c1:E (i>0)=false):w I0 (PY t l k i) xZ0 (PY t l k i):=B BA [Y] jB (Bp c1)
theorem VP(os:List El)(i m a b n d o e p f s g v h:Int)(j:ByteArray)(c1:E (i>0)=true)(x:C os+1<=1048576)(y:RQ 42 [.gb (c l k)] (.io (c l m) (M [A D a,A D b])))(z:RQ 41 [.str ⟨#[122]⟩,A D i] (.str j))(F:RQ 37 [.gb (c l m),A D 200,A D 3000] (.io (c l n) (A D d)))(G:RQ 37 [.gb (c l n),A D 200,A D 3000] (.io (c l o) (A D e)))(I:RQ 37 [.gb (c l o),A D (-30),A D 30] (.io (c l p) (A D f)))(K:RQ 37 [.gb (c l p),A D (-30),A D 30] (.io (c l s) (A D g)))(L:RQ 37 [.gb (c l s),A D (-1),A D 3] (.io (c l v) (A D h))):w I0 (Iy t l k os i) .norm (Uh t l v (C os+1) (H cZ os++([.str j,A D 0,A D a,A D b,A D (J D (a+d)),A D (J D (b+e)),A D f,A D g,A D h]:u)) (J D (i-1))):=B BA [q,.r (.io (c l m) (M [A D a,A D b])),.r (.str j),.r (.io (c l n) (A D d)),.r (.io (c l o) (A D e)),.r (.io (c l p) (A D f)),.r (.io (c l s) (A D g)),.r (.io (c l v) (A D h))] [0,3,4,5,41] (Ig c1 y z F G I K L (show C ([.str j,A D 0,A D a,A D b,A D (J D (a+d)),A D (J D (b+e)),A D f,A D g,A D h]:u)=1*9 from rfl) x)
theorem VQ(os:List El)(i:Int)(c1:E (i>0)=false):w I0 (Iy t l k os i) xZ0 (Iy t l k os i):=B BA [Y] [0,3,4,5,41] (Bp c1)
end
def QO:ICode := .region false [o1 43 (.mvf 0 3 [41,68,88,104,117,135] [12]),o1 44 (.cab 38 43 0 [.c (.int .i64 3)]),o1 45 (.bin .eql (.t 44) (.c (.int .i64 0)))]
theorem VS(t:Tbl)(l:LI)(d a b:Int)(e:RQ 38 [.gb (c l d),A D 3] (.io (c l a) (A D b))):w QO (Lt t l d) .norm (VL ({ t with zo:=[] }) l a (b==0)):=B BA [.r (.io (c l a) (A D b))] [0,3,4,45] (Bp e)
theorem VT(t:Tbl)(l:LI)(d:Int)(os:List El)(a b:Int)(e:RQ 38 [.gb (c l d),A D 3] (.io (c l a) (A D b))):w QO (VJ t l d os) .norm (VL ({ t with zo:=os }) l a (b==0)):=B BA [.r (.io (c l a) (A D b))] [0,3,4,45] (Bp e)
def Aln:ICode := .region true [o1 46 (.adr 3 3 13),o1 47 (.ldh 46 3 false [41,68,88,104,117,135]),o1 48 (.mvp 0 0),o1 49 (.cab 42 48 0 []),o1 50 (.mvp 0 0),o1 51 (.adr 3 3 0),o1 52 (.ldh 51 3 false [41,68,88,104,117,135]),o1 53 (.bin .sub (.t 52) (.c (.int .i64 1))),o1 54 (.cab 37 50 0 [.c (.int .i64 20),.t 53]),o1 55 (.mvp 0 0),o1 56 (.cab 37 55 0 [.c (.int .i64 0),.c (.int .i64 2000)]),o1 57 (.mvp 0 0),o1 58 (.cab 37 57 0 [.c (.int .i64 (-400)),.c (.int .i64 400)]),o1 59 (.mvp 0 0),o1 60 (.cab 37 59 0 [.c (.int .i64 (-400)),.c (.int .i64 400)]),o1 61 (.bld [.int .i64 0,.int .i64 0] [(0,1,.t 58),(1,1,.t 60)]),o1 62 (.mvp 0 0),o1 63 (.cab 38 62 0 [.c (.int .i64 4)]),o1 64 (.mvp 0 0),o1 65 (.cab 37 64 0 [.c (.int .i64 (-1)),.c (.int .i64 9)]),o1 66 (.bld [.str AP,.int .i64 0,.int .i64 0,.int .i64 0,.int .i64 0,.int .i64 0,.int .i64 0,.int .i64 0,.int .i64 0,.int .i64 0] [(0,1,.c (.str ⟨#[115,49]⟩)),(2,2,.t 49),(4,1,.t 54),(5,1,.t 56),(6,2,.t 61),(8,1,.t 63),(9,1,.t 65)]),o1 67 (.bls 1 [.str AP,.int .i64 0,.int .i64 0,.int .i64 0,.int .i64 0,.int .i64 0,.int .i64 0,.int .i64 0,.int .i64 0,.int .i64 0] [(0,10,.t 66)]),⟨some 68,.aph 47 (.t 67) 10 1048576 3 [68],none,[17,52,77,94,110,123]⟩,o1 69 (.adr 3 3 13),oN (.sth 69 3 68)]
theorem dG(t:Tbl)(l:LI)(s j a b k d m e n f o g p h q i:Int)(v:RQ 42 [.gb (c l s)] (.io (c l j) (M [A D a,A D b])))(x:RQ 37 [.gb (c l j),A D 20,A D (J D (t.r0-1))] (.io (c l k) (A D d)))(y:RQ 37 [.gb (c l k),A D 0,A D 2000] (.io (c l m) (A D e)))(z:RQ 37 [.gb (c l m),A D (-400),A D 400] (.io (c l n) (A D f)))(E:RQ 37 [.gb (c l n),A D (-400),A D 400] (.io (c l o) (A D g)))(F:RQ 38 [.gb (c l o),A D 4] (.io (c l p) (A D h)))(G:RQ 37 [.gb (c l p),A D (-1),A D 9] (.io (c l q) (A D i))):w Aln (VF t l s) .norm (Alj t l q 1 ([.str ⟨#[115,49]⟩,A D 0,A D a,A D b,A D d,A D e,A D f,A D g,A D h,A D i]:u)):=B BA [.r (.io (c l j) (M [A D a,A D b])),.r (.io (c l k) (A D d)),.r (.io (c l m) (A D e)),.r (.io (c l n) (A D f)),.r (.io (c l o) (A D g)),.r (.io (c l p) (A D h)),.r (.io (c l q) (A D i))] [0,3,4,68] (Y3 v x y z E F G (show C ([.str ⟨#[115,49]⟩,A D 0,A D a,A D b,A D d,A D e,A D f,A D g,A D h,A D i]:u)=1*10 from rfl) TI)
def NQ:ICode := .region false [o1 70 (.mvf 0 3 [41,68,88,104,117,135] [12,13]),o1 71 (.cab 38 70 0 [.c (.int .i64 3)]),oM 7 71]
theorem VU(t:Tbl)(l:LI)(d a b:Int)(e:RQ 38 [.gb (c l d),A D 3] (.io (c l a) (A D b))):w NQ (VF t l d) .norm (Mk ({ t with sa:=[] }) l a b):=B BA [.r (.io (c l a) (A D b))] [0,3,4,7] (Bp e)
theorem VV(t:Tbl)(l:LI)(d:Int)(os:List El)(a b:Int)(e:RQ 38 [.gb (c l d),A D 3] (.io (c l a) (A D b))):w NQ (lJ t l d os) .norm (Mk ({ t with sa:=os }) l a b):=B BA [.r (.io (c l a) (A D b))] [0,3,4,7] (Bp e)
def I1:ICode:=CG UR 92 244
section
variable(t:Tbl)(l:LI)(g:Int)
theorem YB(i h a b j d k e:Int)(f:ByteArray)(c1:E (i>0)=true)(m:RQ 41 [.str ⟨#[108]⟩,A D i] (.str f))(n:RQ 42 [.gb (c l g)] (.io (c l h) (M [A D a,A D b])))(o:RQ 37 [.gb (c l h),A D 20,A D 400] (.io (c l j) (A D d)))(p:RQ 38 [.gb (c l j),A D 10] (.io (c l k) (A D e))):w I1 (Mk t l g i) .norm (Ui t l k 1 ([.str f,A D 0,A D a,A D b,A D d,A D e]:u) (J D (i-1))):=B BA [q,.r (.str f),.r (.io (c l h) (M [A D a,A D b])),.r (.io (c l j) (A D d)),.r (.io (c l k) (A D e))] [0,3,4,7,88] (Jn c1 m n o p (show C ([.str f,A D 0,A D a,A D b,A D d,A D e]:u)=1*6 from rfl) TI)
theorem YC(i:Int)(c1:E (i>0)=false):w I1 (Mk t l g i) xZ2 (Mk t l g i):=B BA [Y] [0,3,4,7] (Bp c1)
theorem VW(os:List El)(i h a b j d k e:Int)(f:ByteArray)(c1:E (i>0)=true)(m:C os+1<=1048576)(n:RQ 41 [.str ⟨#[108]⟩,A D i] (.str f))(o:RQ 42 [.gb (c l g)] (.io (c l h) (M [A D a,A D b])))(p:RQ 37 [.gb (c l h),A D 20,A D 400] (.io (c l j) (A D d)))(s:RQ 38 [.gb (c l j),A D 10] (.io (c l k) (A D e))):w I1 (Iz t l g os i) .norm (Ui t l k (C os+1) (H cL os++([.str f,A D 0,A D a,A D b,A D d,A D e]:u)) (J D (i-1))):=B BA [q,.r (.str f),.r (.io (c l h) (M [A D a,A D b])),.r (.io (c l j) (A D d)),.r (.io (c l k) (A D e))] [0,3,4,7,88] (Jn c1 n o p s (show C ([.str f,A D 0,A D a,A D b,A D d,A D e]:u)=1*6 from rfl) m)
theorem VX(os:List El)(i:Int)(c1:E (i>0)=false):w I1 (Iz t l g os i) xZ2 (Iz t l g os i):=B BA [Y] [0,3,4,7,88] (Bp c1)
end
def QP:ICode := .region false [o1 90 (.mvf 0 3 [41,68,88,104,117,135] [12,13,14]),o1 91 (.cab 38 90 0 [.c (.int .i64 4)]),o1 92 (.bin .eql (.t 91) (.c (.int .i64 0)))]
theorem VY(t:Tbl)(l:LI)(d a b:Int)(e:RQ 38 [.gb (c l d),A D 4] (.io (c l a) (A D b))):w QP (VG t l d) .norm (VM ({ t with la:=[] }) l a (b==0)):=B BA [.r (.io (c l a) (A D b))] [0,3,4,92] (Bp e)
theorem VZ(t:Tbl)(l:LI)(d:Int)(os:List El)(a b:Int)(e:RQ 38 [.gb (c l d),A D 4] (.io (c l a) (A D b))):w QP (VK t l d os) .norm (VM ({ t with la:=os }) l a (b==0)):=B BA [.r (.io (c l a) (A D b))] [0,3,4,92] (Bp e)
def yI:ICode := .region true [o1 93 (.adr 3 3 15),o1 94 (.ldh 93 3 false [41,68,88,104,117,135]),o1 95 (.mvp 0 0),o1 96 (.cab 42 95 0 []),o1 97 (.mvp 0 0),o1 98 (.cab 37 97 0 [.c (.int .i64 50),.c (.int .i64 500)]),o1 99 (.mvp 0 0),o1 100 (.cab 37 99 0 [.c (.int .i64 (-5)),.c (.int .i64 5)]),o1 101 (.bld [.int .i64 0,.int .i64 0] [(0,1,.t 100),(1,1,.c (.int .i64 1))]),o1 102 (.bld [.str AP,.int .i64 0,.int .i64 0,.int .i64 0,.int .i64 0,.int .i64 0,.int .i64 0,.int .i64 0] [(0,1,.c (.str ⟨#[114,49]⟩)),(1,1,.c (.int .i64 0)),(2,1,.c (.int .i64 1)),(3,2,.t 96),(5,1,.t 98),(6,2,.t 101)]),o1 103 (.bls 1 [.str AP,.int .i64 0,.int .i64 0,.int .i64 0,.int .i64 0,.int .i64 0,.int .i64 0,.int .i64 0] [(0,8,.t 102)]),⟨some 104,.aph 94 (.t 103) 8 1048576 3 [104],none,[17,47,52,77,110,123]⟩,o1 105 (.adr 3 3 15),oN (.sth 105 3 104)]
theorem YD(t:Tbl)(l:LI)(i f a b g d h e:Int)(j:RQ 42 [.gb (c l i)] (.io (c l f) (M [A D a,A D b])))(k:RQ 37 [.gb (c l f),A D 50,A D 500] (.io (c l g) (A D d)))(m:RQ 37 [.gb (c l g),A D (-5),A D 5] (.io (c l h) (A D e))):w yI (VH t l i) .norm (Alk t l h 1 ([.str ⟨#[114,49]⟩,A D 0,A D 1,A D a,A D b,A D d,A D e,A D 1]:u)):=B BA [.r (.io (c l f) (M [A D a,A D b])),.r (.io (c l g) (A D d)),.r (.io (c l h) (A D e))] [0,3,4,104] (GK j k m (show C ([.str ⟨#[114,49]⟩,A D 0,A D 1,A D a,A D b,A D d,A D e,A D 1]:u)=1*8 from rfl) TI)
def OU:ICode := .region false [o1 106 (.mvf 0 3 [41,68,88,104,117,135] [12,13,14,15]),o1 107 (.cab 38 106 0 [.c (.int .i64 4)]),o1 108 (.bin .eql (.t 107) (.c (.int .i64 0)))]
theorem TM(t:Tbl)(l:LI)(d a b:Int)(e:RQ 38 [.gb (c l d),A D 4] (.io (c l a) (A D b))):w OU (VH t l d) .norm (VN ({ t with ra:=[] }) l a (b==0)):=B BA [.r (.io (c l a) (A D b))] [0,3,4,108] (Bp e)
theorem TN(t:Tbl)(l:LI)(d:Int)(os:List El)(a b:Int)(e:RQ 38 [.gb (c l d),A D 4] (.io (c l a) (A D b))):w OU (lK t l d os) .norm (VN ({ t with ra:=os }) l a (b==0)):=B BA [.r (.io (c l a) (A D b))] [0,3,4,108] (Bp e)
def yJ:ICode := .region true [o1 109 (.adr 3 3 16),o1 110 (.ldh 109 3 false [41,68,88,104,117,135]),o1 111 (.mvp 0 0),o1 112 (.cab 42 111 0 []),o1 113 (.mvp 0 0),o1 114 (.cab 37 113 0 [.c (.int .i64 50),.c (.int .i64 400)]),o1 115 (.bld [.str AP,.int .i64 0,.int .i64 0,.int .i64 0,.int .i64 0] [(0,1,.c (.str ⟨#[100,49]⟩)),(2,2,.t 112),(4,1,.t 114)]),o1 116 (.bls 1 [.str AP,.int .i64 0,.int .i64 0,.int .i64 0,.int .i64 0] [(0,5,.t 115)]),⟨some 117,.aph 110 (.t 116) 5 1048576 3 [117],none,[17,47,52,77,94,123]⟩,o1 118 (.adr 3 3 16),oN (.sth 118 3 117)]
theorem YE(t:Tbl)(l:LI)(g e a b f d:Int)(h:RQ 42 [.gb (c l g)] (.io (c l e) (M [A D a,A D b])))(i:RQ 37 [.gb (c l e),A D 50,A D 400] (.io (c l f) (A D d))):w yJ (VI t l g) .norm (All t l f 1 ([.str ⟨#[100,49]⟩,A D 0,A D a,A D b,A D d]:u)):=B BA [.r (.io (c l e) (M [A D a,A D b])),.r (.io (c l f) (A D d))] [0,3,4,117] (Jm h i (show C ([.str ⟨#[100,49]⟩,A D 0,A D a,A D b,A D d]:u)=1*5 from rfl) TI)
def OV:ICode := .region false [o1 119 (.mvf 0 3 [41,68,88,104,117,135] [12,13,14,15,16]),o1 120 (.cab 38 119 0 [.c (.int .i64 2)]),o1 121 (.bin .eql (.t 120) (.c (.int .i64 0)))]
theorem TO(t:Tbl)(l:LI)(d a b:Int)(e:RQ 38 [.gb (c l d),A D 2] (.io (c l a) (A D b))):w OV (VI t l d) .norm (VO ({ t with dr:=[] }) l a (b==0)):=B BA [.r (.io (c l a) (A D b))] [0,3,4,121] (Bp e)
theorem TP(t:Tbl)(l:LI)(d:Int)(os:List El)(a b:Int)(e:RQ 38 [.gb (c l d),A D 2] (.io (c l a) (A D b))):w OV (lL t l d os) .norm (VO ({ t with dr:=os }) l a (b==0)):=B BA [.r (.io (c l a) (A D b))] [0,3,4,121] (Bp e)
def yK:ICode := .region true [o1 122 (.adr 3 3 17),o1 123 (.ldh 122 3 false [41,68,88,104,117,135]),o1 124 (.mvp 0 0),o1 125 (.cab 42 124 0 []),o1 126 (.mvp 0 0),o1 127 (.cab 37 126 0 [.c (.int .i64 (-300)),.c (.int .i64 300)]),o1 128 (.mvp 0 0),o1 129 (.cab 37 128 0 [.c (.int .i64 0),.c (.int .i64 500)]),o1 130 (.bld [.int .i64 0,.int .i64 0] [(0,1,.t 127),(1,1,.t 129)]),o1 131 (.mvp 0 0),o1 132 (.cab 38 131 0 [.c (.int .i64 4)]),o1 133 (.bld [.str AP,.int .i64 0,.int .i64 0,.int .i64 0,.int .i64 0,.int .i64 0,.int .i64 0] [(0,1,.c (.str ⟨#[107,49]⟩)),(2,2,.t 125),(4,2,.t 130),(6,1,.t 132)]),o1 134 (.bls 1 [.str AP,.int .i64 0,.int .i64 0,.int .i64 0,.int .i64 0,.int .i64 0,.int .i64 0] [(0,7,.t 133)]),⟨some 135,.aph 123 (.t 134) 7 1048576 3 [135],none,[17,47,52,77,94,110]⟩,o1 136 (.adr 3 3 17),oN (.sth 136 3 135)]
theorem YF(t:Tbl)(l:LI)(k g a b h d i e j f:Int)(m:RQ 42 [.gb (c l k)] (.io (c l g) (M [A D a,A D b])))(n:RQ 37 [.gb (c l g),A D (-300),A D 300] (.io (c l h) (A D d)))(o:RQ 37 [.gb (c l h),A D 0,A D 500] (.io (c l i) (A D e)))(p:RQ 38 [.gb (c l i),A D 4] (.io (c l j) (A D f))):w yK (lI t l k) .norm (Alm t l j 1 ([.str ⟨#[107,49]⟩,A D 0,A D a,A D b,A D d,A D e,A D f]:u)):=B BA [.r (.io (c l g) (M [A D a,A D b])),.r (.io (c l h) (A D d)),.r (.io (c l i) (A D e)),.r (.io (c l j) (A D f))] [0,3,4,135] (Kf m n o p (show C ([.str ⟨#[107,49]⟩,A D 0,A D a,A D b,A D d,A D e,A D f]:u)=1*7 from rfl) TI)
def NR(t:Tbl)(l:LI)(a:Int):V:=.bxg [G (C l) (li l),A D a]::W 3 (Q [A D t.r0,A D t.r1,A D t.r2,A D t.r3,A D t.r4,A D t.r5,A D t.r6,G (C t.tr) (H cI t.tr),G (C t.ws) (H cW t.ws),G (C t.ar) (H AH t.ar),G (C t.po) (H p t.po),G (C t.fl) (H cF t.fl),G (C t.zo) (H cZ t.zo),G (C t.sa) (H AU t.sa),G (C t.la) (H cL t.la),G (C t.ra) (H cR t.ra),G (C t.dr) (H cD t.dr),G (C t.ln) (H cK t.ln)]::W 133 [])
def Sa:ICode:=CG UR 92 255
theorem TQ(t:Tbl)(l:LI)(a:Int)   : w Sa (lI t l a) .ret (NR ({ t with ln:=[] }) l a):=B BA [] [0,4] a0
theorem TR(t:Tbl)(l:LI)(a:Int)(os:List El)   : w Sa (Ali t l a os) .ret (NR ({ t with ln:=os }) l a):=B BA [] [0,4] a0
def yL:ICode := .seq (.seq OV (.cond (.t 121) yK .skip)) Sa
def yM:ICode := .seq (.seq OU (.cond (.t 108) yJ .skip)) yL
def yN:ICode := .seq (.seq QP (.cond (.t 92) yI .skip)) yM
def yO:ICode := .seq (.seq NQ (.block 2 (.loop I1))) yN
def yP:ICode := .seq (.seq QO (.cond (.t 45) Aln .skip)) yO
def Asz:ICode := .seq (.seq dF (.block 0 (.loop I0))) yP
theorem Alo:(iF g UR).body=(.seq yH Asz):=by kernel_rfl
section
variable {l:LI} {t:Tbl}
def Tx(_:El):Prop:=True
theorem Adj{q j:Int}(os:List El)(e:El):Uh t l q (C os+1) (H cZ os++cZ e) j=Iy t l q (os++[e]) j:=by
 rw[Et];show _=Uh t l q (C (os++[e])) (H cZ (os++[e])) j;rw[Ac];rfl
theorem Alp{p i:Int}(B:Sp l p)(hi:1<=i/\i<=3):∃ q e,Sp l q/\Tx e/\w I0 (PY t l p i) .norm (Iy t l q [e] (i-1)) /\
  ∀ os:List El,C os<=9->w I0 (Iy t l p os i) .norm (Iy t l q (os++[e]) (i-1)):=by
 obtain⟨r,c,d,h1,I,r1⟩:=FW B;obtain⟨f,u⟩:=Lq (s:=⟨#[122]⟩) (by decide) hi;obtain⟨v,g,h2,K,r2⟩:=Bv (a:=200) (b:=3000) h1 (by omega) (by omega) (by omega);obtain⟨x,j,E,L,r3⟩:=Bv (a:=200) (b:=3000) h2 (by omega) (by omega) (by omega);obtain⟨y,k,F,M,r4⟩:=Bv (a := -30) (b:=30) E (by omega) (by omega) (by omega);obtain⟨z,m,G,N,r5⟩:=Bv (a := -30) (b:=30) F (by omega) (by omega) (by omega);obtain⟨n,o,H,O,r6⟩:=Bv (a := -1) (b:=3) G (by omega) (by omega) (by omega);have A:J D (i-1)=i-1:=Bb (by omega) (by omega);have hc:decide (i>0)=true:=AN (by omega);refine⟨n,⟨f,[0,c,d,J D (c+g),J D (d+j),k,m,o],false⟩,H,trivial,?_,fun os P => ?_⟩
 ·have h:=Y9 t l p i r c d v g x j y k z m n o f hc r1 u r2 r3 r4 r5 r6;rw[A] at h;exact h
 ·have h:=VP t l p os i r c d v g x j y k z m n o f hc (by omega) r1 u r2 r3 r4 r5 r6;rw[A] at h;rw[<- Adj];exact h
theorem yQ:∀ (n:Nat) {p:Int} {os:List El},n<=3->C os+n<=9->(∀ e∈os,Tx e)->Sp l p->∃ q a,Sp l q/\C a=C os+n/\(∀ e∈a,Tx e)/\w (.loop I0) (Iy t l p os n) xZ0 (Iy t l q a 0)
 | 0,p,os,_,_,hP,b=>⟨p,os,b,rfl,hP,f (VQ t l p os 0 rfl)⟩
 | n+1,p,os,hn,hl,hP,b=>by
  obtain⟨q,e,d,g,_,h2⟩:=Alp (i:=((n+1:Nat):Int)) b (by omega);obtain⟨j,a,k,m,o,r⟩:=yQ  n (p:=q) (os:=os++[e]) (by omega) (by rw[Ac];simp;omega) (fun x s=>by rcases AF.1 s with h | h;exact hP x h;rw[Be.1 h];exact g) d;have c:=h2 os (by omega);rw[show ((n+1:Nat):Int)-1=(n:Int) by omega] at c;exact⟨j,a,k,by rw[m,Ac];simp;omega,o,Ay c r⟩
theorem Alq{p:Int}(n:Nat)(hn:n<=3)(b:Sp l p):∃ q os,Sp l q/\C os=n/\(∀ e∈os,Tx e)/\∃ st,w (.loop I0) (PY t l p n) xZ0 st/\((os=[]/\st=PY t l q 0)\/st=Iy t l q os 0):=by
 cases n with
 | zero=>exact⟨p,[],b,rfl,(fun e a=>by cases a),_,f (YA t l p 0 rfl),.inl ⟨rfl,rfl⟩⟩
 | succ n =>
  obtain⟨q,e,c,a,h1,_⟩:=Alp (i:=((n+1:Nat):Int)) b (by omega);obtain⟨d,g,h,j,k,m⟩:=yQ  n (p:=q) (os:=[e]) (by omega) (by simp;omega) (fun x o=>by rw[Be.1 o];exact a) c;rw[show ((n+1:Nat):Int)-1=(n:Int) by omega] at h1;exact⟨d,g,h,by rw[j];simp;omega,k,_,Ay h1 m,.inr rfl⟩
theorem Adk{q j:Int}(os:List El)(e:El):Ui t l q (C os+1) (H cL os++cL e) j=Iz t l q (os++[e]) j:=by
 rw[Et];show _=Ui t l q (C (os++[e])) (H cL (os++[e])) j;rw[Ac];rfl
theorem Alr{p i:Int}(v:Sp l p)(hi:1<=i/\i<=3):∃ q e,Sp l q/\Tx e/\w I1 (Mk t l p i) .norm (Iz t l q [e] (i-1)) /\
  ∀ os:List El,C os<=9->w I1 (Iz t l p os i) .norm (Iz t l q (os++[e]) (i-1)):=by
 obtain⟨c,m⟩:=Lq (s:=⟨#[108]⟩) (by decide) hi;obtain⟨o,d,f,h1,y,r1⟩:=FW v;obtain⟨r,g,h2,z,r2⟩:=Bv (a:=20) (b:=400) h1 (by omega) (by omega) (by omega);obtain⟨j,k,x,A,r3⟩:=Bs (n:=10) h2 (by omega) (by omega);have u:J D (i-1)=i-1:=Bb (by omega) (by omega);have hc:decide (i>0)=true:=AN (by omega);refine⟨j,⟨c,[0,d,f,g,k],false⟩,x,trivial,?_,fun os B => ?_⟩
 ·have h:=YB t l p i o d f r g j k c hc m r1 r2 r3;rw[u] at h;exact h
 ·have h:=VW t l p os i o d f r g j k c hc (by omega) m r1 r2 r3;rw[u] at h;rw[<- Adk];exact h
theorem yR:∀ (n:Nat) {p:Int} {os:List El},n<=3->C os+n<=9->(∀ e∈os,Tx e)->Sp l p->∃ q a,Sp l q/\C a=C os+n/\(∀ e∈a,Tx e)/\w (.loop I1) (Iz t l p os n) xZ2 (Iz t l q a 0)
 | 0,p,os,_,_,hP,b=>⟨p,os,b,rfl,hP,f (VX t l p os 0 rfl)⟩
 | n+1,p,os,hn,hl,hP,b=>by
  obtain⟨q,e,d,g,_,h2⟩:=Alr (i:=((n+1:Nat):Int)) b (by omega);obtain⟨j,a,k,m,o,r⟩:=yR  n (p:=q) (os:=os++[e]) (by omega) (by rw[Ac];simp;omega) (fun x s=>by rcases AF.1 s with h | h;exact hP x h;rw[Be.1 h];exact g) d;have c:=h2 os (by omega);rw[show ((n+1:Nat):Int)-1=(n:Int) by omega] at c;exact⟨j,a,k,by rw[m,Ac];simp;omega,o,Ay c r⟩
section
variable{p:Int}
theorem Als(n:Nat)(hn:n<=3)(v:Sp l p):∃ q os,Sp l q/\C os=n/\(∀ e∈os,Tx e)/\∃ st,w (.loop I1) (Mk t l p n) xZ2 st/\((os=[]/\st=Mk t l q 0)\/st=Iz t l q os 0):=by
 cases n with
 | zero=>exact⟨p,[],v,rfl,(fun e K=>by cases K),_,f (YC t l p 0 rfl),.inl ⟨rfl,rfl⟩⟩
 | succ n =>
  obtain⟨q,e,k,K,h1,_⟩:=Alr (i:=((n+1:Nat):Int)) v (by omega);obtain⟨W,X,Y,B,G,L⟩:=yR  n (p:=q) (os:=[e]) (by omega) (by simp;omega) (fun x Z=>by rw[Be.1 Z];exact K) k;rw[show ((n+1:Nat):Int)-1=(n:Int) by omega] at h1;exact⟨W,X,Y,by rw[B];simp;omega,G,_,Ay h1 L,.inr rfl⟩
theorem Awq{os:List El}{st:V}(v:Sp l p)(h:(os=[]/\st=VI t l p)\/st=lL t l p os):∃ q c,Sp l q/\(C c<=3)/\w yL st .ret (NR { t with dr:=os,ln:=c } l q):=by
 obtain⟨g,d,h0,_,r0⟩:=Bs (n:=2) v (by omega) (by omega);have e:w OV st .norm (VO { t with dr:=os } l g (d==0)):=by
  rcases h with ⟨rfl,rfl⟩ | rfl
  ·exact TO t l p g d r0
  ·exact TP t l p os g d r0
 cases hb:(d==0) <;> rw[hb] at e
 ·exact⟨g,[],h0,by simp,T (T e (FV [0,3,4] rfl (by kernel_rfl))) (TQ { t with dr:=os } l g)⟩
 ·obtain⟨z,o,r,h1,M,r1⟩:=FW h0;obtain⟨E,s,h2,N,r2⟩:=Bv (a := -300) (b:=300) h1 (by omega) (by omega) (by omega);obtain⟨H,y,B,S,r3⟩:=Bv (a:=0) (b:=500) h2 (by omega) (by omega) (by omega);obtain⟨I,F,G,b4,r4⟩:=Bs (n:=4) B (by omega) (by omega);exact⟨I,[⟨⟨#[107,49]⟩,[0,o,r,s,y,F],false⟩],G,by simp,T (T e (Fh [0,3,4] rfl (by kernel_rfl) (YF { t with dr:=os } l g z o r E s H y I F r1 r2 r3 r4))) (TR { t with dr:=os } l I [⟨⟨#[107,49]⟩,[0,o,r,s,y,F],false⟩])⟩
theorem Awr{os:List El}{st:V}(v:Sp l p)(h:(os=[]/\st=VH t l p)\/st=lK t l p os):∃ q j c,Sp l q/\(C j<=3/\C c<=3)/\w yM st .ret (NR { t with ra:=os,dr:=j,ln:=c } l q):=by
 obtain⟨g,d,h0,_,r0⟩:=Bs (n:=4) v (by omega) (by omega);have e:w OU st .norm (VN { t with ra:=os } l g (d==0)):=by
  rcases h with ⟨rfl,rfl⟩ | rfl
  ·exact TM t l p g d r0
  ·exact TN t l p os g d r0
 cases hb:(d==0) <;> rw[hb] at e
 ·obtain⟨q,c,k,hl,hr⟩:=Awq (t:={ t with ra:=os }) (os:=[]) h0 (.inl ⟨rfl,rfl⟩);exact⟨q,[],c,k,⟨by simp,hl⟩,T (T e (FV [0,3,4] rfl (by kernel_rfl))) hr⟩
 ·obtain⟨z,o,r,h1,M,r1⟩:=FW h0;obtain⟨E,s,h2,N,r2⟩:=Bv (a:=50) (b:=400) h1 (by omega) (by omega) (by omega);obtain⟨q,c,k,hl,hr⟩:=Awq (t:={ t with ra:=os }) (os:=[⟨⟨#[100,49]⟩,[0,o,r,s],false⟩]) h2 (.inr rfl);exact⟨q,[⟨⟨#[100,49]⟩,[0,o,r,s],false⟩],c,k,⟨by simp,hl⟩,T (T e (Fh [0,3,4] rfl (by kernel_rfl) (YE { t with ra:=os } l g z o r E s r1 r2))) hr⟩
theorem pl_4{os:List El}{st:V}(v:Sp l p)(h:(os=[]/\st=VG t l p)\/st=VK t l p os):∃ q u j c,Sp l q/\(C u<=3/\C j<=3/\C c<=3)/\w yN st .ret (NR { t with la:=os,ra:=u,dr:=j,ln:=c } l q):=by
 obtain⟨g,d,h0,_,r0⟩:=Bs (n:=4) v (by omega) (by omega);have e:w QP st .norm (VM { t with la:=os } l g (d==0)):=by
  rcases h with ⟨rfl,rfl⟩ | rfl
  ·exact VY t l p g d r0
  ·exact VZ t l p os g d r0
 cases hb:(d==0) <;> rw[hb] at e
 ·obtain⟨q,j,c,k,hl,hr⟩:=Awr (t:={ t with la:=os }) (os:=[]) h0 (.inl ⟨rfl,rfl⟩);exact⟨q,[],j,c,k,⟨by simp,hl⟩,T (T e (FV [0,3,4] rfl (by kernel_rfl))) hr⟩
 ·obtain⟨z,o,r,h1,M,r1⟩:=FW h0;obtain⟨E,s,h2,N,r2⟩:=Bv (a:=50) (b:=500) h1 (by omega) (by omega) (by omega);obtain⟨H,y,B,S,r3⟩:=Bv (a := -5) (b:=5) h2 (by omega) (by omega) (by omega);obtain⟨q,j,c,k,hl,hr⟩:=Awr (t:={ t with la:=os }) (os:=[⟨⟨#[114,49]⟩,[0,1,o,r,s,y,1],false⟩]) B (.inr rfl);exact⟨q,[⟨⟨#[114,49]⟩,[0,1,o,r,s,y,1],false⟩],j,c,k,⟨by simp,hl⟩,T (T e (Fh [0,3,4] rfl (by kernel_rfl) (YD { t with la:=os } l g z o r E s H y r1 r2 r3))) hr⟩
theorem Aws{os:List El}{st:V}(v:Sp l p)(h:(os=[]/\st=VF t l p)\/st=lJ t l p os):∃ q A u j c,Sp l q/\(C A<=3/\C u<=3/\C j<=3/\C c<=3)/\w yO st .ret (NR { t with sa:=os,la:=A,ra:=u,dr:=j,ln:=c } l q):=by
 obtain⟨g,d,h0,b0,r0⟩:=Bs (n:=3) v (by omega) (by omega);have e:w NQ st .norm (Mk { t with sa:=os } l g d):=by
  rcases h with ⟨rfl,rfl⟩ | rfl
  ·exact VU t l p g d r0
  ·exact VV t l p os g d r0
 obtain⟨z,ls,h1,e1,_,a1,O,e3⟩:=Als (t:={ t with sa:=os }) d.toNat (by omega) h0;rw[show (d.toNat:Int)=d by omega] at O;have e4:∃ H5,w (.seq NQ (.block 2 (.loop I1))) st .norm H5/\((ls=[]/\H5=VG { t with sa:=os } l z)\/H5=VK { t with sa:=os } l z ls):=by
  rcases e3 with ⟨rfl,rfl⟩ | rfl
  ·exact⟨_,T e (A7 [0,3,4] (m O) (by kernel_rfl)),.inl ⟨rfl,rfl⟩⟩
  ·exact⟨_,T e (A7 [0,3,4,88] (m O) (by kernel_rfl)),.inr rfl⟩
 obtain⟨H5,e5,e6⟩:=e4;obtain⟨q,u,j,c,k,hl,hr⟩:=pl_4 h1 e6;exact⟨q,ls,u,j,c,k,⟨by omega,hl⟩,T e5 hr⟩
theorem pl_2{os:List El}{st:V}(v:Sp l p)(hr:64<=t.r0/\t.r0<=200)(h:(os=[]/\st=Lt t l p)\/st=VJ t l p os):∃ q U A u j c,Sp l q/\(C U<=3/\C A<=3/\C u<=3/\C j<=3/\C c<=3)/\w yP st .ret (NR { t with zo:=os,sa:=U,la:=A,ra:=u,dr:=j,ln:=c } l q):=by
 obtain⟨g,d,h0,_,r0⟩:=Bs (n:=3) v (by omega) (by omega);have e:w QO st .norm (VL { t with zo:=os } l g (d==0)):=by
  rcases h with ⟨rfl,rfl⟩ | rfl
  ·exact VS t l p g d r0
  ·exact VT t l p os g d r0
 cases hb:(d==0) <;> rw[hb] at e
 ·obtain⟨q,A,u,j,c,k,hl,hr⟩:=Aws (t:={ t with zo:=os }) (os:=[]) h0 (.inl ⟨rfl,rfl⟩);exact⟨q,[],A,u,j,c,k,⟨by simp,hl⟩,T (T e (FV [0,3,4] rfl (by kernel_rfl))) hr⟩
 ·obtain⟨z,o,r,h1,M,r1⟩:=FW h0;have hw:J D (t.r0-1)=t.r0-1:=Bb (by omega) (by omega);obtain⟨E,s,h2,N,r2⟩:=Bv (a:=20) (b:=(t.r0-1)) h1 (by omega) (by omega) (by omega);rw[<- hw] at r2;obtain⟨H,y,B,S,r3⟩:=Bv (a:=0) (b:=2000) h2 (by omega) (by omega) (by omega);obtain⟨I,F,G,b4,r4⟩:=Bv (a := -400) (b:=400) B (by omega) (by omega) (by omega);obtain⟨p5,P,L,b5,r5⟩:=Bv (a := -400) (b:=400) G (by omega) (by omega) (by omega);obtain⟨p6,Q,h6,b6,r6⟩:=Bs (n:=4) L (by omega) (by omega);obtain⟨p7,R,h7,b7,r7⟩:=Bv (a := -1) (b:=9) h6 (by omega) (by omega) (by omega);obtain⟨q,A,u,j,c,k,hl,hr⟩:=Aws (t:={ t with zo:=os }) (os:=[⟨⟨#[115,49]⟩,[0,o,r,s,y,F,P,Q,R],false⟩]) h7 (.inr rfl);exact⟨q,[⟨⟨#[115,49]⟩,[0,o,r,s,y,F,P,Q,R],false⟩],A,u,j,c,k,⟨by simp,hl⟩,T (T e (Fh [0,3,4] rfl (by kernel_rfl) (dG { t with zo:=os } l g z o r E s H y I F p5 P p6 Q p7 R r1 r2 r3 r4 r5 r6 r7))) hr⟩
end
theorem tP{p:Int}(o:Sp l p)(hr:64<=t.r0/\t.r0<=200):∃ (q:Int) (u:Tbl),Sp l q/\(C u.zo<=3/\C u.sa<=3/\C u.la<=3/\C u.ra<=3/\C u.dr<=3/\C u.ln<=3) /\
  RQ 45 [.gb (c l p),M (t.upto 12)] (.io (c l q) (Tbl.av { t with zo:=u.zo,sa:=u.sa,la:=u.la,ra:=u.ra,dr:=u.dr,ln:=u.ln })):=by
 obtain⟨d,a,h0,B,r0⟩:=Bs (n:=3) o (by omega) (by omega);obtain⟨e,zs,h1,D,_,E,b,r⟩:=Alq (t:=t) a.toNat (by omega) h0;rw[show (a.toNat:Int)=a by omega] at b;have v:∃ H5,w (.seq dF (.block 0 (.loop I0))) (Lt t l p) .norm H5/\((zs=[]/\H5=Lt t l e)\/H5=VJ t l e zs):=by
  rcases r with ⟨rfl,rfl⟩ | rfl
  ·exact⟨_,T (PB t l p d a r0) (A7 [0,3,4] (m b) (by kernel_rfl)),.inl ⟨rfl,rfl⟩⟩
  ·exact⟨_,T (PB t l p d a r0) (A7 [0,3,4,41] (m b) (by kernel_rfl)),.inr rfl⟩
 obtain⟨H5,x,y⟩:=v;obtain⟨q,f,h,i,j,k,z,hl,A⟩:=pl_2 h1 hr y;refine⟨q,{ t with zo:=zs,sa:=f,la:=h,ra:=i,dr:=j,ln:=k },z,⟨by dsimp only;omega,hl⟩,BR (fn:=iF g UR) (s:=NR { t with zo:=zs,sa:=f,la:=h,ra:=i,dr:=j,ln:=k } l q) (ex := .ret) rfl rfl ?_ (by nofun) rfl⟩;rw[Alo];exact T (lM t l p) (T x A)
end
structure TOk (t:Tbl):Prop where
 r0:64<=t.r0/\t.r0<=200
 r1:1<=t.r1/\t.r1<=3
 rs:Sm t.r2/\Sm t.r3/\Sm t.r4/\Sm t.r5/\Sm t.r6
 ws:∀ e∈t.ws,e.ok
 ar:∀ e∈t.ar,e.ok
 po:∀ e∈t.po,e.ok
 fl:∀ e∈t.fl,bQ e
 l7:t.tr.length<=10
 l8:t.ws.length<=10
 l9:t.ar.length<=10
 l10:t.po.length<=10
 l11:t.fl.length<=10
 l12:t.zo.length<=10
 l13:t.sa.length<=10
 l14:t.la.length<=10
 l15:t.ra.length<=10
 l16:t.dr.length<=10
 l17:t.ln.length<=10
theorem yS{b:Int}(hb:Sm b):∀ e∈kJ 3000 b,e.ok:=by
 have c:J D (0-3000) = -3000:=Bb (by omega) (by omega);intro e a;unfold kJ at a;rw[c] at a;simp only[Aw,AD,or_false] at a;unfold Sm at hb;rcases a with rfl | rfl | rfl | rfl <;> (intro x d;simp only[Aw,AD,or_false] at d;unfold Sm;omega)
section
variable {l:LI} {t:Tbl}
theorem Adl{q j:Int}(os:LI)(e:Int):cN t l q (C os+1) (H cI os++cI e) j=Mj t l q (os++[e]) j:=by
 rw[Et];show _=cN t l q (C (os++[e])) (H cI (os++[e])) j;rw[Ac];rfl
theorem yT:∀ (d:Nat) {p i:Int} {os:LI},i+(d:Int)=t.r1->0<=i->t.r1<=3->(C os:Int)=i->∃ a:LI,C a<=10/\w (.loop NM) (Mj t l p os i) xZ0 (Mj t l p a t.r1)
 | 0,p,i,os,h,h0,b,hl=>by
  have e:i=t.r1:=by omega
  rw[<- e];exact⟨os,by omega,f (cT t l p os i (AG (by omega)))⟩
 | d+1,p,i,os,h,h0,b,hl=>by
  have h1:=cQ t l p os i (AN (by omega)) (by omega);rw[Bb (n:=i+1) (by omega) (by omega)] at h1;have h2:w NM (Mj t l p os i) .norm (Mj t l p (os++[J D (10+i)]) (i+1)):=by
   rw[<- Adl];exact h1
  obtain⟨a,c,g⟩:=yT d (p:=p) (i:=i+1) (os:=os++[J D (10+i)]) (by omega) (by omega) b (by rw[Ac];simp;omega);exact⟨a,c,Ay h2 g⟩
theorem Alt{p:Int}(h1:1<=t.r1)(b:t.r1<=3):∃ os:LI,C os<=10/\w (.seq tO (.block 0 (.loop NM))) (Akr t l p) .norm (Akw t l p os):=by
 have h2:=kK t l p 0 (AN (by omega));have a:w NM (Akv t l p 0) .norm (Mj t l p [J D (10+0)] (J D (0+1))):=h2;rw[Bb (n:=0+1) (by omega) (by omega)] at a;obtain⟨os,c,d⟩:=yT (l:=l) (t:=t) (t.r1-1).toNat (p:=p) (i:=0+1) (os:=[J D (10+0)]) (by omega) (by omega) b (by simp);exact⟨os,c,T (Adi t l p) (A7 [2,3,4,44] (m (Ay a d)) (by kernel_rfl))⟩
theorem ZB{q j:Int}(os:List El)(e:El):VA t l q (C os+1) (H cW os++cW e) j=JO t l q (os++[e]) j:=by
 rw[Et];show _=VA t l q (C (os++[e])) (H cW (os++[e])) j;rw[Ac];rfl
theorem Alu{p i:Int}(f:Sp l p)(hi:1<=i/\i<=3):∃ q e,Sp l q/\El.ok e/\w Hp (V9 t l p i) .norm (JO t l q [e] (i-1)) /\
  ∀ os:List El,C os<=20->w Hp (JO t l p os i) .norm (JO t l q (os++[e]) (i-1)):=by
 have b:J D (i-1)=i-1:=Bb (by omega) (by omega);have hc:decide (i>0)=true:=AN (by omega);obtain⟨q,e,g,j,r⟩:=kC f;obtain⟨a,c⟩:=Lq (s:=⟨#[119]⟩) (by decide) hi;refine⟨q,⟨a,[e.n 0,e.n 1,e.n 2,e.n 3,e.n 4,e.n 5,e.n 6,e.n 7,e.n 8,e.n 9,e.n 10,e.n 11],false⟩,g,(fun x d=>by simp only[Aw,AD,or_false] at d;rcases d with rfl | rfl | rfl | rfl | rfl | rfl | rfl | rfl | rfl | rfl | rfl | rfl <;> exact El.ok.n j _),?_,fun os k => ?_⟩
 ·have h:=kM t l p i q (e.n 0) (e.n 1) (e.n 2) (e.n 3) (e.n 4) (e.n 5) (e.n 6) (e.n 7) (e.n 8) (e.n 9) (e.n 10) (e.n 11) e.s a hc r c;rw[b] at h;exact h
 ·have h:=cU t l p os i q (e.n 0) (e.n 1) (e.n 2) (e.n 3) (e.n 4) (e.n 5) (e.n 6) (e.n 7) (e.n 8) (e.n 9) (e.n 10) (e.n 11) e.s a hc (by omega) r c;rw[b] at h;rw[<- ZB];exact h
theorem Azo{p i:Int}{os:List El}(c:Sp l p)(hi:1<=i/\i<=3)(k:C os<=20):∃ q e,Sp l q/\El.ok e/\w Hp (kL t l p os i) .norm (JO t l q (os++[e]) (i-1)):=by
 have d:J D (i-1)=i-1:=Bb (by omega) (by omega);have hc:decide (i>0)=true:=AN (by omega);obtain⟨q,e,f,g,r⟩:=kC c;obtain⟨a,j⟩:=Lq (s:=⟨#[119]⟩) (by decide) hi;refine⟨q,⟨a,[e.n 0,e.n 1,e.n 2,e.n 3,e.n 4,e.n 5,e.n 6,e.n 7,e.n 8,e.n 9,e.n 10,e.n 11],false⟩,f,(fun x b=>by simp only[Aw,AD,or_false] at b;rcases b with rfl | rfl | rfl | rfl | rfl | rfl | rfl | rfl | rfl | rfl | rfl | rfl <;> exact El.ok.n g _),?_⟩;have h:=kO t l p os i q (e.n 0) (e.n 1) (e.n 2) (e.n 3) (e.n 4) (e.n 5) (e.n 6) (e.n 7) (e.n 8) (e.n 9) (e.n 10) (e.n 11) e.s a hc (by omega) r j;rw[d] at h;rw[<- ZB];exact h
theorem dH:∀ (n:Nat) {p:Int} {os:List El},n<=3->C os+n<=10->(∀ e∈os,El.ok e)->Sp l p->∃ q a,Sp l q/\C a=C os+n/\(∀ e∈a,El.ok e)/\w (.loop Hp) (JO t l p os n) xZ2 (JO t l q a 0)
 | 0,p,os,_,_,hP,b=>⟨p,os,b,rfl,hP,f (cV t l p os 0 rfl)⟩
 | n+1,p,os,hn,hl,hP,b=>by
  obtain⟨q,e,d,g,_,h2⟩:=Alu (t:=t) (i:=((n+1:Nat):Int)) b (by omega);obtain⟨j,a,k,m,o,r⟩:=dH n (p:=q) (os:=os++[e]) (by omega) (by rw[Ac];simp;omega) (fun x s=>by rcases AF.1 s with h | h;exact hP x h;rw[Be.1 h];exact g) d;have c:=h2 os (by omega);rw[show ((n+1:Nat):Int)-1=(n:Int) by omega] at c;exact⟨j,a,k,by rw[m,Ac];simp;omega,o,Ay c r⟩
theorem Alv{p:Int}(n:Nat)(hn:n<=3)(b:Sp l p):∃ q os,Sp l q/\C os<=3/\(∀ e∈os,El.ok e)/\∃ st,w (.loop Hp) (V9 t l p n) xZ2 st/\((os=[]/\st=V9 t l q 0)\/st=JO t l q os 0):=by
 cases n with
 | zero=>exact⟨p,[],b,by simp,(fun e a=>by cases a),_,f (kN t l p 0 rfl),.inl ⟨rfl,rfl⟩⟩
 | succ n =>
  obtain⟨q,e,c,a,h1,_⟩:=Alu (t:=t) (i:=((n+1:Nat):Int)) b (by omega);obtain⟨d,g,h,j,k,m⟩:=dH (t:=t) n (p:=q) (os:=[e]) (by omega) (by simp;omega) (fun x o=>by rw[Be.1 o];exact a) c;rw[show ((n+1:Nat):Int)-1=(n:Int) by omega] at h1;exact⟨d,g,h,by rw[j];simp;omega,k,_,Ay h1 m,.inr rfl⟩
theorem ZC{q j:Int}(os:List El)(e:El):R_ t l q (C os+1) (H p os++p e) j=JP t l q (os++[e]) j:=by
 rw[Et];show _=R_ t l q (C (os++[e])) (H p (os++[e])) j;rw[Ac];rfl
theorem Alw{p i:Int}(T:Sp l p)(hi:1<=i/\i<=3):∃ q e,Sp l q/\El.ok e/\w IW (NN t l p i) .norm (JP t l q [e] (i-1)) /\
  ∀ os:List El,C os<=20->w IW (JP t l p os i) .norm (JP t l q (os++[e]) (i-1)):=by
 have y:J D (i-1)=i-1:=Bb (by omega) (by omega);have hc:decide (i>0)=true:=AN (by omega);obtain⟨d,z⟩:=Lq (s:=⟨#[112]⟩) (by decide) hi;obtain⟨A,f,g,h1,b1,r1⟩:=FW T;obtain⟨B,j,h2,b2,r2⟩:=Bs (n:=300) h1 (by omega) (by omega);obtain⟨E,k,U,b3,r3⟩:=Bs (n:=16) h2 (by omega) (by omega);obtain⟨F,m,V,b4,r4⟩:=Bs (n:=4) U (by omega) (by omega);obtain⟨G,c,W,b5,r5⟩:=Bs (n:=4) V (by omega) (by omega);obtain⟨H,o,X,b6,r6⟩:=Bv (a := -1) (b:=9) W (by omega) (by omega) (by omega);obtain⟨r,u,O,b7,I⟩:=Bs (n:=2) X (by omega) (by omega);have K:J D (20*c)=20*c:=Bb (by omega) (by omega);cases hb:(u==1)
 ·refine⟨r,⟨d,[0,f,g,j,k,m,0,20*c,-1,o],false⟩,O,(fun x L=>by simp only[Aw,AD,or_false] at L;unfold Sm;omega),?_,fun os Y => ?_⟩
  ·have h:=kS t l p i A f g B j E k F m G c H o r u d hc hb z r1 r2 r3 r4 r5 r6 I;rw[y,K] at h;exact h
  ·have h:=cY t l p os i A f g B j E k F m G c H o r u d hc hb (by omega) z r1 r2 r3 r4 r5 r6 I;rw[y,K] at h;rw[<- ZC];exact h
 ·obtain⟨P,v,Z,b8,Q⟩:=Bs (n:=10) O (by omega) (by omega);obtain⟨M,N,h9,b9,R⟩:=Bs (n:=4) Z (by omega) (by omega);have S:J D (40*v)=40*v:=Bb (by omega) (by omega);refine⟨M,⟨d,[0,f,g,j,k,m,40*v,20*c,N,o],false⟩,h9,(fun x L=>by simp only[Aw,AD,or_false] at L;unfold Sm;omega),?_,fun os Y => ?_⟩
  ·have h:=kQ t l p i A f g B j E k F m G c H o r u P v M N d hc hb z r1 r2 r3 r4 r5 r6 I Q R;rw[y,K,S] at h;exact h
  ·have h:=cX t l p os i A f g B j E k F m G c H o r u P v M N d hc hb (by omega) z r1 r2 r3 r4 r5 r6 I Q R;rw[y,K,S] at h;rw[<- ZC];exact h
theorem yU:∀ (n:Nat) {p:Int} {os:List El},n<=3->C os+n<=10->(∀ e∈os,El.ok e)->Sp l p->∃ q a,Sp l q/\C a=C os+n/\(∀ e∈a,El.ok e)/\w (.loop IW) (JP t l p os n) xZ4 (JP t l q a 0)
 | 0,p,os,_,_,hP,b=>⟨p,os,b,rfl,hP,f (dA t l p os 0 rfl)⟩
 | n+1,p,os,hn,hl,hP,b=>by
  obtain⟨q,e,d,g,_,h2⟩:=Alw (t:=t) (i:=((n+1:Nat):Int)) b (by omega);obtain⟨j,a,k,m,o,r⟩:=yU n (p:=q) (os:=os++[e]) (by omega) (by rw[Ac];simp;omega) (fun x s=>by rcases AF.1 s with h | h;exact hP x h;rw[Be.1 h];exact g) d;have c:=h2 os (by omega);rw[show ((n+1:Nat):Int)-1=(n:Int) by omega] at c;exact⟨j,a,k,by rw[m,Ac];simp;omega,o,Ay c r⟩
theorem Alx{p:Int}(n:Nat)(hn:n<=3)(b:Sp l p):∃ q os,Sp l q/\C os<=3/\(∀ e∈os,El.ok e)/\∃ st,w (.loop IW) (NN t l p n) xZ4 st/\((os=[]/\st=NN t l q 0)\/st=JP t l q os 0):=by
 cases n with
 | zero=>exact⟨p,[],b,by simp,(fun e a=>by cases a),_,f (kU t l p 0 rfl),.inl ⟨rfl,rfl⟩⟩
 | succ n =>
  obtain⟨q,e,c,a,h1,_⟩:=Alw (t:=t) (i:=((n+1:Nat):Int)) b (by omega);obtain⟨d,g,h,j,k,m⟩:=yU (t:=t) n (p:=q) (os:=[e]) (by omega) (by simp;omega) (fun x o=>by rw[Be.1 o];exact a) c;rw[show ((n+1:Nat):Int)-1=(n:Int) by omega] at h1;exact⟨d,g,h,by rw[j];simp;omega,k,_,Ay h1 m,.inr rfl⟩
theorem Adm{q j:Int}(os:List El)(e:El):dB t l q (C os+1) (H cF os++cF e) j=KQ t l q (os++[e]) j:=by
 rw[Et];show _=dB t l q (C (os++[e])) (H cF (os++[e])) j;rw[Ac];rfl
theorem Aly{p i:Int}(j:Sp l p)(hi:1<=i/\i<=3):∃ q e,Sp l q/\bQ e/\w KR (QN t l p i) .norm (KQ t l q [e] (i-1)) /\
  ∀ os:List El,C os<=20->w KR (KQ t l p os i) .norm (KQ t l q (os++[e]) (i-1)):=by
 have c:J D (i-1)=i-1:=Bb (by omega) (by omega);have hc:decide (i>0)=true:=AN (by omega);obtain⟨q,e,k,d,r⟩:=Ajg j;obtain⟨a,f⟩:=Lq (s:=⟨#[102]⟩) (by decide) hi;refine⟨q,⟨a,[e.n 0,e.n 1,e.n 2,e.n 3,e.n 4,e.n 5,e.n 6,e.n 7,e.n 8,e.n 9,e.n 10,e.n 11,e.n 12],e.b⟩,k,⟨(fun x g=>by simp only[Aw,AD,or_false] at g;rcases g with rfl | rfl | rfl | rfl | rfl | rfl | rfl | rfl | rfl | rfl | rfl | rfl | rfl <;> exact El.ok.n d.1 _),d.2⟩,?_,fun os m => ?_⟩
 ·have h:=lB t l p i q (e.n 0) (e.n 1) (e.n 2) (e.n 3) (e.n 4) (e.n 5) (e.n 6) (e.n 7) (e.n 8) (e.n 9) (e.n 10) (e.n 11) (e.n 12) e.s a e.b hc r f;rw[c] at h;exact h
 ·have h:=dC t l p os i q (e.n 0) (e.n 1) (e.n 2) (e.n 3) (e.n 4) (e.n 5) (e.n 6) (e.n 7) (e.n 8) (e.n 9) (e.n 10) (e.n 11) (e.n 12) e.s a e.b hc (by omega) r f;rw[c] at h;rw[<- Adm];exact h
theorem yV:∀ (n:Nat) {p:Int} {os:List El},n<=3->C os+n<=10->(∀ e∈os,bQ e)->Sp l p->∃ q a,Sp l q/\C a=C os+n/\(∀ e∈a,bQ e)/\w (.loop KR) (KQ t l p os n) xZ6 (KQ t l q a 0)
 | 0,p,os,_,_,hP,b=>⟨p,os,b,rfl,hP,f (dD t l p os 0 rfl)⟩
 | n+1,p,os,hn,hl,hP,b=>by
  obtain⟨q,e,d,g,_,h2⟩:=Aly (t:=t) (i:=((n+1:Nat):Int)) b (by omega);obtain⟨j,a,k,m,o,r⟩:=yV n (p:=q) (os:=os++[e]) (by omega) (by rw[Ac];simp;omega) (fun x s=>by rcases AF.1 s with h | h;exact hP x h;rw[Be.1 h];exact g) d;have c:=h2 os (by omega);rw[show ((n+1:Nat):Int)-1=(n:Int) by omega] at c;exact⟨j,a,k,by rw[m,Ac];simp;omega,o,Ay c r⟩
theorem Alz{p:Int}(n:Nat)(hn:n<=3)(b:Sp l p):∃ q os,Sp l q/\C os<=3/\(∀ e∈os,bQ e)/\∃ st,w (.loop KR) (QN t l p n) xZ6 st/\((os=[]/\st=QN t l q 0)\/st=KQ t l q os 0):=by
 cases n with
 | zero=>exact⟨p,[],b,by simp,(fun e a=>by cases a),_,f (lC t l p 0 rfl),.inl ⟨rfl,rfl⟩⟩
 | succ n =>
  obtain⟨q,e,c,a,h1,_⟩:=Aly (t:=t) (i:=((n+1:Nat):Int)) b (by omega);obtain⟨d,g,h,j,k,m⟩:=yV (t:=t) n (p:=q) (os:=[e]) (by omega) (by simp;omega) (fun x o=>by rw[Be.1 o];exact a) c;rw[show ((n+1:Nat):Int)-1=(n:Int) by omega] at h1;exact⟨d,g,h,by rw[j];simp;omega,k,_,Ay h1 m,.inr rfl⟩
def NS:Prop:=∀ t:Tbl,TOk t->∃ v:Int,RQ 46 [t.av] (A D v)
theorem Ata{p:Int}{os:List El}{st:V}(f:NS)(a:TOk t)(g:Sp l p)(i:∀ e∈os,bQ e)(hl:C os<=10)(h:(os=[]/\st=Alb t l p)\/st=Alc t l p os) :
  ∃ u,TOk u/\w (.seq NP (.seq (.seq VC (.cond (.t 145) VD .skip)) VE)) st .ret (Tw u):=by
 obtain⟨q,u,k,⟨m,n,o,r,s,x⟩,hr⟩:=tP (t:={ t with fl:=os }) g a.r0;have e:w NP st .norm (ZA { t with fl:=os,zo:=u.zo,sa:=u.sa,la:=u.la,ra:=u.ra,dr:=u.dr,ln:=u.ln } l q):=by
  rcases h with ⟨rfl,rfl⟩ | rfl
  ·exact lD t l p q u hr
  ·exact lE t l p os q u hr
 have ok:TOk { t with fl:=os,zo:=u.zo,sa:=u.sa,la:=u.la,ra:=u.ra,dr:=u.dr,ln:=u.ln } :=
  ⟨a.r0,a.r1,a.rs,a.ws,a.ar,a.po,i,a.l7,a.l8,a.l9,a.l10,hl,by dsimp only;omega,by dsimp only;omega,by dsimp only;omega,by dsimp only;omega,by dsimp only;omega,by dsimp only;omega⟩
 obtain⟨v,j⟩:=f _ ok;have c:=lF _ l q v j;cases hb:(v != 0) <;> rw[hb] at c
 ·exact⟨_,ok,T e (T (T c (FV [2,3,4] rfl (by kernel_rfl))) (lH _ l q))⟩
 ·refine⟨{ r0:=100,r1:=1,r2:=0,r3:=0,r4:=0,r5:=0,r6:=0,ws:=kJ 3000 8 },?_,T e (d (T c (Fh [2,3,4] rfl (by kernel_rfl) (lG { t with fl:=os,zo:=u.zo,sa:=u.sa,la:=u.la,ra:=u.ra,dr:=u.dr,ln:=u.ln } l q))))⟩;exact⟨by decide,by decide,by unfold Sm;decide,yS (by unfold Sm;decide),(fun e b=>by cases b),(fun e b=>by cases b),(fun e b=>by cases b),by decide,by decide,by decide,by decide,by decide,by decide,by decide,by decide,by decide,by decide,by decide⟩
theorem Awt{p:Int}{os:List El}{st:V}(g:NS)(a:TOk t)(i:Sp l p)(j:∀ e∈os,e.ok)(hl:C os<=10)(h:(os=[]/\st=Ala t l p)\/st=Awp t l p os) :
  ∃ u,TOk u/\w Ald st .ret (Tw u):=by
 obtain⟨c,b,h0,v,r0⟩:=Bs (n:=3) i (by omega) (by omega);have e:w NO st .norm (QN { t with ar:=os } l c b):=by
  rcases h with ⟨rfl,rfl⟩ | rfl
  ·exact kZ t l p c b r0
  ·exact lA t l p os c b r0
 have ok:TOk { t with ar:=os }:=⟨a.r0,a.r1,a.rs,a.ws,j,a.po,a.fl,a.l7,a.l8,hl,a.l10,a.l11,a.l12,a.l13,a.l14,a.l15,a.l16,a.l17⟩;obtain⟨f,fs,h1,x,k,y,d,o⟩:=Alz (t:={ t with ar:=os }) b.toNat (by omega) h0;rw[show (b.toNat:Int)=b by omega] at d;have q:∃ H5,w (.seq NO (.block 6 (.loop KR))) st .norm H5/\((fs=[]/\H5=Alb { t with ar:=os } l f)\/H5=Alc { t with ar:=os } l f fs):=by
  rcases o with ⟨rfl,rfl⟩ | rfl
  ·exact⟨_,T e (A7 [2,3,4] (m d) (by kernel_rfl)),.inl ⟨rfl,rfl⟩⟩
  ·exact⟨_,T e (A7 [2,3,4,138] (m d) (by kernel_rfl)),.inr rfl⟩
 obtain⟨H5,r,s⟩:=q;obtain⟨u,hu,hr⟩:=Ata g ok h1 k (by omega) s;exact⟨u,hu,T r hr⟩
theorem tb_4{p:Int}{os:List El}{st:V}(i:NS)(c:TOk t)(k:Sp l p)(m:∀ e∈os,e.ok)(hl:C os<=10)(h:(os=[]/\st=Akx t l p)\/st=Aky t l p os) :
  ∃ u,TOk u/\w Ale st .ret (Tw u):=by
 obtain⟨d,f,h0,v,r0⟩:=Bs (n:=3) k (by omega) (by omega);have e:w QM st .norm (Akz { t with po:=os } l d (f==0)):=by
  rcases h with ⟨rfl,rfl⟩ | rfl
  ·exact kV t l p d f r0
  ·exact kW t l p os d f r0
 have ok:TOk { t with po:=os }:=⟨c.r0,c.r1,c.rs,c.ws,c.ar,m,c.fl,c.l7,c.l8,c.l9,hl,c.l11,c.l12,c.l13,c.l14,c.l15,c.l16,c.l17⟩;cases hb:(f==0) <;> rw[hb] at e
 ·obtain⟨u,hu,hr⟩:=Awt (os:=[]) i ok h0 (fun e g=>by cases g) (by simp) (.inl ⟨rfl,rfl⟩);exact⟨u,hu,T (T e (FV [2,3,4] rfl (by kernel_rfl))) hr⟩
 ·have y:=c.r0;obtain⟨o,b,h1,q,r1⟩:=Asn (a:=2*t.r0) h0 (by omega);have r:J D (2*t.r0)=2*t.r0:=Bb (by omega) (by omega);rw[<- r] at r1;obtain⟨u,hu,hr⟩:=Awt (os:=[⟨⟨#[97,49]⟩,[b.n 0,b.n 1,b.n 2,b.n 3,b.n 4,b.n 5,b.n 6,b.n 7,b.n 8,b.n 9,b.n 10],false⟩]) i ok h1 (fun e g=>by rw[Be.1 g];exact (fun x j=>by simp only[Aw,AD,or_false] at j;rcases j with rfl | rfl | rfl | rfl | rfl | rfl | rfl | rfl | rfl | rfl | rfl <;> exact El.ok.n q _)) (by simp) (.inr rfl);exact⟨u,hu,T (T e (Fh [2,3,4] rfl (by kernel_rfl) (kY { t with po:=os } l d o (b.n 0) (b.n 1) (b.n 2) (b.n 3) (b.n 4) (b.n 5) (b.n 6) (b.n 7) (b.n 8) (b.n 9) (b.n 10) b.s r1))) hr⟩
theorem Ama{p:Int}{os:List El}{st:V}(g:NS)(a:TOk t)(i:Sp l p)(j:∀ e∈os,e.ok)(hl:C os<=10)(h:(os=[]/\st=V8 t l p)\/st=Tv t l p os\/st=yG t l p os) :
  ∃ u,TOk u/\w Alf st .ret (Tw u):=by
 obtain⟨c,b,h0,v,r0⟩:=Bs (n:=3) i (by omega) (by omega);have e:w OT st .norm (NN { t with ws:=os } l c b):=by
  rcases h with ⟨rfl,rfl⟩ | rfl | rfl
  ·exact tL t l p c b r0
  ·exact tM t l p os c b r0
  ·exact tN t l p os c b r0
 have ok:TOk { t with ws:=os }:=⟨a.r0,a.r1,a.rs,j,a.ar,a.po,a.fl,a.l7,hl,a.l9,a.l10,a.l11,a.l12,a.l13,a.l14,a.l15,a.l16,a.l17⟩;obtain⟨f,ps,h1,x,k,y,d,o⟩:=Alx (t:={ t with ws:=os }) b.toNat (by omega) h0;rw[show (b.toNat:Int)=b by omega] at d;have q:∃ H5,w (.seq OT (.block 4 (.loop IW))) st .norm H5/\((ps=[]/\H5=Akx { t with ws:=os } l f)\/H5=Aky { t with ws:=os } l f ps):=by
  rcases o with ⟨rfl,rfl⟩ | rfl
  ·exact⟨_,T e (A7 [2,3,4] (m d) (by kernel_rfl)),.inl ⟨rfl,rfl⟩⟩
  ·exact⟨_,T e (A7 [2,3,4,106] (m d) (by kernel_rfl)),.inr rfl⟩
 obtain⟨H5,r,s⟩:=q;obtain⟨u,hu,hr⟩:=tb_4 g ok h1 k (by omega) s;exact⟨u,hu,T r hr⟩
theorem Awu{p:Int}{os:List El}{st:V}(g:NS)(j:TOk t)(v:Sp l p)(o:∀ e∈os,e.ok)(hl:C os<=5)(h:(os=[]/\st=V8 t l p)\/st=Tv t l p os) :
  ∃ u,TOk u/\w Alg st .ret (Tw u):=by
 obtain⟨b,a,h0,N,r0⟩:=Bs (n:=4) v (by omega) (by omega);rcases h with ⟨rfl,rfl⟩ | rfl
 ·obtain⟨k,ws,h1,r,y,O,c,z⟩:=Alv (t:=t) a.toNat (by omega) h0;rw[show (a.toNat:Int)=a by omega] at c;have A:∃ H5,w (.seq OS (.block 2 (.loop Hp))) (V8 t l p) .norm H5/\((ws=[]/\H5=V8 t l k)\/H5=Tv t l k ws\/H5=yG t l k ws):=by
   rcases z with ⟨rfl,rfl⟩ | rfl
   ·exact⟨_,T (VB t l p b a r0) (A7 [2,3,4] (m c) (by kernel_rfl)),.inl ⟨rfl,rfl⟩⟩
   ·exact⟨_,T (VB t l p b a r0) (A7 [2,3,4,68] (m c) (by kernel_rfl)),.inr (.inr rfl)⟩
  obtain⟨H5,d,B⟩:=A;obtain⟨u,hu,hr⟩:=Ama g j h1 y (by omega) B;exact⟨u,hu,T d hr⟩
 ·have e:=tK t l p os b a r0;by_cases D:a=0
  ·subst D;have c:=f (kP t l b os 0 rfl);have d:w (.seq OS (.block 2 (.loop Hp))) (Tv t l p os) .norm (Tv t l b os):=T e (A7 [2,3,4,51] (m c) (by kernel_rfl));obtain⟨u,hu,hr⟩:=Ama g j h0 o (by omega) (.inr (.inl rfl));exact⟨u,hu,T d hr⟩
  ·obtain⟨q,r,E,F,G⟩:=Azo (t:=t) (i:=a) (os:=os) h0 (by omega) (by omega);obtain⟨H,I,J,K,L,s⟩:=dH (l:=l) (t:=t) (a-1).toNat (p:=q) (os:=os++[r]) (by omega) (by rw[Ac];simp;omega) (fun x M=>by rcases AF.1 M with h | h;exact o x h;rw[Be.1 h];exact F) E;rw[show ((a-1).toNat:Int)=a-1 by omega] at s;have d:w (.seq OS (.block 2 (.loop Hp))) (Tv t l p os) .norm (yG t l H I):=T e (A7 [2,3,4,68] (m (Ay G s)) (by kernel_rfl));obtain⟨u,hu,hr⟩:=Ama g j J L (by rw[K,Ac];simp;omega) (.inr (.inr rfl));exact⟨u,hu,T d hr⟩
theorem tb_1{p:Int}{os:LI}(b:NS)(a:TOk t)(g:Sp l p)(hl:C os<=10):∃ u,TOk u/\w Alh (Akw t l p os) .ret (Tw u):=by
 obtain⟨c,d,h0,j,r0⟩:=Bs (n:=4) g (by omega) (by omega);have e:=tI t l p os c d r0;have ok:TOk { t with tr:=os }:=⟨a.r0,a.r1,a.rs,a.ws,a.ar,a.po,a.fl,hl,a.l8,a.l9,a.l10,a.l11,a.l12,a.l13,a.l14,a.l15,a.l16,a.l17⟩;cases hb:decide (d>0) <;> rw[hb] at e
 ·obtain⟨u,hu,hr⟩:=Awu (os:=[]) b ok h0 (fun e h=>by cases h) (by simp) (.inl ⟨rfl,rfl⟩);exact⟨u,hu,T (T e (FV [2,3,4] rfl (by kernel_rfl))) hr⟩
 ·obtain⟨i,f,h1,k,r1⟩:=Bs (n:=16) h0 (by omega) (by omega);obtain⟨u,hu,hr⟩:=Awu (os:=kJ 3000 f) b ok h1 (yS (by unfold Sm;omega)) (by show 4<=5;decide) (.inr rfl);exact⟨u,hu,T (T e (Fh [2,3,4] rfl (by kernel_rfl) (tJ { t with tr:=os } l c i f r1))) hr⟩
theorem Adn(r:NS)(v:C l<4611686018427387904):∃ u,TOk u/\RQ 9 [G (C l) (li l)] u.av:=by
 have w:Sp l 0:=⟨v,by omega,by omega⟩;obtain⟨x,h,h1,y,r1⟩:=Bv (a:=64) (b:=200) w (by omega) (by omega) (by omega);obtain⟨z,i,h2,o,r2⟩:=Bv (a:=1) (b:=3) h1 (by omega) (by omega) (by omega);obtain⟨A,j,B,N,r3⟩:=Bs (n:=16) h2 (by omega) (by omega);obtain⟨D,k,E,O,r4⟩:=Bv (a := -3) (b:=3) B (by omega) (by omega) (by omega);obtain⟨F,d,H,P,r5⟩:=Bs (n:=30) E (by omega) (by omega);obtain⟨I,f,J,Q,r6⟩:=Bs (n:=3) H (by omega) (by omega);obtain⟨q,m,K,R,L⟩:=Bv (a:=2) (b:=8) J (by omega) (by omega) (by omega);have e:=Adh l 0 x h z i A j D k F d I f q m { r0:=h,r1:=i,r2:=j,r3:=k,r4:=0-d,r5:=5*f,r6:=m } r1 r2 r3 r4 r5 r6 L;rw[Bb (n:=0-d) (by omega) (by omega),Bb (n:=5*f) (by omega) (by omega)] at e;have ok:TOk { r0:=h,r1:=i,r2:=j,r3:=k,r4:=0-d,r5:=5*f,r6:=m } :=
  ⟨y,o,by unfold Sm;dsimp only;omega,(fun e c=>by cases c),(fun e c=>by cases c),(fun e c=>by cases c),(fun e c=>by cases c),by simp,by simp,by simp,by simp,by simp,by simp,by simp,by simp,by simp,by simp,by simp⟩
 obtain⟨os,ho,M⟩:=Alt (l:=l) (t:={ r0:=h,r1:=i,r2:=j,r3:=k,r4:=0-d,r5:=5*f,r6:=m }) (p:=q) o.1 o.2;obtain⟨u,hu,hr⟩:=tb_1 r ok K ho;refine⟨u,hu,BR (fn:=iF g UQ) (s:=Tw u) (ex := .ret) rfl rfl ?_ (by nofun) rfl⟩;rw[Asy];exact T (Adf l) (T (Adg l) (T e (T M hr)))
end
theorem a:AQ Cy []:=AQ.nil _
def NT:ICode:=CG PN 93 116
section
variable(s:ByteArray)
def GL(z:Bool)(i:Int):V:=X (.str s)::W 1 (X (I z)::vi i::W 32 [])
theorem Amb(z:Bool)(i c:Int)(c1:E (i<(Cc s:Int))=true)(c2:Ce c=true)(b:((if 0<=i then (s)[L i]? else none).map fun c=>(c.toNat:Int))=some c):w NT (GL s z i) .norm (GL s z (J D (i+1))):=B a [q,.v (A .u8 c),.r (I (Ce c)),Y,Y] P6 (GK c1 b (show RQ 221 [A .u8 c] (I (Ce c)) from JN _) (show (!(Ce c))=false from (by rw [c2];rfl)) Dr)
theorem Amc(z:Bool)(i c:Int)(c1:E (i<(Cc s:Int))=true)(c2:Ce c=false)(c3:HJ c=true)(b:((if 0<=i then (s)[L i]? else none).map fun c=>(c.toNat:Int))=some c):w NT (GL s z i) .norm (GL s z (J D (i+1))):=B a [q,.v (A .u8 c),.r (I (Ce c)),q,.v (A .u8 c),.r (I (HJ c)),Y] P6 (Jn c1 b (show RQ 221 [A .u8 c] (I (Ce c)) from JN _) (show (!(Ce c))=true from (by rw [c2];rfl)) b (show RQ 222 [A .u8 c] (I (HJ c)) from kI _) (show (!(HJ c))=false from (by rw [c3];rfl)))
theorem Amd(z:Bool)(i c:Int)(c1:E (i<(Cc s:Int))=true)(c2:Ce c=false)(c3:HJ c=false)(b:((if 0<=i then (s)[L i]? else none).map fun c=>(c.toNat:Int))=some c):w NT (GL s z i) .ret (GL s false i):=B a [q,.v (A .u8 c),.r (I (Ce c)),q,.v (A .u8 c),.r (I (HJ c)),q] P6 (Jn c1 b (show RQ 221 [A .u8 c] (I (Ce c)) from JN _) (show (!(Ce c))=true from (by rw [c2];rfl)) b (show RQ 222 [A .u8 c] (I (HJ c)) from kI _) (show (!(HJ c))=true from (by rw [c3];rfl)))
theorem Ame(z:Bool)(i:Int)(c1:E (i<(Cc s:Int))=false):w NT (GL s z i) xZ0 (GL s z i):=B a [Y] P6 (Bp c1)
theorem lN(c1:((Cc s:Int)==0)=true):RQ 121 [.str s] (I false):=IU PN (W 2 (X (I false)::W 33 [])) (BZ (B3 (d (B a [q,q,q] [2] (Im c1 GJ GJ)))))
theorem lO(c1:((Cc s:Int)==0)=false)(c2:E ((Cc s:Int)>12)=true):RQ 121 [.str s] (I false):=IU PN (W 2 (X (I false)::W 33 [])) (BZ (B3 (d (B a [Y,q,q] [2] (Im c1 c2 GJ)))))
theorem lP(c i:Int)(z:Bool)(c1:((Cc s:Int)==0)=false)(c2:E ((Cc s:Int)>12)=false)(c3:Ce c=true)(b:((if 0<=0 then (s)[L 0]? else none).map fun c=>(c.toNat:Int))=some c)(e:w (.loop NT) (GL s false 0) xZ0 (GL s z i)):RQ 121 [.str s] (I true):=IU PN (W 2 (X (I true)::W 33 [])) (BZ (B3 (T (B a [Y,Y,.v (A .u8 c),.r (I (Ce c)),Y] P6 (GK c1 c2 b (show RQ 221 [A .u8 c] (I (Ce c)) from JN _) (show (!(Ce c))=false from (by rw [c3];rfl)))) (T (m e) (B a [] [2] a0)))))
theorem lQ(c:Int)(c1:((Cc s:Int)==0)=false)(c2:E ((Cc s:Int)>12)=false)(c3:Ce c=false)(b:((if 0<=0 then (s)[L 0]? else none).map fun c=>(c.toNat:Int))=some c):RQ 121 [.str s] (I false):=IU PN (W 2 (X (I false)::W 33 [])) (BZ (B3 (d (B a [Y,Y,.v (A .u8 c),.r (I (Ce c)),q] [2] (GK c1 c2 b (show RQ 221 [A .u8 c] (I (Ce c)) from JN _) (show (!(Ce c))=true from (by rw [c3];rfl)))))))
theorem lR(c i:Int)(z:Bool)(c1:((Cc s:Int)==0)=false)(c2:E ((Cc s:Int)>12)=false)(c3:Ce c=true)(b:((if 0<=0 then (s)[L 0]? else none).map fun c=>(c.toNat:Int))=some c)(e:w (.loop NT) (GL s false 0) .ret (GL s z i)):RQ 121 [.str s] (I z):=IU PN (X (.str s)::W 1 (X (I z)::vi i::W 32 [])) (BZ (B3 (T (B a [Y,Y,.v (A .u8 c),.r (I (Ce c)),Y] P6 (GK c1 c2 b (show RQ 221 [A .u8 c] (I (Ce c)) from JN _) (show (!(Ce c))=false from (by rw [c3];rfl)))) (d (n e)))))
end
structure Rw where
 s:ByteArray
 a:Bool
 b:Bool
def cE(r:Rw):u:=[.str r.s,I r.a,I r.b]
def yW(t:Tbl):V:=W 1 (Q [A D t.r0,A D t.r1,A D t.r2,A D t.r3,A D t.r4,A D t.r5,A D t.r6,G (C t.tr) (H cI t.tr),G (C t.ws) (H cW t.ws),G (C t.ar) (H AH t.ar),G (C t.po) (H p t.po),G (C t.fl) (H cF t.fl),G (C t.zo) (H cZ t.zo),G (C t.sa) (H AU t.sa),G (C t.la) (H cL t.la),G (C t.ra) (H cR t.ra),G (C t.dr) (H cD t.dr),G (C t.ln) (H cK t.ln)]::W 289 [])
def Fb(t:Tbl)(os:List Rw):V:=W 1 (Q [A D t.r0,A D t.r1,A D t.r2,A D t.r3,A D t.r4,A D t.r5,A D t.r6,G (C t.tr) (H cI t.tr),G (C t.ws) (H cW t.ws),G (C t.ar) (H AH t.ar),G (C t.po) (H p t.po),G (C t.fl) (H cF t.fl),G (C t.zo) (H cZ t.zo),G (C t.sa) (H AU t.sa),G (C t.la) (H cL t.la),G (C t.ra) (H cR t.ra),G (C t.dr) (H cD t.dr),G (C t.ln) (H cK t.ln)]::W 1 (An 3 (C os) (H cE os)::W 287 []))
def V'(t:Tbl):V:=W 1 (Q [A D t.r0,A D t.r1,A D t.r2,A D t.r3,A D t.r4,A D t.r5,A D t.r6,G (C t.tr) (H cI t.tr),G (C t.ws) (H cW t.ws),G (C t.ar) (H AH t.ar),G (C t.po) (H p t.po),G (C t.fl) (H cF t.fl),G (C t.zo) (H cZ t.zo),G (C t.sa) (H AU t.sa),G (C t.la) (H cL t.la),G (C t.ra) (H cR t.ra),G (C t.dr) (H cD t.dr),G (C t.ln) (H cK t.ln)]::W 1 (An 3 0 []::W 287 []))
def lS:ICode := .region false [o1 1 (.box (.t 0) [20,26,78,84,128,135,141,171,177,224,230,255,261]),o1 2 (.nlo 3)]
theorem YG(t:Tbl)   : w lS (CX (iF g KM) [M [A D t.r0,A D t.r1,A D t.r2,A D t.r3,A D t.r4,A D t.r5,A D t.r6,G (C t.tr) (H cI t.tr),G (C t.ws) (H cW t.ws),G (C t.ar) (H AH t.ar),G (C t.po) (H p t.po),G (C t.fl) (H cF t.fl),G (C t.zo) (H cZ t.zo),G (C t.sa) (H AU t.sa),G (C t.la) (H cL t.la),G (C t.ra) (H cR t.ra),G (C t.dr) (H cD t.dr),G (C t.ln) (H cK t.ln)]]) .norm (yW t):=B a [] [1] a0
def lT:ICode := .region false [o1 3 (.nlo 3)]
theorem YH(t:Tbl)   : w lT (yW t) .norm (V' t):=B a [] [1,3] a0
def HK(t:Tbl)(i:Int)(os:List Rw):V:=W 1 (Q [A D t.r0,A D t.r1,A D t.r2,A D t.r3,A D t.r4,A D t.r5,A D t.r6,G (C t.tr) (H cI t.tr),G (C t.ws) (H cW t.ws),G (C t.ar) (H AH t.ar),G (C t.po) (H p t.po),G (C t.fl) (H cF t.fl),G (C t.zo) (H cZ t.zo),G (C t.sa) (H AU t.sa),G (C t.la) (H cL t.la),G (C t.ra) (H cR t.ra),G (C t.dr) (H cD t.dr),G (C t.ln) (H cK t.ln)]::W 1 (An 3 (C os) (H cE os)::vi i::W 286 []))
def NU(t:Tbl)(i:Int)(a:Nat)(co:u):V:=W 1 (Q [A D t.r0,A D t.r1,A D t.r2,A D t.r3,A D t.r4,A D t.r5,A D t.r6,G (C t.tr) (H cI t.tr),G (C t.ws) (H cW t.ws),G (C t.ar) (H AH t.ar),G (C t.po) (H p t.po),G (C t.fl) (H cF t.fl),G (C t.zo) (H cZ t.zo),G (C t.sa) (H AU t.sa),G (C t.la) (H cL t.la),G (C t.ra) (H cR t.ra),G (C t.dr) (H cD t.dr),G (C t.ln) (H cK t.ln)]::W 1 (An 3 a co::vi i::W 286 []))
def NV:ICode := .region false [o1 4 (.mov (.c (.int .i64 0)))]
theorem QQ(t:Tbl)   : w NV (V' t) .norm (HK t 0 ([])):=B a [] Nz a0
def Lu(t:Tbl)(i:Int)(os:List Rw)(e:El):V:=W 1 (Q [A D t.r0,A D t.r1,A D t.r2,A D t.r3,A D t.r4,A D t.r5,A D t.r6,G (C t.tr) (H cI t.tr),G (C t.ws) (H cW t.ws),G (C t.ar) (H AH t.ar),G (C t.po) (H p t.po),G (C t.fl) (H cF t.fl),G (C t.zo) (H cZ t.zo),G (C t.sa) (H AU t.sa),G (C t.la) (H cL t.la),G (C t.ra) (H cR t.ra),G (C t.dr) (H cD t.dr),G (C t.ln) (H cK t.ln)]::W 1 (An 3 (C os) (H cE os)::vi i::Q [.str e.s,A D (e.n 0),A D (e.n 1),A D (e.n 2),A D (e.n 3),A D (e.n 4),A D (e.n 5),A D (e.n 6),A D (e.n 7)]::W 285 []))
def V_:ICode := .region false [o1 31 (.adr 5 5 1),o1 32 (.ld 31 5 1 true),o1 33 (.call 118 [.t 32,.c (.int .i64 0),.c (.int .i64 3)]),oM 34 33,oG 35 (.adr 5 5 2) 34 true,oG 36 (.ld 35 5 2 false) 34 true,oG 37 (.call 119 [.t 36,.c (.int .i64 1048576)]) 34 true,o1 38 (.pick (.t 34) (.t 37) (.c (.bool false))),oM 39 38,oG 40 (.adr 5 5 4) 39 true,oG 41 (.ld 40 5 2 false) 39 true,oG 42 (.call 119 [.t 41,.c (.int .i64 1048576)]) 39 true,o1 43 (.pick (.t 39) (.t 42) (.c (.bool false))),oM 44 43,oG 45 (.adr 5 5 6) 44 true,oG 46 (.ld 45 5 2 false) 44 true,oG 47 (.call 119 [.t 46,.c (.int .i64 256)]) 44 true,o1 48 (.pick (.t 44) (.t 47) (.c (.bool false))),oM 49 48,oG 50 (.adr 5 5 8) 49 true,oG 51 (.ld 50 5 1 true) 49 true,oG 52 (.call 118 [.t 51,.c (.int .i64 (-1)),.c (.int .i64 31)]) 49 true,o1 53 (.pick (.t 49) (.t 52) (.c (.bool false))),oM 6 53]
def Jq:ICode:=CG KM 93 116
section
variable(t:Tbl)(i:Int)(os:List Rw)
theorem Wa(b:Bool)(e:El)(c1:E (i<C t.zo)=true)(c2:E (e.n 1<e.n 3)=true)(c:0<=i/\i<C t.zo)(f:Ae (R (L i*9) (H cZ t.zo)) 0 9 false=some (M [.str e.s,A D (e.n 0),A D (e.n 1),A D (e.n 2),A D (e.n 3),A D (e.n 4),A D (e.n 5),A D (e.n 6),A D (e.n 7)]))(g:w V_ (Lu t i os e) .norm (Cg (Lu t i os e) 6 (X (I b))))(h:C os+1<=1048576):w Jq (HK t i os) .norm (NU t (J D (i+1)) (C os+1) (H cE os++([.str e.s,I b,I (E (e.n 2<e.n 4))]:u))):=T (B (t:=W 1 (Q [A D t.r0,A D t.r1,A D t.r2,A D t.r3,A D t.r4,A D t.r5,A D t.r6,G (C t.tr) (H cI t.tr),G (C t.ws) (H cW t.ws),G (C t.ar) (H AH t.ar),G (C t.po) (H p t.po),G (C t.fl) (H cF t.fl),G (C t.zo) (H cZ t.zo),G (C t.sa) (H AU t.sa),G (C t.la) (H cL t.la),G (C t.ra) (H cR t.ra),G (C t.dr) (H cD t.dr),G (C t.ln) (H cK t.ln)]::W 1 (An 3 (C os) (H cE os)::vi i::W 286 []))) a [q] Nz (Bp c1)) (T (Bc (T (B a [.v (M [.str e.s,A D (e.n 0),A D (e.n 1),A D (e.n 2),A D (e.n 3),A D (e.n 4),A D (e.n 5),A D (e.n 6),A D (e.n 7)])] [1,3,4,5] (GY c f)) (T g (B (t:=W 1 (Q [A D t.r0,A D t.r1,A D t.r2,A D t.r3,A D t.r4,A D t.r5,A D t.r6,G (C t.tr) (H cI t.tr),G (C t.ws) (H cW t.ws),G (C t.ar) (H AH t.ar),G (C t.po) (H p t.po),G (C t.fl) (H cF t.fl),G (C t.zo) (H cZ t.zo),G (C t.sa) (H AU t.sa),G (C t.la) (H cL t.la),G (C t.ra) (H cR t.ra),G (C t.dr) (H cD t.dr),G (C t.ln) (H cK t.ln)]::W 1 (An 3 (C os+1) (H cE os++([.str e.s,I b,I (E (e.n 2<e.n 4))]:u))::vi i::W 59 (X (I (E (e.n 1<e.n 3)))::W 226 [])))) a [q] [1,3,4,64] (Im c2 (show C ([.str e.s,I b,I (E (e.n 2<e.n 4))]:u)=1*3 from rfl) h))))) (B a [] Nz a0))
theorem Wb(b:Bool)(e:El)(c1:E (i<C t.zo)=true)(c2:E (e.n 1<e.n 3)=false)(c:0<=i/\i<C t.zo)(f:Ae (R (L i*9) (H cZ t.zo)) 0 9 false=some (M [.str e.s,A D (e.n 0),A D (e.n 1),A D (e.n 2),A D (e.n 3),A D (e.n 4),A D (e.n 5),A D (e.n 6),A D (e.n 7)]))(g:w V_ (Lu t i os e) .norm (Cg (Lu t i os e) 6 (X (I b))))(h:C os+1<=1048576):w Jq (HK t i os) .norm (NU t (J D (i+1)) (C os+1) (H cE os++([.str e.s,I b,I false]:u))):=T (B (t:=W 1 (Q [A D t.r0,A D t.r1,A D t.r2,A D t.r3,A D t.r4,A D t.r5,A D t.r6,G (C t.tr) (H cI t.tr),G (C t.ws) (H cW t.ws),G (C t.ar) (H AH t.ar),G (C t.po) (H p t.po),G (C t.fl) (H cF t.fl),G (C t.zo) (H cZ t.zo),G (C t.sa) (H AU t.sa),G (C t.la) (H cL t.la),G (C t.ra) (H cR t.ra),G (C t.dr) (H cD t.dr),G (C t.ln) (H cK t.ln)]::W 1 (An 3 (C os) (H cE os)::vi i::W 286 []))) a [q] Nz (Bp c1)) (T (Bc (T (B a [.v (M [.str e.s,A D (e.n 0),A D (e.n 1),A D (e.n 2),A D (e.n 3),A D (e.n 4),A D (e.n 5),A D (e.n 6),A D (e.n 7)])] [1,3,4,5] (GY c f)) (T g (B (t:=W 1 (Q [A D t.r0,A D t.r1,A D t.r2,A D t.r3,A D t.r4,A D t.r5,A D t.r6,G (C t.tr) (H cI t.tr),G (C t.ws) (H cW t.ws),G (C t.ar) (H AH t.ar),G (C t.po) (H p t.po),G (C t.fl) (H cF t.fl),G (C t.zo) (H cZ t.zo),G (C t.sa) (H AU t.sa),G (C t.la) (H cL t.la),G (C t.ra) (H cR t.ra),G (C t.dr) (H cD t.dr),G (C t.ln) (H cK t.ln)]::W 1 (An 3 (C os+1) (H cE os++([.str e.s,I b,I false]:u))::vi i::W 59 (X (I (E (e.n 1<e.n 3)))::W 226 [])))) a [Y] [1,3,4,64] (Im c2 (show C ([.str e.s,I b,I false]:u)=1*3 from rfl) h))))) (B a [] Nz a0))
theorem Wc(c1:E (i<C t.zo)=false):w Jq (HK t i os) xZ0 (HK t i os):=d (B a [Y] Nz (Bp c1))
def I2:V:=W 1 (Q [A D t.r0,A D t.r1,A D t.r2,A D t.r3,A D t.r4,A D t.r5,A D t.r6,G (C t.tr) (H cI t.tr),G (C t.ws) (H cW t.ws),G (C t.ar) (H AH t.ar),G (C t.po) (H p t.po),G (C t.fl) (H cF t.fl),G (C t.zo) (H cZ t.zo),G (C t.sa) (H AU t.sa),G (C t.la) (H cL t.la),G (C t.ra) (H cR t.ra),G (C t.dr) (H cD t.dr),G (C t.ln) (H cK t.ln)]::W 1 (An 3 (C os) (H cE os)::W 3 (vi i::W 283 [])))
end
def QR(t:Tbl)(i:Int)(a:Nat)(co:u):V:=W 1 (Q [A D t.r0,A D t.r1,A D t.r2,A D t.r3,A D t.r4,A D t.r5,A D t.r6,G (C t.tr) (H cI t.tr),G (C t.ws) (H cW t.ws),G (C t.ar) (H AH t.ar),G (C t.po) (H p t.po),G (C t.fl) (H cF t.fl),G (C t.zo) (H cZ t.zo),G (C t.sa) (H AU t.sa),G (C t.la) (H cL t.la),G (C t.ra) (H cR t.ra),G (C t.dr) (H cD t.dr),G (C t.ln) (H cK t.ln)]::W 1 (An 3 a co::W 3 (vi i::W 283 [])))
def NW:ICode := .region false [o1 7 (.mov (.c (.int .i64 0)))]
theorem Sb(t:Tbl)(os:List Rw)   : w NW (Fb t os) .norm (I2 t 0 os):=B a [] Ll a0
def QS(t:Tbl)(i:Int)(os:List Rw)(e:El):V:=W 1 (Q [A D t.r0,A D t.r1,A D t.r2,A D t.r3,A D t.r4,A D t.r5,A D t.r6,G (C t.tr) (H cI t.tr),G (C t.ws) (H cW t.ws),G (C t.ar) (H AH t.ar),G (C t.po) (H p t.po),G (C t.fl) (H cF t.fl),G (C t.zo) (H cZ t.zo),G (C t.sa) (H AU t.sa),G (C t.la) (H cL t.la),G (C t.ra) (H cR t.ra),G (C t.dr) (H cD t.dr),G (C t.ln) (H cK t.ln)]::W 1 (An 3 (C os) (H cE os)::W 3 (vi i::Q [.str e.s,A D (e.n 0),A D (e.n 1),A D (e.n 2),A D (e.n 3),A D (e.n 4),A D (e.n 5),A D (e.n 6),A D (e.n 7),A D (e.n 8)]::W 282 [])))
def lU:ICode := .region false [o1 89 (.adr 8 8 1),o1 90 (.ld 89 8 1 true),o1 91 (.call 118 [.t 90,.c (.int .i64 0),.c (.int .i64 3)]),oM 92 91,oG 93 (.adr 8 8 2) 92 true,oG 94 (.ld 93 8 2 false) 92 true,oG 95 (.call 119 [.t 94,.c (.int .i64 1048576)]) 92 true,o1 96 (.pick (.t 92) (.t 95) (.c (.bool false))),oM 97 96,oG 98 (.adr 8 8 4) 97 true,oG 99 (.ld 98 8 1 true) 97 true,oG 100 (.call 118 [.t 99,.c (.int .i64 1),.c (.int .i64 262144)]) 97 true,o1 101 (.pick (.t 97) (.t 100) (.c (.bool false))),oM 102 101,oG 103 (.adr 8 8 5) 102 true,oG 104 (.ld 103 8 1 true) 102 true,oG 105 (.call 118 [.t 104,.c (.int .i64 0),.c (.int .i64 1048576)]) 102 true,o1 106 (.pick (.t 102) (.t 105) (.c (.bool false))),oM 107 106,oG 108 (.adr 8 8 6) 107 true,oG 109 (.ld 108 8 2 false) 107 true,oG 110 (.call 119 [.t 109,.c (.int .i64 16384)]) 107 true,o1 111 (.pick (.t 107) (.t 110) (.c (.bool false))),oM 112 111,oG 113 (.adr 8 8 8) 112 true,oG 114 (.ld 113 8 1 true) 112 true,oG 115 (.call 118 [.t 114,.c (.int .i64 (-1)),.c (.int .i64 31)]) 112 true,o1 116 (.pick (.t 112) (.t 115) (.c (.bool false))),oM 117 116,oG 118 (.adr 8 8 9) 117 true,oG 119 (.ld 118 8 1 true) 117 true,oG 120 (.call 118 [.t 119,.c (.int .i64 (-1)),.c (.int .i64 63)]) 117 true,o1 121 (.pick (.t 117) (.t 120) (.c (.bool false))),oM 9 121]
def Ku:ICode:=CG KM 92 244
section
variable(t:Tbl)(i:Int)(os:List Rw)
theorem Wd(b:Bool)(e:El)(c1:E (i<C t.sa)=true)(c:0<=i/\i<C t.sa)(f:Ae (R (L i*10) (H AU t.sa)) 0 10 false=some (M [.str e.s,A D (e.n 0),A D (e.n 1),A D (e.n 2),A D (e.n 3),A D (e.n 4),A D (e.n 5),A D (e.n 6),A D (e.n 7),A D (e.n 8)]))(g:w lU (QS t i os e) .norm (Cg (QS t i os e) 9 (X (I b))))(h:C os+1<=1048576):w Ku (I2 t i os) .norm (QR t (J D (i+1)) (C os+1) (H cE os++([.str e.s,I b,I (E (e.n 3<t.r0))]:u))):=T (B (t:=W 1 (Q [A D t.r0,A D t.r1,A D t.r2,A D t.r3,A D t.r4,A D t.r5,A D t.r6,G (C t.tr) (H cI t.tr),G (C t.ws) (H cW t.ws),G (C t.ar) (H AH t.ar),G (C t.po) (H p t.po),G (C t.fl) (H cF t.fl),G (C t.zo) (H cZ t.zo),G (C t.sa) (H AU t.sa),G (C t.la) (H cL t.la),G (C t.ra) (H cR t.ra),G (C t.dr) (H cD t.dr),G (C t.ln) (H cK t.ln)]::W 1 (An 3 (C os) (H cE os)::W 3 (vi i::W 283 [])))) a [q] Ll (Bp c1)) (T (Bc (T (B a [.v (M [.str e.s,A D (e.n 0),A D (e.n 1),A D (e.n 2),A D (e.n 3),A D (e.n 4),A D (e.n 5),A D (e.n 6),A D (e.n 7),A D (e.n 8)])] [1,3,7,8] (GY c f)) (T g (B (t:=W 1 (Q [A D t.r0,A D t.r1,A D t.r2,A D t.r3,A D t.r4,A D t.r5,A D t.r6,G (C t.tr) (H cI t.tr),G (C t.ws) (H cW t.ws),G (C t.ar) (H AH t.ar),G (C t.po) (H p t.po),G (C t.fl) (H cF t.fl),G (C t.zo) (H cZ t.zo),G (C t.sa) (H AU t.sa),G (C t.la) (H cL t.la),G (C t.ra) (H cR t.ra),G (C t.dr) (H cD t.dr),G (C t.ln) (H cK t.ln)]::W 1 (An 3 (C os+1) (H cE os++([.str e.s,I b,I (E (e.n 3<t.r0))]:u))::W 3 (vi i::W 283 [])))) a [] Ll (GY (show C ([.str e.s,I b,I (E (e.n 3<t.r0))]:u)=1*3 from rfl) h))))) (B a [] Ll a0))
theorem We(c1:E (i<C t.sa)=false):w Ku (I2 t i os) xZ2 (I2 t i os):=d (B a [Y] Ll (Bp c1))
def G4:V:=W 1 (Q [A D t.r0,A D t.r1,A D t.r2,A D t.r3,A D t.r4,A D t.r5,A D t.r6,G (C t.tr) (H cI t.tr),G (C t.ws) (H cW t.ws),G (C t.ar) (H AH t.ar),G (C t.po) (H p t.po),G (C t.fl) (H cF t.fl),G (C t.zo) (H cZ t.zo),G (C t.sa) (H AU t.sa),G (C t.la) (H cL t.la),G (C t.ra) (H cR t.ra),G (C t.dr) (H cD t.dr),G (C t.ln) (H cK t.ln)]::W 1 (An 3 (C os) (H cE os)::W 6 (vi i::W 280 [])))
end
def JQ(t:Tbl)(i:Int)(a:Nat)(co:u):V:=W 1 (Q [A D t.r0,A D t.r1,A D t.r2,A D t.r3,A D t.r4,A D t.r5,A D t.r6,G (C t.tr) (H cI t.tr),G (C t.ws) (H cW t.ws),G (C t.ar) (H AH t.ar),G (C t.po) (H p t.po),G (C t.fl) (H cF t.fl),G (C t.zo) (H cZ t.zo),G (C t.sa) (H AU t.sa),G (C t.la) (H cL t.la),G (C t.ra) (H cR t.ra),G (C t.dr) (H cD t.dr),G (C t.ln) (H cK t.ln)]::W 1 (An 3 a co::W 6 (vi i::W 280 [])))
def NX:ICode := .region false [o1 10 (.mov (.c (.int .i64 0)))]
theorem Se(t:Tbl)(os:List Rw)   : w NX (Fb t os) .norm (G4 t 0 os):=B a [] Ny a0
def HL:ICode:=CG KM 91 500
section
variable(t:Tbl)(i:Int)(os:List Rw)
theorem Wf(e:El)(c1:E (i<C t.la)=true)(c2:AY (e.n 0) 0 3=true)(c3:v (e.n 1) (e.n 2) 1048576=true)(c4:AY (e.n 3) 1 262144=true)(b:0<=i/\i<C t.la)(c:C os+1<=1048576)(d:Ae (R (L i*6) (H cL t.la)) 0 6 false=some (M [.str e.s,A D (e.n 0),A D (e.n 1),A D (e.n 2),A D (e.n 3),A D (e.n 4)])):w HL (G4 t i os) .norm (JQ t (J D (i+1)) (C os+1) (H cE os++([.str e.s,I (AY (e.n 4) (-1) 63),I true]:u))):=B a [q,.v (M [.str e.s,A D (e.n 0),A D (e.n 1),A D (e.n 2),A D (e.n 3),A D (e.n 4)]),.r (I (AY (e.n 0) 0 3)),q,.r (I (v (e.n 1) (e.n 2) 1048576)),q,.r (I (AY (e.n 3) 1 262144)),q,.r (I (AY (e.n 4) (-1) 63))] Ny (Jc c1 b d (show RQ 118 [A D (e.n 0),A D 0,A D 3] (I (AY (e.n 0) 0 3)) from D6 _ _ _) c2 (show RQ 119 [M [A D (e.n 1),A D (e.n 2)],A D 1048576] (I (v (e.n 1) (e.n 2) 1048576)) from FS _ _ _) c3 (show RQ 118 [A D (e.n 3),A D 1,A D 262144] (I (AY (e.n 3) 1 262144)) from D6 _ _ _) c4 (show RQ 118 [A D (e.n 4),A D (-1),A D 63] (I (AY (e.n 4) (-1) 63)) from D6 _ _ _) (show C ([.str e.s,I (AY (e.n 4) (-1) 63),I true]:u)=1*3 from rfl) c)
theorem Wg(e:El)(c1:E (i<C t.la)=true)(c2:AY (e.n 0) 0 3=true)(c3:v (e.n 1) (e.n 2) 1048576=true)(c4:AY (e.n 3) 1 262144=false)(b:0<=i/\i<C t.la)(c:C os+1<=1048576)(d:Ae (R (L i*6) (H cL t.la)) 0 6 false=some (M [.str e.s,A D (e.n 0),A D (e.n 1),A D (e.n 2),A D (e.n 3),A D (e.n 4)])):w HL (G4 t i os) .norm (JQ t (J D (i+1)) (C os+1) (H cE os++([.str e.s,I false,I true]:u))):=B a [q,.v (M [.str e.s,A D (e.n 0),A D (e.n 1),A D (e.n 2),A D (e.n 3),A D (e.n 4)]),.r (I (AY (e.n 0) 0 3)),q,.r (I (v (e.n 1) (e.n 2) 1048576)),q,.r (I (AY (e.n 3) 1 262144)),Y] Ny (Lk c1 b d (show RQ 118 [A D (e.n 0),A D 0,A D 3] (I (AY (e.n 0) 0 3)) from D6 _ _ _) c2 (show RQ 119 [M [A D (e.n 1),A D (e.n 2)],A D 1048576] (I (v (e.n 1) (e.n 2) 1048576)) from FS _ _ _) c3 (show RQ 118 [A D (e.n 3),A D 1,A D 262144] (I (AY (e.n 3) 1 262144)) from D6 _ _ _) c4 (show C ([.str e.s,I false,I true]:u)=1*3 from rfl) c)
theorem Wh(e:El)(c1:E (i<C t.la)=true)(c2:AY (e.n 0) 0 3=true)(c3:v (e.n 1) (e.n 2) 1048576=false)(b:0<=i/\i<C t.la)(c:C os+1<=1048576)(d:Ae (R (L i*6) (H cL t.la)) 0 6 false=some (M [.str e.s,A D (e.n 0),A D (e.n 1),A D (e.n 2),A D (e.n 3),A D (e.n 4)])):w HL (G4 t i os) .norm (JQ t (J D (i+1)) (C os+1) (H cE os++([.str e.s,I false,I true]:u))):=B a [q,.v (M [.str e.s,A D (e.n 0),A D (e.n 1),A D (e.n 2),A D (e.n 3),A D (e.n 4)]),.r (I (AY (e.n 0) 0 3)),q,.r (I (v (e.n 1) (e.n 2) 1048576)),Y,Y] Ny (Ig c1 b d (show RQ 118 [A D (e.n 0),A D 0,A D 3] (I (AY (e.n 0) 0 3)) from D6 _ _ _) c2 (show RQ 119 [M [A D (e.n 1),A D (e.n 2)],A D 1048576] (I (v (e.n 1) (e.n 2) 1048576)) from FS _ _ _) c3 Dr (show C ([.str e.s,I false,I true]:u)=1*3 from rfl) c)
theorem Wi(e:El)(c1:E (i<C t.la)=true)(c2:AY (e.n 0) 0 3=false)(b:0<=i/\i<C t.la)(c:C os+1<=1048576)(d:Ae (R (L i*6) (H cL t.la)) 0 6 false=some (M [.str e.s,A D (e.n 0),A D (e.n 1),A D (e.n 2),A D (e.n 3),A D (e.n 4)])):w HL (G4 t i os) .norm (JQ t (J D (i+1)) (C os+1) (H cE os++([.str e.s,I false,I true]:u))):=B a [q,.v (M [.str e.s,A D (e.n 0),A D (e.n 1),A D (e.n 2),A D (e.n 3),A D (e.n 4)]),.r (I (AY (e.n 0) 0 3)),Y,Y,Y] Ny (Y3 c1 b d (show RQ 118 [A D (e.n 0),A D 0,A D 3] (I (AY (e.n 0) 0 3)) from D6 _ _ _) c2 Dr Dr (show C ([.str e.s,I false,I true]:u)=1*3 from rfl) c)
theorem Wj(c1:E (i<C t.la)=false):w HL (G4 t i os) xZ4 (G4 t i os):=B a [Y] Ny (Bp c1)
def HM:V:=W 1 (Q [A D t.r0,A D t.r1,A D t.r2,A D t.r3,A D t.r4,A D t.r5,A D t.r6,G (C t.tr) (H cI t.tr),G (C t.ws) (H cW t.ws),G (C t.ar) (H AH t.ar),G (C t.po) (H p t.po),G (C t.fl) (H cF t.fl),G (C t.zo) (H cZ t.zo),G (C t.sa) (H AU t.sa),G (C t.la) (H cL t.la),G (C t.ra) (H cR t.ra),G (C t.dr) (H cD t.dr),G (C t.ln) (H cK t.ln)]::W 1 (An 3 (C os) (H cE os)::W 8 (vi i::W 278 [])))
end
def NY(t:Tbl)(i:Int)(a:Nat)(co:u):V:=W 1 (Q [A D t.r0,A D t.r1,A D t.r2,A D t.r3,A D t.r4,A D t.r5,A D t.r6,G (C t.tr) (H cI t.tr),G (C t.ws) (H cW t.ws),G (C t.ar) (H AH t.ar),G (C t.po) (H p t.po),G (C t.fl) (H cF t.fl),G (C t.zo) (H cZ t.zo),G (C t.sa) (H AU t.sa),G (C t.la) (H cL t.la),G (C t.ra) (H cR t.ra),G (C t.dr) (H cD t.dr),G (C t.ln) (H cK t.ln)]::W 1 (An 3 a co::W 8 (vi i::W 278 [])))
def NZ:ICode := .region false [o1 12 (.mov (.c (.int .i64 0)))]
theorem Sf(t:Tbl)(os:List Rw)   : w NZ (Fb t os) .norm (HM t 0 os):=B a [] Tm a0
def Lv(t:Tbl)(i:Int)(os:List Rw)(e:El):V:=W 1 (Q [A D t.r0,A D t.r1,A D t.r2,A D t.r3,A D t.r4,A D t.r5,A D t.r6,G (C t.tr) (H cI t.tr),G (C t.ws) (H cW t.ws),G (C t.ar) (H AH t.ar),G (C t.po) (H p t.po),G (C t.fl) (H cF t.fl),G (C t.zo) (H cZ t.zo),G (C t.sa) (H AU t.sa),G (C t.la) (H cL t.la),G (C t.ra) (H cR t.ra),G (C t.dr) (H cD t.dr),G (C t.ln) (H cK t.ln)]::W 1 (An 3 (C os) (H cE os)::W 8 (vi i::Q [.str e.s,A D (e.n 0),A D (e.n 1),A D (e.n 2),A D (e.n 3),A D (e.n 4),A D (e.n 5),A D (e.n 6)]::W 277 [])))
def Wk:ICode := .region false [o1 182 (.adr 13 13 1),o1 183 (.ld 182 13 1 true),o1 184 (.call 118 [.t 183,.c (.int .i64 0),.c (.int .i64 3)]),oM 185 184,oG 186 (.adr 13 13 2) 185 true,oG 187 (.ld 186 13 1 true) 185 true,oG 188 (.call 118 [.t 187,.c (.int .i64 0),.c (.int .i64 3)]) 185 true,o1 189 (.pick (.t 185) (.t 188) (.c (.bool false))),oM 190 189,oG 191 (.adr 13 13 3) 190 true,oG 192 (.ld 191 13 2 false) 190 true,oG 193 (.call 119 [.t 192,.c (.int .i64 1048576)]) 190 true,o1 194 (.pick (.t 190) (.t 193) (.c (.bool false))),oM 195 194,oG 196 (.adr 13 13 5) 195 true,oG 197 (.ld 196 13 1 true) 195 true,oG 198 (.call 118 [.t 197,.c (.int .i64 1),.c (.int .i64 262144)]) 195 true,o1 199 (.pick (.t 195) (.t 198) (.c (.bool false))),oM 200 199,oG 201 (.adr 13 13 6) 200 true,oG 202 (.ld 201 13 2 false) 200 true,oG 203 (.call 119 [.t 202,.c (.int .i64 16384)]) 200 true,o1 204 (.pick (.t 200) (.t 203) (.c (.bool false))),oM 14 204]
def Jr:ICode:=CG KM 90 1012
section
variable(t:Tbl)(i:Int)(os:List Rw)
theorem Wl(b:Bool)(e:El)(c1:E (i<C t.ra)=true)(c2:((e.n 0) != (e.n 1))=true)(c:0<=i/\i<C t.ra)(f:Ae (R (L i*8) (H cR t.ra)) 0 8 false=some (M [.str e.s,A D (e.n 0),A D (e.n 1),A D (e.n 2),A D (e.n 3),A D (e.n 4),A D (e.n 5),A D (e.n 6)]))(g:w Wk (Lv t i os e) .norm (Cg (Lv t i os e) 14 (X (I b))))(h:C os+1<=1048576):w Jr (HM t i os) .norm (NY t (J D (i+1)) (C os+1) (H cE os++([.str e.s,I b,I (!(e.n 5==0&&(e.n 6==0&&true)))]:u))):=T (B (t:=W 1 (Q [A D t.r0,A D t.r1,A D t.r2,A D t.r3,A D t.r4,A D t.r5,A D t.r6,G (C t.tr) (H cI t.tr),G (C t.ws) (H cW t.ws),G (C t.ar) (H AH t.ar),G (C t.po) (H p t.po),G (C t.fl) (H cF t.fl),G (C t.zo) (H cZ t.zo),G (C t.sa) (H AU t.sa),G (C t.la) (H cL t.la),G (C t.ra) (H cR t.ra),G (C t.dr) (H cD t.dr),G (C t.ln) (H cK t.ln)]::W 1 (An 3 (C os) (H cE os)::W 8 (vi i::W 278 [])))) a [q] Tm (Bp c1)) (T (Bc (T (B a [.v (M [.str e.s,A D (e.n 0),A D (e.n 1),A D (e.n 2),A D (e.n 3),A D (e.n 4),A D (e.n 5),A D (e.n 6)])] [1,3,12,13] (GY c f)) (T g (B (t:=W 1 (Q [A D t.r0,A D t.r1,A D t.r2,A D t.r3,A D t.r4,A D t.r5,A D t.r6,G (C t.tr) (H cI t.tr),G (C t.ws) (H cW t.ws),G (C t.ar) (H AH t.ar),G (C t.po) (H p t.po),G (C t.fl) (H cF t.fl),G (C t.zo) (H cZ t.zo),G (C t.sa) (H AU t.sa),G (C t.la) (H cL t.la),G (C t.ra) (H cR t.ra),G (C t.dr) (H cD t.dr),G (C t.ln) (H cK t.ln)]::W 1 (An 3 (C os+1) (H cE os++([.str e.s,I b,I (!(e.n 5==0&&(e.n 6==0&&true)))]:u))::W 8 (vi i::W 278 [])))) a [q] Tm (Im c2 (show C ([.str e.s,I b,I (!(e.n 5==0&&(e.n 6==0&&true)))]:u)=1*3 from rfl) h))))) (B a [] Tm a0))
theorem Wm(b:Bool)(e:El)(c1:E (i<C t.ra)=true)(c2:((e.n 0) != (e.n 1))=false)(c:0<=i/\i<C t.ra)(f:Ae (R (L i*8) (H cR t.ra)) 0 8 false=some (M [.str e.s,A D (e.n 0),A D (e.n 1),A D (e.n 2),A D (e.n 3),A D (e.n 4),A D (e.n 5),A D (e.n 6)]))(g:w Wk (Lv t i os e) .norm (Cg (Lv t i os e) 14 (X (I b))))(h:C os+1<=1048576):w Jr (HM t i os) .norm (NY t (J D (i+1)) (C os+1) (H cE os++([.str e.s,I b,I false]:u))):=T (B (t:=W 1 (Q [A D t.r0,A D t.r1,A D t.r2,A D t.r3,A D t.r4,A D t.r5,A D t.r6,G (C t.tr) (H cI t.tr),G (C t.ws) (H cW t.ws),G (C t.ar) (H AH t.ar),G (C t.po) (H p t.po),G (C t.fl) (H cF t.fl),G (C t.zo) (H cZ t.zo),G (C t.sa) (H AU t.sa),G (C t.la) (H cL t.la),G (C t.ra) (H cR t.ra),G (C t.dr) (H cD t.dr),G (C t.ln) (H cK t.ln)]::W 1 (An 3 (C os) (H cE os)::W 8 (vi i::W 278 [])))) a [q] Tm (Bp c1)) (T (Bc (T (B a [.v (M [.str e.s,A D (e.n 0),A D (e.n 1),A D (e.n 2),A D (e.n 3),A D (e.n 4),A D (e.n 5),A D (e.n 6)])] [1,3,12,13] (GY c f)) (T g (B (t:=W 1 (Q [A D t.r0,A D t.r1,A D t.r2,A D t.r3,A D t.r4,A D t.r5,A D t.r6,G (C t.tr) (H cI t.tr),G (C t.ws) (H cW t.ws),G (C t.ar) (H AH t.ar),G (C t.po) (H p t.po),G (C t.fl) (H cF t.fl),G (C t.zo) (H cZ t.zo),G (C t.sa) (H AU t.sa),G (C t.la) (H cL t.la),G (C t.ra) (H cR t.ra),G (C t.dr) (H cD t.dr),G (C t.ln) (H cK t.ln)]::W 1 (An 3 (C os+1) (H cE os++([.str e.s,I b,I false]:u))::W 8 (vi i::W 278 [])))) a [Y] Tm (Im c2 (show C ([.str e.s,I b,I false]:u)=1*3 from rfl) h))))) (B a [] Tm a0))
theorem Wn(c1:E (i<C t.ra)=false):w Jr (HM t i os) xZ6 (HM t i os):=d (B a [Y] Tm (Bp c1))
def Hb:V:=W 1 (Q [A D t.r0,A D t.r1,A D t.r2,A D t.r3,A D t.r4,A D t.r5,A D t.r6,G (C t.tr) (H cI t.tr),G (C t.ws) (H cW t.ws),G (C t.ar) (H AH t.ar),G (C t.po) (H p t.po),G (C t.fl) (H cF t.fl),G (C t.zo) (H cZ t.zo),G (C t.sa) (H AU t.sa),G (C t.la) (H cL t.la),G (C t.ra) (H cR t.ra),G (C t.dr) (H cD t.dr),G (C t.ln) (H cK t.ln)]::W 1 (An 3 (C os) (H cE os)::W 11 (vi i::W 275 [])))
end
def Lw(t:Tbl)(i:Int)(a:Nat)(co:u):V:=W 1 (Q [A D t.r0,A D t.r1,A D t.r2,A D t.r3,A D t.r4,A D t.r5,A D t.r6,G (C t.tr) (H cI t.tr),G (C t.ws) (H cW t.ws),G (C t.ar) (H AH t.ar),G (C t.po) (H p t.po),G (C t.fl) (H cF t.fl),G (C t.zo) (H cZ t.zo),G (C t.sa) (H AU t.sa),G (C t.la) (H cL t.la),G (C t.ra) (H cR t.ra),G (C t.dr) (H cD t.dr),G (C t.ln) (H cK t.ln)]::W 1 (An 3 a co::W 11 (vi i::W 275 [])))
def N':ICode := .region false [o1 15 (.mov (.c (.int .i64 0)))]
theorem Sg(t:Tbl)(os:List Rw)   : w N' (Fb t os) .norm (Hb t 0 os):=B a [] [1,3,15] a0
def I3:ICode:=CG KM 89 2036
section
variable(t:Tbl)(i:Int)(os:List Rw)
theorem Wo(e:El)(c1:E (i<C t.dr)=true)(c2:AY (e.n 0) 0 3=true)(c3:v (e.n 1) (e.n 2) 1048576=true)(b:0<=i/\i<C t.dr)(c:C os+1<=1048576)(d:Ae (R (L i*5) (H cD t.dr)) 0 5 false=some (M [.str e.s,A D (e.n 0),A D (e.n 1),A D (e.n 2),A D (e.n 3)])):w I3 (Hb t i os) .norm (Lw t (J D (i+1)) (C os+1) (H cE os++([.str e.s,I (AY (e.n 3) 1 262144),I true]:u))):=B a [q,.v (M [.str e.s,A D (e.n 0),A D (e.n 1),A D (e.n 2),A D (e.n 3)]),.r (I (AY (e.n 0) 0 3)),q,.r (I (v (e.n 1) (e.n 2) 1048576)),q,.r (I (AY (e.n 3) 1 262144))] [1,3,15] (Ig c1 b d (show RQ 118 [A D (e.n 0),A D 0,A D 3] (I (AY (e.n 0) 0 3)) from D6 _ _ _) c2 (show RQ 119 [M [A D (e.n 1),A D (e.n 2)],A D 1048576] (I (v (e.n 1) (e.n 2) 1048576)) from FS _ _ _) c3 (show RQ 118 [A D (e.n 3),A D 1,A D 262144] (I (AY (e.n 3) 1 262144)) from D6 _ _ _) (show C ([.str e.s,I (AY (e.n 3) 1 262144),I true]:u)=1*3 from rfl) c)
theorem Wp(e:El)(c1:E (i<C t.dr)=true)(c2:AY (e.n 0) 0 3=true)(c3:v (e.n 1) (e.n 2) 1048576=false)(b:0<=i/\i<C t.dr)(c:C os+1<=1048576)(d:Ae (R (L i*5) (H cD t.dr)) 0 5 false=some (M [.str e.s,A D (e.n 0),A D (e.n 1),A D (e.n 2),A D (e.n 3)])):w I3 (Hb t i os) .norm (Lw t (J D (i+1)) (C os+1) (H cE os++([.str e.s,I false,I true]:u))):=B a [q,.v (M [.str e.s,A D (e.n 0),A D (e.n 1),A D (e.n 2),A D (e.n 3)]),.r (I (AY (e.n 0) 0 3)),q,.r (I (v (e.n 1) (e.n 2) 1048576)),Y] [1,3,15] (Y3 c1 b d (show RQ 118 [A D (e.n 0),A D 0,A D 3] (I (AY (e.n 0) 0 3)) from D6 _ _ _) c2 (show RQ 119 [M [A D (e.n 1),A D (e.n 2)],A D 1048576] (I (v (e.n 1) (e.n 2) 1048576)) from FS _ _ _) c3 (show C ([.str e.s,I false,I true]:u)=1*3 from rfl) c)
theorem Wq(e:El)(c1:E (i<C t.dr)=true)(c2:AY (e.n 0) 0 3=false)(b:0<=i/\i<C t.dr)(c:C os+1<=1048576)(d:Ae (R (L i*5) (H cD t.dr)) 0 5 false=some (M [.str e.s,A D (e.n 0),A D (e.n 1),A D (e.n 2),A D (e.n 3)])):w I3 (Hb t i os) .norm (Lw t (J D (i+1)) (C os+1) (H cE os++([.str e.s,I false,I true]:u))):=B a [q,.v (M [.str e.s,A D (e.n 0),A D (e.n 1),A D (e.n 2),A D (e.n 3)]),.r (I (AY (e.n 0) 0 3)),Y,Y] [1,3,15] (US c1 b d (show RQ 118 [A D (e.n 0),A D 0,A D 3] (I (AY (e.n 0) 0 3)) from D6 _ _ _) c2 Dr (show C ([.str e.s,I false,I true]:u)=1*3 from rfl) c)
theorem Wr(c1:E (i<C t.dr)=false):w I3 (Hb t i os) xZ8 (Hb t i os):=B a [Y] [1,3,15] (Bp c1)
def G5:V:=W 1 (Q [A D t.r0,A D t.r1,A D t.r2,A D t.r3,A D t.r4,A D t.r5,A D t.r6,G (C t.tr) (H cI t.tr),G (C t.ws) (H cW t.ws),G (C t.ar) (H AH t.ar),G (C t.po) (H p t.po),G (C t.fl) (H cF t.fl),G (C t.zo) (H cZ t.zo),G (C t.sa) (H AU t.sa),G (C t.la) (H cL t.la),G (C t.ra) (H cR t.ra),G (C t.dr) (H cD t.dr),G (C t.ln) (H cK t.ln)]::W 1 (An 3 (C os) (H cE os)::W 13 (vi i::W 273 [])))
end
def JR(t:Tbl)(i:Int)(a:Nat)(co:u):V:=W 1 (Q [A D t.r0,A D t.r1,A D t.r2,A D t.r3,A D t.r4,A D t.r5,A D t.r6,G (C t.tr) (H cI t.tr),G (C t.ws) (H cW t.ws),G (C t.ar) (H AH t.ar),G (C t.po) (H p t.po),G (C t.fl) (H cF t.fl),G (C t.zo) (H cZ t.zo),G (C t.sa) (H AU t.sa),G (C t.la) (H cL t.la),G (C t.ra) (H cR t.ra),G (C t.dr) (H cD t.dr),G (C t.ln) (H cK t.ln)]::W 1 (An 3 a co::W 13 (vi i::W 273 [])))
def N_:ICode := .region false [o1 17 (.mov (.c (.int .i64 0)))]
theorem Sh(t:Tbl)(os:List Rw)   : w N_ (Fb t os) .norm (G5 t 0 os):=B a [] Z3 a0
def HN:ICode:=CG KM 88 4084
section
variable(t:Tbl)(i:Int)(os:List Rw)
theorem Ws(e:El)(c1:E (i<C t.ln)=true)(c2:AY (e.n 0) 0 3=true)(c3:v (e.n 1) (e.n 2) 1048576=true)(c4:v (e.n 3) (e.n 4) 16384=true)(b:0<=i/\i<C t.ln)(c:C os+1<=1048576)(d:Ae (R (L i*7) (H cK t.ln)) 0 7 false=some (M [.str e.s,A D (e.n 0),A D (e.n 1),A D (e.n 2),A D (e.n 3),A D (e.n 4),A D (e.n 5)])):w HN (G5 t i os) .norm (JR t (J D (i+1)) (C os+1) (H cE os++([.str e.s,I (AY (e.n 5) 0 31),I true]:u))):=B a [q,.v (M [.str e.s,A D (e.n 0),A D (e.n 1),A D (e.n 2),A D (e.n 3),A D (e.n 4),A D (e.n 5)]),.r (I (AY (e.n 0) 0 3)),q,.r (I (v (e.n 1) (e.n 2) 1048576)),q,.r (I (v (e.n 3) (e.n 4) 16384)),q,.r (I (AY (e.n 5) 0 31))] Z3 (Jc c1 b d (show RQ 118 [A D (e.n 0),A D 0,A D 3] (I (AY (e.n 0) 0 3)) from D6 _ _ _) c2 (show RQ 119 [M [A D (e.n 1),A D (e.n 2)],A D 1048576] (I (v (e.n 1) (e.n 2) 1048576)) from FS _ _ _) c3 (show RQ 119 [M [A D (e.n 3),A D (e.n 4)],A D 16384] (I (v (e.n 3) (e.n 4) 16384)) from FS _ _ _) c4 (show RQ 118 [A D (e.n 5),A D 0,A D 31] (I (AY (e.n 5) 0 31)) from D6 _ _ _) (show C ([.str e.s,I (AY (e.n 5) 0 31),I true]:u)=1*3 from rfl) c)
theorem Wt(e:El)(c1:E (i<C t.ln)=true)(c2:AY (e.n 0) 0 3=true)(c3:v (e.n 1) (e.n 2) 1048576=true)(c4:v (e.n 3) (e.n 4) 16384=false)(b:0<=i/\i<C t.ln)(c:C os+1<=1048576)(d:Ae (R (L i*7) (H cK t.ln)) 0 7 false=some (M [.str e.s,A D (e.n 0),A D (e.n 1),A D (e.n 2),A D (e.n 3),A D (e.n 4),A D (e.n 5)])):w HN (G5 t i os) .norm (JR t (J D (i+1)) (C os+1) (H cE os++([.str e.s,I false,I true]:u))):=B a [q,.v (M [.str e.s,A D (e.n 0),A D (e.n 1),A D (e.n 2),A D (e.n 3),A D (e.n 4),A D (e.n 5)]),.r (I (AY (e.n 0) 0 3)),q,.r (I (v (e.n 1) (e.n 2) 1048576)),q,.r (I (v (e.n 3) (e.n 4) 16384)),Y] Z3 (Lk c1 b d (show RQ 118 [A D (e.n 0),A D 0,A D 3] (I (AY (e.n 0) 0 3)) from D6 _ _ _) c2 (show RQ 119 [M [A D (e.n 1),A D (e.n 2)],A D 1048576] (I (v (e.n 1) (e.n 2) 1048576)) from FS _ _ _) c3 (show RQ 119 [M [A D (e.n 3),A D (e.n 4)],A D 16384] (I (v (e.n 3) (e.n 4) 16384)) from FS _ _ _) c4 (show C ([.str e.s,I false,I true]:u)=1*3 from rfl) c)
theorem Wu(e:El)(c1:E (i<C t.ln)=true)(c2:AY (e.n 0) 0 3=true)(c3:v (e.n 1) (e.n 2) 1048576=false)(b:0<=i/\i<C t.ln)(c:C os+1<=1048576)(d:Ae (R (L i*7) (H cK t.ln)) 0 7 false=some (M [.str e.s,A D (e.n 0),A D (e.n 1),A D (e.n 2),A D (e.n 3),A D (e.n 4),A D (e.n 5)])):w HN (G5 t i os) .norm (JR t (J D (i+1)) (C os+1) (H cE os++([.str e.s,I false,I true]:u))):=B a [q,.v (M [.str e.s,A D (e.n 0),A D (e.n 1),A D (e.n 2),A D (e.n 3),A D (e.n 4),A D (e.n 5)]),.r (I (AY (e.n 0) 0 3)),q,.r (I (v (e.n 1) (e.n 2) 1048576)),Y,Y] Z3 (Ig c1 b d (show RQ 118 [A D (e.n 0),A D 0,A D 3] (I (AY (e.n 0) 0 3)) from D6 _ _ _) c2 (show RQ 119 [M [A D (e.n 1),A D (e.n 2)],A D 1048576] (I (v (e.n 1) (e.n 2) 1048576)) from FS _ _ _) c3 Dr (show C ([.str e.s,I false,I true]:u)=1*3 from rfl) c)
theorem Wv(e:El)(c1:E (i<C t.ln)=true)(c2:AY (e.n 0) 0 3=false)(b:0<=i/\i<C t.ln)(c:C os+1<=1048576)(d:Ae (R (L i*7) (H cK t.ln)) 0 7 false=some (M [.str e.s,A D (e.n 0),A D (e.n 1),A D (e.n 2),A D (e.n 3),A D (e.n 4),A D (e.n 5)])):w HN (G5 t i os) .norm (JR t (J D (i+1)) (C os+1) (H cE os++([.str e.s,I false,I true]:u))):=B a [q,.v (M [.str e.s,A D (e.n 0),A D (e.n 1),A D (e.n 2),A D (e.n 3),A D (e.n 4),A D (e.n 5)]),.r (I (AY (e.n 0) 0 3)),Y,Y,Y] Z3 (Y3 c1 b d (show RQ 118 [A D (e.n 0),A D 0,A D 3] (I (AY (e.n 0) 0 3)) from D6 _ _ _) c2 Dr Dr (show C ([.str e.s,I false,I true]:u)=1*3 from rfl) c)
theorem Ww(c1:E (i<C t.ln)=false):w HN (G5 t i os) (.exit 10) (G5 t i os):=B a [Y] Z3 (Bp c1)
end
def yX(a:Nat)(co:u):V:=W 2 (An 3 a co::W 288 [])
def ZD:ICode := .seq (.region false [o1 290 (.tra 3),o1 2 (.tra 290)]) (.ret)
theorem Wx(t:Tbl)(os:List Rw)   : w ZD (Fb t os) .ret (yX (C os) (H cE os)):=B a [] [2] a0
theorem Ado:(iF g KM).body = .seq lS (.seq lT (.seq (.seq NV (.block 0 (.loop Jq))) (.seq (.seq NW (.block 2 (.loop Ku))) (.seq (.seq NX (.block 4 (.loop HL))) (.seq (.seq NZ (.block 6 (.loop Jr))) (.seq (.seq N' (.block 8 (.loop I3))) (.seq (.seq N_ (.block 10 (.loop HN))) ZD))))))):=by kernel_rfl
def yY(t:Tbl):V:=W 1 (Q [A D t.r0,A D t.r1,A D t.r2,A D t.r3,A D t.r4,A D t.r5,A D t.r6,G (C t.tr) (H cI t.tr),G (C t.ws) (H cW t.ws),G (C t.ar) (H AH t.ar),G (C t.po) (H p t.po),G (C t.fl) (H cF t.fl),G (C t.zo) (H cZ t.zo),G (C t.sa) (H AU t.sa),G (C t.la) (H cL t.la),G (C t.ra) (H cR t.ra),G (C t.dr) (H cD t.dr),G (C t.ln) (H cK t.ln)]::W 264 [])
def HP(t:Tbl)(os:List Rw):V:=W 1 (Q [A D t.r0,A D t.r1,A D t.r2,A D t.r3,A D t.r4,A D t.r5,A D t.r6,G (C t.tr) (H cI t.tr),G (C t.ws) (H cW t.ws),G (C t.ar) (H AH t.ar),G (C t.po) (H p t.po),G (C t.fl) (H cF t.fl),G (C t.zo) (H cZ t.zo),G (C t.sa) (H AU t.sa),G (C t.la) (H cL t.la),G (C t.ra) (H cR t.ra),G (C t.dr) (H cD t.dr),G (C t.ln) (H cK t.ln)]::W 1 (An 3 (C os) (H cE os)::W 262 []))
def Wy(t:Tbl):V:=W 1 (Q [A D t.r0,A D t.r1,A D t.r2,A D t.r3,A D t.r4,A D t.r5,A D t.r6,G (C t.tr) (H cI t.tr),G (C t.ws) (H cW t.ws),G (C t.ar) (H AH t.ar),G (C t.po) (H p t.po),G (C t.fl) (H cF t.fl),G (C t.zo) (H cZ t.zo),G (C t.sa) (H AU t.sa),G (C t.la) (H cL t.la),G (C t.ra) (H cR t.ra),G (C t.dr) (H cD t.dr),G (C t.ln) (H cK t.ln)]::W 1 (An 3 0 []::W 262 []))
def lV:ICode := .region false [o1 1 (.box (.t 0) [17,23,89,95,146,155,161,217,223]),o1 2 (.nlo 3)]
theorem YI(t:Tbl)   : w lV (CX (iF g Nv) [M [A D t.r0,A D t.r1,A D t.r2,A D t.r3,A D t.r4,A D t.r5,A D t.r6,G (C t.tr) (H cI t.tr),G (C t.ws) (H cW t.ws),G (C t.ar) (H AH t.ar),G (C t.po) (H p t.po),G (C t.fl) (H cF t.fl),G (C t.zo) (H cZ t.zo),G (C t.sa) (H AU t.sa),G (C t.la) (H cL t.la),G (C t.ra) (H cR t.ra),G (C t.dr) (H cD t.dr),G (C t.ln) (H cK t.ln)]]) .norm (yY t):=B a [] [1] a0
def lW:ICode := .region false [o1 3 (.nlo 3)]
theorem YJ(t:Tbl)   : w lW (yY t) .norm (Wy t):=B a [] [1,3] a0
def I4(t:Tbl)(i:Int)(os:List Rw):V:=W 1 (Q [A D t.r0,A D t.r1,A D t.r2,A D t.r3,A D t.r4,A D t.r5,A D t.r6,G (C t.tr) (H cI t.tr),G (C t.ws) (H cW t.ws),G (C t.ar) (H AH t.ar),G (C t.po) (H p t.po),G (C t.fl) (H cF t.fl),G (C t.zo) (H cZ t.zo),G (C t.sa) (H AU t.sa),G (C t.la) (H cL t.la),G (C t.ra) (H cR t.ra),G (C t.dr) (H cD t.dr),G (C t.ln) (H cK t.ln)]::W 1 (An 3 (C os) (H cE os)::vi i::W 261 []))
def QT(t:Tbl)(i:Int)(a:Nat)(co:u):V:=W 1 (Q [A D t.r0,A D t.r1,A D t.r2,A D t.r3,A D t.r4,A D t.r5,A D t.r6,G (C t.tr) (H cI t.tr),G (C t.ws) (H cW t.ws),G (C t.ar) (H AH t.ar),G (C t.po) (H p t.po),G (C t.fl) (H cF t.fl),G (C t.zo) (H cZ t.zo),G (C t.sa) (H AU t.sa),G (C t.la) (H cL t.la),G (C t.ra) (H cR t.ra),G (C t.dr) (H cD t.dr),G (C t.ln) (H cK t.ln)]::W 1 (An 3 a co::vi i::W 261 []))
def Oa:ICode := .region false [o1 4 (.mov (.c (.int .i64 0)))]
theorem QU(t:Tbl)   : w Oa (Wy t) .norm (I4 t 0 ([])):=B a [] Nz a0
def QV(t:Tbl)(i:Int)(os:List Rw)(e:El):V:=W 1 (Q [A D t.r0,A D t.r1,A D t.r2,A D t.r3,A D t.r4,A D t.r5,A D t.r6,G (C t.tr) (H cI t.tr),G (C t.ws) (H cW t.ws),G (C t.ar) (H AH t.ar),G (C t.po) (H p t.po),G (C t.fl) (H cF t.fl),G (C t.zo) (H cZ t.zo),G (C t.sa) (H AU t.sa),G (C t.la) (H cL t.la),G (C t.ra) (H cR t.ra),G (C t.dr) (H cD t.dr),G (C t.ln) (H cK t.ln)]::W 1 (An 3 (C os) (H cE os)::vi i::Q [.str e.s,A D (e.n 0),A D (e.n 1),A D (e.n 2),A D (e.n 3),A D (e.n 4),A D (e.n 5),A D (e.n 6),A D (e.n 7),A D (e.n 8),A D (e.n 9),A D (e.n 10),A D (e.n 11)]::W 260 []))
def lX:ICode := .region false [o1 28 (.adr 5 5 1),o1 29 (.ld 28 5 1 true),o1 30 (.call 118 [.t 29,.c (.int .i64 1),.c (.int .i64 4)]),oM 31 30,oG 32 (.adr 5 5 2) 31 true,oG 33 (.ld 32 5 1 true) 31 true,oG 34 (.call 118 [.t 33,.c (.int .i64 0),.c (.int .i64 3)]) 31 true,o1 35 (.pick (.t 31) (.t 34) (.c (.bool false))),oM 36 35,oG 37 (.adr 5 5 3) 36 true,oG 38 (.ld 37 5 2 false) 36 true,oG 39 (.call 119 [.t 38,.c (.int .i64 1048576)]) 36 true,o1 40 (.pick (.t 36) (.t 39) (.c (.bool false))),oM 41 40,oG 42 (.adr 5 5 5) 41 true,oG 43 (.ld 42 5 2 false) 41 true,oG 44 (.call 119 [.t 43,.c (.int .i64 1048576)]) 41 true,o1 45 (.pick (.t 41) (.t 44) (.c (.bool false))),oM 46 45,oG 47 (.adr 5 5 7) 46 true,oG 48 (.ld 47 5 1 true) 46 true,oG 49 (.call 118 [.t 48,.c (.int .i64 0),.c (.int .i64 15)]) 46 true,o1 50 (.pick (.t 46) (.t 49) (.c (.bool false))),oM 51 50,oG 52 (.adr 5 5 8) 51 true,oG 53 (.ld 52 5 1 true) 51 true,oG 54 (.call 118 [.t 53,.c (.int .i64 0),.c (.int .i64 15)]) 51 true,o1 55 (.pick (.t 51) (.t 54) (.c (.bool false))),oM 56 55,oG 57 (.adr 5 5 9) 56 true,oG 58 (.ld 57 5 1 true) 56 true,oG 59 (.call 118 [.t 58,.c (.int .i64 0),.c (.int .i64 16384)]) 56 true,o1 60 (.pick (.t 56) (.t 59) (.c (.bool false))),oM 61 60,oG 62 (.adr 5 5 10) 61 true,oG 63 (.ld 62 5 1 true) 61 true,oG 64 (.call 118 [.t 63,.c (.int .i64 0),.c (.int .i64 16384)]) 61 true,o1 65 (.pick (.t 61) (.t 64) (.c (.bool false))),oM 66 65,oG 67 (.adr 5 5 11) 66 true,oG 68 (.ld 67 5 1 true) 66 true,oG 69 (.call 118 [.t 68,.c (.int .i64 (-1)),.c (.int .i64 31)]) 66 true,o1 70 (.pick (.t 66) (.t 69) (.c (.bool false))),oM 71 70,oG 72 (.adr 5 5 12) 71 true,oG 73 (.ld 72 5 1 true) 71 true,oG 74 (.call 118 [.t 73,.c (.int .i64 (-1)),.c (.int .i64 63)]) 71 true,o1 75 (.pick (.t 71) (.t 74) (.c (.bool false))),oM 6 75]
def Kv:ICode:=CG Nv 93 116
section
variable(t:Tbl)(i:Int)(os:List Rw)
theorem Wz(b:Bool)(e:El)(c1:E (i<C t.ws)=true)(c:0<=i/\i<C t.ws)(f:Ae (R (L i*13) (H cW t.ws)) 0 13 false=some (M [.str e.s,A D (e.n 0),A D (e.n 1),A D (e.n 2),A D (e.n 3),A D (e.n 4),A D (e.n 5),A D (e.n 6),A D (e.n 7),A D (e.n 8),A D (e.n 9),A D (e.n 10),A D (e.n 11)]))(g:w lX (QV t i os e) .norm (Cg (QV t i os e) 6 (X (I b))))(h:C os+1<=1048576):w Kv (I4 t i os) .norm (QT t (J D (i+1)) (C os+1) (H cE os++([.str e.s,I b,I (!(e.n 2==(e.n 4)&&(e.n 3==(e.n 5)&&true)))]:u))):=T (B (t:=W 1 (Q [A D t.r0,A D t.r1,A D t.r2,A D t.r3,A D t.r4,A D t.r5,A D t.r6,G (C t.tr) (H cI t.tr),G (C t.ws) (H cW t.ws),G (C t.ar) (H AH t.ar),G (C t.po) (H p t.po),G (C t.fl) (H cF t.fl),G (C t.zo) (H cZ t.zo),G (C t.sa) (H AU t.sa),G (C t.la) (H cL t.la),G (C t.ra) (H cR t.ra),G (C t.dr) (H cD t.dr),G (C t.ln) (H cK t.ln)]::W 1 (An 3 (C os) (H cE os)::vi i::W 261 []))) a [q] Nz (Bp c1)) (T (Bc (T (B a [.v (M [.str e.s,A D (e.n 0),A D (e.n 1),A D (e.n 2),A D (e.n 3),A D (e.n 4),A D (e.n 5),A D (e.n 6),A D (e.n 7),A D (e.n 8),A D (e.n 9),A D (e.n 10),A D (e.n 11)])] [1,3,4,5] (GY c f)) (T g (B (t:=W 1 (Q [A D t.r0,A D t.r1,A D t.r2,A D t.r3,A D t.r4,A D t.r5,A D t.r6,G (C t.tr) (H cI t.tr),G (C t.ws) (H cW t.ws),G (C t.ar) (H AH t.ar),G (C t.po) (H p t.po),G (C t.fl) (H cF t.fl),G (C t.zo) (H cZ t.zo),G (C t.sa) (H AU t.sa),G (C t.la) (H cL t.la),G (C t.ra) (H cR t.ra),G (C t.dr) (H cD t.dr),G (C t.ln) (H cK t.ln)]::W 1 (An 3 (C os+1) (H cE os++([.str e.s,I b,I (!(e.n 2==(e.n 4)&&(e.n 3==(e.n 5)&&true)))]:u))::vi i::W 261 []))) a [] Nz (GY (show C ([.str e.s,I b,I (!(e.n 2==(e.n 4)&&(e.n 3==(e.n 5)&&true)))]:u)=1*3 from rfl) h))))) (B a [] Nz a0))
theorem W1(c1:E (i<C t.ws)=false):w Kv (I4 t i os) xZ0 (I4 t i os):=d (B a [Y] Nz (Bp c1))
def HQ:V:=W 1 (Q [A D t.r0,A D t.r1,A D t.r2,A D t.r3,A D t.r4,A D t.r5,A D t.r6,G (C t.tr) (H cI t.tr),G (C t.ws) (H cW t.ws),G (C t.ar) (H AH t.ar),G (C t.po) (H p t.po),G (C t.fl) (H cF t.fl),G (C t.zo) (H cZ t.zo),G (C t.sa) (H AU t.sa),G (C t.la) (H cL t.la),G (C t.ra) (H cR t.ra),G (C t.dr) (H cD t.dr),G (C t.ln) (H cK t.ln)]::W 1 (An 3 (C os) (H cE os)::W 3 (vi i::W 258 [])))
end
def Ob(t:Tbl)(i:Int)(a:Nat)(co:u):V:=W 1 (Q [A D t.r0,A D t.r1,A D t.r2,A D t.r3,A D t.r4,A D t.r5,A D t.r6,G (C t.tr) (H cI t.tr),G (C t.ws) (H cW t.ws),G (C t.ar) (H AH t.ar),G (C t.po) (H p t.po),G (C t.fl) (H cF t.fl),G (C t.zo) (H cZ t.zo),G (C t.sa) (H AU t.sa),G (C t.la) (H cL t.la),G (C t.ra) (H cR t.ra),G (C t.dr) (H cD t.dr),G (C t.ln) (H cK t.ln)]::W 1 (An 3 a co::W 3 (vi i::W 258 [])))
def Oc:ICode := .region false [o1 7 (.mov (.c (.int .i64 0)))]
theorem Si(t:Tbl)(os:List Rw)   : w Oc (HP t os) .norm (HQ t 0 os):=B a [] Ll a0
def Lx(t:Tbl)(i:Int)(os:List Rw)(e:El):V:=W 1 (Q [A D t.r0,A D t.r1,A D t.r2,A D t.r3,A D t.r4,A D t.r5,A D t.r6,G (C t.tr) (H cI t.tr),G (C t.ws) (H cW t.ws),G (C t.ar) (H AH t.ar),G (C t.po) (H p t.po),G (C t.fl) (H cF t.fl),G (C t.zo) (H cZ t.zo),G (C t.sa) (H AU t.sa),G (C t.la) (H cL t.la),G (C t.ra) (H cR t.ra),G (C t.dr) (H cD t.dr),G (C t.ln) (H cK t.ln)]::W 1 (An 3 (C os) (H cE os)::W 3 (vi i::Q [.str e.s,A D (e.n 0),A D (e.n 1),A D (e.n 2),A D (e.n 3),A D (e.n 4),A D (e.n 5),A D (e.n 6),A D (e.n 7),A D (e.n 8),A D (e.n 9),A D (e.n 10)]::W 257 [])))
def W2:ICode := .region false [o1 100 (.adr 8 8 1),o1 101 (.ld 100 8 1 true),o1 102 (.call 118 [.t 101,.c (.int .i64 0),.c (.int .i64 3)]),oM 103 102,oG 104 (.adr 8 8 2) 103 true,oG 105 (.ld 104 8 2 false) 103 true,oG 106 (.call 119 [.t 105,.c (.int .i64 1048576)]) 103 true,o1 107 (.pick (.t 103) (.t 106) (.c (.bool false))),oM 108 107,oG 109 (.adr 8 8 4) 108 true,oG 110 (.ld 109 8 2 false) 108 true,oG 111 (.call 119 [.t 110,.c (.int .i64 1048576)]) 108 true,o1 112 (.pick (.t 108) (.t 111) (.c (.bool false))),oM 113 112,oG 114 (.adr 8 8 6) 113 true,oG 115 (.ld 114 8 2 false) 113 true,oG 116 (.call 119 [.t 115,.c (.int .i64 1048576)]) 113 true,o1 117 (.pick (.t 113) (.t 116) (.c (.bool false))),oM 118 117,oG 119 (.adr 8 8 8) 118 true,oG 120 (.ld 119 8 1 true) 118 true,oG 121 (.call 118 [.t 120,.c (.int .i64 0),.c (.int .i64 15)]) 118 true,o1 122 (.pick (.t 118) (.t 121) (.c (.bool false))),oM 123 122,oG 124 (.adr 8 8 9) 123 true,oG 125 (.ld 124 8 1 true) 123 true,oG 126 (.call 118 [.t 125,.c (.int .i64 0),.c (.int .i64 15)]) 123 true,o1 127 (.pick (.t 123) (.t 126) (.c (.bool false))),oM 128 127,oG 129 (.adr 8 8 10) 128 true,oG 130 (.ld 129 8 1 true) 128 true,oG 131 (.call 118 [.t 130,.c (.int .i64 0),.c (.int .i64 16384)]) 128 true,o1 132 (.pick (.t 128) (.t 131) (.c (.bool false))),oM 133 132,oG 134 (.adr 8 8 11) 133 true,oG 135 (.ld 134 8 1 true) 133 true,oG 136 (.call 118 [.t 135,.c (.int .i64 (-1)),.c (.int .i64 63)]) 133 true,o1 137 (.pick (.t 133) (.t 136) (.c (.bool false))),oM 9 137]
def Js:ICode:=CG Nv 92 244
section
variable(t:Tbl)(i:Int)(os:List Rw)
theorem W3(b:Bool)(e:El)(c1:E (i<C t.ar)=true)(c2:b=true)(c:0<=i/\i<C t.ar)(f:Ae (R (L i*12) (H AH t.ar)) 0 12 false=some (M [.str e.s,A D (e.n 0),A D (e.n 1),A D (e.n 2),A D (e.n 3),A D (e.n 4),A D (e.n 5),A D (e.n 6),A D (e.n 7),A D (e.n 8),A D (e.n 9),A D (e.n 10)]))(g:w W2 (Lx t i os e) .norm (Cg (Lx t i os e) 9 (X (I b))))(h:C os+1<=1048576):w Js (HQ t i os) .norm (Ob t (J D (i+1)) (C os+1) (H cE os++([.str e.s,I b,I (E (EJ (e.n 1) (e.n 2) (e.n 3) (e.n 4) (e.n 5) (e.n 6)>J D (2*t.r0)))]:u))):=T (B (t:=W 1 (Q [A D t.r0,A D t.r1,A D t.r2,A D t.r3,A D t.r4,A D t.r5,A D t.r6,G (C t.tr) (H cI t.tr),G (C t.ws) (H cW t.ws),G (C t.ar) (H AH t.ar),G (C t.po) (H p t.po),G (C t.fl) (H cF t.fl),G (C t.zo) (H cZ t.zo),G (C t.sa) (H AU t.sa),G (C t.la) (H cL t.la),G (C t.ra) (H cR t.ra),G (C t.dr) (H cD t.dr),G (C t.ln) (H cK t.ln)]::W 1 (An 3 (C os) (H cE os)::W 3 (vi i::W 258 [])))) a [q] Ll (Bp c1)) (T (Bc (T (B a [.v (M [.str e.s,A D (e.n 0),A D (e.n 1),A D (e.n 2),A D (e.n 3),A D (e.n 4),A D (e.n 5),A D (e.n 6),A D (e.n 7),A D (e.n 8),A D (e.n 9),A D (e.n 10)])] [1,3,7,8] (GY c f)) (T g (B (t:=W 1 (Q [A D t.r0,A D t.r1,A D t.r2,A D t.r3,A D t.r4,A D t.r5,A D t.r6,G (C t.tr) (H cI t.tr),G (C t.ws) (H cW t.ws),G (C t.ar) (H AH t.ar),G (C t.po) (H p t.po),G (C t.fl) (H cF t.fl),G (C t.zo) (H cZ t.zo),G (C t.sa) (H AU t.sa),G (C t.la) (H cL t.la),G (C t.ra) (H cR t.ra),G (C t.dr) (H cD t.dr),G (C t.ln) (H cK t.ln)]::W 1 (An 3 (C os+1) (H cE os++([.str e.s,I b,I (E (EJ (e.n 1) (e.n 2) (e.n 3) (e.n 4) (e.n 5) (e.n 6)>J D (2*t.r0)))]:u))::W 3 (vi i::W 258 [])))) a [q,.r (A D (EJ (e.n 1) (e.n 2) (e.n 3) (e.n 4) (e.n 5) (e.n 6)))] Ll (Jm c2 (show RQ 176 [M [.str e.s,A D (e.n 0),A D (e.n 1),A D (e.n 2),A D (e.n 3),A D (e.n 4),A D (e.n 5),A D (e.n 6),A D (e.n 7),A D (e.n 8),A D (e.n 9),A D (e.n 10)]] (A D (EJ (e.n 1) (e.n 2) (e.n 3) (e.n 4) (e.n 5) (e.n 6))) from V4 _ _ _ _ _ _ _ _ _ _ _ _ ) (show C ([.str e.s,I b,I (E (EJ (e.n 1) (e.n 2) (e.n 3) (e.n 4) (e.n 5) (e.n 6)>J D (2*t.r0)))]:u)=1*3 from rfl) h))))) (B a [] Ll a0))
theorem W4(b:Bool)(e:El)(c1:E (i<C t.ar)=true)(c2:b=false)(c:0<=i/\i<C t.ar)(f:Ae (R (L i*12) (H AH t.ar)) 0 12 false=some (M [.str e.s,A D (e.n 0),A D (e.n 1),A D (e.n 2),A D (e.n 3),A D (e.n 4),A D (e.n 5),A D (e.n 6),A D (e.n 7),A D (e.n 8),A D (e.n 9),A D (e.n 10)]))(g:w W2 (Lx t i os e) .norm (Cg (Lx t i os e) 9 (X (I b))))(h:C os+1<=1048576):w Js (HQ t i os) .norm (Ob t (J D (i+1)) (C os+1) (H cE os++([.str e.s,I b,I false]:u))):=T (B (t:=W 1 (Q [A D t.r0,A D t.r1,A D t.r2,A D t.r3,A D t.r4,A D t.r5,A D t.r6,G (C t.tr) (H cI t.tr),G (C t.ws) (H cW t.ws),G (C t.ar) (H AH t.ar),G (C t.po) (H p t.po),G (C t.fl) (H cF t.fl),G (C t.zo) (H cZ t.zo),G (C t.sa) (H AU t.sa),G (C t.la) (H cL t.la),G (C t.ra) (H cR t.ra),G (C t.dr) (H cD t.dr),G (C t.ln) (H cK t.ln)]::W 1 (An 3 (C os) (H cE os)::W 3 (vi i::W 258 [])))) a [q] Ll (Bp c1)) (T (Bc (T (B a [.v (M [.str e.s,A D (e.n 0),A D (e.n 1),A D (e.n 2),A D (e.n 3),A D (e.n 4),A D (e.n 5),A D (e.n 6),A D (e.n 7),A D (e.n 8),A D (e.n 9),A D (e.n 10)])] [1,3,7,8] (GY c f)) (T g (B (t:=W 1 (Q [A D t.r0,A D t.r1,A D t.r2,A D t.r3,A D t.r4,A D t.r5,A D t.r6,G (C t.tr) (H cI t.tr),G (C t.ws) (H cW t.ws),G (C t.ar) (H AH t.ar),G (C t.po) (H p t.po),G (C t.fl) (H cF t.fl),G (C t.zo) (H cZ t.zo),G (C t.sa) (H AU t.sa),G (C t.la) (H cL t.la),G (C t.ra) (H cR t.ra),G (C t.dr) (H cD t.dr),G (C t.ln) (H cK t.ln)]::W 1 (An 3 (C os+1) (H cE os++([.str e.s,I b,I false]:u))::W 3 (vi i::W 258 [])))) a [Y] Ll (Im c2 (show C ([.str e.s,I b,I false]:u)=1*3 from rfl) h))))) (B a [] Ll a0))
theorem W5(c1:E (i<C t.ar)=false):w Js (HQ t i os) xZ2 (HQ t i os):=d (B a [Y] Ll (Bp c1))
def I5:V:=W 1 (Q [A D t.r0,A D t.r1,A D t.r2,A D t.r3,A D t.r4,A D t.r5,A D t.r6,G (C t.tr) (H cI t.tr),G (C t.ws) (H cW t.ws),G (C t.ar) (H AH t.ar),G (C t.po) (H p t.po),G (C t.fl) (H cF t.fl),G (C t.zo) (H cZ t.zo),G (C t.sa) (H AU t.sa),G (C t.la) (H cL t.la),G (C t.ra) (H cR t.ra),G (C t.dr) (H cD t.dr),G (C t.ln) (H cK t.ln)]::W 1 (An 3 (C os) (H cE os)::W 6 (vi i::W 255 [])))
end
def QW(t:Tbl)(i:Int)(a:Nat)(co:u):V:=W 1 (Q [A D t.r0,A D t.r1,A D t.r2,A D t.r3,A D t.r4,A D t.r5,A D t.r6,G (C t.tr) (H cI t.tr),G (C t.ws) (H cW t.ws),G (C t.ar) (H AH t.ar),G (C t.po) (H p t.po),G (C t.fl) (H cF t.fl),G (C t.zo) (H cZ t.zo),G (C t.sa) (H AU t.sa),G (C t.la) (H cL t.la),G (C t.ra) (H cR t.ra),G (C t.dr) (H cD t.dr),G (C t.ln) (H cK t.ln)]::W 1 (An 3 a co::W 6 (vi i::W 255 [])))
def Od:ICode := .region false [o1 10 (.mov (.c (.int .i64 0)))]
theorem Sj(t:Tbl)(os:List Rw)   : w Od (HP t os) .norm (I5 t 0 os):=B a [] Ny a0
def QX(t:Tbl)(i:Int)(os:List Rw)(e:El):V:=W 1 (Q [A D t.r0,A D t.r1,A D t.r2,A D t.r3,A D t.r4,A D t.r5,A D t.r6,G (C t.tr) (H cI t.tr),G (C t.ws) (H cW t.ws),G (C t.ar) (H AH t.ar),G (C t.po) (H p t.po),G (C t.fl) (H cF t.fl),G (C t.zo) (H cZ t.zo),G (C t.sa) (H AU t.sa),G (C t.la) (H cL t.la),G (C t.ra) (H cR t.ra),G (C t.dr) (H cD t.dr),G (C t.ln) (H cK t.ln)]::W 1 (An 3 (C os) (H cE os)::W 6 (vi i::Q [.str e.s,A D (e.n 0),A D (e.n 1),A D (e.n 2),A D (e.n 3),A D (e.n 4),A D (e.n 5),A D (e.n 6),A D (e.n 7),A D (e.n 8),A D (e.n 9)]::W 254 [])))
def lY:ICode := .region false [o1 166 (.adr 11 11 1),o1 167 (.ld 166 11 1 true),o1 168 (.call 118 [.t 167,.c (.int .i64 0),.c (.int .i64 3)]),oM 169 168,oG 170 (.adr 11 11 2) 169 true,oG 171 (.ld 170 11 2 false) 169 true,oG 172 (.call 119 [.t 171,.c (.int .i64 1048576)]) 169 true,o1 173 (.pick (.t 169) (.t 172) (.c (.bool false))),oM 174 173,oG 175 (.adr 11 11 4) 174 true,oG 176 (.ld 175 11 1 true) 174 true,oG 177 (.call 118 [.t 176,.c (.int .i64 0),.c (.int .i64 262144)]) 174 true,o1 178 (.pick (.t 174) (.t 177) (.c (.bool false))),oM 179 178,oG 180 (.adr 11 11 5) 179 true,oG 181 (.ld 180 11 1 true) 179 true,oG 182 (.call 118 [.t 181,.c (.int .i64 0),.c (.int .i64 15)]) 179 true,o1 183 (.pick (.t 179) (.t 182) (.c (.bool false))),oM 184 183,oG 185 (.adr 11 11 6) 184 true,oG 186 (.ld 185 11 1 true) 184 true,oG 187 (.call 118 [.t 186,.c (.int .i64 0),.c (.int .i64 15)]) 184 true,o1 188 (.pick (.t 184) (.t 187) (.c (.bool false))),oM 189 188,oG 190 (.adr 11 11 7) 189 true,oG 191 (.ld 190 11 1 true) 189 true,oG 192 (.call 118 [.t 191,.c (.int .i64 0),.c (.int .i64 16384)]) 189 true,o1 193 (.pick (.t 189) (.t 192) (.c (.bool false))),oM 194 193,oG 195 (.adr 11 11 8) 194 true,oG 196 (.ld 195 11 1 true) 194 true,oG 197 (.call 118 [.t 196,.c (.int .i64 0),.c (.int .i64 16384)]) 194 true,o1 198 (.pick (.t 194) (.t 197) (.c (.bool false))),oM 199 198,oG 200 (.adr 11 11 9) 199 true,oG 201 (.ld 200 11 1 true) 199 true,oG 202 (.call 118 [.t 201,.c (.int .i64 (-1)),.c (.int .i64 31)]) 199 true,o1 203 (.pick (.t 199) (.t 202) (.c (.bool false))),oM 204 203,oG 205 (.adr 11 11 10) 204 true,oG 206 (.ld 205 11 1 true) 204 true,oG 207 (.call 118 [.t 206,.c (.int .i64 (-1)),.c (.int .i64 63)]) 204 true,o1 208 (.pick (.t 204) (.t 207) (.c (.bool false))),oM 12 208]
def Kw:ICode:=CG Nv 91 500
section
variable(t:Tbl)(i:Int)(os:List Rw)
theorem W6(b:Bool)(e:El)(c1:E (i<C t.po)=true)(c:0<=i/\i<C t.po)(f:Ae (R (L i*11) (H p t.po)) 0 11 false=some (M [.str e.s,A D (e.n 0),A D (e.n 1),A D (e.n 2),A D (e.n 3),A D (e.n 4),A D (e.n 5),A D (e.n 6),A D (e.n 7),A D (e.n 8),A D (e.n 9)]))(g:w lY (QX t i os e) .norm (Cg (QX t i os e) 12 (X (I b))))(h:C os+1<=1048576):w Kw (I5 t i os) .norm (QW t (J D (i+1)) (C os+1) (H cE os++([.str e.s,I b,I true]:u))):=T (B (t:=W 1 (Q [A D t.r0,A D t.r1,A D t.r2,A D t.r3,A D t.r4,A D t.r5,A D t.r6,G (C t.tr) (H cI t.tr),G (C t.ws) (H cW t.ws),G (C t.ar) (H AH t.ar),G (C t.po) (H p t.po),G (C t.fl) (H cF t.fl),G (C t.zo) (H cZ t.zo),G (C t.sa) (H AU t.sa),G (C t.la) (H cL t.la),G (C t.ra) (H cR t.ra),G (C t.dr) (H cD t.dr),G (C t.ln) (H cK t.ln)]::W 1 (An 3 (C os) (H cE os)::W 6 (vi i::W 255 [])))) a [q] Ny (Bp c1)) (T (Bc (T (B a [.v (M [.str e.s,A D (e.n 0),A D (e.n 1),A D (e.n 2),A D (e.n 3),A D (e.n 4),A D (e.n 5),A D (e.n 6),A D (e.n 7),A D (e.n 8),A D (e.n 9)])] [1,3,10,11] (GY c f)) (T g (B (t:=W 1 (Q [A D t.r0,A D t.r1,A D t.r2,A D t.r3,A D t.r4,A D t.r5,A D t.r6,G (C t.tr) (H cI t.tr),G (C t.ws) (H cW t.ws),G (C t.ar) (H AH t.ar),G (C t.po) (H p t.po),G (C t.fl) (H cF t.fl),G (C t.zo) (H cZ t.zo),G (C t.sa) (H AU t.sa),G (C t.la) (H cL t.la),G (C t.ra) (H cR t.ra),G (C t.dr) (H cD t.dr),G (C t.ln) (H cK t.ln)]::W 1 (An 3 (C os+1) (H cE os++([.str e.s,I b,I true]:u))::W 6 (vi i::W 255 [])))) a [] Ny (GY (show C ([.str e.s,I b,I true]:u)=1*3 from rfl) h))))) (B a [] Ny a0))
theorem W7(c1:E (i<C t.po)=false):w Kw (I5 t i os) xZ4 (I5 t i os):=d (B a [Y] Ny (Bp c1))
def I6:V:=W 1 (Q [A D t.r0,A D t.r1,A D t.r2,A D t.r3,A D t.r4,A D t.r5,A D t.r6,G (C t.tr) (H cI t.tr),G (C t.ws) (H cW t.ws),G (C t.ar) (H AH t.ar),G (C t.po) (H p t.po),G (C t.fl) (H cF t.fl),G (C t.zo) (H cZ t.zo),G (C t.sa) (H AU t.sa),G (C t.la) (H cL t.la),G (C t.ra) (H cR t.ra),G (C t.dr) (H cD t.dr),G (C t.ln) (H cK t.ln)]::W 1 (An 3 (C os) (H cE os)::W 9 (vi i::W 252 [])))
end
def QY(t:Tbl)(i:Int)(a:Nat)(co:u):V:=W 1 (Q [A D t.r0,A D t.r1,A D t.r2,A D t.r3,A D t.r4,A D t.r5,A D t.r6,G (C t.tr) (H cI t.tr),G (C t.ws) (H cW t.ws),G (C t.ar) (H AH t.ar),G (C t.po) (H p t.po),G (C t.fl) (H cF t.fl),G (C t.zo) (H cZ t.zo),G (C t.sa) (H AU t.sa),G (C t.la) (H cL t.la),G (C t.ra) (H cR t.ra),G (C t.dr) (H cD t.dr),G (C t.ln) (H cK t.ln)]::W 1 (An 3 a co::W 9 (vi i::W 252 [])))
def Oe:ICode := .region false [o1 13 (.mov (.c (.int .i64 0)))]
theorem Sk(t:Tbl)(os:List Rw)   : w Oe (HP t os) .norm (I6 t 0 os):=B a [] [1,3,13] a0
def QZ(t:Tbl)(i:Int)(os:List Rw)(e:El):V:=W 1 (Q [A D t.r0,A D t.r1,A D t.r2,A D t.r3,A D t.r4,A D t.r5,A D t.r6,G (C t.tr) (H cI t.tr),G (C t.ws) (H cW t.ws),G (C t.ar) (H AH t.ar),G (C t.po) (H p t.po),G (C t.fl) (H cF t.fl),G (C t.zo) (H cZ t.zo),G (C t.sa) (H AU t.sa),G (C t.la) (H cL t.la),G (C t.ra) (H cR t.ra),G (C t.dr) (H cD t.dr),G (C t.ln) (H cK t.ln)]::W 1 (An 3 (C os) (H cE os)::W 9 (vi i::Q [.str e.s,A D (e.n 0),A D (e.n 1),A D (e.n 2),A D (e.n 3),I e.b,A D (e.n 4),A D (e.n 5),A D (e.n 6),A D (e.n 7),A D (e.n 8),A D (e.n 9),A D (e.n 10),A D (e.n 11),A D (e.n 12)]::W 251 [])))
def lZ:ICode := .region false [o1 228 (.adr 14 14 1),o1 229 (.ld 228 14 1 true),o1 230 (.call 118 [.t 229,.c (.int .i64 0),.c (.int .i64 3)]),oM 231 230,oG 232 (.ld 14 14 15 false) 231 true,oG 233 (.call 154 [.t 232]) 231 true,o1 234 (.pick (.t 231) (.t 233) (.c (.bool false))),oM 235 234,oG 236 (.adr 14 14 11) 235 true,oG 237 (.ld 236 14 1 true) 235 true,oG 238 (.call 118 [.t 237,.c (.int .i64 0),.c (.int .i64 15)]) 235 true,o1 239 (.pick (.t 235) (.t 238) (.c (.bool false))),oM 240 239,oG 241 (.adr 14 14 12) 240 true,oG 242 (.ld 241 14 1 true) 240 true,oG 243 (.call 118 [.t 242,.c (.int .i64 0),.c (.int .i64 15)]) 240 true,o1 244 (.pick (.t 240) (.t 243) (.c (.bool false))),oM 245 244,oG 246 (.adr 14 14 13) 245 true,oG 247 (.ld 246 14 1 true) 245 true,oG 248 (.call 118 [.t 247,.c (.int .i64 (-1)),.c (.int .i64 31)]) 245 true,o1 249 (.pick (.t 245) (.t 248) (.c (.bool false))),oM 250 249,oG 251 (.adr 14 14 14) 250 true,oG 252 (.ld 251 14 1 true) 250 true,oG 253 (.call 118 [.t 252,.c (.int .i64 (-1)),.c (.int .i64 63)]) 250 true,o1 254 (.pick (.t 250) (.t 253) (.c (.bool false))),oM 15 254]
def Kx:ICode:=CG Nv 90 1012
section
variable(t:Tbl)(i:Int)(os:List Rw)
theorem W8(b:Bool)(e:El)(c1:E (i<C t.fl)=true)(c:0<=i/\i<C t.fl)(f:Ae (R (L i*15) (H cF t.fl)) 0 15 false=some (M [.str e.s,A D (e.n 0),A D (e.n 1),A D (e.n 2),A D (e.n 3),I e.b,A D (e.n 4),A D (e.n 5),A D (e.n 6),A D (e.n 7),A D (e.n 8),A D (e.n 9),A D (e.n 10),A D (e.n 11),A D (e.n 12)]))(g:w lZ (QZ t i os e) .norm (Cg (QZ t i os e) 15 (X (I b))))(h:C os+1<=1048576):w Kx (I6 t i os) .norm (QY t (J D (i+1)) (C os+1) (H cE os++([.str e.s,I b,I true]:u))):=T (B (t:=W 1 (Q [A D t.r0,A D t.r1,A D t.r2,A D t.r3,A D t.r4,A D t.r5,A D t.r6,G (C t.tr) (H cI t.tr),G (C t.ws) (H cW t.ws),G (C t.ar) (H AH t.ar),G (C t.po) (H p t.po),G (C t.fl) (H cF t.fl),G (C t.zo) (H cZ t.zo),G (C t.sa) (H AU t.sa),G (C t.la) (H cL t.la),G (C t.ra) (H cR t.ra),G (C t.dr) (H cD t.dr),G (C t.ln) (H cK t.ln)]::W 1 (An 3 (C os) (H cE os)::W 9 (vi i::W 252 [])))) a [q] [1,3,13] (Bp c1)) (T (Bc (T (B a [.v (M [.str e.s,A D (e.n 0),A D (e.n 1),A D (e.n 2),A D (e.n 3),I e.b,A D (e.n 4),A D (e.n 5),A D (e.n 6),A D (e.n 7),A D (e.n 8),A D (e.n 9),A D (e.n 10),A D (e.n 11),A D (e.n 12)])] [1,3,13,14] (GY c f)) (T g (B (t:=W 1 (Q [A D t.r0,A D t.r1,A D t.r2,A D t.r3,A D t.r4,A D t.r5,A D t.r6,G (C t.tr) (H cI t.tr),G (C t.ws) (H cW t.ws),G (C t.ar) (H AH t.ar),G (C t.po) (H p t.po),G (C t.fl) (H cF t.fl),G (C t.zo) (H cZ t.zo),G (C t.sa) (H AU t.sa),G (C t.la) (H cL t.la),G (C t.ra) (H cR t.ra),G (C t.dr) (H cD t.dr),G (C t.ln) (H cK t.ln)]::W 1 (An 3 (C os+1) (H cE os++([.str e.s,I b,I true]:u))::W 9 (vi i::W 252 [])))) a [] [1,3,13] (GY (show C ([.str e.s,I b,I true]:u)=1*3 from rfl) h))))) (B a [] [1,3,13] a0))
theorem W9(c1:E (i<C t.fl)=false):w Kx (I6 t i os) xZ6 (I6 t i os):=d (B a [Y] [1,3,13] (Bp c1))
end
def yZ(a:Nat)(co:u):V:=W 2 (An 3 a co::W 263 [])
def ZE:ICode := .seq (.region false [o1 262 (.tra 3),o1 263 (.ld 1 1 18 false),oC 264 220 [263],o1 265 (.apd true (.t 262) (.t 264) 3 1048576),o1 2 (.tra 265)]) (.ret)
theorem WA(t:Tbl)(os b:List Rw)(c:C (H cE b)=C b*3)(d:C os+C b<=1048576)(e:RQ 220 [M [A D t.r0,A D t.r1,A D t.r2,A D t.r3,A D t.r4,A D t.r5,A D t.r6,G (C t.tr) (H cI t.tr),G (C t.ws) (H cW t.ws),G (C t.ar) (H AH t.ar),G (C t.po) (H p t.po),G (C t.fl) (H cF t.fl),G (C t.zo) (H cZ t.zo),G (C t.sa) (H AU t.sa),G (C t.la) (H cL t.la),G (C t.ra) (H cR t.ra),G (C t.dr) (H cD t.dr),G (C t.ln) (H cK t.ln)]] (P 3 (C b) (H cE b))):w ZE (HP t os) .ret (yZ (C os+C b) (H cE os++H cE b)):=B a [.r (P 3 (C b) (H cE b))] [2] (Im e c d)
theorem Adp:(iF g Nv).body = .seq lV (.seq lW (.seq (.seq Oa (.block 0 (.loop Kv))) (.seq (.seq Oc (.block 2 (.loop Js))) (.seq (.seq Od (.block 4 (.loop Kw))) (.seq (.seq Oe (.block 6 (.loop Kx))) ZE))))):=by kernel_rfl
theorem IX{f:Nat->Option IFunc}{a:bS}(j:RW f a){dr:Bool}{ops:List IOp}{l:MS}{s:V}(x:Nat)(hs:QG l s=true)
  (hc:(match chk a l ops with | some i=>(match Y8 x i with | some e=>decide (e.e = .v (.c .b))&&e.g.isNone | none=>false) | none=>false)=true)
  (hd:(N8 ops).all (fun d=>decide (d<C s)&&(Au d x || sQ (Ag s d)))=true) (k:decide (x<C s)=true):∃ b,B6 f (.region dr ops) s .norm (s.set x (X (I b))):=by
 cases h:chk a l ops with
 | none=>rw[h] at hc;cases hc
 | some i=>rw[h] at hc;exact Azj j x hs h hc hd k
theorem Eh{k:IntKind}{x:AV}(h:CK.ok (.i k) x=true):∃ v,x = A k v:=by
 cases x <;> simp only[CK.ok,Dm,AC] at h;subst h;exact⟨_,rfl⟩
theorem ck_b{x:AV}(h:CK.ok .b x=true):∃ v,x = I v:=by
 cases x <;> simp only[CK.ok,AC] at h;exact⟨_,rfl⟩
theorem Amf{x:AV}(h:CK.ok .s x=true):∃ v,x = .str v:=by
 cases x <;> simp only[CK.ok,AC] at h;exact⟨_,rfl⟩
theorem BM{k:CK}{ks:List CK}{cs:u}(h:Dc (k::ks) cs=true):∃ c a,cs=c::a/\k.ok c=true/\Dc ks a=true:=by
 cases cs with
 | nil=>cases h
 | cons c cs=>simp only[Dc,U] at h;exact⟨c,cs,rfl,h.1,h.2⟩
theorem Q'{cs:u}(h:Dc [] cs=true):cs=[]:=by
 cases cs with
 | nil=>rfl
 | cons c cs=>cases h
theorem mA{ks:List CK}{x:AV}(h:Ty.ok (.g ks) x=true):∃ cs,x = M cs/\Dc ks cs=true:=by
 cases x <;> simp only[Ty.ok,AC] at h;exact⟨_,rfl,h⟩
theorem HT{t:Ty}{a:List Ty}{xs:u}(h:N7 (t::a) xs=true):∃ x b,xs=x::b/\t.ok x=true/\N7 a b=true:=by
 cases xs with
 | nil=>cases h
 | cons c cs=>simp only[N7,U] at h;exact⟨c,cs,rfl,h.1,h.2⟩
theorem OW{xs:u}(h:N7 [] xs=true):xs=[]:=by
 cases xs with
 | nil=>rfl
 | cons c cs=>cases h
theorem PZ(s:ByteArray):∀ (d:Nat) (z:Bool) (i:Int),i+(d:Int)=(s.size:Int)->0<=i->s.size<=12 ->
  (∃ a b,w (.loop NT) (GL s z i) xZ0 (GL s a b))\/∃ a b,w (.loop NT) (GL s z i) .ret (GL s a b)
 | 0,z,i,h,h0,_ => .inl ⟨z,i,f (Ame s z i (AG (by omega)))⟩
 | d+1,z,i,h,h0,hs=>by
  have c1:decide (i<(s.size:Int))=true:=AN (by omega);have hi:i.toNat<s.size:=by omega
  have k:J D (i+1)=i+1:=Bb (by omega) (by omega);have g:((if 0<=i then (s)[L i]? else none).map fun c=>(c.toNat:Int))=some ((s[i.toNat]'hi).toNat:Int):=by
   rw[Af h0,getElem?_pos s i.toNat hi];rfl
  rcases Ah (Ce ((s[i.toNat]'hi).toNat)) with c2 | c2
  ·have e:=Amb s z i _ c1 c2 g;rw[k] at e;rcases PZ s d z (i+1) (by omega) (by omega) hs with ⟨a,b,j⟩ | ⟨a,b,j⟩
   ·exact .inl ⟨a,b,Ay e j⟩
   ·exact .inr ⟨a,b,Ay e j⟩
  ·rcases Ah (HJ ((s[i.toNat]'hi).toNat)) with c3 | c3
   ·have e:=Amc s z i _ c1 c2 c3 g;rw[k] at e;rcases PZ s d z (i+1) (by omega) (by omega) hs with ⟨a,b,j⟩ | ⟨a,b,j⟩
    ·exact .inl ⟨a,b,Ay e j⟩
    ·exact .inr ⟨a,b,Ay e j⟩
   ·exact .inr ⟨_,_,f (Amd s z i _ c1 c2 c3 g)⟩
theorem ZF(s:ByteArray):∃ b,RQ 121 [.str s] (I b):=by
 rcases Ah ((s.size:Int)==0) with c1 | c1
 ·exact⟨_,lN s c1⟩
 ·rcases Ah (E ((s.size:Int)>12)) with c2 | c2
  ·exact⟨_,lO s c1 c2⟩
  ·have f:s.size<=12:=by have:=of_decide_eq_false c2;omega
   have h0:0<s.size:=by
    rcases Ic s.size with h | h
    ·rw[h] at c1;cases c1
    ·exact h
   have g:((if (0:Int)<=0 then (s)[L 0]? else none).map fun c=>(c.toNat:Int))=some ((s[0]'h0).toNat:Int):=by
    rw[Af (by omega)];show Option.map _ (s[0]?)=_;rw[getElem?_pos s 0 h0];rfl
   rcases Ah (Ce ((s[0]'h0).toNat)) with c3 | c3
   ·rcases PZ s s.size false 0 (by omega) (by omega) f with ⟨a,d,e⟩ | ⟨a,d,e⟩
    ·exact⟨_,lP s _ d a c1 c2 c3 g e⟩
    ·exact⟨_,lR s _ d a c1 c2 c3 g e⟩
   ·exact⟨_,lQ s _ c1 c2 c3 g⟩
def sgE:bS:=[(118,[.c (.i .i64),.c (.i .i64),.c (.i .i64)],.c .b),(119,[.g [.i .i64,.i .i64],.c (.i .i64)],.c .b),(121,[.c .s],.c .b),(176,[.g [.s,.i .i64,.i .i64,.i .i64,.i .i64,.i .i64,.i .i64,.i .i64,.i .i64,.i .i64,.i .i64,.i .i64]],.c (.i .i64)),(154,[.g [.s,.i .i64,.i .i64,.i .i64,.i .i64,.b,.i .i64,.i .i64,.i .i64,.i .i64,.i .i64,.i .i64,.i .i64,.i .i64,.i .i64]],.c .b),(68,[.g [.i .i64,.i .i64],.g [.i .i64,.i .i64],.c (.i .i64)],.c .b)]
theorem Hc:RW Cy sgE:=by
 intro f ts t S args j;simp only[sgE,Aw,AD,or_false,BP] at S;rcases S with ⟨rfl,rfl,rfl⟩ | ⟨rfl,rfl,rfl⟩ | ⟨rfl,rfl,rfl⟩ | ⟨rfl,rfl,rfl⟩ | ⟨rfl,rfl,rfl⟩ | ⟨rfl,rfl,rfl⟩
 ·obtain⟨k,l,rfl,a,c⟩:=HT j;obtain⟨T,rfl⟩:=Eh a;obtain⟨U,V,rfl,m,n⟩:=HT c;obtain⟨W,rfl⟩:=Eh m;obtain⟨X,Y,rfl,o,p⟩:=HT n;obtain⟨Z,rfl⟩:=Eh o;cases OW p;exact⟨_,D6 _ _ _,rfl⟩
 ·obtain⟨k,l,rfl,a,c⟩:=HT j;obtain⟨q,rfl,d⟩:=mA a;obtain⟨r,s,rfl,e,g⟩:=BM d;obtain⟨u,rfl⟩:=Eh e;obtain⟨v,w,rfl,h,i⟩:=BM g;obtain⟨x,rfl⟩:=Eh h;cases Q' i;obtain⟨U,V,rfl,m,n⟩:=HT c;obtain⟨W,rfl⟩:=Eh m;cases OW n;exact⟨_,FS _ _ _,rfl⟩
 ·obtain⟨k,l,rfl,a,c⟩:=HT j;obtain⟨T,rfl⟩:=Amf a;cases OW c;obtain⟨b,hb⟩:=ZF T;exact⟨_,hb,rfl⟩
 ·obtain⟨k,l,rfl,a,c⟩:=HT j;obtain⟨q,rfl,d⟩:=mA a;obtain⟨r,s,rfl,e,g⟩:=BM d;obtain⟨u,rfl⟩:=Amf e;obtain⟨v,w,rfl,h,i⟩:=BM g;obtain⟨x,rfl⟩:=Eh h;obtain⟨a4,a5,rfl,y,z⟩:=BM i;obtain⟨a6,rfl⟩:=Eh y;obtain⟨a7,a8,rfl,A,B⟩:=BM z;obtain⟨a9,rfl⟩:=Eh A;obtain⟨b0,b1,rfl,C,D⟩:=BM B;obtain⟨b2,rfl⟩:=Eh C;obtain⟨b3,b4,rfl,E,F⟩:=BM D;obtain⟨b5,rfl⟩:=Eh E;obtain⟨b6,b7,rfl,G,H⟩:=BM F;obtain⟨b8,rfl⟩:=Eh G;obtain⟨b9,c0,rfl,I,J⟩:=BM H;obtain⟨c1,rfl⟩:=Eh I;obtain⟨c2,c3,rfl,K,L⟩:=BM J;obtain⟨c4,rfl⟩:=Eh K;obtain⟨c5,c6,rfl,M,N⟩:=BM L;obtain⟨c7,rfl⟩:=Eh M;obtain⟨c8,c9,rfl,O,P⟩:=BM N;obtain⟨d0,rfl⟩:=Eh O;obtain⟨d1,d2,rfl,Q,R⟩:=BM P;obtain⟨d3,rfl⟩:=Eh Q;cases Q' R;cases OW c;exact⟨_,V4 _ _ _ _ _ _ _ _ _ _ _ _,rfl⟩
 ·obtain⟨k,l,rfl,a,c⟩:=HT j;obtain⟨q,rfl,d⟩:=mA a;obtain⟨r,s,rfl,e,g⟩:=BM d;obtain⟨u,rfl⟩:=Amf e;obtain⟨v,w,rfl,h,i⟩:=BM g;obtain⟨x,rfl⟩:=Eh h;obtain⟨a4,a5,rfl,y,z⟩:=BM i;obtain⟨a6,rfl⟩:=Eh y;obtain⟨a7,a8,rfl,A,B⟩:=BM z;obtain⟨a9,rfl⟩:=Eh A;obtain⟨b0,b1,rfl,C,D⟩:=BM B;obtain⟨b2,rfl⟩:=Eh C;obtain⟨b3,b4,rfl,E,F⟩:=BM D;obtain⟨b5,rfl⟩:=ck_b E;obtain⟨b6,b7,rfl,G,H⟩:=BM F;obtain⟨b8,rfl⟩:=Eh G;obtain⟨b9,c0,rfl,I,J⟩:=BM H;obtain⟨c1,rfl⟩:=Eh I;obtain⟨c2,c3,rfl,K,L⟩:=BM J;obtain⟨c4,rfl⟩:=Eh K;obtain⟨c5,c6,rfl,M,N⟩:=BM L;obtain⟨c7,rfl⟩:=Eh M;obtain⟨c8,c9,rfl,O,P⟩:=BM N;obtain⟨d0,rfl⟩:=Eh O;obtain⟨d1,d2,rfl,Q,R⟩:=BM P;obtain⟨d3,rfl⟩:=Eh Q;obtain⟨e5,e6,rfl,d4,d5⟩:=BM R;obtain⟨e7,rfl⟩:=Eh d4;obtain⟨e8,e9,rfl,d6,d7⟩:=BM d5;obtain⟨f0,rfl⟩:=Eh d6;obtain⟨f1,f2,rfl,d8,d9⟩:=BM d7;obtain⟨f3,rfl⟩:=Eh d8;cases Q' d9;cases OW c;exact⟨_,NH _ _ _ _ _ _ _ _ _ _ _ _ _ _ _,rfl⟩
 ·obtain⟨k,l,rfl,a,c⟩:=HT j;obtain⟨q,rfl,d⟩:=mA a;obtain⟨r,s,rfl,e,g⟩:=BM d;obtain⟨u,rfl⟩:=Eh e;obtain⟨v,w,rfl,h,i⟩:=BM g;obtain⟨x,rfl⟩:=Eh h;cases Q' i;obtain⟨U,V,rfl,m,n⟩:=HT c;obtain⟨f4,rfl,e0⟩:=mA m;obtain⟨f5,f6,rfl,e1,e2⟩:=BM e0;obtain⟨f7,rfl⟩:=Eh e1;obtain⟨f8,f9,rfl,e3,e4⟩:=BM e2;obtain⟨g0,rfl⟩:=Eh e3;cases Q' e4;obtain⟨X,Y,rfl,o,p⟩:=HT n;obtain⟨Z,rfl⟩:=Eh o;cases OW p;exact⟨_,cJ _ _ _ _ _,rfl⟩
section
variable {t:Tbl}
theorem ZG{i:Int}{os:List Rw}{r:Rw}{s:V}(h:w Jq s .norm (NU t i (C os+1) (H cE os++cE r))):w Jq s .norm (HK t i (os++[r])):=by
 have e:NU t i (C os+1) (H cE os++cE r)=HK t i (os++[r]):=by
  rw[Et];show _=NU t i (C (os++[r])) (H cE (os++[r]));rw[Ac];rfl
 exact e ▸ h
theorem Amg{i:Int}{os:List Rw}(d:TOk t)(h0:0<=i)(hl:i<C t.zo)(ho:C os<=500):∃ r,w Jq (HK t i os) .norm (HK t (i+1) (os++[r])):=by
 have g:=d.l12;have f:i.toNat<C t.zo:=by omega
 have hr:=CH (c:=cZ) (k:=9) (fun _=>rfl) f;generalize t.zo[i.toNat]=e at hr;have a:J D (i+1)=i+1:=Bb (by omega) (by omega);have c1:decide (i<(C t.zo:Int))=true:=AN hl;obtain⟨b,hb⟩:∃ b,w V_ (Lu t i os e) .norm (Cg (Lu t i os e) 6 (X (I b))):=IX Hc (l:=[⟨1,.box [.i .i64,.i .i64,.i .i64,.i .i64,.i .i64,.i .i64,.i .i64,.l,.l,.l,.l,.l,.l,.l,.l,.l,.l,.l],none⟩,⟨5,.box [.s,.i .i64,.i .i64,.i .i64,.i .i64,.i .i64,.i .i64,.i .i64,.i .i64],none⟩]) 6 (by kernel_rfl) (by kernel_rfl) (by kernel_rfl) (by kernel_rfl);rcases Ah (E (e.n 1<e.n 3)) with c2 | c2
 ·have h:=Wa t i os b e c1 c2 ⟨by omega,by omega⟩ hr hb (by omega);rw[a] at h;exact⟨⟨_,_,_⟩,ZG h⟩
 ·have h:=Wb t i os b e c1 c2 ⟨by omega,by omega⟩ hr hb (by omega);rw[a] at h;exact⟨⟨_,_,_⟩,ZG h⟩
theorem mB(b:TOk t):∀ (d:Nat) {i:Int} {os:List Rw},i+(d:Int)=(C t.zo:Int)->0<=i->C os+d<=500 ->
  ∃ a,C a=C os+d/\w (.loop Jq) (HK t i os) xZ0 (HK t (C t.zo) a)
 | 0,i,os,h,_,_=>by
  have e:i=(C t.zo:Int):=by omega
  subst e;exact⟨os,rfl,f (Wc t _ os (AG (by omega)))⟩
 | d+1,i,os,h,h0,ho=>by
  obtain⟨r,h1⟩:=Amg (os:=os) b h0 (by omega) (by omega);obtain⟨a,h2,c⟩:=mB b d (i:=i+1) (os:=os++[r]) (by omega) (by omega) (by rw[Ac];simp;omega);exact⟨a,by rw[h2,Ac];simp;omega,Ay h1 c⟩
theorem Adq{i:Int}{os:List Rw}{r:Rw}{s:V}(h:w Ku s .norm (QR t i (C os+1) (H cE os++cE r))):w Ku s .norm (I2 t i (os++[r])):=by
 have e:QR t i (C os+1) (H cE os++cE r)=I2 t i (os++[r]):=by
  rw[Et];show _=QR t i (C (os++[r])) (H cE (os++[r]));rw[Ac];rfl
 exact e ▸ h
theorem Amh{i:Int}{os:List Rw}(a:TOk t)(h0:0<=i)(hl:i<C t.sa)(ho:C os<=500):∃ r,w Ku (I2 t i os) .norm (I2 t (i+1) (os++[r])):=by
 have g:=a.l13;have d:i.toNat<C t.sa:=by omega
 have hr:=CH (c:=AU) (k:=10) (fun _=>rfl) d;generalize t.sa[i.toNat]=e at hr;have f:J D (i+1)=i+1:=Bb (by omega) (by omega);have c1:decide (i<(C t.sa:Int))=true:=AN hl;obtain⟨b,hb⟩:∃ b,w lU (QS t i os e) .norm (Cg (QS t i os e) 9 (X (I b))):=IX Hc (l:=[⟨1,.box [.i .i64,.i .i64,.i .i64,.i .i64,.i .i64,.i .i64,.i .i64,.l,.l,.l,.l,.l,.l,.l,.l,.l,.l,.l],none⟩,⟨8,.box [.s,.i .i64,.i .i64,.i .i64,.i .i64,.i .i64,.i .i64,.i .i64,.i .i64,.i .i64],none⟩]) 9 (by kernel_rfl) (by kernel_rfl) (by kernel_rfl) (by kernel_rfl);have h:=Wd t i os b e c1 ⟨by omega,by omega⟩ hr hb (by omega);rw[f] at h;exact⟨⟨_,_,_⟩,Adq h⟩
theorem mC(b:TOk t):∀ (d:Nat) {i:Int} {os:List Rw},i+(d:Int)=(C t.sa:Int)->0<=i->C os+d<=500 ->
  ∃ a,C a=C os+d/\w (.loop Ku) (I2 t i os) xZ2 (I2 t (C t.sa) a)
 | 0,i,os,h,_,_=>by
  have e:i=(C t.sa:Int):=by omega
  subst e;exact⟨os,rfl,f (We t _ os (AG (by omega)))⟩
 | d+1,i,os,h,h0,ho=>by
  obtain⟨r,h1⟩:=Amh (os:=os) b h0 (by omega) (by omega);obtain⟨a,h2,c⟩:=mC b d (i:=i+1) (os:=os++[r]) (by omega) (by omega) (by rw[Ac];simp;omega);exact⟨a,by rw[h2,Ac];simp;omega,Ay h1 c⟩
theorem Ami{os:List Rw}(b:TOk t)(ho:C os<=400):∃ a,C a=C os+C t.sa/\w (.seq NW (.block 2 (.loop Ku))) (Fb t os) .norm (Fb t a):=by
 have c:=b.l13;obtain⟨a,h1,h2⟩:=mC b (C t.sa) (i:=0) (os:=os) (by omega) (by omega) (by omega);exact⟨a,h1,T (Sb t os) (A7 [1,3] (m h2) (by kernel_rfl))⟩
theorem OX{i:Int}{os:List Rw}{r:Rw}{s:V}(h:w HL s .norm (JQ t i (C os+1) (H cE os++cE r))):w HL s .norm (G4 t i (os++[r])):=by
 have e:JQ t i (C os+1) (H cE os++cE r)=G4 t i (os++[r]):=by
  rw[Et];show _=JQ t i (C (os++[r])) (H cE (os++[r]));rw[Ac];rfl
 exact e ▸ h
theorem Amj{i:Int}{os:List Rw}(b:TOk t)(h0:0<=i)(hl:i<C t.la)(ho:C os<=500):∃ r,w HL (G4 t i os) .norm (G4 t (i+1) (os++[r])):=by
 have f:=b.l14;have d:i.toNat<C t.la:=by omega
 have hr:=CH (c:=cL) (k:=6) (fun _=>rfl) d;generalize t.la[i.toNat]=e at hr;have a:J D (i+1)=i+1:=Bb (by omega) (by omega);have c1:decide (i<(C t.la:Int))=true:=AN hl;rcases Ah (AY (e.n 0) 0 3) with c2 | c2
 ·rcases Ah (v (e.n 1) (e.n 2) 1048576) with c3 | c3
  ·rcases Ah (AY (e.n 3) 1 262144) with c4 | c4
   ·have h:=Wf t i os e c1 c2 c3 c4 ⟨by omega,by omega⟩ (by omega) hr;rw[a] at h;exact⟨⟨_,_,_⟩,OX h⟩
   ·have h:=Wg t i os e c1 c2 c3 c4 ⟨by omega,by omega⟩ (by omega) hr;rw[a] at h;exact⟨⟨_,_,_⟩,OX h⟩
  ·have h:=Wh t i os e c1 c2 c3 ⟨by omega,by omega⟩ (by omega) hr;rw[a] at h;exact⟨⟨_,_,_⟩,OX h⟩
 ·have h:=Wi t i os e c1 c2 ⟨by omega,by omega⟩ (by omega) hr;rw[a] at h;exact⟨⟨_,_,_⟩,OX h⟩
theorem mD(b:TOk t):∀ (d:Nat) {i:Int} {os:List Rw},i+(d:Int)=(C t.la:Int)->0<=i->C os+d<=500 ->
  ∃ a,C a=C os+d/\w (.loop HL) (G4 t i os) xZ4 (G4 t (C t.la) a)
 | 0,i,os,h,_,_=>by
  have e:i=(C t.la:Int):=by omega
  subst e;exact⟨os,rfl,f (Wj t _ os (AG (by omega)))⟩
 | d+1,i,os,h,h0,ho=>by
  obtain⟨r,h1⟩:=Amj (os:=os) b h0 (by omega) (by omega);obtain⟨a,h2,c⟩:=mD b d (i:=i+1) (os:=os++[r]) (by omega) (by omega) (by rw[Ac];simp;omega);exact⟨a,by rw[h2,Ac];simp;omega,Ay h1 c⟩
theorem Amk{os:List Rw}(b:TOk t)(ho:C os<=400):∃ a,C a=C os+C t.la/\w (.seq NX (.block 4 (.loop HL))) (Fb t os) .norm (Fb t a):=by
 have c:=b.l14;obtain⟨a,h1,h2⟩:=mD b (C t.la) (i:=0) (os:=os) (by omega) (by omega) (by omega);exact⟨a,h1,T (Se t os) (A7 [1,3] (m h2) (by kernel_rfl))⟩
theorem ZH{i:Int}{os:List Rw}{r:Rw}{s:V}(h:w Jr s .norm (NY t i (C os+1) (H cE os++cE r))):w Jr s .norm (HM t i (os++[r])):=by
 have e:NY t i (C os+1) (H cE os++cE r)=HM t i (os++[r]):=by
  rw[Et];show _=NY t i (C (os++[r])) (H cE (os++[r]));rw[Ac];rfl
 exact e ▸ h
theorem Aml{i:Int}{os:List Rw}(d:TOk t)(h0:0<=i)(hl:i<C t.ra)(ho:C os<=500):∃ r,w Jr (HM t i os) .norm (HM t (i+1) (os++[r])):=by
 have g:=d.l15;have f:i.toNat<C t.ra:=by omega
 have hr:=CH (c:=cR) (k:=8) (fun _=>rfl) f;generalize t.ra[i.toNat]=e at hr;have a:J D (i+1)=i+1:=Bb (by omega) (by omega);have c1:decide (i<(C t.ra:Int))=true:=AN hl;obtain⟨b,hb⟩:∃ b,w Wk (Lv t i os e) .norm (Cg (Lv t i os e) 14 (X (I b))):=IX Hc (l:=[⟨1,.box [.i .i64,.i .i64,.i .i64,.i .i64,.i .i64,.i .i64,.i .i64,.l,.l,.l,.l,.l,.l,.l,.l,.l,.l,.l],none⟩,⟨13,.box [.s,.i .i64,.i .i64,.i .i64,.i .i64,.i .i64,.i .i64,.i .i64],none⟩]) 14 (by kernel_rfl) (by kernel_rfl) (by kernel_rfl) (by kernel_rfl);rcases Ah ((e.n 0) != (e.n 1)) with c2 | c2
 ·have h:=Wl t i os b e c1 c2 ⟨by omega,by omega⟩ hr hb (by omega);rw[a] at h;exact⟨⟨_,_,_⟩,ZH h⟩
 ·have h:=Wm t i os b e c1 c2 ⟨by omega,by omega⟩ hr hb (by omega);rw[a] at h;exact⟨⟨_,_,_⟩,ZH h⟩
theorem mE(b:TOk t):∀ (d:Nat) {i:Int} {os:List Rw},i+(d:Int)=(C t.ra:Int)->0<=i->C os+d<=500 ->
  ∃ a,C a=C os+d/\w (.loop Jr) (HM t i os) xZ6 (HM t (C t.ra) a)
 | 0,i,os,h,_,_=>by
  have e:i=(C t.ra:Int):=by omega
  subst e;exact⟨os,rfl,f (Wn t _ os (AG (by omega)))⟩
 | d+1,i,os,h,h0,ho=>by
  obtain⟨r,h1⟩:=Aml (os:=os) b h0 (by omega) (by omega);obtain⟨a,h2,c⟩:=mE b d (i:=i+1) (os:=os++[r]) (by omega) (by omega) (by rw[Ac];simp;omega);exact⟨a,by rw[h2,Ac];simp;omega,Ay h1 c⟩
theorem Amm{os:List Rw}(b:TOk t)(ho:C os<=400):∃ a,C a=C os+C t.ra/\w (.seq NZ (.block 6 (.loop Jr))) (Fb t os) .norm (Fb t a):=by
 have c:=b.l15;obtain⟨a,h1,h2⟩:=mE b (C t.ra) (i:=0) (os:=os) (by omega) (by omega) (by omega);exact⟨a,h1,T (Sf t os) (A7 [1,3] (m h2) (by kernel_rfl))⟩
theorem Sl{i:Int}{os:List Rw}{r:Rw}{s:V}(h:w I3 s .norm (Lw t i (C os+1) (H cE os++cE r))):w I3 s .norm (Hb t i (os++[r])):=by
 have e:Lw t i (C os+1) (H cE os++cE r)=Hb t i (os++[r]):=by
  rw[Et];show _=Lw t i (C (os++[r])) (H cE (os++[r]));rw[Ac];rfl
 exact e ▸ h
theorem Amn{i:Int}{os:List Rw}(b:TOk t)(h0:0<=i)(hl:i<C t.dr)(ho:C os<=500):∃ r,w I3 (Hb t i os) .norm (Hb t (i+1) (os++[r])):=by
 have f:=b.l16;have d:i.toNat<C t.dr:=by omega
 have hr:=CH (c:=cD) (k:=5) (fun _=>rfl) d;generalize t.dr[i.toNat]=e at hr;have a:J D (i+1)=i+1:=Bb (by omega) (by omega);have c1:decide (i<(C t.dr:Int))=true:=AN hl;rcases Ah (AY (e.n 0) 0 3) with c2 | c2
 ·rcases Ah (v (e.n 1) (e.n 2) 1048576) with c3 | c3
  ·have h:=Wo t i os e c1 c2 c3 ⟨by omega,by omega⟩ (by omega) hr;rw[a] at h;exact⟨⟨_,_,_⟩,Sl h⟩
  ·have h:=Wp t i os e c1 c2 c3 ⟨by omega,by omega⟩ (by omega) hr;rw[a] at h;exact⟨⟨_,_,_⟩,Sl h⟩
 ·have h:=Wq t i os e c1 c2 ⟨by omega,by omega⟩ (by omega) hr;rw[a] at h;exact⟨⟨_,_,_⟩,Sl h⟩
theorem mF(b:TOk t):∀ (d:Nat) {i:Int} {os:List Rw},i+(d:Int)=(C t.dr:Int)->0<=i->C os+d<=500 ->
  ∃ a,C a=C os+d/\w (.loop I3) (Hb t i os) xZ8 (Hb t (C t.dr) a)
 | 0,i,os,h,_,_=>by
  have e:i=(C t.dr:Int):=by omega
  subst e;exact⟨os,rfl,f (Wr t _ os (AG (by omega)))⟩
 | d+1,i,os,h,h0,ho=>by
  obtain⟨r,h1⟩:=Amn (os:=os) b h0 (by omega) (by omega);obtain⟨a,h2,c⟩:=mF b d (i:=i+1) (os:=os++[r]) (by omega) (by omega) (by rw[Ac];simp;omega);exact⟨a,by rw[h2,Ac];simp;omega,Ay h1 c⟩
theorem Amo{os:List Rw}(b:TOk t)(ho:C os<=400):∃ a,C a=C os+C t.dr/\w (.seq N' (.block 8 (.loop I3))) (Fb t os) .norm (Fb t a):=by
 have c:=b.l16;obtain⟨a,h1,h2⟩:=mF b (C t.dr) (i:=0) (os:=os) (by omega) (by omega) (by omega);exact⟨a,h1,T (Sg t os) (A7 [1,3] (m h2) (by kernel_rfl))⟩
theorem OY{i:Int}{os:List Rw}{r:Rw}{s:V}(h:w HN s .norm (JR t i (C os+1) (H cE os++cE r))):w HN s .norm (G5 t i (os++[r])):=by
 have e:JR t i (C os+1) (H cE os++cE r)=G5 t i (os++[r]):=by
  rw[Et];show _=JR t i (C (os++[r])) (H cE (os++[r]));rw[Ac];rfl
 exact e ▸ h
theorem Amp{i:Int}{os:List Rw}(b:TOk t)(h0:0<=i)(hl:i<C t.ln)(ho:C os<=500):∃ r,w HN (G5 t i os) .norm (G5 t (i+1) (os++[r])):=by
 have f:=b.l17;have d:i.toNat<C t.ln:=by omega
 have hr:=CH (c:=cK) (k:=7) (fun _=>rfl) d;generalize t.ln[i.toNat]=e at hr;have a:J D (i+1)=i+1:=Bb (by omega) (by omega);have c1:decide (i<(C t.ln:Int))=true:=AN hl;rcases Ah (AY (e.n 0) 0 3) with c2 | c2
 ·rcases Ah (v (e.n 1) (e.n 2) 1048576) with c3 | c3
  ·rcases Ah (v (e.n 3) (e.n 4) 16384) with c4 | c4
   ·have h:=Ws t i os e c1 c2 c3 c4 ⟨by omega,by omega⟩ (by omega) hr;rw[a] at h;exact⟨⟨_,_,_⟩,OY h⟩
   ·have h:=Wt t i os e c1 c2 c3 c4 ⟨by omega,by omega⟩ (by omega) hr;rw[a] at h;exact⟨⟨_,_,_⟩,OY h⟩
  ·have h:=Wu t i os e c1 c2 c3 ⟨by omega,by omega⟩ (by omega) hr;rw[a] at h;exact⟨⟨_,_,_⟩,OY h⟩
 ·have h:=Wv t i os e c1 c2 ⟨by omega,by omega⟩ (by omega) hr;rw[a] at h;exact⟨⟨_,_,_⟩,OY h⟩
theorem mG(b:TOk t):∀ (d:Nat) {i:Int} {os:List Rw},i+(d:Int)=(C t.ln:Int)->0<=i->C os+d<=500 ->
  ∃ a,C a=C os+d/\w (.loop HN) (G5 t i os) (.exit 10) (G5 t (C t.ln) a)
 | 0,i,os,h,_,_=>by
  have e:i=(C t.ln:Int):=by omega
  subst e;exact⟨os,rfl,f (Ww t _ os (AG (by omega)))⟩
 | d+1,i,os,h,h0,ho=>by
  obtain⟨r,h1⟩:=Amp (os:=os) b h0 (by omega) (by omega);obtain⟨a,h2,c⟩:=mG b d (i:=i+1) (os:=os++[r]) (by omega) (by omega) (by rw[Ac];simp;omega);exact⟨a,by rw[h2,Ac];simp;omega,Ay h1 c⟩
theorem Amq{os:List Rw}(b:TOk t)(ho:C os<=400):∃ a,C a=C os+C t.ln/\w (.seq N_ (.block 10 (.loop HN))) (Fb t os) .norm (Fb t a):=by
 have c:=b.l17;obtain⟨a,h1,h2⟩:=mG b (C t.ln) (i:=0) (os:=os) (by omega) (by omega) (by omega);exact⟨a,h1,T (Sh t os) (A7 [1,3] (m h2) (by kernel_rfl))⟩
theorem Adr{i:Int}{os:List Rw}{r:Rw}{s:V}(h:w Kv s .norm (QT t i (C os+1) (H cE os++cE r))):w Kv s .norm (I4 t i (os++[r])):=by
 have e:QT t i (C os+1) (H cE os++cE r)=I4 t i (os++[r]):=by
  rw[Et];show _=QT t i (C (os++[r])) (H cE (os++[r]));rw[Ac];rfl
 exact e ▸ h
theorem Amr{i:Int}{os:List Rw}(a:TOk t)(h0:0<=i)(hl:i<C t.ws)(ho:C os<=500):∃ r,w Kv (I4 t i os) .norm (I4 t (i+1) (os++[r])):=by
 have g:=a.l8;have d:i.toNat<C t.ws:=by omega
 have hr:=CH (c:=cW) (k:=13) (fun _=>rfl) d;generalize t.ws[i.toNat]=e at hr;have f:J D (i+1)=i+1:=Bb (by omega) (by omega);have c1:decide (i<(C t.ws:Int))=true:=AN hl;obtain⟨b,hb⟩:∃ b,w lX (QV t i os e) .norm (Cg (QV t i os e) 6 (X (I b))):=IX Hc (l:=[⟨1,.box [.i .i64,.i .i64,.i .i64,.i .i64,.i .i64,.i .i64,.i .i64,.l,.l,.l,.l,.l,.l,.l,.l,.l,.l,.l],none⟩,⟨5,.box [.s,.i .i64,.i .i64,.i .i64,.i .i64,.i .i64,.i .i64,.i .i64,.i .i64,.i .i64,.i .i64,.i .i64,.i .i64],none⟩]) 6 (by kernel_rfl) (by kernel_rfl) (by kernel_rfl) (by kernel_rfl);have h:=Wz t i os b e c1 ⟨by omega,by omega⟩ hr hb (by omega);rw[f] at h;exact⟨⟨_,_,_⟩,Adr h⟩
theorem mH(b:TOk t):∀ (d:Nat) {i:Int} {os:List Rw},i+(d:Int)=(C t.ws:Int)->0<=i->C os+d<=500 ->
  ∃ a,C a=C os+d/\w (.loop Kv) (I4 t i os) xZ0 (I4 t (C t.ws) a)
 | 0,i,os,h,_,_=>by
  have e:i=(C t.ws:Int):=by omega
  subst e;exact⟨os,rfl,f (W1 t _ os (AG (by omega)))⟩
 | d+1,i,os,h,h0,ho=>by
  obtain⟨r,h1⟩:=Amr (os:=os) b h0 (by omega) (by omega);obtain⟨a,h2,c⟩:=mH b d (i:=i+1) (os:=os++[r]) (by omega) (by omega) (by rw[Ac];simp;omega);exact⟨a,by rw[h2,Ac];simp;omega,Ay h1 c⟩
theorem ZI{i:Int}{os:List Rw}{r:Rw}{s:V}(h:w Js s .norm (Ob t i (C os+1) (H cE os++cE r))):w Js s .norm (HQ t i (os++[r])):=by
 have e:Ob t i (C os+1) (H cE os++cE r)=HQ t i (os++[r]):=by
  rw[Et];show _=Ob t i (C (os++[r])) (H cE (os++[r]));rw[Ac];rfl
 exact e ▸ h
theorem Ams{i:Int}{os:List Rw}(d:TOk t)(h0:0<=i)(hl:i<C t.ar)(ho:C os<=500):∃ r,w Js (HQ t i os) .norm (HQ t (i+1) (os++[r])):=by
 have g:=d.l9;have f:i.toNat<C t.ar:=by omega
 have hr:=CH (c:=AH) (k:=12) (fun _=>rfl) f;generalize t.ar[i.toNat]=e at hr;have a:J D (i+1)=i+1:=Bb (by omega) (by omega);have c1:decide (i<(C t.ar:Int))=true:=AN hl;obtain⟨b,hb⟩:∃ b,w W2 (Lx t i os e) .norm (Cg (Lx t i os e) 9 (X (I b))):=IX Hc (l:=[⟨1,.box [.i .i64,.i .i64,.i .i64,.i .i64,.i .i64,.i .i64,.i .i64,.l,.l,.l,.l,.l,.l,.l,.l,.l,.l,.l],none⟩,⟨8,.box [.s,.i .i64,.i .i64,.i .i64,.i .i64,.i .i64,.i .i64,.i .i64,.i .i64,.i .i64,.i .i64,.i .i64],none⟩]) 9 (by kernel_rfl) (by kernel_rfl) (by kernel_rfl) (by kernel_rfl);rcases Ah (b) with c2 | c2
 ·have h:=W3 t i os b e c1 c2 ⟨by omega,by omega⟩ hr hb (by omega);rw[a] at h;exact⟨⟨_,_,_⟩,ZI h⟩
 ·have h:=W4 t i os b e c1 c2 ⟨by omega,by omega⟩ hr hb (by omega);rw[a] at h;exact⟨⟨_,_,_⟩,ZI h⟩
theorem mI(b:TOk t):∀ (d:Nat) {i:Int} {os:List Rw},i+(d:Int)=(C t.ar:Int)->0<=i->C os+d<=500 ->
  ∃ a,C a=C os+d/\w (.loop Js) (HQ t i os) xZ2 (HQ t (C t.ar) a)
 | 0,i,os,h,_,_=>by
  have e:i=(C t.ar:Int):=by omega
  subst e;exact⟨os,rfl,f (W5 t _ os (AG (by omega)))⟩
 | d+1,i,os,h,h0,ho=>by
  obtain⟨r,h1⟩:=Ams (os:=os) b h0 (by omega) (by omega);obtain⟨a,h2,c⟩:=mI b d (i:=i+1) (os:=os++[r]) (by omega) (by omega) (by rw[Ac];simp;omega);exact⟨a,by rw[h2,Ac];simp;omega,Ay h1 c⟩
theorem Amt{os:List Rw}(b:TOk t)(ho:C os<=400):∃ a,C a=C os+C t.ar/\w (.seq Oc (.block 2 (.loop Js))) (HP t os) .norm (HP t a):=by
 have c:=b.l9;obtain⟨a,h1,h2⟩:=mI b (C t.ar) (i:=0) (os:=os) (by omega) (by omega) (by omega);exact⟨a,h1,T (Si t os) (A7 [1,3] (m h2) (by kernel_rfl))⟩
theorem Ads{i:Int}{os:List Rw}{r:Rw}{s:V}(h:w Kw s .norm (QW t i (C os+1) (H cE os++cE r))):w Kw s .norm (I5 t i (os++[r])):=by
 have e:QW t i (C os+1) (H cE os++cE r)=I5 t i (os++[r]):=by
  rw[Et];show _=QW t i (C (os++[r])) (H cE (os++[r]));rw[Ac];rfl
 exact e ▸ h
theorem Amu{i:Int}{os:List Rw}(a:TOk t)(h0:0<=i)(hl:i<C t.po)(ho:C os<=500):∃ r,w Kw (I5 t i os) .norm (I5 t (i+1) (os++[r])):=by
 have g:=a.l10;have d:i.toNat<C t.po:=by omega
 have hr:=CH (c:=p) (k:=11) (fun _=>rfl) d;generalize t.po[i.toNat]=e at hr;have f:J D (i+1)=i+1:=Bb (by omega) (by omega);have c1:decide (i<(C t.po:Int))=true:=AN hl;obtain⟨b,hb⟩:∃ b,w lY (QX t i os e) .norm (Cg (QX t i os e) 12 (X (I b))):=IX Hc (l:=[⟨1,.box [.i .i64,.i .i64,.i .i64,.i .i64,.i .i64,.i .i64,.i .i64,.l,.l,.l,.l,.l,.l,.l,.l,.l,.l,.l],none⟩,⟨11,.box [.s,.i .i64,.i .i64,.i .i64,.i .i64,.i .i64,.i .i64,.i .i64,.i .i64,.i .i64,.i .i64],none⟩]) 12 (by kernel_rfl) (by kernel_rfl) (by kernel_rfl) (by kernel_rfl);have h:=W6 t i os b e c1 ⟨by omega,by omega⟩ hr hb (by omega);rw[f] at h;exact⟨⟨_,_,_⟩,Ads h⟩
theorem mJ(b:TOk t):∀ (d:Nat) {i:Int} {os:List Rw},i+(d:Int)=(C t.po:Int)->0<=i->C os+d<=500 ->
  ∃ a,C a=C os+d/\w (.loop Kw) (I5 t i os) xZ4 (I5 t (C t.po) a)
 | 0,i,os,h,_,_=>by
  have e:i=(C t.po:Int):=by omega
  subst e;exact⟨os,rfl,f (W7 t _ os (AG (by omega)))⟩
 | d+1,i,os,h,h0,ho=>by
  obtain⟨r,h1⟩:=Amu (os:=os) b h0 (by omega) (by omega);obtain⟨a,h2,c⟩:=mJ b d (i:=i+1) (os:=os++[r]) (by omega) (by omega) (by rw[Ac];simp;omega);exact⟨a,by rw[h2,Ac];simp;omega,Ay h1 c⟩
theorem Amv{os:List Rw}(b:TOk t)(ho:C os<=400):∃ a,C a=C os+C t.po/\w (.seq Od (.block 4 (.loop Kw))) (HP t os) .norm (HP t a):=by
 have c:=b.l10;obtain⟨a,h1,h2⟩:=mJ b (C t.po) (i:=0) (os:=os) (by omega) (by omega) (by omega);exact⟨a,h1,T (Sj t os) (A7 [1,3] (m h2) (by kernel_rfl))⟩
theorem Adt{i:Int}{os:List Rw}{r:Rw}{s:V}(h:w Kx s .norm (QY t i (C os+1) (H cE os++cE r))):w Kx s .norm (I6 t i (os++[r])):=by
 have e:QY t i (C os+1) (H cE os++cE r)=I6 t i (os++[r]):=by
  rw[Et];show _=QY t i (C (os++[r])) (H cE (os++[r]));rw[Ac];rfl
 exact e ▸ h
theorem Amw{i:Int}{os:List Rw}(a:TOk t)(h0:0<=i)(hl:i<C t.fl)(ho:C os<=500):∃ r,w Kx (I6 t i os) .norm (I6 t (i+1) (os++[r])):=by
 have g:=a.l11;have d:i.toNat<C t.fl:=by omega
 have hr:=CH (c:=cF) (k:=15) (fun _=>rfl) d;generalize t.fl[i.toNat]=e at hr;have f:J D (i+1)=i+1:=Bb (by omega) (by omega);have c1:decide (i<(C t.fl:Int))=true:=AN hl;obtain⟨b,hb⟩:∃ b,w lZ (QZ t i os e) .norm (Cg (QZ t i os e) 15 (X (I b))):=IX Hc (l:=[⟨1,.box [.i .i64,.i .i64,.i .i64,.i .i64,.i .i64,.i .i64,.i .i64,.l,.l,.l,.l,.l,.l,.l,.l,.l,.l,.l],none⟩,⟨14,.box [.s,.i .i64,.i .i64,.i .i64,.i .i64,.b,.i .i64,.i .i64,.i .i64,.i .i64,.i .i64,.i .i64,.i .i64,.i .i64,.i .i64],none⟩]) 15 (by kernel_rfl) (by kernel_rfl) (by kernel_rfl) (by kernel_rfl);have h:=W8 t i os b e c1 ⟨by omega,by omega⟩ hr hb (by omega);rw[f] at h;exact⟨⟨_,_,_⟩,Adt h⟩
theorem mK(b:TOk t):∀ (d:Nat) {i:Int} {os:List Rw},i+(d:Int)=(C t.fl:Int)->0<=i->C os+d<=500 ->
  ∃ a,C a=C os+d/\w (.loop Kx) (I6 t i os) xZ6 (I6 t (C t.fl) a)
 | 0,i,os,h,_,_=>by
  have e:i=(C t.fl:Int):=by omega
  subst e;exact⟨os,rfl,f (W9 t _ os (AG (by omega)))⟩
 | d+1,i,os,h,h0,ho=>by
  obtain⟨r,h1⟩:=Amw (os:=os) b h0 (by omega) (by omega);obtain⟨a,h2,c⟩:=mK b d (i:=i+1) (os:=os++[r]) (by omega) (by omega) (by rw[Ac];simp;omega);exact⟨a,by rw[h2,Ac];simp;omega,Ay h1 c⟩
theorem Amx{os:List Rw}(b:TOk t)(ho:C os<=400):∃ a,C a=C os+C t.fl/\w (.seq Oe (.block 6 (.loop Kx))) (HP t os) .norm (HP t a):=by
 have c:=b.l11;obtain⟨a,h1,h2⟩:=mK b (C t.fl) (i:=0) (os:=os) (by omega) (by omega) (by omega);exact⟨a,h1,T (Sk t os) (A7 [1,3] (m h2) (by kernel_rfl))⟩
theorem Amy(a:TOk t):∃ os:List Rw,C os<=100/\RQ 220 [t.av] (P 3 (C os) (H cE os)):=by
 have la:=a.l12;have p:=a.l13;have q:=a.l14;have ld:=a.l15;have le:=a.l16;have r:=a.l17;obtain⟨d,h0,e0⟩:∃ b,C b=C t.zo/\w (.seq NV (.block 0 (.loop Jq))) (V' t) .norm (Fb t b):=by
  obtain⟨b,h1,h2⟩:=mB a (C t.zo) (i:=0) (os:=[]) (by omega) (by omega) (by simp;omega);exact⟨b,by simpa using h1,T (QQ t) (A7 [1,3] (m h2) (by kernel_rfl))⟩
 obtain⟨o1,h1,e⟩:=Ami (os:=d) a (by omega);obtain⟨f,h2,h⟩:=Amk (os:=o1) a (by omega);obtain⟨j,u,k⟩:=Amm (os:=f) a (by omega);obtain⟨l,v,n⟩:=Amo (os:=j) a (by omega);obtain⟨c,x,o⟩:=Amq (os:=l) a (by omega);refine⟨c,by omega,BR (fn:=iF g KM) (s:=yX (C c) (H cE c)) (ex := .ret) rfl rfl ?_ (by nofun) rfl⟩;rw[Ado];exact T (YG t) (T (YH t) (T e0 (T e (T h (T k (T n (T o (Wx t c))))))))
theorem Amz(os:List Rw):C (H cE os)=C os*3:=by
 induction os with
 | nil=>rfl
 | cons r os a=>show C (cE r++H cE os)=_;rw[Ac,a,BF];show 3+_=_;omega
theorem Ana(a:TOk t):∃ os:List Rw,C os<=200/\RQ 120 [t.av] (P 3 (C os) (H cE os)):=by
 have la:=a.l8;have n:=a.l9;have o:=a.l10;have ld:=a.l11;obtain⟨e,h0,e0⟩:∃ d,C d=C t.ws/\w (.seq Oa (.block 0 (.loop Kv))) (Wy t) .norm (HP t d):=by
  obtain⟨d,h1,h2⟩:=mH a (C t.ws) (i:=0) (os:=[]) (by omega) (by omega) (by simp;omega);exact⟨d,by simpa using h1,T (QU t) (A7 [1,3] (m h2) (by kernel_rfl))⟩
 obtain⟨o1,h1,f⟩:=Amt (os:=e) a (by omega);obtain⟨h,h2,j⟩:=Amv (os:=o1) a (by omega);obtain⟨c,p,k⟩:=Amx (os:=h) a (by omega);obtain⟨b,q,l⟩:=Amy a;refine⟨c++b,by rw[Ac];omega,?_⟩;rw[Ac,show H cE (c++b)=H cE c++H cE b from List.flatMap_append ..];refine BR (fn:=iF g Nv) (s:=yZ (C c+C b) (H cE c++H cE b)) (ex := .ret) rfl rfl ?_ (by nofun) rfl;rw[Adp];exact T (YI t) (T (YJ t) (T e0 (T f (T j (T k (WA t c b (Amz b) (by omega) l))))))
end
theorem h:AQ Cy []:=AQ.nil _
def HU(t:Tbl)(z:Bool):V:=W 1 (Q [A D t.r0,A D t.r1,A D t.r2,A D t.r3,A D t.r4,A D t.r5,A D t.r6,G (C t.tr) (H cI t.tr),G (C t.ws) (H cW t.ws),G (C t.ar) (H AH t.ar),G (C t.po) (H p t.po),G (C t.fl) (H cF t.fl),G (C t.zo) (H cZ t.zo),G (C t.sa) (H AU t.sa),G (C t.la) (H cL t.la),G (C t.ra) (H cR t.ra),G (C t.dr) (H cD t.dr),G (C t.ln) (H cK t.ln)]::X (I z)::W 127 [])
def Ky(z:Bool):V:=W 2 (X (I z)::W 127 [])
def mL:ICode := .region false [o1 1 (.box (.t 0) [16,27,32,55,66,71,94,105,110,125]),o1 2 (.mov (.c (.bool false)))]
theorem YK(t:Tbl)   : w mL (CX (iF g KL) [M [A D t.r0,A D t.r1,A D t.r2,A D t.r3,A D t.r4,A D t.r5,A D t.r6,G (C t.tr) (H cI t.tr),G (C t.ws) (H cW t.ws),G (C t.ar) (H AH t.ar),G (C t.po) (H p t.po),G (C t.fl) (H cF t.fl),G (C t.zo) (H cZ t.zo),G (C t.sa) (H AU t.sa),G (C t.la) (H cL t.la),G (C t.ra) (H cR t.ra),G (C t.dr) (H cD t.dr),G (C t.ln) (H cK t.ln)]]) .norm (HU t false):=B h [] [1,2] a0
section
variable(t:Tbl)(z:Bool)(i:Int)
def Gr:V:=W 1 (Q [A D t.r0,A D t.r1,A D t.r2,A D t.r3,A D t.r4,A D t.r5,A D t.r6,G (C t.tr) (H cI t.tr),G (C t.ws) (H cW t.ws),G (C t.ar) (H AH t.ar),G (C t.po) (H p t.po),G (C t.fl) (H cF t.fl),G (C t.zo) (H cZ t.zo),G (C t.sa) (H AU t.sa),G (C t.la) (H cL t.la),G (C t.ra) (H cR t.ra),G (C t.dr) (H cD t.dr),G (C t.ln) (H cK t.ln)]::X (I z)::vi i::W 126 [])
def Fc(j:Int):V:=W 1 (Q [A D t.r0,A D t.r1,A D t.r2,A D t.r3,A D t.r4,A D t.r5,A D t.r6,G (C t.tr) (H cI t.tr),G (C t.ws) (H cW t.ws),G (C t.ar) (H AH t.ar),G (C t.po) (H p t.po),G (C t.fl) (H cF t.fl),G (C t.zo) (H cZ t.zo),G (C t.sa) (H AU t.sa),G (C t.la) (H cL t.la),G (C t.ra) (H cR t.ra),G (C t.dr) (H cD t.dr),G (C t.ln) (H cK t.ln)]::X (I z)::vi i::vi j::W 125 [])
def Ly(j:Int)(e a:El):V:=W 1 (Q [A D t.r0,A D t.r1,A D t.r2,A D t.r3,A D t.r4,A D t.r5,A D t.r6,G (C t.tr) (H cI t.tr),G (C t.ws) (H cW t.ws),G (C t.ar) (H AH t.ar),G (C t.po) (H p t.po),G (C t.fl) (H cF t.fl),G (C t.zo) (H cZ t.zo),G (C t.sa) (H AU t.sa),G (C t.la) (H cL t.la),G (C t.ra) (H cR t.ra),G (C t.dr) (H cD t.dr),G (C t.ln) (H cK t.ln)]::X (I z)::vi i::vi j::Q [.str e.s,A D (e.n 0),A D (e.n 1),A D (e.n 2),A D (e.n 3),A D (e.n 4),A D (e.n 5),A D (e.n 6),A D (e.n 7),A D (e.n 8)]::Q [.str a.s,A D (a.n 0),A D (a.n 1),A D (a.n 2),A D (a.n 3),A D (a.n 4),A D (a.n 5),A D (a.n 6),A D (a.n 7),A D (a.n 8)]::W 123 [])
end
def WB:ICode := .region false [o1 3 (.mov (.c (.int .i64 0)))]
theorem PC(t:Tbl)(z:Bool)   : w WB (HU t z) .norm (Gr t z 0):=B h [] [1,2,3] a0
def WC:ICode := .region false [o1 37 (.adr 5 5 1),o1 38 (.ld 37 5 1 true),o1 39 (.adr 6 6 1),o1 40 (.ld 39 6 1 true),oB 41 .eql 38 40,oM 42 41,oG 43 (.adr 5 5 2) 42 true,oG 44 (.ld 43 5 2 false) 42 true,oG 45 (.adr 6 6 2) 42 true,oG 46 (.ld 45 6 2 false) 42 true,oG 47 (.adr 5 5 4) 42 true,oG 48 (.ld 47 5 1 true) 42 true,oG 49 (.adr 6 6 4) 42 true,oG 50 (.ld 49 6 1 true) 42 true,oG 51 (.bin .add (.t 48) (.t 50)) 42 true,oG 52 (.call 68 [.t 44,.t 46,.t 51]) 42 true,o1 53 (.pick (.t 42) (.t 52) (.c (.bool false)))]
def JS:ICode:=CG KL 88 3364
section
variable(t:Tbl)(z:Bool)(i j:Int)
theorem Sn(b:Bool)(e a:El)(c1:E (j<i)=true)(c2:b=true)(c:0<=i/\i<C t.sa)(f:0<=j/\j<C t.sa)(g:Ae (R (L i*10) (H AU t.sa)) 0 10 false=some (M [.str e.s,A D (e.n 0),A D (e.n 1),A D (e.n 2),A D (e.n 3),A D (e.n 4),A D (e.n 5),A D (e.n 6),A D (e.n 7),A D (e.n 8)]))(k:Ae (R (L j*10) (H AU t.sa)) 0 10 false=some (M [.str a.s,A D (a.n 0),A D (a.n 1),A D (a.n 2),A D (a.n 3),A D (a.n 4),A D (a.n 5),A D (a.n 6),A D (a.n 7),A D (a.n 8)]))(l:w WC (Ly t z i j e a) .norm (Cg (Ly t z i j e a) 53 (X (I b)))):w JS (Fc t z i j) .ret (Fc t true i j):=T (B (t:=W 1 (Q [A D t.r0,A D t.r1,A D t.r2,A D t.r3,A D t.r4,A D t.r5,A D t.r6,G (C t.tr) (H cI t.tr),G (C t.ws) (H cW t.ws),G (C t.ar) (H AH t.ar),G (C t.po) (H p t.po),G (C t.fl) (H cF t.fl),G (C t.zo) (H cZ t.zo),G (C t.sa) (H AU t.sa),G (C t.la) (H cL t.la),G (C t.ra) (H cR t.ra),G (C t.dr) (H cD t.dr),G (C t.ln) (H cK t.ln)]::X (I z)::vi i::vi j::W 125 [])) h [q] MB (Bp c1)) (d (n (T (B h [.v (M [.str e.s,A D (e.n 0),A D (e.n 1),A D (e.n 2),A D (e.n 3),A D (e.n 4),A D (e.n 5),A D (e.n 6),A D (e.n 7),A D (e.n 8)]),.v (M [.str a.s,A D (a.n 0),A D (a.n 1),A D (a.n 2),A D (a.n 3),A D (a.n 4),A D (a.n 5),A D (a.n 6),A D (a.n 7),A D (a.n 8)])] [1,2,3,4,5,6] (Jm c g f k)) (T l (B h [q] MB (Bp c2))))))
theorem So(b:Bool)(e a:El)(c1:E (j<i)=true)(c2:b=false)(c:0<=i/\i<C t.sa)(f:0<=j/\j<C t.sa)(g:Ae (R (L i*10) (H AU t.sa)) 0 10 false=some (M [.str e.s,A D (e.n 0),A D (e.n 1),A D (e.n 2),A D (e.n 3),A D (e.n 4),A D (e.n 5),A D (e.n 6),A D (e.n 7),A D (e.n 8)]))(k:Ae (R (L j*10) (H AU t.sa)) 0 10 false=some (M [.str a.s,A D (a.n 0),A D (a.n 1),A D (a.n 2),A D (a.n 3),A D (a.n 4),A D (a.n 5),A D (a.n 6),A D (a.n 7),A D (a.n 8)]))(l:w WC (Ly t z i j e a) .norm (Cg (Ly t z i j e a) 53 (X (I b)))):w JS (Fc t z i j) .norm (Fc t z i (J D (j+1))):=T (B (t:=W 1 (Q [A D t.r0,A D t.r1,A D t.r2,A D t.r3,A D t.r4,A D t.r5,A D t.r6,G (C t.tr) (H cI t.tr),G (C t.ws) (H cW t.ws),G (C t.ar) (H AH t.ar),G (C t.po) (H p t.po),G (C t.fl) (H cF t.fl),G (C t.zo) (H cZ t.zo),G (C t.sa) (H AU t.sa),G (C t.la) (H cL t.la),G (C t.ra) (H cR t.ra),G (C t.dr) (H cD t.dr),G (C t.ln) (H cK t.ln)]::X (I z)::vi i::vi j::W 125 [])) h [q] MB (Bp c1)) (T (Bc (T (B h [.v (M [.str e.s,A D (e.n 0),A D (e.n 1),A D (e.n 2),A D (e.n 3),A D (e.n 4),A D (e.n 5),A D (e.n 6),A D (e.n 7),A D (e.n 8)]),.v (M [.str a.s,A D (a.n 0),A D (a.n 1),A D (a.n 2),A D (a.n 3),A D (a.n 4),A D (a.n 5),A D (a.n 6),A D (a.n 7),A D (a.n 8)])] [1,2,3,4,5,6] (Jm c g f k)) (T l (B (t:=W 1 (Q [A D t.r0,A D t.r1,A D t.r2,A D t.r3,A D t.r4,A D t.r5,A D t.r6,G (C t.tr) (H cI t.tr),G (C t.ws) (H cW t.ws),G (C t.ar) (H AH t.ar),G (C t.po) (H p t.po),G (C t.fl) (H cF t.fl),G (C t.zo) (H cZ t.zo),G (C t.sa) (H AU t.sa),G (C t.la) (H cL t.la),G (C t.ra) (H cR t.ra),G (C t.dr) (H cD t.dr),G (C t.ln) (H cK t.ln)]::X (I z)::vi i::vi j::W 125 [])) h [Y] MB (Bp c2))))) (B h [] MB a0))
theorem Sq(c1:E (j<i)=false):w JS (Fc t z i j) xZ2 (Fc t z i j):=d (B h [Y] MB (Bp c1))
end
def JT:ICode:=CG KL 94 52
section
variable(t:Tbl)(z:Bool)(i:Int)
theorem Q_(v:Int)(c1:E (i<C t.sa)=true)(b:w (.loop JS) (Fc t z i 0) xZ2 (Fc t z i v)):w JT (Gr t z i) .norm (Gr t z (J D (i+1))):=T (B (t:=W 1 (Q [A D t.r0,A D t.r1,A D t.r2,A D t.r3,A D t.r4,A D t.r5,A D t.r6,G (C t.tr) (H cI t.tr),G (C t.ws) (H cW t.ws),G (C t.ar) (H AH t.ar),G (C t.po) (H p t.po),G (C t.fl) (H cF t.fl),G (C t.zo) (H cZ t.zo),G (C t.sa) (H AU t.sa),G (C t.la) (H cL t.la),G (C t.ra) (H cR t.ra),G (C t.dr) (H cD t.dr),G (C t.ln) (H cK t.ln)]::X (I z)::vi i::W 126 [])) h [q] [1,2,3] (Bp c1)) (T (Bc (T (B h [] MB a0) (m b))) (B h [] [1,2,3] a0))
theorem Ra(c1:E (i<C t.sa)=false):w JT (Gr t z i) xZ0 (Gr t z i):=d (B h [Y] [1,2,3] (Bp c1))
theorem Rb(c:Bool)(v:Int)(c1:E (i<C t.sa)=true)(b:w (.loop JS) (Fc t z i 0) .ret (Fc t c i v)):w JT (Gr t z i) .ret (Gr t c i):=T (B (t:=W 1 (Q [A D t.r0,A D t.r1,A D t.r2,A D t.r3,A D t.r4,A D t.r5,A D t.r6,G (C t.tr) (H cI t.tr),G (C t.ws) (H cW t.ws),G (C t.ar) (H AH t.ar),G (C t.po) (H p t.po),G (C t.fl) (H cF t.fl),G (C t.zo) (H cZ t.zo),G (C t.sa) (H AU t.sa),G (C t.la) (H cL t.la),G (C t.ra) (H cR t.ra),G (C t.dr) (H cD t.dr),G (C t.ln) (H cK t.ln)]::X (I z)::vi i::W 126 [])) h [q] [1,2,3] (Bp c1)) (d (n (T (B h [] MB a0) (n (B6.keep (t':=W 1 (Q [A D t.r0,A D t.r1,A D t.r2,A D t.r3,A D t.r4,A D t.r5,A D t.r6,G (C t.tr) (H cI t.tr),G (C t.ws) (H cW t.ws),G (C t.ar) (H AH t.ar),G (C t.po) (H p t.po),G (C t.fl) (H cF t.fl),G (C t.zo) (H cZ t.zo),G (C t.sa) (H AU t.sa),G (C t.la) (H cL t.la),G (C t.ra) (H cR t.ra),G (C t.dr) (H cD t.dr),G (C t.ln) (H cK t.ln)]::X (I c)::vi i::W 126 [])) [1,2,3] b (by kernel_rfl))))))
def Gs:V:=W 1 (Q [A D t.r0,A D t.r1,A D t.r2,A D t.r3,A D t.r4,A D t.r5,A D t.r6,G (C t.tr) (H cI t.tr),G (C t.ws) (H cW t.ws),G (C t.ar) (H AH t.ar),G (C t.po) (H p t.po),G (C t.fl) (H cF t.fl),G (C t.zo) (H cZ t.zo),G (C t.sa) (H AU t.sa),G (C t.la) (H cL t.la),G (C t.ra) (H cR t.ra),G (C t.dr) (H cD t.dr),G (C t.ln) (H cK t.ln)]::X (I z)::W 4 (vi i::W 122 []))
def Fe(j:Int):V:=W 1 (Q [A D t.r0,A D t.r1,A D t.r2,A D t.r3,A D t.r4,A D t.r5,A D t.r6,G (C t.tr) (H cI t.tr),G (C t.ws) (H cW t.ws),G (C t.ar) (H AH t.ar),G (C t.po) (H p t.po),G (C t.fl) (H cF t.fl),G (C t.zo) (H cZ t.zo),G (C t.sa) (H AU t.sa),G (C t.la) (H cL t.la),G (C t.ra) (H cR t.ra),G (C t.dr) (H cD t.dr),G (C t.ln) (H cK t.ln)]::X (I z)::W 4 (vi i::vi j::W 121 []))
def Lz(j:Int)(e a:El):V:=W 1 (Q [A D t.r0,A D t.r1,A D t.r2,A D t.r3,A D t.r4,A D t.r5,A D t.r6,G (C t.tr) (H cI t.tr),G (C t.ws) (H cW t.ws),G (C t.ar) (H AH t.ar),G (C t.po) (H p t.po),G (C t.fl) (H cF t.fl),G (C t.zo) (H cZ t.zo),G (C t.sa) (H AU t.sa),G (C t.la) (H cL t.la),G (C t.ra) (H cR t.ra),G (C t.dr) (H cD t.dr),G (C t.ln) (H cK t.ln)]::X (I z)::W 4 (vi i::vi j::Q [.str e.s,A D (e.n 0),A D (e.n 1),A D (e.n 2),A D (e.n 3),A D (e.n 4),A D (e.n 5),A D (e.n 6)]::Q [.str a.s,A D (a.n 0),A D (a.n 1),A D (a.n 2),A D (a.n 3),A D (a.n 4),A D (a.n 5),A D (a.n 6)]::W 119 []))
end
def WD:ICode := .region false [o1 7 (.mov (.c (.int .i64 0)))]
theorem PD(t:Tbl)(z:Bool)   : w WD (HU t z) .norm (Gs t z 0):=B h [] [1,2,7] a0
def WE:ICode := .region false [o1 76 (.adr 9 9 1),o1 77 (.ld 76 9 1 true),o1 78 (.adr 10 10 1),o1 79 (.ld 78 10 1 true),oB 80 .eql 77 79,oM 81 80,oG 82 (.adr 9 9 3) 81 true,oG 83 (.ld 82 9 2 false) 81 true,oG 84 (.adr 10 10 3) 81 true,oG 85 (.ld 84 10 2 false) 81 true,oG 86 (.adr 9 9 5) 81 true,oG 87 (.ld 86 9 1 true) 81 true,oG 88 (.adr 10 10 5) 81 true,oG 89 (.ld 88 10 1 true) 81 true,oG 90 (.bin .add (.t 87) (.t 89)) 81 true,oG 91 (.call 68 [.t 83,.t 85,.t 90]) 81 true,o1 92 (.pick (.t 81) (.t 91) (.c (.bool false)))]
def JU:ICode:=CG KL 87 7460
section
variable(t:Tbl)(z:Bool)(i j:Int)
theorem Sr(b:Bool)(e a:El)(c1:E (j<i)=true)(c2:b=true)(c:0<=i/\i<C t.ra)(f:0<=j/\j<C t.ra)(g:Ae (R (L i*8) (H cR t.ra)) 0 8 false=some (M [.str e.s,A D (e.n 0),A D (e.n 1),A D (e.n 2),A D (e.n 3),A D (e.n 4),A D (e.n 5),A D (e.n 6)]))(k:Ae (R (L j*8) (H cR t.ra)) 0 8 false=some (M [.str a.s,A D (a.n 0),A D (a.n 1),A D (a.n 2),A D (a.n 3),A D (a.n 4),A D (a.n 5),A D (a.n 6)]))(l:w WE (Lz t z i j e a) .norm (Cg (Lz t z i j e a) 92 (X (I b)))):w JU (Fe t z i j) .ret (Fe t true i j):=T (B (t:=W 1 (Q [A D t.r0,A D t.r1,A D t.r2,A D t.r3,A D t.r4,A D t.r5,A D t.r6,G (C t.tr) (H cI t.tr),G (C t.ws) (H cW t.ws),G (C t.ar) (H AH t.ar),G (C t.po) (H p t.po),G (C t.fl) (H cF t.fl),G (C t.zo) (H cZ t.zo),G (C t.sa) (H AU t.sa),G (C t.la) (H cL t.la),G (C t.ra) (H cR t.ra),G (C t.dr) (H cD t.dr),G (C t.ln) (H cK t.ln)]::X (I z)::W 4 (vi i::vi j::W 121 []))) h [q] Tl (Bp c1)) (d (n (T (B h [.v (M [.str e.s,A D (e.n 0),A D (e.n 1),A D (e.n 2),A D (e.n 3),A D (e.n 4),A D (e.n 5),A D (e.n 6)]),.v (M [.str a.s,A D (a.n 0),A D (a.n 1),A D (a.n 2),A D (a.n 3),A D (a.n 4),A D (a.n 5),A D (a.n 6)])] [1,2,7,8,9,10] (Jm c g f k)) (T l (B h [q] Tl (Bp c2))))))
theorem Ss(b:Bool)(e a:El)(c1:E (j<i)=true)(c2:b=false)(c:0<=i/\i<C t.ra)(f:0<=j/\j<C t.ra)(g:Ae (R (L i*8) (H cR t.ra)) 0 8 false=some (M [.str e.s,A D (e.n 0),A D (e.n 1),A D (e.n 2),A D (e.n 3),A D (e.n 4),A D (e.n 5),A D (e.n 6)]))(k:Ae (R (L j*8) (H cR t.ra)) 0 8 false=some (M [.str a.s,A D (a.n 0),A D (a.n 1),A D (a.n 2),A D (a.n 3),A D (a.n 4),A D (a.n 5),A D (a.n 6)]))(l:w WE (Lz t z i j e a) .norm (Cg (Lz t z i j e a) 92 (X (I b)))):w JU (Fe t z i j) .norm (Fe t z i (J D (j+1))):=T (B (t:=W 1 (Q [A D t.r0,A D t.r1,A D t.r2,A D t.r3,A D t.r4,A D t.r5,A D t.r6,G (C t.tr) (H cI t.tr),G (C t.ws) (H cW t.ws),G (C t.ar) (H AH t.ar),G (C t.po) (H p t.po),G (C t.fl) (H cF t.fl),G (C t.zo) (H cZ t.zo),G (C t.sa) (H AU t.sa),G (C t.la) (H cL t.la),G (C t.ra) (H cR t.ra),G (C t.dr) (H cD t.dr),G (C t.ln) (H cK t.ln)]::X (I z)::W 4 (vi i::vi j::W 121 []))) h [q] Tl (Bp c1)) (T (Bc (T (B h [.v (M [.str e.s,A D (e.n 0),A D (e.n 1),A D (e.n 2),A D (e.n 3),A D (e.n 4),A D (e.n 5),A D (e.n 6)]),.v (M [.str a.s,A D (a.n 0),A D (a.n 1),A D (a.n 2),A D (a.n 3),A D (a.n 4),A D (a.n 5),A D (a.n 6)])] [1,2,7,8,9,10] (Jm c g f k)) (T l (B (t:=W 1 (Q [A D t.r0,A D t.r1,A D t.r2,A D t.r3,A D t.r4,A D t.r5,A D t.r6,G (C t.tr) (H cI t.tr),G (C t.ws) (H cW t.ws),G (C t.ar) (H AH t.ar),G (C t.po) (H p t.po),G (C t.fl) (H cF t.fl),G (C t.zo) (H cZ t.zo),G (C t.sa) (H AU t.sa),G (C t.la) (H cL t.la),G (C t.ra) (H cR t.ra),G (C t.dr) (H cD t.dr),G (C t.ln) (H cK t.ln)]::X (I z)::W 4 (vi i::vi j::W 121 []))) h [Y] Tl (Bp c2))))) (B h [] Tl a0))
theorem Su(c1:E (j<i)=false):w JU (Fe t z i j) xZ6 (Fe t z i j):=d (B h [Y] Tl (Bp c1))
end
def JV:ICode:=CG KL 93 116
section
variable(t:Tbl)(z:Bool)(i:Int)
theorem Rc(v:Int)(c1:E (i<C t.ra)=true)(b:w (.loop JU) (Fe t z i 0) xZ6 (Fe t z i v)):w JV (Gs t z i) .norm (Gs t z (J D (i+1))):=T (B (t:=W 1 (Q [A D t.r0,A D t.r1,A D t.r2,A D t.r3,A D t.r4,A D t.r5,A D t.r6,G (C t.tr) (H cI t.tr),G (C t.ws) (H cW t.ws),G (C t.ar) (H AH t.ar),G (C t.po) (H p t.po),G (C t.fl) (H cF t.fl),G (C t.zo) (H cZ t.zo),G (C t.sa) (H AU t.sa),G (C t.la) (H cL t.la),G (C t.ra) (H cR t.ra),G (C t.dr) (H cD t.dr),G (C t.ln) (H cK t.ln)]::X (I z)::W 4 (vi i::W 122 []))) h [q] [1,2,7] (Bp c1)) (T (Bc (T (B h [] Tl a0) (m b))) (B h [] [1,2,7] a0))
theorem Re(c1:E (i<C t.ra)=false):w JV (Gs t z i) xZ4 (Gs t z i):=d (B h [Y] [1,2,7] (Bp c1))
theorem Rf(c:Bool)(v:Int)(c1:E (i<C t.ra)=true)(b:w (.loop JU) (Fe t z i 0) .ret (Fe t c i v)):w JV (Gs t z i) .ret (Gs t c i):=T (B (t:=W 1 (Q [A D t.r0,A D t.r1,A D t.r2,A D t.r3,A D t.r4,A D t.r5,A D t.r6,G (C t.tr) (H cI t.tr),G (C t.ws) (H cW t.ws),G (C t.ar) (H AH t.ar),G (C t.po) (H p t.po),G (C t.fl) (H cF t.fl),G (C t.zo) (H cZ t.zo),G (C t.sa) (H AU t.sa),G (C t.la) (H cL t.la),G (C t.ra) (H cR t.ra),G (C t.dr) (H cD t.dr),G (C t.ln) (H cK t.ln)]::X (I z)::W 4 (vi i::W 122 []))) h [q] [1,2,7] (Bp c1)) (d (n (T (B h [] Tl a0) (n (B6.keep (t':=W 1 (Q [A D t.r0,A D t.r1,A D t.r2,A D t.r3,A D t.r4,A D t.r5,A D t.r6,G (C t.tr) (H cI t.tr),G (C t.ws) (H cW t.ws),G (C t.ar) (H AH t.ar),G (C t.po) (H p t.po),G (C t.fl) (H cF t.fl),G (C t.zo) (H cZ t.zo),G (C t.sa) (H AU t.sa),G (C t.la) (H cL t.la),G (C t.ra) (H cR t.ra),G (C t.dr) (H cD t.dr),G (C t.ln) (H cK t.ln)]::X (I c)::W 4 (vi i::W 122 []))) [1,2,7] b (by kernel_rfl))))))
def Gt:V:=W 1 (Q [A D t.r0,A D t.r1,A D t.r2,A D t.r3,A D t.r4,A D t.r5,A D t.r6,G (C t.tr) (H cI t.tr),G (C t.ws) (H cW t.ws),G (C t.ar) (H AH t.ar),G (C t.po) (H p t.po),G (C t.fl) (H cF t.fl),G (C t.zo) (H cZ t.zo),G (C t.sa) (H AU t.sa),G (C t.la) (H cL t.la),G (C t.ra) (H cR t.ra),G (C t.dr) (H cD t.dr),G (C t.ln) (H cK t.ln)]::X (I z)::W 8 (vi i::W 118 []))
def Ff(j:Int):V:=W 1 (Q [A D t.r0,A D t.r1,A D t.r2,A D t.r3,A D t.r4,A D t.r5,A D t.r6,G (C t.tr) (H cI t.tr),G (C t.ws) (H cW t.ws),G (C t.ar) (H AH t.ar),G (C t.po) (H p t.po),G (C t.fl) (H cF t.fl),G (C t.zo) (H cZ t.zo),G (C t.sa) (H AU t.sa),G (C t.la) (H cL t.la),G (C t.ra) (H cR t.ra),G (C t.dr) (H cD t.dr),G (C t.ln) (H cK t.ln)]::X (I z)::W 8 (vi i::vi j::W 117 []))
def L0(j:Int)(e a:El):V:=W 1 (Q [A D t.r0,A D t.r1,A D t.r2,A D t.r3,A D t.r4,A D t.r5,A D t.r6,G (C t.tr) (H cI t.tr),G (C t.ws) (H cW t.ws),G (C t.ar) (H AH t.ar),G (C t.po) (H p t.po),G (C t.fl) (H cF t.fl),G (C t.zo) (H cZ t.zo),G (C t.sa) (H AU t.sa),G (C t.la) (H cL t.la),G (C t.ra) (H cR t.ra),G (C t.dr) (H cD t.dr),G (C t.ln) (H cK t.ln)]::X (I z)::W 8 (vi i::vi j::Q [.str e.s,A D (e.n 0),A D (e.n 1),A D (e.n 2),A D (e.n 3),A D (e.n 4),A D (e.n 5)]::Q [.str a.s,A D (a.n 0),A D (a.n 1),A D (a.n 2),A D (a.n 3),A D (a.n 4),A D (a.n 5)]::W 115 []))
end
def WF:ICode := .region false [o1 11 (.mov (.c (.int .i64 0)))]
theorem PE(t:Tbl)(z:Bool)   : w WF (HU t z) .norm (Gt t z 0):=B h [] [1,2,11] a0
def WG:ICode := .region false [o1 115 (.adr 13 13 1),o1 116 (.ld 115 13 1 true),o1 117 (.adr 14 14 1),o1 118 (.ld 117 14 1 true),oB 119 .eql 116 118,oM 120 119,oG 121 (.adr 13 13 2) 120 true,oG 122 (.ld 121 13 2 false) 120 true,oG 123 (.adr 14 14 2) 120 true,oG 124 (.ld 123 14 2 false) 120 true,oG 125 (.adr 1 1 0) 120 true,oG 126 (.ld 125 1 1 true) 120 true,oG 127 (.bin .mul (.c (.int .i64 2)) (.t 126)) 120 true,oG 128 (.call 68 [.t 122,.t 124,.t 127]) 120 true,o1 129 (.pick (.t 120) (.t 128) (.c (.bool false)))]
def JW:ICode:=CG KL 86 15652
section
variable(t:Tbl)(z:Bool)(i j:Int)
theorem Sv(b:Bool)(e a:El)(c1:E (j<i)=true)(c2:b=true)(c:0<=i/\i<C t.ln)(f:0<=j/\j<C t.ln)(g:Ae (R (L i*7) (H cK t.ln)) 0 7 false=some (M [.str e.s,A D (e.n 0),A D (e.n 1),A D (e.n 2),A D (e.n 3),A D (e.n 4),A D (e.n 5)]))(k:Ae (R (L j*7) (H cK t.ln)) 0 7 false=some (M [.str a.s,A D (a.n 0),A D (a.n 1),A D (a.n 2),A D (a.n 3),A D (a.n 4),A D (a.n 5)]))(l:w WG (L0 t z i j e a) .norm (Cg (L0 t z i j e a) 129 (X (I b)))):w JW (Ff t z i j) .ret (Ff t true i j):=T (B (t:=W 1 (Q [A D t.r0,A D t.r1,A D t.r2,A D t.r3,A D t.r4,A D t.r5,A D t.r6,G (C t.tr) (H cI t.tr),G (C t.ws) (H cW t.ws),G (C t.ar) (H AH t.ar),G (C t.po) (H p t.po),G (C t.fl) (H cF t.fl),G (C t.zo) (H cZ t.zo),G (C t.sa) (H AU t.sa),G (C t.la) (H cL t.la),G (C t.ra) (H cR t.ra),G (C t.dr) (H cD t.dr),G (C t.ln) (H cK t.ln)]::X (I z)::W 8 (vi i::vi j::W 117 []))) h [q] Tk (Bp c1)) (d (n (T (B h [.v (M [.str e.s,A D (e.n 0),A D (e.n 1),A D (e.n 2),A D (e.n 3),A D (e.n 4),A D (e.n 5)]),.v (M [.str a.s,A D (a.n 0),A D (a.n 1),A D (a.n 2),A D (a.n 3),A D (a.n 4),A D (a.n 5)])] [1,2,11,12,13,14] (Jm c g f k)) (T l (B h [q] Tk (Bp c2))))))
theorem Sw(b:Bool)(e a:El)(c1:E (j<i)=true)(c2:b=false)(c:0<=i/\i<C t.ln)(f:0<=j/\j<C t.ln)(g:Ae (R (L i*7) (H cK t.ln)) 0 7 false=some (M [.str e.s,A D (e.n 0),A D (e.n 1),A D (e.n 2),A D (e.n 3),A D (e.n 4),A D (e.n 5)]))(k:Ae (R (L j*7) (H cK t.ln)) 0 7 false=some (M [.str a.s,A D (a.n 0),A D (a.n 1),A D (a.n 2),A D (a.n 3),A D (a.n 4),A D (a.n 5)]))(l:w WG (L0 t z i j e a) .norm (Cg (L0 t z i j e a) 129 (X (I b)))):w JW (Ff t z i j) .norm (Ff t z i (J D (j+1))):=T (B (t:=W 1 (Q [A D t.r0,A D t.r1,A D t.r2,A D t.r3,A D t.r4,A D t.r5,A D t.r6,G (C t.tr) (H cI t.tr),G (C t.ws) (H cW t.ws),G (C t.ar) (H AH t.ar),G (C t.po) (H p t.po),G (C t.fl) (H cF t.fl),G (C t.zo) (H cZ t.zo),G (C t.sa) (H AU t.sa),G (C t.la) (H cL t.la),G (C t.ra) (H cR t.ra),G (C t.dr) (H cD t.dr),G (C t.ln) (H cK t.ln)]::X (I z)::W 8 (vi i::vi j::W 117 []))) h [q] Tk (Bp c1)) (T (Bc (T (B h [.v (M [.str e.s,A D (e.n 0),A D (e.n 1),A D (e.n 2),A D (e.n 3),A D (e.n 4),A D (e.n 5)]),.v (M [.str a.s,A D (a.n 0),A D (a.n 1),A D (a.n 2),A D (a.n 3),A D (a.n 4),A D (a.n 5)])] [1,2,11,12,13,14] (Jm c g f k)) (T l (B (t:=W 1 (Q [A D t.r0,A D t.r1,A D t.r2,A D t.r3,A D t.r4,A D t.r5,A D t.r6,G (C t.tr) (H cI t.tr),G (C t.ws) (H cW t.ws),G (C t.ar) (H AH t.ar),G (C t.po) (H p t.po),G (C t.fl) (H cF t.fl),G (C t.zo) (H cZ t.zo),G (C t.sa) (H AU t.sa),G (C t.la) (H cL t.la),G (C t.ra) (H cR t.ra),G (C t.dr) (H cD t.dr),G (C t.ln) (H cK t.ln)]::X (I z)::W 8 (vi i::vi j::W 117 []))) h [Y] Tk (Bp c2))))) (B h [] Tk a0))
theorem Sx(c1:E (j<i)=false):w JW (Ff t z i j) (.exit 10) (Ff t z i j):=d (B h [Y] Tk (Bp c1))
end
def JX:ICode:=CG KL 92 244
section
variable(t:Tbl)(z:Bool)(i:Int)
theorem Rg(v:Int)(c1:E (i<C t.ln)=true)(a:w (.loop JW) (Ff t z i 0) (.exit 10) (Ff t z i v)):w JX (Gt t z i) .norm (Gt t z (J D (i+1))):=T (B (t:=W 1 (Q [A D t.r0,A D t.r1,A D t.r2,A D t.r3,A D t.r4,A D t.r5,A D t.r6,G (C t.tr) (H cI t.tr),G (C t.ws) (H cW t.ws),G (C t.ar) (H AH t.ar),G (C t.po) (H p t.po),G (C t.fl) (H cF t.fl),G (C t.zo) (H cZ t.zo),G (C t.sa) (H AU t.sa),G (C t.la) (H cL t.la),G (C t.ra) (H cR t.ra),G (C t.dr) (H cD t.dr),G (C t.ln) (H cK t.ln)]::X (I z)::W 8 (vi i::W 118 []))) h [q] [1,2,11] (Bp c1)) (T (Bc (T (B h [] Tk a0) (m a))) (B h [] [1,2,11] a0))
theorem Rh(c1:E (i<C t.ln)=false):w JX (Gt t z i) xZ8 (Gt t z i):=d (B h [Y] [1,2,11] (Bp c1))
theorem Ri(b:Bool)(v:Int)(c1:E (i<C t.ln)=true)(a:w (.loop JW) (Ff t z i 0) .ret (Ff t b i v)):w JX (Gt t z i) .ret (Gt t b i):=T (B (t:=W 1 (Q [A D t.r0,A D t.r1,A D t.r2,A D t.r3,A D t.r4,A D t.r5,A D t.r6,G (C t.tr) (H cI t.tr),G (C t.ws) (H cW t.ws),G (C t.ar) (H AH t.ar),G (C t.po) (H p t.po),G (C t.fl) (H cF t.fl),G (C t.zo) (H cZ t.zo),G (C t.sa) (H AU t.sa),G (C t.la) (H cL t.la),G (C t.ra) (H cR t.ra),G (C t.dr) (H cD t.dr),G (C t.ln) (H cK t.ln)]::X (I z)::W 8 (vi i::W 118 []))) h [q] [1,2,11] (Bp c1)) (d (n (T (B h [] Tk a0) (n (B6.keep (t':=W 1 (Q [A D t.r0,A D t.r1,A D t.r2,A D t.r3,A D t.r4,A D t.r5,A D t.r6,G (C t.tr) (H cI t.tr),G (C t.ws) (H cW t.ws),G (C t.ar) (H AH t.ar),G (C t.po) (H p t.po),G (C t.fl) (H cF t.fl),G (C t.zo) (H cZ t.zo),G (C t.sa) (H AU t.sa),G (C t.la) (H cL t.la),G (C t.ra) (H cR t.ra),G (C t.dr) (H cD t.dr),G (C t.ln) (H cK t.ln)]::X (I b)::W 8 (vi i::W 118 []))) [1,2,11] a (by kernel_rfl))))))
end
def ZJ:ICode := .seq (.region false [o1 2 (.mov (.c (.bool false)))]) (.ret)
theorem WH(t:Tbl)(z:Bool)   : w ZJ (HU t z) .ret (Ky false):=B h [] [2] a0
theorem Adu:(iF g KL).body = .seq mL (.seq (.seq WB (.block 0 (.loop JT))) (.seq (.seq WD (.block 4 (.loop JV))) (.seq (.seq WF (.block 8 (.loop JX))) ZJ))):=by kernel_rfl
def Gu(t:Tbl)(r:Int):V:=W 1 (Q [A D t.r0,A D t.r1,A D t.r2,A D t.r3,A D t.r4,A D t.r5,A D t.r6,G (C t.tr) (H cI t.tr),G (C t.ws) (H cW t.ws),G (C t.ar) (H AH t.ar),G (C t.po) (H p t.po),G (C t.fl) (H cF t.fl),G (C t.zo) (H cZ t.zo),G (C t.sa) (H AU t.sa),G (C t.la) (H cL t.la),G (C t.ra) (H cR t.ra),G (C t.dr) (H cD t.dr),G (C t.ln) (H cK t.ln)]::vi r::W 163 [])
def Sy(r:Int):V:=W 2 (vi r::W 163 [])
def zA:ICode := .region false [o1 1 (.box (.t 0) [8,13,19,25,31,37,43,49,55,61,67,73,76,80,84,89,94,99,104,112]),o1 2 (.mov (.c (.int .i64 0)))]
theorem mM(t:Tbl)   : w zA (CX (iF g MA) [M [A D t.r0,A D t.r1,A D t.r2,A D t.r3,A D t.r4,A D t.r5,A D t.r6,G (C t.tr) (H cI t.tr),G (C t.ws) (H cW t.ws),G (C t.ar) (H AH t.ar),G (C t.po) (H p t.po),G (C t.fl) (H cF t.fl),G (C t.zo) (H cZ t.zo),G (C t.sa) (H AU t.sa),G (C t.la) (H cL t.la),G (C t.ra) (H cR t.ra),G (C t.dr) (H cD t.dr),G (C t.ln) (H cK t.ln)]]) .norm (Gu t 0):=B h [] [1,2] a0
def Uj:ICode := .region false [o1 8 (.adr 1 1 8),o1 9 (.ld 8 1 1 true),o1 10 (.len (.t 9)),o1 11 (.bin .gtr (.t 10) (.c (.int .i64 64))),oM 12 11,oG 13 (.adr 1 1 9) 12 false,oG 14 (.ld 13 1 1 true) 12 false,oG 15 (.len (.t 14)) 12 false,oG 16 (.bin .gtr (.t 15) (.c (.int .i64 32))) 12 false,o1 17 (.pick (.t 12) (.c (.bool true)) (.t 16)),oM 18 17,oG 19 (.adr 1 1 10) 18 false,oG 20 (.ld 19 1 1 true) 18 false,oG 21 (.len (.t 20)) 18 false,oG 22 (.bin .gtr (.t 21) (.c (.int .i64 32))) 18 false,o1 23 (.pick (.t 18) (.c (.bool true)) (.t 22)),oM 24 23,oG 25 (.adr 1 1 11) 24 false,oG 26 (.ld 25 1 1 true) 24 false,oG 27 (.len (.t 26)) 24 false,oG 28 (.bin .gtr (.t 27) (.c (.int .i64 4))) 24 false,o1 29 (.pick (.t 24) (.c (.bool true)) (.t 28)),oM 30 29,oG 31 (.adr 1 1 12) 30 false,oG 32 (.ld 31 1 1 true) 30 false,oG 33 (.len (.t 32)) 30 false,oG 34 (.bin .gtr (.t 33) (.c (.int .i64 16))) 30 false,o1 35 (.pick (.t 30) (.c (.bool true)) (.t 34)),oM 36 35,oG 37 (.adr 1 1 13) 36 false,oG 38 (.ld 37 1 1 true) 36 false,oG 39 (.len (.t 38)) 36 false,oG 40 (.bin .gtr (.t 39) (.c (.int .i64 8))) 36 false,o1 41 (.pick (.t 36) (.c (.bool true)) (.t 40)),oM 42 41,oG 43 (.adr 1 1 14) 42 false,oG 44 (.ld 43 1 1 true) 42 false,oG 45 (.len (.t 44)) 42 false,oG 46 (.bin .gtr (.t 45) (.c (.int .i64 24))) 42 false,o1 47 (.pick (.t 42) (.c (.bool true)) (.t 46)),oM 48 47,oG 49 (.adr 1 1 15) 48 false,oG 50 (.ld 49 1 1 true) 48 false,oG 51 (.len (.t 50)) 48 false,oG 52 (.bin .gtr (.t 51) (.c (.int .i64 8))) 48 false,o1 53 (.pick (.t 48) (.c (.bool true)) (.t 52)),oM 54 53,oG 55 (.adr 1 1 16) 54 false,oG 56 (.ld 55 1 1 true) 54 false,oG 57 (.len (.t 56)) 54 false,oG 58 (.bin .gtr (.t 57) (.c (.int .i64 4))) 54 false,o1 59 (.pick (.t 54) (.c (.bool true)) (.t 58)),oM 60 59,oG 61 (.adr 1 1 17) 60 false,oG 62 (.ld 61 1 1 true) 60 false,oG 63 (.len (.t 62)) 60 false,oG 64 (.bin .gtr (.t 63) (.c (.int .i64 4))) 60 false,o1 65 (.pick (.t 60) (.c (.bool true)) (.t 64)),oM 66 65,oG 67 (.adr 1 1 1) 66 false,oG 68 (.ld 67 1 1 true) 66 false,oG 69 (.call 118 [.t 68,.c (.int .i64 0),.c (.int .i64 6)]) 66 false,oG 70 (.un .not (.t 69)) 66 false,o1 71 (.pick (.t 66) (.c (.bool true)) (.t 70)),oM 72 71,oG 73 (.adr 1 1 7) 72 false,oG 74 (.ld 73 1 1 true) 72 false,oG 75 (.len (.t 74)) 72 false,oG 76 (.adr 1 1 1) 72 false,oG 77 (.ld 76 1 1 true) 72 false,oG 78 (.bin .gtr (.t 75) (.t 77)) 72 false,o1 79 (.pick (.t 72) (.c (.bool true)) (.t 78))]
def dI:ICode := .region false [o1 80 (.adr 1 1 0),o1 81 (.ld 80 1 1 true),o1 82 (.call 118 [.t 81,.c (.int .i64 64),.c (.int .i64 32768)]),oM 83 82,oG 84 (.adr 1 1 2) 83 true,oG 85 (.ld 84 1 1 true) 83 true,oG 86 (.call 118 [.t 85,.c (.int .i64 0),.c (.int .i64 15)]) 83 true,o1 87 (.pick (.t 83) (.t 86) (.c (.bool false))),oM 88 87,oG 89 (.adr 1 1 3) 88 true,oG 90 (.ld 89 1 2 false) 88 true,oG 91 (.call 119 [.t 90,.c (.int .i64 256)]) 88 true,o1 92 (.pick (.t 88) (.t 91) (.c (.bool false))),oM 93 92,oG 94 (.adr 1 1 5) 93 true,oG 95 (.ld 94 1 1 true) 93 true,oG 96 (.call 118 [.t 95,.c (.int .i64 0),.c (.int .i64 1000)]) 93 true,o1 97 (.pick (.t 93) (.t 96) (.c (.bool false))),oM 98 97,oG 99 (.adr 1 1 6) 98 true,oG 100 (.ld 99 1 1 true) 98 true,oG 101 (.call 118 [.t 100,.c (.int .i64 0),.c (.int .i64 14)]) 98 true,o1 102 (.pick (.t 98) (.t 101) (.c (.bool false))),oM 3 102]
def Azp(t:Tbl)(r:Int)(z:Bool):V:=W 1 (Q [A D t.r0,A D t.r1,A D t.r2,A D t.r3,A D t.r4,A D t.r5,A D t.r6,G (C t.tr) (H cI t.tr),G (C t.ws) (H cW t.ws),G (C t.ar) (H AH t.ar),G (C t.po) (H p t.po),G (C t.fl) (H cF t.fl),G (C t.zo) (H cZ t.zo),G (C t.sa) (H AU t.sa),G (C t.la) (H cL t.la),G (C t.ra) (H cR t.ra),G (C t.dr) (H cD t.dr),G (C t.ln) (H cK t.ln)]::vi r::W 76 (X (I z)::W 86 []))
def Sz(t:Tbl)(r:Int)(z:Bool):V:=W 1 (Q [A D t.r0,A D t.r1,A D t.r2,A D t.r3,A D t.r4,A D t.r5,A D t.r6,G (C t.tr) (H cI t.tr),G (C t.ws) (H cW t.ws),G (C t.ar) (H AH t.ar),G (C t.po) (H p t.po),G (C t.fl) (H cF t.fl),G (C t.zo) (H cZ t.zo),G (C t.sa) (H AU t.sa),G (C t.la) (H cL t.la),G (C t.ra) (H cR t.ra),G (C t.dr) (H cD t.dr),G (C t.ln) (H cK t.ln)]::vi r::X (I z)::W 162 [])
def dJ:ICode:=CG MA 95 26
theorem mN(t:Tbl)(r:Int)   : w dJ (Gu t r) .ret (Sy 9):=B h [] [2] a0
def Ml(t:Tbl)(r:Int)(z:Bool)(i:Int):V:=W 1 (Q [A D t.r0,A D t.r1,A D t.r2,A D t.r3,A D t.r4,A D t.r5,A D t.r6,G (C t.tr) (H cI t.tr),G (C t.ws) (H cW t.ws),G (C t.ar) (H AH t.ar),G (C t.po) (H p t.po),G (C t.fl) (H cF t.fl),G (C t.zo) (H cZ t.zo),G (C t.sa) (H AU t.sa),G (C t.la) (H cL t.la),G (C t.ra) (H cR t.ra),G (C t.dr) (H cD t.dr),G (C t.ln) (H cK t.ln)]::vi r::X (I z)::vi i::W 161 [])
def dK:ICode := .region false [o1 4 (.mov (.c (.int .i64 0)))]
theorem mO(t:Tbl)(r:Int)(z:Bool)   : w dK (Sz t r z) .norm (Ml t r z 0):=B h [] MB a0
def S0:ICode:=CG MA 92 244
section
variable(t:Tbl)(r:Int)(z:Bool)
theorem dL(i x:Int)(c1:E (i<C t.tr)=true)(c2:z=true)(a:0<=i/\i<C t.tr)(b:Ae (R (L i*1) (H cI t.tr)) 0 1 true=some (A D x)):w S0 (Ml t r z i) .norm (Ml t r (AY x (-1) 63) (J D (i+1))):=B h [q,q,.v (A D x),.r (I (AY x (-1) 63))] MB (GK c1 c2 a b (show RQ 118 [A D x,A D (-1),A D 63] (I (AY x (-1) 63)) from D6 _ _ _))
theorem dM(i:Int)(c1:E (i<C t.tr)=true)(c2:z=false):w S0 (Ml t r z i) .norm (Ml t r false (J D (i+1))):=B h [q,Y] MB (GY c1 c2)
theorem dN(i:Int)(c1:E (i<C t.tr)=false):w S0 (Ml t r z i) xZ0 (Ml t r z i):=B h [Y] MB (Bp c1)
def Azq:V:=W 1 (Q [A D t.r0,A D t.r1,A D t.r2,A D t.r3,A D t.r4,A D t.r5,A D t.r6,G (C t.tr) (H cI t.tr),G (C t.ws) (H cW t.ws),G (C t.ar) (H AH t.ar),G (C t.po) (H p t.po),G (C t.fl) (H cF t.fl),G (C t.zo) (H cZ t.zo),G (C t.sa) (H AU t.sa),G (C t.la) (H cL t.la),G (C t.ra) (H cR t.ra),G (C t.dr) (H cD t.dr),G (C t.ln) (H cK t.ln)]::vi r::W 117 (X (I z)::W 45 []))
end
def dO:ICode := .region false [oM 119 3,o1 120 (.un .not (.t 119))]
theorem mP(t:Tbl)(r:Int)(z:Bool)   : w dO (Sz t r z) .norm (Azq t r (!z)):=B h [] [1,2,120] a0
def dP:ICode:=CG MA 92 250
theorem mQ(t:Tbl)(r:Int)   : w dP (Gu t r) .ret (Sy 5):=B h [] [2] a0
def tQ(t:Tbl)(r:Int)(os:List Rw):V:=W 1 (Q [A D t.r0,A D t.r1,A D t.r2,A D t.r3,A D t.r4,A D t.r5,A D t.r6,G (C t.tr) (H cI t.tr),G (C t.ws) (H cW t.ws),G (C t.ar) (H AH t.ar),G (C t.po) (H p t.po),G (C t.fl) (H cF t.fl),G (C t.zo) (H cZ t.zo),G (C t.sa) (H AU t.sa),G (C t.la) (H cL t.la),G (C t.ra) (H cR t.ra),G (C t.dr) (H cD t.dr),G (C t.ln) (H cK t.ln)]::vi r::W 2 (X (G (C os) (H cE os))::W 160 []))
def zB:ICode := .region false [o1 121 (.ld 1 1 18 false),oC 122 120 [121],oM 5 122]
section
variable(t:Tbl)(r:Int)(os:List Rw)
theorem mR(a:RQ 120 [M [A D t.r0,A D t.r1,A D t.r2,A D t.r3,A D t.r4,A D t.r5,A D t.r6,G (C t.tr) (H cI t.tr),G (C t.ws) (H cW t.ws),G (C t.ar) (H AH t.ar),G (C t.po) (H p t.po),G (C t.fl) (H cF t.fl),G (C t.zo) (H cZ t.zo),G (C t.sa) (H AU t.sa),G (C t.la) (H cL t.la),G (C t.ra) (H cR t.ra),G (C t.dr) (H cD t.dr),G (C t.ln) (H cK t.ln)]] (P 3 (C os) (H cE os))):w zB (Gu t r) .norm (tQ t r os):=B h [.r (P 3 (C os) (H cE os))] [1,2,5] (Bp a)
def Gv(i:Int):V:=W 1 (Q [A D t.r0,A D t.r1,A D t.r2,A D t.r3,A D t.r4,A D t.r5,A D t.r6,G (C t.tr) (H cI t.tr),G (C t.ws) (H cW t.ws),G (C t.ar) (H AH t.ar),G (C t.po) (H p t.po),G (C t.fl) (H cF t.fl),G (C t.zo) (H cZ t.zo),G (C t.sa) (H AU t.sa),G (C t.la) (H cL t.la),G (C t.ra) (H cR t.ra),G (C t.dr) (H cD t.dr),G (C t.ln) (H cK t.ln)]::vi r::W 2 (X (G (C os) (H cE os))::vi i::W 159 []))
def F_(i j:Int):V:=W 1 (Q [A D t.r0,A D t.r1,A D t.r2,A D t.r3,A D t.r4,A D t.r5,A D t.r6,G (C t.tr) (H cI t.tr),G (C t.ws) (H cW t.ws),G (C t.ar) (H AH t.ar),G (C t.po) (H p t.po),G (C t.fl) (H cF t.fl),G (C t.zo) (H cZ t.zo),G (C t.sa) (H AU t.sa),G (C t.la) (H cL t.la),G (C t.ra) (H cR t.ra),G (C t.dr) (H cD t.dr),G (C t.ln) (H cK t.ln)]::vi r::W 2 (X (G (C os) (H cE os))::vi i::vi j::W 158 []))
end
def dQ:ICode := .region false [o1 6 (.mov (.c (.int .i64 0)))]
theorem Tz(t:Tbl)(r:Int)(os:List Rw)   : w dQ (tQ t r os) .norm (Gv t r os 0):=B h [] MD a0
def Mm:ICode:=CG MA 81 521364
section
variable(t:Tbl)(r:Int)(os:List Rw)(i j:Int)
theorem dR(ra a:Rw)(c1:E (j<i)=true)(c2:(Gf a.s==Gf ra.s)=true)(b:0<=j/\j<C os)(c:0<=i/\i<C os)(d:Ae (R 0 (R (L j*3) (H cE os))) 0 1 true=some (.str a.s))(e:Ae (R 0 (R (L i*3) (H cE os))) 0 1 true=some (.str ra.s)):w Mm (F_ t r os i j) .ret (F_ t 7 os i j):=B h [q,.v (.str a.s),.v (.str ra.s),q] UU (Kf c1 b d c e c2)
theorem dT(ra a:Rw)(c1:E (j<i)=true)(c2:(Gf a.s==Gf ra.s)=false)(b:0<=j/\j<C os)(c:0<=i/\i<C os)(d:Ae (R 0 (R (L j*3) (H cE os))) 0 1 true=some (.str a.s))(e:Ae (R 0 (R (L i*3) (H cE os))) 0 1 true=some (.str ra.s)):w Mm (F_ t r os i j) .norm (F_ t r os i (J D (j+1))):=B h [q,.v (.str a.s),.v (.str ra.s),Y] UU (Kf c1 b d c e c2)
theorem dU(c1:E (j<i)=false):w Mm (F_ t r os i j) xZ4 (F_ t r os i j):=B h [Y] UU (Bp c1)
end
def KS:ICode:=CG MA 89 2036
section
variable(t:Tbl)(r:Int)(os:List Rw)(i:Int)
theorem YL(c:Bool)(v:Int)(ra:Rw)(c1:E (i<C os)=true)(c2:c=true)(c3:ra.a=true)(c4:ra.b=true)(e:0<=i/\i<C os)(f:Ae (R 0 (R (L i*3) (H cE os))) 0 1 true=some (.str ra.s))(g:RQ 121 [.str ra.s] (I c))(j:w (.loop Mm) (F_ t r os i 0) xZ4 (F_ t r os i v))(k:Ae (R 1 (R (L i*3) (H cE os))) 0 1 true=some (I ra.a))(l:Ae (R 2 (R (L i*3) (H cE os))) 0 1 true=some (I ra.b)):w KS (Gv t r os i) .norm (Gv t r os (J D (i+1))):=T (B (t:=W 1 (Q [A D t.r0,A D t.r1,A D t.r2,A D t.r3,A D t.r4,A D t.r5,A D t.r6,G (C t.tr) (H cI t.tr),G (C t.ws) (H cW t.ws),G (C t.ar) (H AH t.ar),G (C t.po) (H p t.po),G (C t.fl) (H cF t.fl),G (C t.zo) (H cZ t.zo),G (C t.sa) (H AU t.sa),G (C t.la) (H cL t.la),G (C t.ra) (H cR t.ra),G (C t.dr) (H cD t.dr),G (C t.ln) (H cK t.ln)]::vi r::W 2 (X (G (C os) (H cE os))::vi i::W 159 []))) h [q] MD (Bp c1)) (T (Bc (B3 (T (B h [.v (.str ra.s),.r (I c),Y] UU (Jm e f g (bL c2))) (T (m j) (B (t:=W 1 (Q [A D t.r0,A D t.r1,A D t.r2,A D t.r3,A D t.r4,A D t.r5,A D t.r6,G (C t.tr) (H cI t.tr),G (C t.ws) (H cW t.ws),G (C t.ar) (H AH t.ar),G (C t.po) (H p t.po),G (C t.fl) (H cF t.fl),G (C t.zo) (H cZ t.zo),G (C t.sa) (H AU t.sa),G (C t.la) (H cL t.la),G (C t.ra) (H cR t.ra),G (C t.dr) (H cD t.dr),G (C t.ln) (H cK t.ln)]::vi r::W 2 (X (G (C os) (H cE os))::vi i::W 159 []))) h [.v (I ra.a),Y,.v (I ra.b),Y] MD (Kf e k (show (!ra.a)=false from (by rw [c3];rfl)) e l (show (!ra.b)=false from (by rw [c4];rfl)))))))) (B h [] MD a0))
theorem YM(c:Bool)(v:Int)(ra:Rw)(c1:E (i<C os)=true)(c2:c=true)(c3:ra.a=true)(c4:ra.b=false)(e:0<=i/\i<C os)(f:Ae (R 0 (R (L i*3) (H cE os))) 0 1 true=some (.str ra.s))(g:RQ 121 [.str ra.s] (I c))(j:w (.loop Mm) (F_ t r os i 0) xZ4 (F_ t r os i v))(k:Ae (R 1 (R (L i*3) (H cE os))) 0 1 true=some (I ra.a))(l:Ae (R 2 (R (L i*3) (H cE os))) 0 1 true=some (I ra.b)):w KS (Gv t r os i) .ret (Gv t 10 os i):=T (B (t:=W 1 (Q [A D t.r0,A D t.r1,A D t.r2,A D t.r3,A D t.r4,A D t.r5,A D t.r6,G (C t.tr) (H cI t.tr),G (C t.ws) (H cW t.ws),G (C t.ar) (H AH t.ar),G (C t.po) (H p t.po),G (C t.fl) (H cF t.fl),G (C t.zo) (H cZ t.zo),G (C t.sa) (H AU t.sa),G (C t.la) (H cL t.la),G (C t.ra) (H cR t.ra),G (C t.dr) (H cD t.dr),G (C t.ln) (H cK t.ln)]::vi r::W 2 (X (G (C os) (H cE os))::vi i::W 159 []))) h [q] MD (Bp c1)) (d (n (B3 (T (B h [.v (.str ra.s),.r (I c),Y] UU (Jm e f g (bL c2))) (T (m j) (B h [.v (I ra.a),Y,.v (I ra.b),q] MD (Kf e k (show (!ra.a)=false from (by rw [c3];rfl)) e l (show (!ra.b)=true from (by rw [c4];rfl)))))))))
theorem YN(c:Bool)(v:Int)(ra:Rw)(c1:E (i<C os)=true)(c2:c=true)(c3:ra.a=false)(e:0<=i/\i<C os)(f:Ae (R 0 (R (L i*3) (H cE os))) 0 1 true=some (.str ra.s))(g:RQ 121 [.str ra.s] (I c))(j:w (.loop Mm) (F_ t r os i 0) xZ4 (F_ t r os i v))(k:Ae (R 1 (R (L i*3) (H cE os))) 0 1 true=some (I ra.a)):w KS (Gv t r os i) .ret (Gv t 5 os i):=T (B (t:=W 1 (Q [A D t.r0,A D t.r1,A D t.r2,A D t.r3,A D t.r4,A D t.r5,A D t.r6,G (C t.tr) (H cI t.tr),G (C t.ws) (H cW t.ws),G (C t.ar) (H AH t.ar),G (C t.po) (H p t.po),G (C t.fl) (H cF t.fl),G (C t.zo) (H cZ t.zo),G (C t.sa) (H AU t.sa),G (C t.la) (H cL t.la),G (C t.ra) (H cR t.ra),G (C t.dr) (H cD t.dr),G (C t.ln) (H cK t.ln)]::vi r::W 2 (X (G (C os) (H cE os))::vi i::W 159 []))) h [q] MD (Bp c1)) (d (n (B3 (T (B h [.v (.str ra.s),.r (I c),Y] UU (Jm e f g (bL c2))) (T (m j) (B h [.v (I ra.a),q] MD (Im e k (show (!ra.a)=true from (by rw [c3];rfl)))))))))
theorem YO(c:Bool)(ra:Rw)(c1:E (i<C os)=true)(c2:c=false)(e:0<=i/\i<C os)(f:Ae (R 0 (R (L i*3) (H cE os))) 0 1 true=some (.str ra.s))(g:RQ 121 [.str ra.s] (I c)):w KS (Gv t r os i) .ret (Gv t 6 os i):=T (B (t:=W 1 (Q [A D t.r0,A D t.r1,A D t.r2,A D t.r3,A D t.r4,A D t.r5,A D t.r6,G (C t.tr) (H cI t.tr),G (C t.ws) (H cW t.ws),G (C t.ar) (H AH t.ar),G (C t.po) (H p t.po),G (C t.fl) (H cF t.fl),G (C t.zo) (H cZ t.zo),G (C t.sa) (H AU t.sa),G (C t.la) (H cL t.la),G (C t.ra) (H cR t.ra),G (C t.dr) (H cD t.dr),G (C t.ln) (H cK t.ln)]::vi r::W 2 (X (G (C os) (H cE os))::vi i::W 159 []))) h [q] MD (Bp c1)) (d (n (B3 (d (B h [.v (.str ra.s),.r (I c),q] MD (Jm e f g (bM c2)))))))
theorem YP(c1:E (i<C os)=false):w KS (Gv t r os i) xZ2 (Gv t r os i):=d (B h [Y] MD (Bp c1))
theorem YQ(c:Bool)(v r2:Int)(ra:Rw)(c1:E (i<C os)=true)(c2:c=true)(e:0<=i/\i<C os)(f:Ae (R 0 (R (L i*3) (H cE os))) 0 1 true=some (.str ra.s))(g:RQ 121 [.str ra.s] (I c))(j:w (.loop Mm) (F_ t r os i 0) .ret (F_ t r2 os i v)):w KS (Gv t r os i) .ret (Gv t r2 os i):=T (B (t:=W 1 (Q [A D t.r0,A D t.r1,A D t.r2,A D t.r3,A D t.r4,A D t.r5,A D t.r6,G (C t.tr) (H cI t.tr),G (C t.ws) (H cW t.ws),G (C t.ar) (H AH t.ar),G (C t.po) (H p t.po),G (C t.fl) (H cF t.fl),G (C t.zo) (H cZ t.zo),G (C t.sa) (H AU t.sa),G (C t.la) (H cL t.la),G (C t.ra) (H cR t.ra),G (C t.dr) (H cD t.dr),G (C t.ln) (H cK t.ln)]::vi r::W 2 (X (G (C os) (H cE os))::vi i::W 159 []))) h [q] MD (Bp c1)) (d (n (B3 (T (B h [.v (.str ra.s),.r (I c),Y] UU (Jm e f g (bL c2))) (d (n (B6.keep (t':=W 1 (Q [A D t.r0,A D t.r1,A D t.r2,A D t.r3,A D t.r4,A D t.r5,A D t.r6,G (C t.tr) (H cI t.tr),G (C t.ws) (H cW t.ws),G (C t.ar) (H AH t.ar),G (C t.po) (H p t.po),G (C t.fl) (H cF t.fl),G (C t.zo) (H cZ t.zo),G (C t.sa) (H AU t.sa),G (C t.la) (H cL t.la),G (C t.ra) (H cR t.ra),G (C t.dr) (H cD t.dr),G (C t.ln) (H cK t.ln)]::vi r2::W 2 (X (G (C os) (H cE os))::vi i::W 159 []))) [1,2,5,6] j (by kernel_rfl))))))))
end
def Azr(t:Tbl)(r:Int)(z:Bool):V:=W 1 (Q [A D t.r0,A D t.r1,A D t.r2,A D t.r3,A D t.r4,A D t.r5,A D t.r6,G (C t.tr) (H cI t.tr),G (C t.ws) (H cW t.ws),G (C t.ar) (H AH t.ar),G (C t.po) (H p t.po),G (C t.fl) (H cF t.fl),G (C t.zo) (H cZ t.zo),G (C t.sa) (H AU t.sa),G (C t.la) (H cL t.la),G (C t.ra) (H cR t.ra),G (C t.dr) (H cD t.dr),G (C t.ln) (H cK t.ln)]::vi r::W 162 (X (I z)::[]))
def zC:ICode := .region false [o1 164 (.ld 1 1 18 false),oC 165 122 [164]]
theorem mS(t:Tbl)(r:Int)(a:Bool)(b:RQ 122 [M [A D t.r0,A D t.r1,A D t.r2,A D t.r3,A D t.r4,A D t.r5,A D t.r6,G (C t.tr) (H cI t.tr),G (C t.ws) (H cW t.ws),G (C t.ar) (H AH t.ar),G (C t.po) (H p t.po),G (C t.fl) (H cF t.fl),G (C t.zo) (H cZ t.zo),G (C t.sa) (H AU t.sa),G (C t.la) (H cL t.la),G (C t.ra) (H cR t.ra),G (C t.dr) (H cD t.dr),G (C t.ln) (H cK t.ln)]] (I a)):w zC (Gu t r) .norm (Azr t r a):=B h [.r (I a)] [1,2,165] (Bp b)
def zD:ICode:=CG MA 89 2042
theorem mT(t:Tbl)(r:Int)   : w zD (Gu t r) .ret (Sy 11):=B h [] [2] a0
def mU:ICode := .seq (.region false [o1 2 (.mov (.c (.int .i64 0)))]) (.ret)
theorem dV(t:Tbl)(r:Int)   : w mU (Gu t r) .ret (Sy 0):=B h [] [2] a0
theorem Anb:(iF g MA).body = .seq zA (.seq (.seq Uj (.cond (.t 79) dJ .skip)) (.seq dI (.seq (.seq dK (.block 0 (.loop S0))) (.seq (.seq dO (.cond (.t 120) dP .skip)) (.seq zB (.seq (.seq dQ (.block 2 (.loop KS))) (.seq (.seq zC (.cond (.t 165) zD .skip)) mU))))))):=by kernel_rfl
section
variable {t:Tbl}
theorem Awv{z:Bool}(m:TOk t):∀ (d:Nat) {i j:Int},j+(d:Int)=i->0<=j->i<(C t.sa:Int) ->
  (∃ v,w (.loop JS) (Fc t z i j) xZ2 (Fc t z i v))\/∃ v,w (.loop JS) (Fc t z i j) .ret (Fc t true i v)
 | 0,i,j,h,h0,hi => .inl ⟨j,f (Sq t z i j (AG (by omega)))⟩
 | d+1,i,j,h,h0,hi=>by
  have q:=m.l13;have c1:decide (j<i)=true:=AN (by omega);have n:i.toNat<C t.sa:=by omega
  have o:j.toNat<C t.sa:=by omega
  have hr:=CH (c:=AU) (k:=10) (fun _=>rfl) n;have g:=CH (c:=AU) (k:=10) (fun _=>rfl) o;generalize t.sa[i.toNat]=e at hr;generalize t.sa[j.toNat]=a at g;have p:J D (j+1)=j+1:=Bb (by omega) (by omega);obtain⟨b,hb⟩:∃ b,w WC (Ly t z i j e a) .norm (Cg (Ly t z i j e a) 53 (X (I b))):=IX Hc (l:=[⟨1,.box [.i .i64,.i .i64,.i .i64,.i .i64,.i .i64,.i .i64,.i .i64,.l,.l,.l,.l,.l,.l,.l,.l,.l,.l,.l],none⟩,⟨5,.box [.s,.i .i64,.i .i64,.i .i64,.i .i64,.i .i64,.i .i64,.i .i64,.i .i64,.i .i64],none⟩,⟨6,.box [.s,.i .i64,.i .i64,.i .i64,.i .i64,.i .i64,.i .i64,.i .i64,.i .i64,.i .i64],none⟩]) 53 (by kernel_rfl) (by kernel_rfl) (by kernel_rfl) (by kernel_rfl);rcases Ah b with c2 | c2
  ·exact .inr ⟨_,f (Sn t z i j b e a c1 c2 ⟨by omega,by omega⟩ ⟨by omega,by omega⟩ hr g hb)⟩
  ·have h1:=So t z i j b e a c1 c2 ⟨by omega,by omega⟩ ⟨by omega,by omega⟩ hr g hb;rw[p] at h1;rcases Awv m d (i:=i) (j:=j+1) (by omega) (by omega) hi with ⟨v,h2⟩ | ⟨v,h2⟩
   ·exact .inl ⟨v,Ay h1 h2⟩
   ·exact .inr ⟨v,Ay h1 h2⟩
theorem Aww{z:Bool}(a:TOk t):∀ (d:Nat) {i:Int},i+(d:Int)=(C t.sa:Int)->0<=i ->
  (∃ v,w (.loop JT) (Gr t z i) xZ0 (Gr t z v))\/∃ v,w (.loop JT) (Gr t z i) .ret (Gr t true v)
 | 0,i,h,h0 => .inl ⟨i,f (Ra t z i (AG (by omega)))⟩
 | d+1,i,h,h0=>by
  have e:=a.l13;have c1:decide (i<(C t.sa:Int))=true:=AN (by omega);have c:J D (i+1)=i+1:=Bb (by omega) (by omega);rcases Awv (z:=z) a i.toNat (i:=i) (j:=0) (by omega) (by omega) (by omega) with ⟨v,b⟩ | ⟨v,b⟩
  ·have h1:=Q_ t z i v c1 b;rw[c] at h1;rcases Aww a d (i:=i+1) (by omega) (by omega) with ⟨v,h2⟩ | ⟨v,h2⟩
   ·exact .inl ⟨v,Ay h1 h2⟩
   ·exact .inr ⟨v,Ay h1 h2⟩
  ·exact .inr ⟨_,f (Rb t z i true v c1 b)⟩
theorem ovb0(c:TOk t){a:ICode}(e:∃ b,w a (HU t false) .ret (Ky b)) :
  ∃ b,w (.seq (.seq WB (.block 0 (.loop JT))) a) (HU t false) .ret (Ky b):=by
 rcases Aww (z:=false) c (C t.sa) (i:=0) (by omega) (by omega) with ⟨v,h⟩ | ⟨v,h⟩
 ·obtain⟨b,hb⟩:=e;exact⟨b,T (T (PC t false) (A7 [1,2] (m h) (by kernel_rfl))) hb⟩
 ·exact⟨true,d (T (PC t false) (A7 [2] (n h) (by kernel_rfl)))⟩
theorem Awx{z:Bool}(m:TOk t):∀ (d:Nat) {i j:Int},j+(d:Int)=i->0<=j->i<(C t.ra:Int) ->
  (∃ v,w (.loop JU) (Fe t z i j) xZ6 (Fe t z i v))\/∃ v,w (.loop JU) (Fe t z i j) .ret (Fe t true i v)
 | 0,i,j,h,h0,hi => .inl ⟨j,f (Su t z i j (AG (by omega)))⟩
 | d+1,i,j,h,h0,hi=>by
  have q:=m.l15;have c1:decide (j<i)=true:=AN (by omega);have n:i.toNat<C t.ra:=by omega
  have o:j.toNat<C t.ra:=by omega
  have hr:=CH (c:=cR) (k:=8) (fun _=>rfl) n;have g:=CH (c:=cR) (k:=8) (fun _=>rfl) o;generalize t.ra[i.toNat]=e at hr;generalize t.ra[j.toNat]=a at g;have p:J D (j+1)=j+1:=Bb (by omega) (by omega);obtain⟨b,hb⟩:∃ b,w WE (Lz t z i j e a) .norm (Cg (Lz t z i j e a) 92 (X (I b))):=IX Hc (l:=[⟨1,.box [.i .i64,.i .i64,.i .i64,.i .i64,.i .i64,.i .i64,.i .i64,.l,.l,.l,.l,.l,.l,.l,.l,.l,.l,.l],none⟩,⟨9,.box [.s,.i .i64,.i .i64,.i .i64,.i .i64,.i .i64,.i .i64,.i .i64],none⟩,⟨10,.box [.s,.i .i64,.i .i64,.i .i64,.i .i64,.i .i64,.i .i64,.i .i64],none⟩]) 92 (by kernel_rfl) (by kernel_rfl) (by kernel_rfl) (by kernel_rfl);rcases Ah b with c2 | c2
  ·exact .inr ⟨_,f (Sr t z i j b e a c1 c2 ⟨by omega,by omega⟩ ⟨by omega,by omega⟩ hr g hb)⟩
  ·have h1:=Ss t z i j b e a c1 c2 ⟨by omega,by omega⟩ ⟨by omega,by omega⟩ hr g hb;rw[p] at h1;rcases Awx m d (i:=i) (j:=j+1) (by omega) (by omega) hi with ⟨v,h2⟩ | ⟨v,h2⟩
   ·exact .inl ⟨v,Ay h1 h2⟩
   ·exact .inr ⟨v,Ay h1 h2⟩
theorem Awy{z:Bool}(a:TOk t):∀ (d:Nat) {i:Int},i+(d:Int)=(C t.ra:Int)->0<=i ->
  (∃ v,w (.loop JV) (Gs t z i) xZ4 (Gs t z v))\/∃ v,w (.loop JV) (Gs t z i) .ret (Gs t true v)
 | 0,i,h,h0 => .inl ⟨i,f (Re t z i (AG (by omega)))⟩
 | d+1,i,h,h0=>by
  have e:=a.l15;have c1:decide (i<(C t.ra:Int))=true:=AN (by omega);have c:J D (i+1)=i+1:=Bb (by omega) (by omega);rcases Awx (z:=z) a i.toNat (i:=i) (j:=0) (by omega) (by omega) (by omega) with ⟨v,b⟩ | ⟨v,b⟩
  ·have h1:=Rc t z i v c1 b;rw[c] at h1;rcases Awy a d (i:=i+1) (by omega) (by omega) with ⟨v,h2⟩ | ⟨v,h2⟩
   ·exact .inl ⟨v,Ay h1 h2⟩
   ·exact .inr ⟨v,Ay h1 h2⟩
  ·exact .inr ⟨_,f (Rf t z i true v c1 b)⟩
theorem ovb1(c:TOk t){a:ICode}(e:∃ b,w a (HU t false) .ret (Ky b)) :
  ∃ b,w (.seq (.seq WD (.block 4 (.loop JV))) a) (HU t false) .ret (Ky b):=by
 rcases Awy (z:=false) c (C t.ra) (i:=0) (by omega) (by omega) with ⟨v,h⟩ | ⟨v,h⟩
 ·obtain⟨b,hb⟩:=e;exact⟨b,T (T (PD t false) (A7 [1,2] (m h) (by kernel_rfl))) hb⟩
 ·exact⟨true,d (T (PD t false) (A7 [2] (n h) (by kernel_rfl)))⟩
theorem Awz{z:Bool}(m:TOk t):∀ (d:Nat) {i j:Int},j+(d:Int)=i->0<=j->i<(C t.ln:Int) ->
  (∃ v,w (.loop JW) (Ff t z i j) (.exit 10) (Ff t z i v))\/∃ v,w (.loop JW) (Ff t z i j) .ret (Ff t true i v)
 | 0,i,j,h,h0,hi => .inl ⟨j,f (Sx t z i j (AG (by omega)))⟩
 | d+1,i,j,h,h0,hi=>by
  have q:=m.l17;have c1:decide (j<i)=true:=AN (by omega);have n:i.toNat<C t.ln:=by omega
  have o:j.toNat<C t.ln:=by omega
  have hr:=CH (c:=cK) (k:=7) (fun _=>rfl) n;have g:=CH (c:=cK) (k:=7) (fun _=>rfl) o;generalize t.ln[i.toNat]=e at hr;generalize t.ln[j.toNat]=a at g;have p:J D (j+1)=j+1:=Bb (by omega) (by omega);obtain⟨b,hb⟩:∃ b,w WG (L0 t z i j e a) .norm (Cg (L0 t z i j e a) 129 (X (I b))):=IX Hc (l:=[⟨1,.box [.i .i64,.i .i64,.i .i64,.i .i64,.i .i64,.i .i64,.i .i64,.l,.l,.l,.l,.l,.l,.l,.l,.l,.l,.l],none⟩,⟨13,.box [.s,.i .i64,.i .i64,.i .i64,.i .i64,.i .i64,.i .i64],none⟩,⟨14,.box [.s,.i .i64,.i .i64,.i .i64,.i .i64,.i .i64,.i .i64],none⟩]) 129 (by kernel_rfl) (by kernel_rfl) (by kernel_rfl) (by kernel_rfl);rcases Ah b with c2 | c2
  ·exact .inr ⟨_,f (Sv t z i j b e a c1 c2 ⟨by omega,by omega⟩ ⟨by omega,by omega⟩ hr g hb)⟩
  ·have h1:=Sw t z i j b e a c1 c2 ⟨by omega,by omega⟩ ⟨by omega,by omega⟩ hr g hb;rw[p] at h1;rcases Awz m d (i:=i) (j:=j+1) (by omega) (by omega) hi with ⟨v,h2⟩ | ⟨v,h2⟩
   ·exact .inl ⟨v,Ay h1 h2⟩
   ·exact .inr ⟨v,Ay h1 h2⟩
theorem Axa{z:Bool}(a:TOk t):∀ (d:Nat) {i:Int},i+(d:Int)=(C t.ln:Int)->0<=i ->
  (∃ v,w (.loop JX) (Gt t z i) xZ8 (Gt t z v))\/∃ v,w (.loop JX) (Gt t z i) .ret (Gt t true v)
 | 0,i,h,h0 => .inl ⟨i,f (Rh t z i (AG (by omega)))⟩
 | d+1,i,h,h0=>by
  have e:=a.l17;have c1:decide (i<(C t.ln:Int))=true:=AN (by omega);have c:J D (i+1)=i+1:=Bb (by omega) (by omega);rcases Awz (z:=z) a i.toNat (i:=i) (j:=0) (by omega) (by omega) (by omega) with ⟨v,b⟩ | ⟨v,b⟩
  ·have h1:=Rg t z i v c1 b;rw[c] at h1;rcases Axa a d (i:=i+1) (by omega) (by omega) with ⟨v,h2⟩ | ⟨v,h2⟩
   ·exact .inl ⟨v,Ay h1 h2⟩
   ·exact .inr ⟨v,Ay h1 h2⟩
  ·exact .inr ⟨_,f (Ri t z i true v c1 b)⟩
theorem ovb2(c:TOk t){a:ICode}(e:∃ b,w a (HU t false) .ret (Ky b)) :
  ∃ b,w (.seq (.seq WF (.block 8 (.loop JX))) a) (HU t false) .ret (Ky b):=by
 rcases Axa (z:=false) c (C t.ln) (i:=0) (by omega) (by omega) with ⟨v,h⟩ | ⟨v,h⟩
 ·obtain⟨b,hb⟩:=e;exact⟨b,T (T (PE t false) (A7 [1,2] (m h) (by kernel_rfl))) hb⟩
 ·exact⟨true,d (T (PE t false) (A7 [2] (n h) (by kernel_rfl)))⟩
theorem Anc(a:TOk t):∃ b,RQ 122 [t.av] (I b):=by
 obtain⟨b,h⟩:=ovb0 a (ovb1 a (ovb2 a ⟨false,WH t false⟩));refine⟨b,BR (fn:=iF g KL) (s:=Ky b) (ex := .ret) rfl rfl ?_ (by nofun) rfl⟩;rw[Adu];exact T (YK t) h
theorem tR{r:Int}(b:TOk t):∀ (d:Nat) {z:Bool} {i:Int},i+(d:Int)=(C t.tr:Int)->0<=i->∃ a v,w (.loop S0) (Ml t r z i) xZ0 (Ml t r a v)
 | 0,z,i,h,h0=>⟨z,i,f (dN t r z i (AG (by omega)))⟩
 | d+1,z,i,h,h0=>by
  have l:=b.l7;have c1:decide (i<(C t.tr:Int))=true:=AN (by omega);have e:J D (i+1)=i+1:=Bb (by omega) (by omega);have g:i.toNat<C t.tr:=by omega
  have hr:Ae (R (L i*1) (H cI t.tr)) 0 1 true=some (A D t.tr[i.toNat]):=by
   have:=DP (c:=cI) (k:=1) (fun _=>rfl) g (j:=0) (by omega);rw[DF] at this;exact this
  rcases Ah z with c2 | c2
  ·have h1:=dL t r z i _ c1 c2 ⟨by omega,by omega⟩ hr;rw[e] at h1;obtain⟨a,v,h2⟩:=tR b d (z:=AY t.tr[i.toNat] (-1) 63) (i:=i+1) (by omega) (by omega);exact⟨a,v,Ay h1 h2⟩
  ·have h1:=dM t r z i c1 c2;rw[e] at h1;obtain⟨a,v,h2⟩:=tR b d (z:=false) (i:=i+1) (by omega) (by omega);exact⟨a,v,Ay h1 h2⟩
theorem Ane{r:Int}{os:List Rw}(b:C os<=200):∀ (d:Nat) {i j:Int},j+(d:Int)=i->0<=j->i<(C os:Int) ->
  (∃ v,w (.loop Mm) (F_ t r os i j) xZ4 (F_ t r os i v))\/∃ r2 v,w (.loop Mm) (F_ t r os i j) .ret (F_ t r2 os i v)
 | 0,i,j,h,h0,hi => .inl ⟨j,f (dU t r os i j (AG (by omega)))⟩
 | d+1,i,j,h,h0,hi=>by
  have c1:decide (j<i)=true:=AN (by omega);have e:i.toNat<C os:=by omega
  have l:j.toNat<C os:=by omega
  have m:J D (j+1)=j+1:=Bb (by omega) (by omega);have g:Ae (R 0 (R (L i*3) (H cE os))) 0 1 true=some (.str os[i.toNat].s):=DP (c:=cE) (k:=3) (fun _=>rfl) e (j:=0) (by omega);have a:Ae (R 0 (R (L j*3) (H cE os))) 0 1 true=some (.str os[j.toNat].s):=DP (c:=cE) (k:=3) (fun _=>rfl) l (j:=0) (by omega);rcases Ah (Gf os[j.toNat].s==Gf os[i.toNat].s) with c2 | c2
  ·exact .inr ⟨_,_,f (dR t r os i j _ _ c1 c2 ⟨by omega,by omega⟩ ⟨by omega,by omega⟩ a g)⟩
  ·have h1:=dT t r os i j _ _ c1 c2 ⟨by omega,by omega⟩ ⟨by omega,by omega⟩ a g;rw[m] at h1;rcases Ane b d (i:=i) (j:=j+1) (by omega) (by omega) hi with ⟨v,h2⟩ | ⟨r2,v,h2⟩
   ·exact .inl ⟨v,Ay h1 h2⟩
   ·exact .inr ⟨r2,v,Ay h1 h2⟩
theorem zE{r:Int}{os:List Rw}(o:C os<=200):∀ (d:Nat) {i:Int},i+(d:Int)=(C os:Int)->0<=i ->
  (∃ v,w (.loop KS) (Gv t r os i) xZ2 (Gv t r os v))\/∃ r2 v,w (.loop KS) (Gv t r os i) .ret (Gv t r2 os v)
 | 0,i,h,h0 => .inl ⟨i,f (YP t r os i (AG (by omega)))⟩
 | d+1,i,h,h0=>by
  have c1:decide (i<(C os:Int))=true:=AN (by omega);have m:i.toNat<C os:=by omega
  have p:J D (i+1)=i+1:=Bb (by omega) (by omega);have g:Ae (R 0 (R (L i*3) (H cE os))) 0 1 true=some (.str os[i.toNat].s):=DP (c:=cE) (k:=3) (fun _=>rfl) m (j:=0) (by omega);have n:Ae (R 1 (R (L i*3) (H cE os))) 0 1 true=some (I os[i.toNat].a):=DP (c:=cE) (k:=3) (fun _=>rfl) m (j:=1) (by omega);have gb:Ae (R 2 (R (L i*3) (H cE os))) 0 1 true=some (I os[i.toNat].b):=DP (c:=cE) (k:=3) (fun _=>rfl) m (j:=2) (by omega);obtain⟨e,hb⟩:=ZF os[i.toNat].s;rcases Ah e with c2 | c2
  ·rcases Ane (t:=t) (r:=r) o i.toNat (i:=i) (j:=0) (by omega) (by omega) (by omega) with ⟨v,l⟩ | ⟨r2,v,l⟩
   ·rcases Ah os[i.toNat].a with c3 | c3
    ·rcases Ah os[i.toNat].b with c4 | c4
     ·have h1:=YL t r os i e v _ c1 c2 c3 c4 ⟨by omega,by omega⟩ g hb l n gb;rw[p] at h1;rcases zE o d (i:=i+1) (by omega) (by omega) with ⟨v,h2⟩ | ⟨r2,v,h2⟩
      ·exact .inl ⟨v,Ay h1 h2⟩
      ·exact .inr ⟨r2,v,Ay h1 h2⟩
     ·exact .inr ⟨_,_,f (YM t r os i e v _ c1 c2 c3 c4 ⟨by omega,by omega⟩ g hb l n gb)⟩
    ·exact .inr ⟨_,_,f (YN t r os i e v _ c1 c2 c3 ⟨by omega,by omega⟩ g hb l n)⟩
   ·exact .inr ⟨_,_,f (YQ t r os i e v r2 _ c1 c2 ⟨by omega,by omega⟩ g hb l)⟩
  ·exact .inr ⟨_,_,f (YO t r os i e _ c1 c2 ⟨by omega,by omega⟩ g hb)⟩
theorem Atb:NS:=by
 intro t k;suffices h:∃ v,w (iF g MA).body (CX (iF g MA) [t.av]) .ret (Sy v) by
  obtain⟨v,h⟩:=h;exact⟨v,BR (fn:=iF g MA) (s:=Sy v) (ex := .ret) rfl rfl h (by nofun) rfl⟩
 rw[Anb];have e0:=mM t;obtain⟨u,c⟩:∃ b,w Uj (Gu t 0) .norm (Cg (Gu t 0) 79 (X (I b))):=IX Hc (l:=[⟨1,.box [.i .i64,.i .i64,.i .i64,.i .i64,.i .i64,.i .i64,.i .i64,.l,.l,.l,.l,.l,.l,.l,.l,.l,.l,.l],none⟩]) 79 (by kernel_rfl) (by kernel_rfl) (by kernel_rfl) (by kernel_rfl);have c:w Uj (Gu t 0) .norm (Azp t 0 u):=c;cases u
 case true=>exact⟨_,T e0 (d (T c (Fh [1,2] rfl (by kernel_rfl) (mN t 0))))⟩
 have e:w (.seq Uj (.cond (.t 79) dJ .skip)) (Gu t 0) .norm (Gu t 0):=T c (FV [1,2] rfl (by kernel_rfl));obtain⟨z,a⟩:∃ b,w dI (Gu t 0) .norm (Cg (Gu t 0) 3 (X (I b))):=IX Hc (l:=[⟨1,.box [.i .i64,.i .i64,.i .i64,.i .i64,.i .i64,.i .i64,.i .i64,.l,.l,.l,.l,.l,.l,.l,.l,.l,.l,.l],none⟩]) 3 (by kernel_rfl) (by kernel_rfl) (by kernel_rfl) (by kernel_rfl);have a:w dI (Gu t 0) .norm (Sz t 0 z):=a;obtain⟨f,v,A⟩:=tR (r:=0) k (C t.tr) (z:=z) (i:=0) (by omega) (by omega);have j:w (.seq dK (.block 0 (.loop S0))) (Sz t 0 z) .norm (Sz t 0 f):=T (mO t 0 z) (A7 [1,2,3] (m A) (by kernel_rfl));have o:=mP t 0 f;cases B:(!f) <;> rw[B] at o
 case true=>exact⟨_,T e0 (T e (T a (T j (d (T o (Fh [1,2] rfl (by kernel_rfl) (mQ t 0)))))))⟩
 have p:w (.seq dO (.cond (.t 120) dP .skip)) (Sz t 0 f) .norm (Gu t 0):=T o (FV [1,2] rfl (by kernel_rfl));obtain⟨os,ho,hr⟩:=Ana k;have q:=mR t 0 os hr;rcases zE (t:=t) (r:=0) ho (C os) (i:=0) (by omega) (by omega) with ⟨v,h⟩ | ⟨r2,v,h⟩
 ·have x:w (.seq dQ (.block 2 (.loop KS))) (tQ t 0 os) .norm (Gu t 0):=T (Tz t 0 os) (A7 [1,2] (m h) (by kernel_rfl));obtain⟨b,hb⟩:=Anc k;have y:=mS t 0 b hb;cases b
  ·exact⟨_,T e0 (T e (T a (T j (T p (T q (T x (T (T y (FV [1,2] rfl (by kernel_rfl))) (dV t 0))))))))⟩
  ·exact⟨_,T e0 (T e (T a (T j (T p (T q (T x (d (T y (Fh [1,2] rfl (by kernel_rfl) (mT t 0))))))))))⟩
 ·exact⟨r2,T e0 (T e (T a (T j (T p (T q (d (T (Tz t 0 os) (A7 [2] (n h) (by kernel_rfl)))))))))⟩
end
theorem tS{l:LI}(a:C l<4611686018427387904):∃ u,TOk u/\RQ 9 [G (C l) (li l)] u.av:=Adn Atb a
theorem b:AQ Cy []:=AQ.nil _
theorem ZK(s:St)(i:Int)(av:Bool)(c1:E (i<C s.az)=true)(a:0<=i/\i<C s.az)(c:Ae (R (L i*1) (H cO s.az)) 0 1 true=some (I av)):RQ 54 [M [A D s.k,G (C s.bs) (H cB s.bs),G (C s.ks) (H cI s.ks),G (C s.ss) (H cI s.ss),G (C s.az) (H cO s.az),A Bm s.co],A D i] (I av):=Bz (fn:=iF g Aur) b rfl 400 rfl [q,.v (I av)] (Im c1 a c)
def Gw(t:Tbl)(s:St)(lv px py xc:Int)(z:Bool):V:=W 2 (vi lv::W 1 (vi xc::Q [A D t.r0,A D t.r1,A D t.r2,A D t.r3,A D t.r4,A D t.r5,A D t.r6,G (C t.tr) (H cI t.tr),G (C t.ws) (H cW t.ws),G (C t.ar) (H AH t.ar),G (C t.po) (H p t.po),G (C t.fl) (H cF t.fl),G (C t.zo) (H cZ t.zo),G (C t.sa) (H AU t.sa),G (C t.la) (H cL t.la),G (C t.ra) (H cR t.ra),G (C t.dr) (H cD t.dr),G (C t.ln) (H cK t.ln)]::Q [A D s.k,G (C s.bs) (H cB s.bs),G (C s.ks) (H cI s.ks),G (C s.ss) (H cI s.ss),G (C s.az) (H cO s.az),A Bm s.co]::W 1 (Q [A D px,A D py]::W 1 (X (I z)::W 150 []))))
def IY(z:Bool):V:=W 10 (X (I z)::W 150 [])
def zF:ICode := .region false [o1 5 (.box (.t 0) [21,50,55,69,74,89,97,124,155]),o1 6 (.box (.t 1) [111,119,129]),o1 8 (.box (.t 3) []),o1 10 (.mov (.c (.bool false)))]
section
variable(t:Tbl)(s:St)(a px py c:Int)
theorem mV   : w zF (CX (iF g Q7) [M [A D t.r0,A D t.r1,A D t.r2,A D t.r3,A D t.r4,A D t.r5,A D t.r6,G (C t.tr) (H cI t.tr),G (C t.ws) (H cW t.ws),G (C t.ar) (H AH t.ar),G (C t.po) (H p t.po),G (C t.fl) (H cF t.fl),G (C t.zo) (H cZ t.zo),G (C t.sa) (H AU t.sa),G (C t.la) (H cL t.la),G (C t.ra) (H cR t.ra),G (C t.dr) (H cD t.dr),G (C t.ln) (H cK t.ln)],M [A D s.k,G (C s.bs) (H cB s.bs),G (C s.ks) (H cI s.ks),G (C s.ss) (H cI s.ss),G (C s.az) (H cO s.az),A Bm s.co],A D a,M [A D px,A D py],A D c]) .norm (Gw t s a px py c false):=B b [] [2,4,5,6,8,10] a0
def CP(z:Bool)(i:Int):V:=W 2 (vi a::W 1 (vi c::Q [A D t.r0,A D t.r1,A D t.r2,A D t.r3,A D t.r4,A D t.r5,A D t.r6,G (C t.tr) (H cI t.tr),G (C t.ws) (H cW t.ws),G (C t.ar) (H AH t.ar),G (C t.po) (H p t.po),G (C t.fl) (H cF t.fl),G (C t.zo) (H cZ t.zo),G (C t.sa) (H AU t.sa),G (C t.la) (H cL t.la),G (C t.ra) (H cR t.ra),G (C t.dr) (H cD t.dr),G (C t.ln) (H cK t.ln)]::Q [A D s.k,G (C s.bs) (H cB s.bs),G (C s.ks) (H cI s.ks),G (C s.ss) (H cI s.ss),G (C s.az) (H cO s.az),A Bm s.co]::W 1 (Q [A D px,A D py]::W 1 (X (I z)::W 11 (X (G (C t.ws) (H cW t.ws))::vi (C t.ws:Int)::vi i::W 136 [])))))
end
def dW:ICode := .region false [o1 21 (.adr 5 5 8),o1 22 (.ld 21 5 1 true),o1 23 (.len (.t 22)),o1 24 (.mov (.c (.int .i64 0)))]
theorem mW(t:Tbl)(s:St)(lv px py xc:Int)(z:Bool)   : w dW (Gw t s lv px py xc z) .norm (CP t s lv px py xc z 0):=B b [] UZ a0
def FI:ICode:=CG Q7 94 52
section
variable(t:Tbl)(s:St)(a px py c:Int)(z:Bool)(i:Int)
theorem WI(d:Bool)(e:El)(c1:E (i<C t.ws)=true)(c2:(e.n 1==a)=true)(c3:((e.n 0) != 2)=true)(c4:d=true)(f:0<=i/\i<C t.ws)(g:Ae (R (L i*13) (H cW t.ws)) 0 13 false=some (M [.str e.s,A D (e.n 0),A D (e.n 1),A D (e.n 2),A D (e.n 3),A D (e.n 4),A D (e.n 5),A D (e.n 6),A D (e.n 7),A D (e.n 8),A D (e.n 9),A D (e.n 10),A D (e.n 11)]))(j:RQ 54 [M [A D s.k,G (C s.bs) (H cB s.bs),G (C s.ks) (H cI s.ks),G (C s.ss) (H cI s.ss),G (C s.az) (H cO s.az),A Bm s.co],A D i] (I d)):w FI (CP t s a px py c z i) .norm (CP t s a px py c z (J D (i+1))):=B b [q,.v (M [.str e.s,A D (e.n 0),A D (e.n 1),A D (e.n 2),A D (e.n 3),A D (e.n 4),A D (e.n 5),A D (e.n 6),A D (e.n 7),A D (e.n 8),A D (e.n 9),A D (e.n 10),A D (e.n 11)]),q,q,.r (I d),Y,Y] UZ (US c1 f g c2 c3 j (bL c4) Dr)
theorem WJ(h d:Bool)(e:El)(c1:E (i<C t.ws)=true)(c2:(e.n 1==a)=true)(c3:((e.n 0) != 2)=true)(c4:d=false)(l:h=true)(f:0<=i/\i<C t.ws)(g:Ae (R (L i*13) (H cW t.ws)) 0 13 false=some (M [.str e.s,A D (e.n 0),A D (e.n 1),A D (e.n 2),A D (e.n 3),A D (e.n 4),A D (e.n 5),A D (e.n 6),A D (e.n 7),A D (e.n 8),A D (e.n 9),A D (e.n 10),A D (e.n 11)]))(j:RQ 54 [M [A D s.k,G (C s.bs) (H cB s.bs),G (C s.ks) (H cI s.ks),G (C s.ss) (H cI s.ss),G (C s.az) (H cO s.az),A Bm s.co],A D i] (I d))(m:RQ 57 [M [A D px,A D py],M [A D (e.n 2),A D (e.n 3)],M [A D (e.n 4),A D (e.n 5)],A D t.r0] (I h)):w FI (CP t s a px py c z i) .ret (CP t s a px py c true i):=B b [q,.v (M [.str e.s,A D (e.n 0),A D (e.n 1),A D (e.n 2),A D (e.n 3),A D (e.n 4),A D (e.n 5),A D (e.n 6),A D (e.n 7),A D (e.n 8),A D (e.n 9),A D (e.n 10),A D (e.n 11)]),q,q,.r (I d),q,.r (I h),q] UZ (Y3 c1 f g c2 c3 j (bM c4) m l)
theorem WK(h d:Bool)(e:El)(c1:E (i<C t.ws)=true)(c2:(e.n 1==a)=true)(c3:((e.n 0) != 2)=true)(c4:d=false)(l:h=false)(f:0<=i/\i<C t.ws)(g:Ae (R (L i*13) (H cW t.ws)) 0 13 false=some (M [.str e.s,A D (e.n 0),A D (e.n 1),A D (e.n 2),A D (e.n 3),A D (e.n 4),A D (e.n 5),A D (e.n 6),A D (e.n 7),A D (e.n 8),A D (e.n 9),A D (e.n 10),A D (e.n 11)]))(j:RQ 54 [M [A D s.k,G (C s.bs) (H cB s.bs),G (C s.ks) (H cI s.ks),G (C s.ss) (H cI s.ss),G (C s.az) (H cO s.az),A Bm s.co],A D i] (I d))(m:RQ 57 [M [A D px,A D py],M [A D (e.n 2),A D (e.n 3)],M [A D (e.n 4),A D (e.n 5)],A D t.r0] (I h)):w FI (CP t s a px py c z i) .norm (CP t s a px py c z (J D (i+1))):=B b [q,.v (M [.str e.s,A D (e.n 0),A D (e.n 1),A D (e.n 2),A D (e.n 3),A D (e.n 4),A D (e.n 5),A D (e.n 6),A D (e.n 7),A D (e.n 8),A D (e.n 9),A D (e.n 10),A D (e.n 11)]),q,q,.r (I d),q,.r (I h),Y] UZ (Y3 c1 f g c2 c3 j (bM c4) m l)
theorem WL(e:El)(c1:E (i<C t.ws)=true)(c2:(e.n 1==a)=true)(c3:((e.n 0) != 2)=false)(f:0<=i/\i<C t.ws)(g:Ae (R (L i*13) (H cW t.ws)) 0 13 false=some (M [.str e.s,A D (e.n 0),A D (e.n 1),A D (e.n 2),A D (e.n 3),A D (e.n 4),A D (e.n 5),A D (e.n 6),A D (e.n 7),A D (e.n 8),A D (e.n 9),A D (e.n 10),A D (e.n 11)])):w FI (CP t s a px py c z i) .norm (CP t s a px py c z (J D (i+1))):=B b [q,.v (M [.str e.s,A D (e.n 0),A D (e.n 1),A D (e.n 2),A D (e.n 3),A D (e.n 4),A D (e.n 5),A D (e.n 6),A D (e.n 7),A D (e.n 8),A D (e.n 9),A D (e.n 10),A D (e.n 11)]),q,Y,Y,Y] UZ (Jn c1 f g c2 c3 Dr Dr)
theorem WM(e:El)(c1:E (i<C t.ws)=true)(c2:(e.n 1==a)=false)(f:0<=i/\i<C t.ws)(g:Ae (R (L i*13) (H cW t.ws)) 0 13 false=some (M [.str e.s,A D (e.n 0),A D (e.n 1),A D (e.n 2),A D (e.n 3),A D (e.n 4),A D (e.n 5),A D (e.n 6),A D (e.n 7),A D (e.n 8),A D (e.n 9),A D (e.n 10),A D (e.n 11)])):w FI (CP t s a px py c z i) .norm (CP t s a px py c z (J D (i+1))):=B b [q,.v (M [.str e.s,A D (e.n 0),A D (e.n 1),A D (e.n 2),A D (e.n 3),A D (e.n 4),A D (e.n 5),A D (e.n 6),A D (e.n 7),A D (e.n 8),A D (e.n 9),A D (e.n 10),A D (e.n 11)]),Y,Y,Y,Y] UZ (Jn c1 f g c2 Dr Dr Dr)
theorem WN(c1:E (i<C t.ws)=false):w FI (CP t s a px py c z i) xZ0 (CP t s a px py c z i):=B b [Y] UZ (Bp c1)
def D7:V:=W 2 (vi a::W 1 (vi c::Q [A D t.r0,A D t.r1,A D t.r2,A D t.r3,A D t.r4,A D t.r5,A D t.r6,G (C t.tr) (H cI t.tr),G (C t.ws) (H cW t.ws),G (C t.ar) (H AH t.ar),G (C t.po) (H p t.po),G (C t.fl) (H cF t.fl),G (C t.zo) (H cZ t.zo),G (C t.sa) (H AU t.sa),G (C t.la) (H cL t.la),G (C t.ra) (H cR t.ra),G (C t.dr) (H cD t.dr),G (C t.ln) (H cK t.ln)]::Q [A D s.k,G (C s.bs) (H cB s.bs),G (C s.ks) (H cI s.ks),G (C s.ss) (H cI s.ss),G (C s.az) (H cO s.az),A Bm s.co]::W 1 (Q [A D px,A D py]::W 1 (X (I z)::W 45 (X (G (C t.ar) (H AH t.ar))::vi (C t.ar:Int)::vi i::W 102 [])))))
end
def dX:ICode := .region false [o1 55 (.adr 5 5 9),o1 56 (.ld 55 5 1 true),o1 57 (.len (.t 56)),o1 58 (.mov (.c (.int .i64 0)))]
theorem mX(t:Tbl)(s:St)(lv px py xc:Int)(z:Bool)   : w dX (Gw t s lv px py xc z) .norm (D7 t s lv px py xc z 0):=B b [] jG a0
def G6:ICode:=CG Q7 93 116
section
variable(t:Tbl)(s:St)(a px py c:Int)(z:Bool)(i:Int)
theorem WO(d:Bool)(e:El)(c1:E (i<C t.ar)=true)(c2:(e.n 0==a)=true)(c3:d=true)(f:0<=i/\i<C t.ar)(g:Ae (R (L i*12) (H AH t.ar)) 0 12 false=some (M [.str e.s,A D (e.n 0),A D (e.n 1),A D (e.n 2),A D (e.n 3),A D (e.n 4),A D (e.n 5),A D (e.n 6),A D (e.n 7),A D (e.n 8),A D (e.n 9),A D (e.n 10)]))(h:RQ 61 [M [A D px,A D py],M [.str e.s,A D (e.n 0),A D (e.n 1),A D (e.n 2),A D (e.n 3),A D (e.n 4),A D (e.n 5),A D (e.n 6),A D (e.n 7),A D (e.n 8),A D (e.n 9),A D (e.n 10)],A D t.r0] (I d)):w G6 (D7 t s a px py c z i) .ret (D7 t s a px py c true i):=B b [q,.v (M [.str e.s,A D (e.n 0),A D (e.n 1),A D (e.n 2),A D (e.n 3),A D (e.n 4),A D (e.n 5),A D (e.n 6),A D (e.n 7),A D (e.n 8),A D (e.n 9),A D (e.n 10)]),q,.r (I d),q] jG (Kf c1 f g c2 h c3)
theorem WP(d:Bool)(e:El)(c1:E (i<C t.ar)=true)(c2:(e.n 0==a)=true)(c3:d=false)(f:0<=i/\i<C t.ar)(g:Ae (R (L i*12) (H AH t.ar)) 0 12 false=some (M [.str e.s,A D (e.n 0),A D (e.n 1),A D (e.n 2),A D (e.n 3),A D (e.n 4),A D (e.n 5),A D (e.n 6),A D (e.n 7),A D (e.n 8),A D (e.n 9),A D (e.n 10)]))(h:RQ 61 [M [A D px,A D py],M [.str e.s,A D (e.n 0),A D (e.n 1),A D (e.n 2),A D (e.n 3),A D (e.n 4),A D (e.n 5),A D (e.n 6),A D (e.n 7),A D (e.n 8),A D (e.n 9),A D (e.n 10)],A D t.r0] (I d)):w G6 (D7 t s a px py c z i) .norm (D7 t s a px py c z (J D (i+1))):=B b [q,.v (M [.str e.s,A D (e.n 0),A D (e.n 1),A D (e.n 2),A D (e.n 3),A D (e.n 4),A D (e.n 5),A D (e.n 6),A D (e.n 7),A D (e.n 8),A D (e.n 9),A D (e.n 10)]),q,.r (I d),Y] jG (Kf c1 f g c2 h c3)
theorem WQ(e:El)(c1:E (i<C t.ar)=true)(c2:(e.n 0==a)=false)(f:0<=i/\i<C t.ar)(g:Ae (R (L i*12) (H AH t.ar)) 0 12 false=some (M [.str e.s,A D (e.n 0),A D (e.n 1),A D (e.n 2),A D (e.n 3),A D (e.n 4),A D (e.n 5),A D (e.n 6),A D (e.n 7),A D (e.n 8),A D (e.n 9),A D (e.n 10)])):w G6 (D7 t s a px py c z i) .norm (D7 t s a px py c z (J D (i+1))):=B b [q,.v (M [.str e.s,A D (e.n 0),A D (e.n 1),A D (e.n 2),A D (e.n 3),A D (e.n 4),A D (e.n 5),A D (e.n 6),A D (e.n 7),A D (e.n 8),A D (e.n 9),A D (e.n 10)]),Y,Y] jG (GK c1 f g c2 Dr)
theorem WR(c1:E (i<C t.ar)=false):w G6 (D7 t s a px py c z i) xZ2 (D7 t s a px py c z i):=B b [Y] jG (Bp c1)
def D8:V:=W 2 (vi a::W 1 (vi c::Q [A D t.r0,A D t.r1,A D t.r2,A D t.r3,A D t.r4,A D t.r5,A D t.r6,G (C t.tr) (H cI t.tr),G (C t.ws) (H cW t.ws),G (C t.ar) (H AH t.ar),G (C t.po) (H p t.po),G (C t.fl) (H cF t.fl),G (C t.zo) (H cZ t.zo),G (C t.sa) (H AU t.sa),G (C t.la) (H cL t.la),G (C t.ra) (H cR t.ra),G (C t.dr) (H cD t.dr),G (C t.ln) (H cK t.ln)]::Q [A D s.k,G (C s.bs) (H cB s.bs),G (C s.ks) (H cI s.ks),G (C s.ss) (H cI s.ss),G (C s.az) (H cO s.az),A Bm s.co]::W 1 (Q [A D px,A D py]::W 1 (X (I z)::W 64 (X (G (C t.po) (H p t.po))::vi (C t.po:Int)::vi i::W 83 [])))))
end
def dY:ICode := .region false [o1 74 (.adr 5 5 10),o1 75 (.ld 74 5 1 true),o1 76 (.len (.t 75)),o1 77 (.mov (.c (.int .i64 0)))]
theorem mY(t:Tbl)(s:St)(lv px py xc:Int)(z:Bool)   : w dY (Gw t s lv px py xc z) .norm (D8 t s lv px py xc z 0):=B b [] jH a0
def G7:ICode:=CG Q7 92 244
section
variable(t:Tbl)(s:St)(a px py c:Int)(z:Bool)(i:Int)
theorem WS(d:Bool)(e:El)(c1:E (i<C t.po)=true)(c2:(e.n 0==a)=true)(c3:d=true)(f:0<=i/\i<C t.po)(g:Ae (R (L i*11) (H p t.po)) 0 11 false=some (M [.str e.s,A D (e.n 0),A D (e.n 1),A D (e.n 2),A D (e.n 3),A D (e.n 4),A D (e.n 5),A D (e.n 6),A D (e.n 7),A D (e.n 8),A D (e.n 9)]))(h:RQ 62 [M [A D px,A D py],M [A D (e.n 1),A D (e.n 2)],A D (J D (t.r0+e.n 3))] (I d)):w G7 (D8 t s a px py c z i) .ret (D8 t s a px py c true i):=B b [q,.v (M [.str e.s,A D (e.n 0),A D (e.n 1),A D (e.n 2),A D (e.n 3),A D (e.n 4),A D (e.n 5),A D (e.n 6),A D (e.n 7),A D (e.n 8),A D (e.n 9)]),q,.r (I d),q] jH (Kf c1 f g c2 h c3)
theorem WT(d:Bool)(e:El)(c1:E (i<C t.po)=true)(c2:(e.n 0==a)=true)(c3:d=false)(f:0<=i/\i<C t.po)(g:Ae (R (L i*11) (H p t.po)) 0 11 false=some (M [.str e.s,A D (e.n 0),A D (e.n 1),A D (e.n 2),A D (e.n 3),A D (e.n 4),A D (e.n 5),A D (e.n 6),A D (e.n 7),A D (e.n 8),A D (e.n 9)]))(h:RQ 62 [M [A D px,A D py],M [A D (e.n 1),A D (e.n 2)],A D (J D (t.r0+e.n 3))] (I d)):w G7 (D8 t s a px py c z i) .norm (D8 t s a px py c z (J D (i+1))):=B b [q,.v (M [.str e.s,A D (e.n 0),A D (e.n 1),A D (e.n 2),A D (e.n 3),A D (e.n 4),A D (e.n 5),A D (e.n 6),A D (e.n 7),A D (e.n 8),A D (e.n 9)]),q,.r (I d),Y] jH (Kf c1 f g c2 h c3)
theorem WU(e:El)(c1:E (i<C t.po)=true)(c2:(e.n 0==a)=false)(f:0<=i/\i<C t.po)(g:Ae (R (L i*11) (H p t.po)) 0 11 false=some (M [.str e.s,A D (e.n 0),A D (e.n 1),A D (e.n 2),A D (e.n 3),A D (e.n 4),A D (e.n 5),A D (e.n 6),A D (e.n 7),A D (e.n 8),A D (e.n 9)])):w G7 (D8 t s a px py c z i) .norm (D8 t s a px py c z (J D (i+1))):=B b [q,.v (M [.str e.s,A D (e.n 0),A D (e.n 1),A D (e.n 2),A D (e.n 3),A D (e.n 4),A D (e.n 5),A D (e.n 6),A D (e.n 7),A D (e.n 8),A D (e.n 9)]),Y,Y] jH (GK c1 f g c2 Dr)
theorem WV(c1:E (i<C t.po)=false):w G7 (D8 t s a px py c z i) xZ4 (D8 t s a px py c z i):=B b [Y] jH (Bp c1)
def D9:V:=W 2 (vi a::W 1 (vi c::Q [A D t.r0,A D t.r1,A D t.r2,A D t.r3,A D t.r4,A D t.r5,A D t.r6,G (C t.tr) (H cI t.tr),G (C t.ws) (H cW t.ws),G (C t.ar) (H AH t.ar),G (C t.po) (H p t.po),G (C t.fl) (H cF t.fl),G (C t.zo) (H cZ t.zo),G (C t.sa) (H AU t.sa),G (C t.la) (H cL t.la),G (C t.ra) (H cR t.ra),G (C t.dr) (H cD t.dr),G (C t.ln) (H cK t.ln)]::Q [A D s.k,G (C s.bs) (H cB s.bs),G (C s.ks) (H cI s.ks),G (C s.ss) (H cI s.ss),G (C s.az) (H cO s.az),A Bm s.co]::W 1 (Q [A D px,A D py]::W 1 (X (I z)::W 87 (X (G (C t.fl) (H cF t.fl))::vi (C t.fl:Int)::vi i::W 60 [])))))
end
def dZ:ICode := .region false [o1 97 (.adr 5 5 11),o1 98 (.ld 97 5 1 true),o1 99 (.len (.t 98)),o1 100 (.mov (.c (.int .i64 0)))]
theorem mZ(t:Tbl)(s:St)(lv px py xc:Int)(z:Bool)   : w dZ (Gw t s lv px py xc z) .norm (D9 t s lv px py xc z 0):=B b [] jI a0
def G8:ICode:=CG Q7 91 500
section
variable(t:Tbl)(s:St)(a px py c:Int)(z:Bool)(i:Int)
theorem WW(d:Bool)(e:El)(x:Int)(c1:E (i<C t.fl)=true)(c2:(e.n 0==a)=true)(c3:E (i<C s.ks)=true)(c4:d=true)(f:0<=i/\i<C t.fl)(g:0<=i/\i<C s.ks)(h:Ae (R (L i*15) (H cF t.fl)) 0 15 false=some (M [.str e.s,A D (e.n 0),A D (e.n 1),A D (e.n 2),A D (e.n 3),I e.b,A D (e.n 4),A D (e.n 5),A D (e.n 6),A D (e.n 7),A D (e.n 8),A D (e.n 9),A D (e.n 10),A D (e.n 11),A D (e.n 12)]))(j:Ae (R (L i*1) (H cI s.ks)) 0 1 true=some (A D x))(l:RQ 63 [M [A D px,A D py],M [.str e.s,A D (e.n 0),A D (e.n 1),A D (e.n 2),A D (e.n 3),I e.b,A D (e.n 4),A D (e.n 5),A D (e.n 6),A D (e.n 7),A D (e.n 8),A D (e.n 9),A D (e.n 10),A D (e.n 11),A D (e.n 12)],A D x,A D t.r0] (I d)):w G8 (D9 t s a px py c z i) .ret (D9 t s a px py c true i):=B b [q,.v (M [.str e.s,A D (e.n 0),A D (e.n 1),A D (e.n 2),A D (e.n 3),I e.b,A D (e.n 4),A D (e.n 5),A D (e.n 6),A D (e.n 7),A D (e.n 8),A D (e.n 9),A D (e.n 10),A D (e.n 11),A D (e.n 12)]),q,q,.v (A D x),.r (I d),q] jI (Y3 c1 f h c2 c3 g j l c4)
theorem WX(d:Bool)(e:El)(x:Int)(c1:E (i<C t.fl)=true)(c2:(e.n 0==a)=true)(c3:E (i<C s.ks)=true)(c4:d=false)(f:0<=i/\i<C t.fl)(g:0<=i/\i<C s.ks)(h:Ae (R (L i*15) (H cF t.fl)) 0 15 false=some (M [.str e.s,A D (e.n 0),A D (e.n 1),A D (e.n 2),A D (e.n 3),I e.b,A D (e.n 4),A D (e.n 5),A D (e.n 6),A D (e.n 7),A D (e.n 8),A D (e.n 9),A D (e.n 10),A D (e.n 11),A D (e.n 12)]))(j:Ae (R (L i*1) (H cI s.ks)) 0 1 true=some (A D x))(l:RQ 63 [M [A D px,A D py],M [.str e.s,A D (e.n 0),A D (e.n 1),A D (e.n 2),A D (e.n 3),I e.b,A D (e.n 4),A D (e.n 5),A D (e.n 6),A D (e.n 7),A D (e.n 8),A D (e.n 9),A D (e.n 10),A D (e.n 11),A D (e.n 12)],A D x,A D t.r0] (I d)):w G8 (D9 t s a px py c z i) .norm (D9 t s a px py c z (J D (i+1))):=B b [q,.v (M [.str e.s,A D (e.n 0),A D (e.n 1),A D (e.n 2),A D (e.n 3),I e.b,A D (e.n 4),A D (e.n 5),A D (e.n 6),A D (e.n 7),A D (e.n 8),A D (e.n 9),A D (e.n 10),A D (e.n 11),A D (e.n 12)]),q,q,.v (A D x),.r (I d),Y] jI (Y3 c1 f h c2 c3 g j l c4)
theorem WY(e:El)(c1:E (i<C t.fl)=true)(c2:(e.n 0==a)=false)(f:0<=i/\i<C t.fl)(g:Ae (R (L i*15) (H cF t.fl)) 0 15 false=some (M [.str e.s,A D (e.n 0),A D (e.n 1),A D (e.n 2),A D (e.n 3),I e.b,A D (e.n 4),A D (e.n 5),A D (e.n 6),A D (e.n 7),A D (e.n 8),A D (e.n 9),A D (e.n 10),A D (e.n 11),A D (e.n 12)])):w G8 (D9 t s a px py c z i) .norm (D9 t s a px py c z (J D (i+1))):=B b [q,.v (M [.str e.s,A D (e.n 0),A D (e.n 1),A D (e.n 2),A D (e.n 3),I e.b,A D (e.n 4),A D (e.n 5),A D (e.n 6),A D (e.n 7),A D (e.n 8),A D (e.n 9),A D (e.n 10),A D (e.n 11),A D (e.n 12)]),Y,Y,Y] jI (Kf c1 f g c2 Dr Dr)
theorem WZ(c1:E (i<C t.fl)=false):w G8 (D9 t s a px py c z i) xZ6 (D9 t s a px py c z i):=B b [Y] jI (Bp c1)
def CQ:V:=W 2 (vi a::W 1 (vi c::Q [A D t.r0,A D t.r1,A D t.r2,A D t.r3,A D t.r4,A D t.r5,A D t.r6,G (C t.tr) (H cI t.tr),G (C t.ws) (H cW t.ws),G (C t.ar) (H AH t.ar),G (C t.po) (H p t.po),G (C t.fl) (H cF t.fl),G (C t.zo) (H cZ t.zo),G (C t.sa) (H AU t.sa),G (C t.la) (H cL t.la),G (C t.ra) (H cR t.ra),G (C t.dr) (H cD t.dr),G (C t.ln) (H cK t.ln)]::Q [A D s.k,G (C s.bs) (H cB s.bs),G (C s.ks) (H cI s.ks),G (C s.ss) (H cI s.ss),G (C s.az) (H cO s.az),A Bm s.co]::W 1 (Q [A D px,A D py]::W 1 (X (I z)::W 119 (X (G (C s.bs) (H cB s.bs))::vi (C s.bs:Int)::vi i::W 28 [])))))
end
def eA:ICode := .region false [o1 129 (.adr 6 6 1),o1 130 (.ld 129 6 1 true),o1 131 (.len (.t 130)),o1 132 (.mov (.c (.int .i64 0)))]
theorem nA(t:Tbl)(s:St)(lv px py xc:Int)(z:Bool)   : w eA (Gw t s lv px py xc z) .norm (CQ t s lv px py xc z 0):=B b [] UX a0
def FJ:ICode:=CG Q7 90 1012
section
variable(t:Tbl)(s:St)(c px py a:Int)(z:Bool)(i:Int)
theorem W_(g:Bool)(e:El)(c1:E (i<C s.bs)=true)(c2:(i != a)=true)(c3:((e.n 0) != 0)=true)(c4:(e.n 2==c)=true)(h:g=true)(d:0<=i/\i<C s.bs)(f:Ae (R (L i*7) (H cB s.bs)) 0 7 false=some (M [A D (e.n 0),A D (e.n 1),A D (e.n 2),A D (e.n 3),A D (e.n 4),A D (e.n 5),A D (e.n 6)]))(j:RQ 64 [M [A D px,A D py],M [A D (e.n 3),A D (e.n 4)],A D (J D (2*t.r0))] (I g)):w FJ (CQ t s c px py a z i) .ret (CQ t s c px py a true i):=B b [q,.v (M [A D (e.n 0),A D (e.n 1),A D (e.n 2),A D (e.n 3),A D (e.n 4),A D (e.n 5),A D (e.n 6)]),q,q,q,.r (I g),q] UX (US c1 d f c2 c3 c4 j h)
theorem Xa(g:Bool)(e:El)(c1:E (i<C s.bs)=true)(c2:(i != a)=true)(c3:((e.n 0) != 0)=true)(c4:(e.n 2==c)=true)(h:g=false)(d:0<=i/\i<C s.bs)(f:Ae (R (L i*7) (H cB s.bs)) 0 7 false=some (M [A D (e.n 0),A D (e.n 1),A D (e.n 2),A D (e.n 3),A D (e.n 4),A D (e.n 5),A D (e.n 6)]))(j:RQ 64 [M [A D px,A D py],M [A D (e.n 3),A D (e.n 4)],A D (J D (2*t.r0))] (I g)):w FJ (CQ t s c px py a z i) .norm (CQ t s c px py a z (J D (i+1))):=B b [q,.v (M [A D (e.n 0),A D (e.n 1),A D (e.n 2),A D (e.n 3),A D (e.n 4),A D (e.n 5),A D (e.n 6)]),q,q,q,.r (I g),Y] UX (US c1 d f c2 c3 c4 j h)
theorem Xb(e:El)(c1:E (i<C s.bs)=true)(c2:(i != a)=true)(c3:((e.n 0) != 0)=true)(c4:(e.n 2==c)=false)(d:0<=i/\i<C s.bs)(f:Ae (R (L i*7) (H cB s.bs)) 0 7 false=some (M [A D (e.n 0),A D (e.n 1),A D (e.n 2),A D (e.n 3),A D (e.n 4),A D (e.n 5),A D (e.n 6)])):w FJ (CQ t s c px py a z i) .norm (CQ t s c px py a z (J D (i+1))):=B b [q,.v (M [A D (e.n 0),A D (e.n 1),A D (e.n 2),A D (e.n 3),A D (e.n 4),A D (e.n 5),A D (e.n 6)]),q,q,Y,Y] UX (Jn c1 d f c2 c3 c4 Dr)
theorem Xc(e:El)(c1:E (i<C s.bs)=true)(c2:(i != a)=true)(c3:((e.n 0) != 0)=false)(d:0<=i/\i<C s.bs)(f:Ae (R (L i*7) (H cB s.bs)) 0 7 false=some (M [A D (e.n 0),A D (e.n 1),A D (e.n 2),A D (e.n 3),A D (e.n 4),A D (e.n 5),A D (e.n 6)])):w FJ (CQ t s c px py a z i) .norm (CQ t s c px py a z (J D (i+1))):=B b [q,.v (M [A D (e.n 0),A D (e.n 1),A D (e.n 2),A D (e.n 3),A D (e.n 4),A D (e.n 5),A D (e.n 6)]),q,Y,Y,Y] UX (Jn c1 d f c2 c3 Dr Dr)
theorem Xd(e:El)(c1:E (i<C s.bs)=true)(c2:(i != a)=false)(d:0<=i/\i<C s.bs)(f:Ae (R (L i*7) (H cB s.bs)) 0 7 false=some (M [A D (e.n 0),A D (e.n 1),A D (e.n 2),A D (e.n 3),A D (e.n 4),A D (e.n 5),A D (e.n 6)])):w FJ (CQ t s c px py a z i) .norm (CQ t s c px py a z (J D (i+1))):=B b [q,.v (M [A D (e.n 0),A D (e.n 1),A D (e.n 2),A D (e.n 3),A D (e.n 4),A D (e.n 5),A D (e.n 6)]),Y,Y,Y,Y] UX (Jn c1 d f c2 Dr Dr Dr)
theorem Xe(c1:E (i<C s.bs)=false):w FJ (CQ t s c px py a z i) xZ8 (CQ t s c px py a z i):=B b [Y] UX (Bp c1)
end
def nB:ICode := .seq (.region false [o1 10 (.mov (.c (.bool false)))]) (.ret)
theorem eB(t:Tbl)(s:St)(a px py c:Int)(z:Bool)   : w nB (Gw t s a px py c z) .ret (IY false):=B b [] [10] a0
theorem Anf:(iF g Q7).body = .seq zF (.seq (.seq dW (.block 0 (.loop FI))) (.seq (.seq dX (.block 2 (.loop G6))) (.seq (.seq dY (.block 4 (.loop G7))) (.seq (.seq dZ (.block 6 (.loop G8))) (.seq (.seq eA (.block 8 (.loop FJ))) nB))))):=by kernel_rfl
def Gx(t:Tbl)(s:St)(lv px py xc:Int)(z:Bool):V:=W 2 (vi lv::W 1 (vi xc::Q [A D t.r0,A D t.r1,A D t.r2,A D t.r3,A D t.r4,A D t.r5,A D t.r6,G (C t.tr) (H cI t.tr),G (C t.ws) (H cW t.ws),G (C t.ar) (H AH t.ar),G (C t.po) (H p t.po),G (C t.fl) (H cF t.fl),G (C t.zo) (H cZ t.zo),G (C t.sa) (H AU t.sa),G (C t.la) (H cL t.la),G (C t.ra) (H cR t.ra),G (C t.dr) (H cD t.dr),G (C t.ln) (H cK t.ln)]::Q [A D s.k,G (C s.bs) (H cB s.bs),G (C s.ks) (H cI s.ks),G (C s.ss) (H cI s.ss),G (C s.az) (H cO s.az),A Bm s.co]::W 1 (Q [A D px,A D py]::W 1 (X (I z)::W 186 []))))
def IZ(z:Bool):V:=W 10 (X (I z)::W 186 [])
def zG:ICode := .region false [o1 5 (.box (.t 0) [19,25,60,65,71,81,86,91,97,107,113,115,125,138,148,158,192]),o1 6 (.box (.t 1) [41,46,131,153,163,169]),o1 8 (.box (.t 3) []),o1 10 (.mov (.c (.bool false)))]
section
variable(t:Tbl)(s:St)(a px py c:Int)
theorem nC   : w zG (CX (iF g Q8) [M [A D t.r0,A D t.r1,A D t.r2,A D t.r3,A D t.r4,A D t.r5,A D t.r6,G (C t.tr) (H cI t.tr),G (C t.ws) (H cW t.ws),G (C t.ar) (H AH t.ar),G (C t.po) (H p t.po),G (C t.fl) (H cF t.fl),G (C t.zo) (H cZ t.zo),G (C t.sa) (H AU t.sa),G (C t.la) (H cL t.la),G (C t.ra) (H cR t.ra),G (C t.dr) (H cD t.dr),G (C t.ln) (H cK t.ln)],M [A D s.k,G (C s.bs) (H cB s.bs),G (C s.ks) (H cI s.ks),G (C s.ss) (H cI s.ss),G (C s.az) (H cO s.az),A Bm s.co],A D a,M [A D px,A D py],A D c]) .norm (Gx t s a px py c false):=B b [] [2,4,5,6,8,10] a0
def CS(z:Bool)(i:Int):V:=W 2 (vi a::W 1 (vi c::Q [A D t.r0,A D t.r1,A D t.r2,A D t.r3,A D t.r4,A D t.r5,A D t.r6,G (C t.tr) (H cI t.tr),G (C t.ws) (H cW t.ws),G (C t.ar) (H AH t.ar),G (C t.po) (H p t.po),G (C t.fl) (H cF t.fl),G (C t.zo) (H cZ t.zo),G (C t.sa) (H AU t.sa),G (C t.la) (H cL t.la),G (C t.ra) (H cR t.ra),G (C t.dr) (H cD t.dr),G (C t.ln) (H cK t.ln)]::Q [A D s.k,G (C s.bs) (H cB s.bs),G (C s.ks) (H cI s.ks),G (C s.ss) (H cI s.ss),G (C s.az) (H cO s.az),A Bm s.co]::W 1 (Q [A D px,A D py]::W 1 (X (I z)::vi i::W 185 []))))
end
def eC:ICode := .region false [o1 11 (.mov (.c (.int .i64 0)))]
theorem nD(t:Tbl)(s:St)(lv px py xc:Int)(z:Bool)   : w eC (Gx t s lv px py xc z) .norm (CS t s lv px py xc z 0):=B b [] UW a0
def FK:ICode:=CG Q8 94 52
section
variable(t:Tbl)(s:St)(a px py c:Int)(z:Bool)(i:Int)
theorem Xf(av:Bool)(e:El)(c1:E (i<C t.ws)=true)(c2:(e.n 1==a)=true)(c3:((e.n 0) != 2)=true)(c4:E (i>=(C s.az:Int))=false)(h:av=true)(d:0<=i/\i<C t.ws)(f:0<=i/\i<C s.az)(j:Ae (R (L i*13) (H cW t.ws)) 0 13 false=some (M [.str e.s,A D (e.n 0),A D (e.n 1),A D (e.n 2),A D (e.n 3),A D (e.n 4),A D (e.n 5),A D (e.n 6),A D (e.n 7),A D (e.n 8),A D (e.n 9),A D (e.n 10),A D (e.n 11)]))(l:Ae (R (L i*1) (H cO s.az)) 0 1 true=some (I av)):w FK (CS t s a px py c z i) .norm (CS t s a px py c z (J D (i+1))):=B b [q,.v (M [.str e.s,A D (e.n 0),A D (e.n 1),A D (e.n 2),A D (e.n 3),A D (e.n 4),A D (e.n 5),A D (e.n 6),A D (e.n 7),A D (e.n 8),A D (e.n 9),A D (e.n 10),A D (e.n 11)]),q,q,Y,.v (I av),q,Y,Y,Y] UW (Jc c1 d j c2 c3 c4 f l c3 c4 (bL h) Dr)
theorem Xg(g av:Bool)(e:El)(c1:E (i<C t.ws)=true)(c2:(e.n 1==a)=true)(c3:((e.n 0) != 2)=true)(c4:E (i>=(C s.az:Int))=false)(h:av=false)(m:g=true)(d:0<=i/\i<C t.ws)(f:0<=i/\i<C s.az)(j:Ae (R (L i*13) (H cW t.ws)) 0 13 false=some (M [.str e.s,A D (e.n 0),A D (e.n 1),A D (e.n 2),A D (e.n 3),A D (e.n 4),A D (e.n 5),A D (e.n 6),A D (e.n 7),A D (e.n 8),A D (e.n 9),A D (e.n 10),A D (e.n 11)]))(l:Ae (R (L i*1) (H cO s.az)) 0 1 true=some (I av))(o:RQ 60 [M [A D px,A D py],M [A D (e.n 2),A D (e.n 3)],M [A D (e.n 4),A D (e.n 5)],A D t.r0] (I g)):w FK (CS t s a px py c z i) .ret (CS t s a px py c true i):=B b [q,.v (M [.str e.s,A D (e.n 0),A D (e.n 1),A D (e.n 2),A D (e.n 3),A D (e.n 4),A D (e.n 5),A D (e.n 6),A D (e.n 7),A D (e.n 8),A D (e.n 9),A D (e.n 10),A D (e.n 11)]),q,q,Y,.v (I av),q,Y,q,.r (I g),q] UW (LX c1 d j c2 c3 c4 f l (GK c3 c4 (bM h) o m))
theorem Xh(g av:Bool)(e:El)(c1:E (i<C t.ws)=true)(c2:(e.n 1==a)=true)(c3:((e.n 0) != 2)=true)(c4:E (i>=(C s.az:Int))=false)(h:av=false)(m:g=false)(d:0<=i/\i<C t.ws)(f:0<=i/\i<C s.az)(j:Ae (R (L i*13) (H cW t.ws)) 0 13 false=some (M [.str e.s,A D (e.n 0),A D (e.n 1),A D (e.n 2),A D (e.n 3),A D (e.n 4),A D (e.n 5),A D (e.n 6),A D (e.n 7),A D (e.n 8),A D (e.n 9),A D (e.n 10),A D (e.n 11)]))(l:Ae (R (L i*1) (H cO s.az)) 0 1 true=some (I av))(o:RQ 60 [M [A D px,A D py],M [A D (e.n 2),A D (e.n 3)],M [A D (e.n 4),A D (e.n 5)],A D t.r0] (I g)):w FK (CS t s a px py c z i) .norm (CS t s a px py c z (J D (i+1))):=B b [q,.v (M [.str e.s,A D (e.n 0),A D (e.n 1),A D (e.n 2),A D (e.n 3),A D (e.n 4),A D (e.n 5),A D (e.n 6),A D (e.n 7),A D (e.n 8),A D (e.n 9),A D (e.n 10),A D (e.n 11)]),q,q,Y,.v (I av),q,Y,q,.r (I g),Y] UW (LX c1 d j c2 c3 c4 f l (GK c3 c4 (bM h) o m))
theorem Xi(e:El)(c1:E (i<C t.ws)=true)(c2:(e.n 1==a)=true)(c3:((e.n 0) != 2)=false)(d:0<=i/\i<C t.ws)(f:Ae (R (L i*13) (H cW t.ws)) 0 13 false=some (M [.str e.s,A D (e.n 0),A D (e.n 1),A D (e.n 2),A D (e.n 3),A D (e.n 4),A D (e.n 5),A D (e.n 6),A D (e.n 7),A D (e.n 8),A D (e.n 9),A D (e.n 10),A D (e.n 11)])):w FK (CS t s a px py c z i) .norm (CS t s a px py c z (J D (i+1))):=B b [q,.v (M [.str e.s,A D (e.n 0),A D (e.n 1),A D (e.n 2),A D (e.n 3),A D (e.n 4),A D (e.n 5),A D (e.n 6),A D (e.n 7),A D (e.n 8),A D (e.n 9),A D (e.n 10),A D (e.n 11)]),q,Y,Y,Y] UW (Jn c1 d f c2 c3 Dr Dr)
theorem Xj(e:El)(c1:E (i<C t.ws)=true)(c2:(e.n 1==a)=false)(d:0<=i/\i<C t.ws)(f:Ae (R (L i*13) (H cW t.ws)) 0 13 false=some (M [.str e.s,A D (e.n 0),A D (e.n 1),A D (e.n 2),A D (e.n 3),A D (e.n 4),A D (e.n 5),A D (e.n 6),A D (e.n 7),A D (e.n 8),A D (e.n 9),A D (e.n 10),A D (e.n 11)])):w FK (CS t s a px py c z i) .norm (CS t s a px py c z (J D (i+1))):=B b [q,.v (M [.str e.s,A D (e.n 0),A D (e.n 1),A D (e.n 2),A D (e.n 3),A D (e.n 4),A D (e.n 5),A D (e.n 6),A D (e.n 7),A D (e.n 8),A D (e.n 9),A D (e.n 10),A D (e.n 11)]),Y,Y,Y,Y] UW (Jn c1 d f c2 Dr Dr Dr)
theorem Xk(c1:E (i<C t.ws)=false):w FK (CS t s a px py c z i) xZ0 (CS t s a px py c z i):=B b [Y] UW (Bp c1)
def DA:V:=W 2 (vi a::W 1 (vi c::Q [A D t.r0,A D t.r1,A D t.r2,A D t.r3,A D t.r4,A D t.r5,A D t.r6,G (C t.tr) (H cI t.tr),G (C t.ws) (H cW t.ws),G (C t.ar) (H AH t.ar),G (C t.po) (H p t.po),G (C t.fl) (H cF t.fl),G (C t.zo) (H cZ t.zo),G (C t.sa) (H AU t.sa),G (C t.la) (H cL t.la),G (C t.ra) (H cR t.ra),G (C t.dr) (H cD t.dr),G (C t.ln) (H cK t.ln)]::Q [A D s.k,G (C s.bs) (H cB s.bs),G (C s.ks) (H cI s.ks),G (C s.ss) (H cI s.ss),G (C s.az) (H cO s.az),A Bm s.co]::W 1 (Q [A D px,A D py]::W 1 (X (I z)::W 2 (vi i::W 183 [])))))
end
def eD:ICode := .region false [o1 13 (.mov (.c (.int .i64 0)))]
theorem nE(t:Tbl)(s:St)(lv px py xc:Int)(z:Bool)   : w eD (Gx t s lv px py xc z) .norm (DA t s lv px py xc z 0):=B b [] jD a0
def G9:ICode:=CG Q8 93 116
section
variable(t:Tbl)(s:St)(a px py c:Int)(z:Bool)(i:Int)
theorem Xl(d:Bool)(e:El)(c1:E (i<C t.ar)=true)(c2:(e.n 0==a)=true)(c3:d=true)(f:0<=i/\i<C t.ar)(g:Ae (R 1 (R (L i*12) (H AH t.ar))) 0 1 true=some (A D (e.n 0)))(h:Ae (R (L i*12) (H AH t.ar)) 0 12 false=some (M [.str e.s,A D (e.n 0),A D (e.n 1),A D (e.n 2),A D (e.n 3),A D (e.n 4),A D (e.n 5),A D (e.n 6),A D (e.n 7),A D (e.n 8),A D (e.n 9),A D (e.n 10)]))(j:RQ 65 [M [A D px,A D py],M [.str e.s,A D (e.n 0),A D (e.n 1),A D (e.n 2),A D (e.n 3),A D (e.n 4),A D (e.n 5),A D (e.n 6),A D (e.n 7),A D (e.n 8),A D (e.n 9),A D (e.n 10)],A D t.r0] (I d)):w G9 (DA t s a px py c z i) .ret (DA t s a px py c true i):=B b [q,.v (A D (e.n 0)),q,.v (M [.str e.s,A D (e.n 0),A D (e.n 1),A D (e.n 2),A D (e.n 3),A D (e.n 4),A D (e.n 5),A D (e.n 6),A D (e.n 7),A D (e.n 8),A D (e.n 9),A D (e.n 10)]),.r (I d),q] jD (US c1 f g c2 f h j c3)
theorem Xm(d:Bool)(e:El)(c1:E (i<C t.ar)=true)(c2:(e.n 0==a)=true)(c3:d=false)(f:0<=i/\i<C t.ar)(g:Ae (R 1 (R (L i*12) (H AH t.ar))) 0 1 true=some (A D (e.n 0)))(h:Ae (R (L i*12) (H AH t.ar)) 0 12 false=some (M [.str e.s,A D (e.n 0),A D (e.n 1),A D (e.n 2),A D (e.n 3),A D (e.n 4),A D (e.n 5),A D (e.n 6),A D (e.n 7),A D (e.n 8),A D (e.n 9),A D (e.n 10)]))(j:RQ 65 [M [A D px,A D py],M [.str e.s,A D (e.n 0),A D (e.n 1),A D (e.n 2),A D (e.n 3),A D (e.n 4),A D (e.n 5),A D (e.n 6),A D (e.n 7),A D (e.n 8),A D (e.n 9),A D (e.n 10)],A D t.r0] (I d)):w G9 (DA t s a px py c z i) .norm (DA t s a px py c z (J D (i+1))):=B b [q,.v (A D (e.n 0)),q,.v (M [.str e.s,A D (e.n 0),A D (e.n 1),A D (e.n 2),A D (e.n 3),A D (e.n 4),A D (e.n 5),A D (e.n 6),A D (e.n 7),A D (e.n 8),A D (e.n 9),A D (e.n 10)]),.r (I d),Y] jD (US c1 f g c2 f h j c3)
theorem Xn(e:El)(c1:E (i<C t.ar)=true)(c2:(e.n 0==a)=false)(f:0<=i/\i<C t.ar)(g:Ae (R 1 (R (L i*12) (H AH t.ar))) 0 1 true=some (A D (e.n 0))):w G9 (DA t s a px py c z i) .norm (DA t s a px py c z (J D (i+1))):=B b [q,.v (A D (e.n 0)),Y,Y] jD (GK c1 f g c2 Dr)
theorem Xo(c1:E (i<C t.ar)=false):w G9 (DA t s a px py c z i) xZ2 (DA t s a px py c z i):=B b [Y] jD (Bp c1)
def DB:V:=W 2 (vi a::W 1 (vi c::Q [A D t.r0,A D t.r1,A D t.r2,A D t.r3,A D t.r4,A D t.r5,A D t.r6,G (C t.tr) (H cI t.tr),G (C t.ws) (H cW t.ws),G (C t.ar) (H AH t.ar),G (C t.po) (H p t.po),G (C t.fl) (H cF t.fl),G (C t.zo) (H cZ t.zo),G (C t.sa) (H AU t.sa),G (C t.la) (H cL t.la),G (C t.ra) (H cR t.ra),G (C t.dr) (H cD t.dr),G (C t.ln) (H cK t.ln)]::Q [A D s.k,G (C s.bs) (H cB s.bs),G (C s.ks) (H cI s.ks),G (C s.ss) (H cI s.ss),G (C s.az) (H cO s.az),A Bm s.co]::W 1 (Q [A D px,A D py]::W 1 (X (I z)::W 3 (vi i::W 182 [])))))
end
def eE:ICode := .region false [o1 14 (.mov (.c (.int .i64 0)))]
theorem nF(t:Tbl)(s:St)(lv px py xc:Int)(z:Bool)   : w eE (Gx t s lv px py xc z) .norm (DB t s lv px py xc z 0):=B b [] jE a0
def GA:ICode:=CG Q8 92 244
section
variable(t:Tbl)(s:St)(a px py c:Int)(z:Bool)(i:Int)
theorem Xp(f:Bool)(e:El)(c1:E (i<C t.po)=true)(c2:(e.n 0==a)=true)(c3:f=true)(d:0<=i/\i<C t.po)(g:Ae (R 1 (R (L i*11) (H p t.po))) 0 1 true=some (A D (e.n 0)))(h:Ae (R 2 (R (L i*11) (H p t.po))) 0 2 false=some (M [A D (e.n 1),A D (e.n 2)]))(j:Ae (R 4 (R (L i*11) (H p t.po))) 0 1 true=some (A D (e.n 3)))(l:RQ 66 [M [A D px,A D py],M [A D (e.n 1),A D (e.n 2)],A D (J D (t.r0+e.n 3))] (I f)):w GA (DB t s a px py c z i) .ret (DB t s a px py c true i):=B b [q,.v (A D (e.n 0)),q,.v (M [A D (e.n 1),A D (e.n 2)]),.v (A D (e.n 3)),.r (I f),q] jE (Ig c1 d g c2 d h d j l c3)
theorem Xq(f:Bool)(e:El)(c1:E (i<C t.po)=true)(c2:(e.n 0==a)=true)(c3:f=false)(d:0<=i/\i<C t.po)(g:Ae (R 1 (R (L i*11) (H p t.po))) 0 1 true=some (A D (e.n 0)))(h:Ae (R 2 (R (L i*11) (H p t.po))) 0 2 false=some (M [A D (e.n 1),A D (e.n 2)]))(j:Ae (R 4 (R (L i*11) (H p t.po))) 0 1 true=some (A D (e.n 3)))(l:RQ 66 [M [A D px,A D py],M [A D (e.n 1),A D (e.n 2)],A D (J D (t.r0+e.n 3))] (I f)):w GA (DB t s a px py c z i) .norm (DB t s a px py c z (J D (i+1))):=B b [q,.v (A D (e.n 0)),q,.v (M [A D (e.n 1),A D (e.n 2)]),.v (A D (e.n 3)),.r (I f),Y] jE (Ig c1 d g c2 d h d j l c3)
theorem Xr(e:El)(c1:E (i<C t.po)=true)(c2:(e.n 0==a)=false)(d:0<=i/\i<C t.po)(g:Ae (R 1 (R (L i*11) (H p t.po))) 0 1 true=some (A D (e.n 0))):w GA (DB t s a px py c z i) .norm (DB t s a px py c z (J D (i+1))):=B b [q,.v (A D (e.n 0)),Y,Y] jE (GK c1 d g c2 Dr)
theorem Xs(c1:E (i<C t.po)=false):w GA (DB t s a px py c z i) xZ4 (DB t s a px py c z i):=B b [Y] jE (Bp c1)
def DC:V:=W 2 (vi a::W 1 (vi c::Q [A D t.r0,A D t.r1,A D t.r2,A D t.r3,A D t.r4,A D t.r5,A D t.r6,G (C t.tr) (H cI t.tr),G (C t.ws) (H cW t.ws),G (C t.ar) (H AH t.ar),G (C t.po) (H p t.po),G (C t.fl) (H cF t.fl),G (C t.zo) (H cZ t.zo),G (C t.sa) (H AU t.sa),G (C t.la) (H cL t.la),G (C t.ra) (H cR t.ra),G (C t.dr) (H cD t.dr),G (C t.ln) (H cK t.ln)]::Q [A D s.k,G (C s.bs) (H cB s.bs),G (C s.ks) (H cI s.ks),G (C s.ss) (H cI s.ss),G (C s.az) (H cO s.az),A Bm s.co]::W 1 (Q [A D px,A D py]::W 1 (X (I z)::W 4 (vi i::W 181 [])))))
end
def eF:ICode := .region false [o1 15 (.mov (.c (.int .i64 0)))]
theorem nG(t:Tbl)(s:St)(lv px py xc:Int)(z:Bool)   : w eF (Gx t s lv px py xc z) .norm (DC t s lv px py xc z 0):=B b [] jF a0
def GB:ICode:=CG Q8 91 500
section
variable(t:Tbl)(s:St)(a px py c:Int)(z:Bool)(i:Int)
theorem Xt(d:Bool)(e:El)(x:Int)(c1:E (i<C t.fl)=true)(c2:E (i<C s.ks)=true)(c3:(e.n 0==a)=true)(c4:d=true)(f:0<=i/\i<C t.fl)(g:0<=i/\i<C s.ks)(h:Ae (R 1 (R (L i*15) (H cF t.fl))) 0 1 true=some (A D (e.n 0)))(j:Ae (R (L i*15) (H cF t.fl)) 0 15 false=some (M [.str e.s,A D (e.n 0),A D (e.n 1),A D (e.n 2),A D (e.n 3),I e.b,A D (e.n 4),A D (e.n 5),A D (e.n 6),A D (e.n 7),A D (e.n 8),A D (e.n 9),A D (e.n 10),A D (e.n 11),A D (e.n 12)]))(l:Ae (R (L i*1) (H cI s.ks)) 0 1 true=some (A D x))(m:RQ 67 [M [A D px,A D py],M [.str e.s,A D (e.n 0),A D (e.n 1),A D (e.n 2),A D (e.n 3),I e.b,A D (e.n 4),A D (e.n 5),A D (e.n 6),A D (e.n 7),A D (e.n 8),A D (e.n 9),A D (e.n 10),A D (e.n 11),A D (e.n 12)],A D x,A D t.r0] (I d)):w GB (DC t s a px py c z i) .ret (DC t s a px py c true i):=B b [q,q,.v (A D (e.n 0)),q,.v (M [.str e.s,A D (e.n 0),A D (e.n 1),A D (e.n 2),A D (e.n 3),I e.b,A D (e.n 4),A D (e.n 5),A D (e.n 6),A D (e.n 7),A D (e.n 8),A D (e.n 9),A D (e.n 10),A D (e.n 11),A D (e.n 12)]),.v (A D x),.r (I d),q] jF (Lk c1 c2 f h c3 f j g l m c4)
theorem Xu(d:Bool)(e:El)(x:Int)(c1:E (i<C t.fl)=true)(c2:E (i<C s.ks)=true)(c3:(e.n 0==a)=true)(c4:d=false)(f:0<=i/\i<C t.fl)(g:0<=i/\i<C s.ks)(h:Ae (R 1 (R (L i*15) (H cF t.fl))) 0 1 true=some (A D (e.n 0)))(j:Ae (R (L i*15) (H cF t.fl)) 0 15 false=some (M [.str e.s,A D (e.n 0),A D (e.n 1),A D (e.n 2),A D (e.n 3),I e.b,A D (e.n 4),A D (e.n 5),A D (e.n 6),A D (e.n 7),A D (e.n 8),A D (e.n 9),A D (e.n 10),A D (e.n 11),A D (e.n 12)]))(l:Ae (R (L i*1) (H cI s.ks)) 0 1 true=some (A D x))(m:RQ 67 [M [A D px,A D py],M [.str e.s,A D (e.n 0),A D (e.n 1),A D (e.n 2),A D (e.n 3),I e.b,A D (e.n 4),A D (e.n 5),A D (e.n 6),A D (e.n 7),A D (e.n 8),A D (e.n 9),A D (e.n 10),A D (e.n 11),A D (e.n 12)],A D x,A D t.r0] (I d)):w GB (DC t s a px py c z i) .norm (DC t s a px py c z (J D (i+1))):=B b [q,q,.v (A D (e.n 0)),q,.v (M [.str e.s,A D (e.n 0),A D (e.n 1),A D (e.n 2),A D (e.n 3),I e.b,A D (e.n 4),A D (e.n 5),A D (e.n 6),A D (e.n 7),A D (e.n 8),A D (e.n 9),A D (e.n 10),A D (e.n 11),A D (e.n 12)]),.v (A D x),.r (I d),Y] jF (Lk c1 c2 f h c3 f j g l m c4)
theorem Xv(e:El)(c1:E (i<C t.fl)=true)(c2:E (i<C s.ks)=true)(c3:(e.n 0==a)=false)(f:0<=i/\i<C t.fl)(g:Ae (R 1 (R (L i*15) (H cF t.fl))) 0 1 true=some (A D (e.n 0))):w GB (DC t s a px py c z i) .norm (DC t s a px py c z (J D (i+1))):=B b [q,q,.v (A D (e.n 0)),Y,Y] jF (Kf c1 c2 f g c3 Dr)
theorem Xw(c1:E (i<C t.fl)=false):w GB (DC t s a px py c z i) xZ6 (DC t s a px py c z i):=B b [Y,Y] jF (GY c1 Dr)
def CT:V:=W 2 (vi a::W 1 (vi c::Q [A D t.r0,A D t.r1,A D t.r2,A D t.r3,A D t.r4,A D t.r5,A D t.r6,G (C t.tr) (H cI t.tr),G (C t.ws) (H cW t.ws),G (C t.ar) (H AH t.ar),G (C t.po) (H p t.po),G (C t.fl) (H cF t.fl),G (C t.zo) (H cZ t.zo),G (C t.sa) (H AU t.sa),G (C t.la) (H cL t.la),G (C t.ra) (H cR t.ra),G (C t.dr) (H cD t.dr),G (C t.ln) (H cK t.ln)]::Q [A D s.k,G (C s.bs) (H cB s.bs),G (C s.ks) (H cI s.ks),G (C s.ss) (H cI s.ss),G (C s.az) (H cO s.az),A Bm s.co]::W 1 (Q [A D px,A D py]::W 1 (X (I z)::W 5 (vi i::W 180 [])))))
end
def eG:ICode := .region false [o1 16 (.mov (.c (.int .i64 0)))]
theorem nH(t:Tbl)(s:St)(lv px py xc:Int)(z:Bool)   : w eG (Gx t s lv px py xc z) .norm (CT t s lv px py xc z 0):=B b [] UY a0
def FL:ICode:=CG Q8 90 1012
section
variable(t:Tbl)(s:St)(c px py a:Int)(z:Bool)(i:Int)
theorem Xx(g:Bool)(e:El)(c1:E (i<C s.bs)=true)(c2:(i != a)=true)(c3:((e.n 0) != 0)=true)(c4:(e.n 2==c)=true)(h:g=true)(d:0<=i/\i<C s.bs)(f:Ae (R (L i*7) (H cB s.bs)) 0 7 false=some (M [A D (e.n 0),A D (e.n 1),A D (e.n 2),A D (e.n 3),A D (e.n 4),A D (e.n 5),A D (e.n 6)]))(j:RQ 68 [M [A D px,A D py],M [A D (e.n 3),A D (e.n 4)],A D (J D (2*t.r0))] (I g)):w FL (CT t s c px py a z i) .ret (CT t s c px py a true i):=B b [q,.v (M [A D (e.n 0),A D (e.n 1),A D (e.n 2),A D (e.n 3),A D (e.n 4),A D (e.n 5),A D (e.n 6)]),q,q,q,.r (I g),q] UY (US c1 d f c2 c3 c4 j h)
theorem Xy(g:Bool)(e:El)(c1:E (i<C s.bs)=true)(c2:(i != a)=true)(c3:((e.n 0) != 0)=true)(c4:(e.n 2==c)=true)(h:g=false)(d:0<=i/\i<C s.bs)(f:Ae (R (L i*7) (H cB s.bs)) 0 7 false=some (M [A D (e.n 0),A D (e.n 1),A D (e.n 2),A D (e.n 3),A D (e.n 4),A D (e.n 5),A D (e.n 6)]))(j:RQ 68 [M [A D px,A D py],M [A D (e.n 3),A D (e.n 4)],A D (J D (2*t.r0))] (I g)):w FL (CT t s c px py a z i) .norm (CT t s c px py a z (J D (i+1))):=B b [q,.v (M [A D (e.n 0),A D (e.n 1),A D (e.n 2),A D (e.n 3),A D (e.n 4),A D (e.n 5),A D (e.n 6)]),q,q,q,.r (I g),Y] UY (US c1 d f c2 c3 c4 j h)
theorem Xz(e:El)(c1:E (i<C s.bs)=true)(c2:(i != a)=true)(c3:((e.n 0) != 0)=true)(c4:(e.n 2==c)=false)(d:0<=i/\i<C s.bs)(f:Ae (R (L i*7) (H cB s.bs)) 0 7 false=some (M [A D (e.n 0),A D (e.n 1),A D (e.n 2),A D (e.n 3),A D (e.n 4),A D (e.n 5),A D (e.n 6)])):w FL (CT t s c px py a z i) .norm (CT t s c px py a z (J D (i+1))):=B b [q,.v (M [A D (e.n 0),A D (e.n 1),A D (e.n 2),A D (e.n 3),A D (e.n 4),A D (e.n 5),A D (e.n 6)]),q,q,Y,Y] UY (Jn c1 d f c2 c3 c4 Dr)
theorem X1(e:El)(c1:E (i<C s.bs)=true)(c2:(i != a)=true)(c3:((e.n 0) != 0)=false)(d:0<=i/\i<C s.bs)(f:Ae (R (L i*7) (H cB s.bs)) 0 7 false=some (M [A D (e.n 0),A D (e.n 1),A D (e.n 2),A D (e.n 3),A D (e.n 4),A D (e.n 5),A D (e.n 6)])):w FL (CT t s c px py a z i) .norm (CT t s c px py a z (J D (i+1))):=B b [q,.v (M [A D (e.n 0),A D (e.n 1),A D (e.n 2),A D (e.n 3),A D (e.n 4),A D (e.n 5),A D (e.n 6)]),q,Y,Y,Y] UY (Jn c1 d f c2 c3 Dr Dr)
theorem X2(e:El)(c1:E (i<C s.bs)=true)(c2:(i != a)=false)(d:0<=i/\i<C s.bs)(f:Ae (R (L i*7) (H cB s.bs)) 0 7 false=some (M [A D (e.n 0),A D (e.n 1),A D (e.n 2),A D (e.n 3),A D (e.n 4),A D (e.n 5),A D (e.n 6)])):w FL (CT t s c px py a z i) .norm (CT t s c px py a z (J D (i+1))):=B b [q,.v (M [A D (e.n 0),A D (e.n 1),A D (e.n 2),A D (e.n 3),A D (e.n 4),A D (e.n 5),A D (e.n 6)]),Y,Y,Y,Y] UY (Jn c1 d f c2 Dr Dr Dr)
theorem X3(c1:E (i<C s.bs)=false):w FL (CT t s c px py a z i) xZ8 (CT t s c px py a z i):=B b [Y] UY (Bp c1)
end
def nI:ICode := .seq (.region false [o1 10 (.mov (.c (.bool false)))]) (.ret)
theorem eH(t:Tbl)(s:St)(a px py c:Int)(z:Bool)   : w nI (Gx t s a px py c z) .ret (IZ false):=B b [] [10] a0
theorem Ang:(iF g Q8).body = .seq zG (.seq (.seq eC (.block 0 (.loop FK))) (.seq (.seq eD (.block 2 (.loop G9))) (.seq (.seq eE (.block 4 (.loop GA))) (.seq (.seq eF (.block 6 (.loop GB))) (.seq (.seq eG (.block 8 (.loop FL))) nI))))):=by kernel_rfl
end
end Go.Proofs.YtenfgdobfjofkaaGreat
