/- Texts of the proof of RootIsolates: part 9 of 13. -/
import Derived.KernelRfl
import Derived.Test.YtajompaehjkgkaaGreatRis8
namespace Go.Ai
open Classical renaming byContradiction->A5
open Int renaming add_mul->Hg,add_zero->B5,le_of_eq->ED,le_of_lt->A7,le_of_mul_le_mul_left->Ei,le_of_mul_le_mul_right->FS,le_refl->Dz,le_trans->EC,mul_add->CW,mul_assoc->AH,mul_comm->AA,mul_le_mul->DJ,mul_le_mul_of_nonneg_left->Ak,mul_le_mul_of_nonneg_right->Ae,mul_ne_zero->BW,mul_neg->EV,mul_neg_of_pos_of_neg->Mm,mul_nonneg->A6,mul_one->Dn,mul_pos->BL,mul_pow->Q8,mul_sub->Hu,natAbs_mul->BK,natAbs_of_nonneg->KS,natCast_add->Kf,natCast_mul->CQ,neg_mul->Q5,not_le->Jl,one_mul->Do,pow_add->BB,pow_nonneg->N4,pow_pos->Ez,pow_succ->A2,pow_zero->CE,zero_add->DK,zero_mul->DF
open List renaming eq_nil_of_length_eq_zero->A9,length_map->N,length_pos_iff->An,length_range->B9,map_congr_left->Gj,map_cons->C2,map_nil->GC,range->Aq
open Nat renaming add_assoc->Dw,add_sub_cancel->Hi,le_refl->Ap,mul_le_mul->Bj,succ_mul->KT,zero_add->B_
def hs(c:Nat->Int)(x q:Int):Nat->Int
 | 0=>c 0
 | T+1=>q*hs c x q T+c (T+1)*x^(T+1)
theorem O'{c d:Nat->Int}{x q:Int}:∀ {T:Nat},(∀ i,i<=T->c i=d i)->hs c x q T=hs d x q T
 | 0,h=>h 0 (Ap _)
 | T+1,h=>by
  simp only[hs];rw[O' (T:=T) fun i hi=>h i (by omega),h (T+1) (Ap _)]
theorem O_(a b:Int)(c d:Nat->Int)(x q:Int):∀ T:Nat,hs (fun i=>a*c i+b*d i) x q T=a*hs c x q T+b*hs d x q T
 | 0=>rfl
 | T+1=>by
  simp only[hs];rw[O_ a b c d x q T];grind
theorem gM{c:Nat->Int}{T:Nat}(h:∀ i,T<i->c i=0)(x q:Int):∀ k:Nat,hs c x q (T+k)=q^k*hs c x q T
 | 0=>by simp
 | k+1=>by
  rw[<- Dw];simp only[hs];rw[gM h x q k,h _ (by omega),A2];grind
theorem Pa(c:Nat->Int)(x q:Int):∀ T:Nat,hs c x q (T+1)=c 0*q^(T+1)+x*hs (fun i=>c (i+1)) x q T
 | 0=>by simp only[hs];grind
 | T+1=>by
  have h:=Pa c x q T;have e1:hs c x q (T+1+1)=q*hs c x q (T+1)+c (T+1+1)*x^(T+1+1):=rfl;have e2:hs (fun i=>c (i+1)) x q (T+1)=q*hs (fun i=>c (i+1)) x q T+c (T+1+1)*x^(T+1):=rfl;rw[e1,h,e2,A2 q (T+1),A2 x (T+1)];grind
theorem Aef(c:Nat->Int)(x q:Int)(T:Nat):hs (fun i=>if i=0 then 0 else c (i-1)) x q (T+1)=x*hs c x q T:=by
 rw[Pa];simp only[if_pos,DF,DK];rw[O' (d:=c) fun i _=>by rw[if_neg (by omega),Hi]]
def hp(p:LI)(x q:Int)(T:Nat):Int:=hs (fun i=>p.getD i 0) x q T
theorem ZQ:∀ (p:LI) (x q:Int),hv p x q=hp p x q (p.length-1)
 | [],_,_=>rfl
 | [a],x,q=>by simp[hv,hp,hs]
 | a::b::p,x,q=>by
  have ih:=ZQ (b::p) x q;have e:hp (a::b::p) x q ((a::b::p).length-1)=a*q^(b::p).length+x*hp (b::p) x q ((b::p).length-1):=by
   unfold hp;show hs _ x q ((b::p).length-1+1)=_;rw[Pa];rfl
  rw[e,<- ih];rfl
theorem R2{p:LI}{T:Nat}(h:p.length<=T+1)(x q:Int)(k:Nat):hp p x q (T+k)=q^k*hp p x q T :=
 gM (fun i hi=>Bw (by omega)) x q k
theorem Um(x q:Int):∀ T:Nat,hp [] x q T=0
 | 0=>rfl
 | T+1=>by
  have:=Um x q T;unfold hp at *
  simp only[hs];rw[this];simp
theorem ZR{r:LI}{tr:Nat}(hr:r.length<=tr+1)(x q:Int):∀ (p:LI) (tp:Nat),p.length<=tp+1->hp (BQ p r) x q (tp+tr)=hp p x q tp*hp r x q tr
 | [],tp,_=>by rw[Um,DF];exact Um x q _
 | a::p,tp,h=>by
  have hc:∀ i,(BQ (a::p) r).getD i 0=a*r.getD i 0+1*(if i=0 then 0 else (BQ p r).getD (i-1) 0):=by
   intro i;rw[EU,Cj];by_cases h0:i=0
   ·subst h0;rw[if_neg (by omega),if_pos rfl];omega
   ·rw[if_pos (by omega),if_neg h0];omega
  cases tp with
  | zero =>
   have hp0:p=[]:=A9 (by have h':p.length+1<=0+1:=h;omega);subst hp0;have h0:∀ i,(BQ [] r).getD i 0=0:=fun i=>rfl;unfold hp;rw[O' (d:=fun i=>a*r.getD i 0+0*r.getD i 0) fun i _=>by rw[hc,h0];split <;> simp,O_,B_];simp[hs]
  | succ tp =>
   have ih:=ZR hr x q p tp (by have h':p.length+1<=tp+1+1:=h;omega);have hm:=R2 hr x q (tp+1);have ha:hp (a::p) x q (tp+1)=a*q^(tp+1)+x*hp p x q tp:=by unfold hp;rw[Pa];rfl
   have hsh:=Aef (fun i=>(BQ p r).getD i 0) x q (tp+tr);have e:hp (BQ (a::p) r) x q (tp+1+tr)=a*hp r x q (tp+1+tr)+1*(x*hp (BQ p r) x q (tp+tr)):=by
    unfold hp;rw[O' fun i _=>hc i,O_,show tp+1+tr=tp+tr+1 by omega];rw[hsh]
   rw[e,ih,show tp+1+tr=tr+(tp+1) by omega,hm,ha];grind
theorem Ave{r d e Q:LI}{c c':Int}(h:∀ x,c*V r x=V Q x*V d x+c'*V e x)(x q:Int){tq td:Nat}(hQ:Q.length<=tq+1)(hd:d.length<=td+1) :
  c*hp r x q (tq+td)=hp Q x q tq*hp d x q td+c'*hp e x q (tq+td):=by
 have hi:=DB (p:=Ay c r) (q:=Du (BQ Q d) (Ay c' e)) (fun x=>by rw[A0,BM,Bf,A0];exact h x);have hc:∀ i,c*r.getD i 0+0*r.getD i 0=1*(BQ Q d).getD i 0+c'*e.getD i 0:=by
  intro i;have:=hi i;rw[AR,CX,AR] at this;omega
 rw[<- ZR hd x q Q tq hQ];unfold hp;have h1:=O_ c 0 (fun i=>r.getD i 0) (fun i=>r.getD i 0) x q (tq+td);have h2:=O_ 1 c' (fun i=>(BQ Q d).getD i 0) (fun i=>e.getD i 0) x q (tq+td);rw[O' fun i _=>hc i,h2] at h1;omega
theorem DE{a b A B:Int}(ha:(a.natAbs:Int)<=A)(hb:(b.natAbs:Int)<=B):((a*b).natAbs:Int)<=A*B:=by
 rw[BK,CQ];exact DJ ha hb (by omega) (by omega)
theorem H'{a b A B:Int}(ha:(a.natAbs:Int)<=A)(hb:(b.natAbs:Int)<=B):((a+b).natAbs:Int)<=A+B:=by omega
theorem L3{a A:Int}(ha:(a.natAbs:Int)<=A):∀ n:Nat,((a^n).natAbs:Int)<=A^n
 | 0=>by simp
 | n+1=>by rw[A2,A2];exact DE (L3 ha n) ha
theorem Pb(c:Nat->Int)(R:Int)(hR:0<=R):∀ T:Nat,∃ K:Int,0<=K/\∀ q x:Int,0<q->(x.natAbs:Int)<=R*q->((hs c x q T).natAbs:Int)<=K*q^T
 | 0=>⟨((c 0).natAbs:Int),by omega,fun q x _ _=>by simp[hs]⟩
 | T+1=>by
  obtain⟨K,hK,h⟩:=Pb c R hR T;refine⟨K+((c (T+1)).natAbs:Int)*R^(T+1),?_,fun q x hq hx => ?_⟩
  ·have:=A6 (show (0:Int)<=((c (T+1)).natAbs:Int) by omega) (N4 (m:=T+1) hR);omega
  ·simp only[hs];have h1:=DE (a:=q) (A:=q) (by omega) (h q x hq hx);have h2:=DE (a:=c (T+1)) (A:=((c (T+1)).natAbs:Int)) (by omega) (L3 hx (T+1));have h3:=H' h1 h2;have e:(R*q)^(T+1)=R^(T+1)*q^(T+1):=Q8 ..;rw[e] at h3;refine EC h3 (ED ?_);rw[A2 q T];grind
theorem YA{x A:Int}(hx:(x.natAbs:Int)<=A)(hx1:((x+1).natAbs:Int)<=A):∀ n:Nat,(((x+1)^(n+1)-x^(n+1)).natAbs:Int)<=((n+1:Nat):Int)*A^n
 | 0=>by
  have e:(x+1)^(0+1)-x^(0+1)=1:=by rw[A2,CE,A2,CE];omega
  rw[e];simp
 | n+1=>by
  have ih:=YA hx hx1 n;have e:(x+1)^(n+1+1)-x^(n+1+1)=(x+1)*((x+1)^(n+1)-x^(n+1))+x^(n+1):=by rw[A2 (x+1) (n+1),A2 x (n+1)];grind
  rw[e];have h:=H' (DE hx1 ih) (L3 hx (n+1));refine EC h (ED ?_);rw[A2 A n,Kf,Kf,Kf];grind
theorem sS(c:Nat->Int)(R:Int)(hR:0<=R):∀ T:Nat,∃ K:Int,0<=K/\∀ q x:Int,0<q->(x.natAbs:Int)<=R*q->((x+1).natAbs:Int)<=R*q->((hs c (x+1) q (T+1)-hs c x q (T+1)).natAbs:Int)<=K*q^T
 | 0=>⟨((c 1).natAbs:Int),by omega,fun q x _ _ _=>by
   simp only[hs];have:q*c 0+c (0+1)*(x+1)^(0+1)-(q*c 0+c (0+1)*x^(0+1))=c 1:=by simp;grind
   rw[this];simp⟩
 | T+1=>by
  obtain⟨K,hK,h⟩:=sS c R hR T;refine⟨K+((c (T+2)).natAbs:Int)*(((T+1+1:Nat):Int)*R^(T+1)),?_,fun q x hq hx hx1 => ?_⟩
  ·have:=A6 (show (0:Int)<=((c (T+2)).natAbs:Int) by omega) (A6 (show (0:Int)<=((T+1+1:Nat):Int) by omega) (N4 (m:=T+1) hR));omega
  ·have e:hs c (x+1) q (T+1+1)-hs c x q (T+1+1)=q*(hs c (x+1) q (T+1)-hs c x q (T+1))+c (T+2)*((x+1)^(T+1+1)-x^(T+1+1)):=by
    show (q*hs c (x+1) q (T+1)+c (T+1+1)*(x+1)^(T+1+1))-(q*hs c x q (T+1)+c (T+1+1)*x^(T+1+1))=_;grind
   rw[e];have h1:=DE (a:=q) (A:=q) (by omega) (h q x hq hx hx1);have h2:=DE (a:=c (T+2)) (A:=((c (T+2)).natAbs:Int)) (by omega) (YA hx hx1 (T+1));have h3:=H' h1 h2;have e2:(R*q)^(T+1)=R^(T+1)*q^(T+1):=Q8 ..;rw[e2] at h3;refine EC h3 (ED ?_);rw[A2 q T];grind
theorem gN{x A:Int}(hA:0<=A)(hx:(x.natAbs:Int)<=A)(hx1:((x+1).natAbs:Int)<=A):∀ n:Nat,(((x+1)^(n+2)-x^(n+2)-((n+2:Nat):Int)*x^(n+1)).natAbs:Int)<=(((n+1)*(n+2):Nat):Int)*A^n
 | 0=>by
  have e:(x+1)^(0+2)-x^(0+2)-((0+2:Nat):Int)*x^(0+1)=1:=by
   rw[show (x+1)^(0+2)=(x+1)*(x+1) by rw[A2,A2,CE,Do],show x^(0+2)=x*x by rw[A2,A2,CE,Do],show x^(0+1)=x by rw[A2,CE,Do]];grind
  rw[e];simp
 | n+1=>by
  have ih:=gN hA hx hx1 n;have e:(x+1)^(n+1+2)-x^(n+1+2)-((n+1+2:Nat):Int)*x^(n+1+1)=(x+1)*((x+1)^(n+2)-x^(n+2)-((n+2:Nat):Int)*x^(n+1))+((n+2:Nat):Int)*x^(n+1):=by
   rw[show n+1+2=n+2+1 by omega,A2 (x+1) (n+2),A2 x (n+2),show n+1+1=n+2 by omega,show x^(n+2)=x^(n+1)*x from A2 ..];have:((n+2+1:Nat):Int)=((n+2:Nat):Int)+1:=by omega
   rw[this];grind
  rw[e];have h:=H' (DE hx1 ih) (DE (a:=((n+2:Nat):Int)) (A:=((n+2:Nat):Int)) (by omega) (L3 hx (n+1)));refine EC h ?_;rw[show A^(n+1)=A^n*A from A2 ..];have hAn:0<=A^n*A:=A6 (N4 hA) hA;have e2:A*((((n+1)*(n+2):Nat):Int)*A^n)+((n+2:Nat):Int)*(A^n*A)=((((n+1)*(n+2)+(n+2):Nat)):Int)*(A^n*A):=by
   rw[Kf];grind
  rw[e2];apply Ae _ hAn;have:(n+1)*(n+2)+(n+2)<=(n+1+1)*(n+1+2):=by
   have:(n+1)*(n+2)+(n+2)=(n+2)*(n+2):=by rw[<- KT]
   rw[this];exact Bj (by omega) (by omega)
  omega
def TC(c:Nat->Int)(i:Nat):Int:=((i+1:Nat):Int)*c (i+1)
theorem sT(c:Nat->Int)(R:Int)(hR:0<=R):∀ T:Nat,∃ K:Int,0<=K/\∀ q x:Int,0<q->(x.natAbs:Int)<=R*q->((x+1).natAbs:Int)<=R*q ->
  ((hs c (x+1) q (T+2)-hs c x q (T+2)-hs (TC c) x q (T+1)).natAbs:Int)<=K*q^T
 | 0=>⟨((c 2).natAbs:Int),by omega,fun q x _ _ _=>by
   have e:hs c (x+1) q (0+2)-hs c x q (0+2)-hs (TC c) x q (0+1)=c 2:=by
    have p1:∀ y:Int,y^(0+1)=y:=fun y=>by rw[A2,CE,Do]
    have p2:∀ y:Int,y^(0+1+1)=y*y:=fun y=>by rw[A2,p1]
    show (q*(q*c 0+c (0+1)*(x+1)^(0+1))+c (0+1+1)*(x+1)^(0+1+1))-(q*(q*c 0+c (0+1)*x^(0+1))+c (0+1+1)*x^(0+1+1))-(q*(((0+1:Nat):Int)*c (0+1))+((0+1+1:Nat):Int)*c (0+1+1)*x^(0+1))=_;rw[p1,p1,p2,p2];have h1:((0+1:Nat):Int)=1:=rfl;have h2:((0+1+1:Nat):Int)=2:=rfl;rw[h1,h2];grind
   rw[e];simp⟩
 | T+1=>by
  obtain⟨K,hK,h⟩:=sT c R hR T;refine⟨K+((c (T+3)).natAbs:Int)*((((T+2)*(T+3):Nat):Int)*R^(T+1)),?_,fun q x hq hx hx1 => ?_⟩
  ·have:=A6 (show (0:Int)<=((c (T+3)).natAbs:Int) by omega) (A6 (show (0:Int)<=(((T+2)*(T+3):Nat):Int) by omega) (N4 (m:=T+1) hR));omega
  ·have e:hs c (x+1) q (T+1+2)-hs c x q (T+1+2)-hs (TC c) x q (T+1+1)=q*(hs c (x+1) q (T+2)-hs c x q (T+2)-hs (TC c) x q (T+1))+c (T+3)*((x+1)^(T+1+2)-x^(T+1+2)-((T+1+2:Nat):Int)*x^(T+1+1)):=by
    show (q*hs c (x+1) q (T+2)+c (T+3)*(x+1)^(T+1+2))-(q*hs c x q (T+2)+c (T+3)*x^(T+1+2))-(q*hs (TC c) x q (T+1)+((T+1+1+1:Nat):Int)*c (T+3)*x^(T+1+1))=_;have:((T+1+1+1:Nat):Int)=((T+1+2:Nat):Int):=rfl;rw[this];grind
   rw[e];have hRq:0<=R*q:=A6 hR (by omega);have h1:=DE (a:=q) (A:=q) (by omega) (h q x hq hx hx1);have h2:=DE (a:=c (T+3)) (A:=((c (T+3)).natAbs:Int)) (by omega) (gN hRq hx hx1 (T+1));have h3:=H' h1 h2;have e2:(R*q)^(T+1)=R^(T+1)*q^(T+1):=Q8 ..;rw[e2] at h3;refine EC h3 (ED ?_);rw[A2 q T];grind
def wv(last:Int):LI->Int
 | []=>0
 | s::ss=>if s=0 then wv last ss else (if last ≠ 0/\s ≠ last then 1 else 0)+wv s ss
inductive Mid:Int->List Int->List Int->Prop
 | nil (σ:Int):Mid σ [] []
 | st (σ s:Int) {ss tt:List Int}:(s=1\/s = -1)->Mid s ss tt->Mid σ (s::ss) (s::tt)
 | un (σ a b:Int) {ss tt:List Int}:(-1<=a/\a<=1)->(-1<=b/\b<=1)->Mid (-σ) ss tt->Mid σ (a :: -σ::ss) (b :: -σ::tt)
theorem gO{σ a:Int}(hσ:σ=1\/σ = -1)(ha : -1<=a/\a<=1)(ss:LI):wv σ (a :: -σ::ss)=1+wv (-σ) ss:=by
 simp only[wv];rcases hσ with rfl | rfl
 ·rcases show a = -1\/a=0\/a=1 by omega with rfl | rfl | rfl <;> simp
 ·rcases show a = -1\/a=0\/a=1 by omega with rfl | rfl | rfl <;> simp
theorem sU{σ:Int}{s t:LI}(h:Mid σ s t):(σ=1\/σ = -1)->wv σ s=wv σ t:=by
 induction h with
 | nil σ=>intro _;rfl
 | st σ s hs _ ih =>
  intro _;have h0:s ≠ 0:=by omega
  simp only[wv,if_neg h0];rw[ih hs]
 | un σ a b ha hb _ ih =>
  intro hσ;rw[gO hσ ha,gO hσ hb,ih (by omega)]
inductive Top:List Int->List Int->Int->Prop
 | st (s:Int) {ss tt:List Int}:(s=1\/s = -1)->Mid s ss tt->Top (s::ss) (s::tt) 0
 | un (σ a b:Int) {ss tt:List Int}:(σ=1\/σ = -1)->(a = -σ\/a=0)->(b=0\/b=σ)->Mid σ ss tt->Top (a::σ::ss) (b::σ::tt) (if a=0 then 0 else 1)
theorem sV{s t:LI}{d:Int}(h:Top s t d):wv 0 s=wv 0 t+d:=by
 cases h with
 | st s hs hm =>
  have h0:s ≠ 0:=by omega
  simp only[wv,if_neg h0];rw[sU hm hs];omega
 | un σ a b hσ ha hb hm =>
  have e:=sU hm hσ;simp only[wv];rcases hσ with rfl | rfl
  ·rcases ha with rfl | rfl <;> rcases hb with rfl | rfl <;> simp <;> omega
  ·rcases ha with rfl | rfl <;> rcases hb with rfl | rfl <;> simp <;> omega
theorem gP(p:LI)(x:Int):V p x=(AQ p:Int)*V (prim p) x:=by
 rw[<- A0];exact Gw (fun i=>by rw[AR,OU]) x
theorem I1(k:Nat)(p:LI):(Ce k p).length=k+p.length:=by
 unfold Ce;simp
theorem pW{r d:LI}(hd:BZ d)(hd0:d ≠ [])(hl:d.length<=r.length):∃ (c c':Int) (Q:LI),0<c/\0<c'/\∀ x,c*V r x=V Q x*V d x+c'*V (DH r d) x:=by
 have ht:w d ≠ 0:=E6 hd hd0;have he:=Qi hl ((w d).natAbs:Int) (sg (w d)*w r);have hp:∀ x,V (C9 r d ((w d).natAbs:Int) (sg (w d)*w r) r.length) x=(AQ (C9 r d ((w d).natAbs:Int) (sg (w d)*w r) r.length):Int)*V (DH r d) x:=fun x=>gP _ x;by_cases h0:AQ (C9 r d ((w d).natAbs:Int) (sg (w d)*w r) r.length)=0
 ·have hz:DH r d=[]:=Ee.2 (IP.1 h0);refine⟨((w d).natAbs:Int),1,Ce (r.length-d.length) [sg (w d)*w r],by omega,by decide,fun x => ?_⟩;have h1:=he x;have h2:=hp x;rw[h0] at h2;rw[CF,hz];simp only[V];have h3:(((0:Nat):Int))*V (DH r d) x=0:=by simp
  rw[h3] at h2;rw[h2] at h1;grind
 ·refine⟨((w d).natAbs:Int),(AQ (C9 r d ((w d).natAbs:Int) (sg (w d)*w r) r.length):Int),Ce (r.length-d.length) [sg (w d)*w r],by omega,by omega,fun x => ?_⟩;have h1:=he x;have h2:=hp x;rw[CF];simp only[V];rw[<- h2,h1];grind
theorem WB{d:LI}(hd:BZ d)(hd0:d ≠ []):∀ (f:Nat) (r:LI),∃ (c c':Int) (Q:LI),0<c/\0<c'/\∀ x,c*V r x=V Q x*V d x+c'*V (Eb f r d) x
 | 0,r=>⟨1,1,[],by decide,by decide,fun x=>by simp[V,Eb]⟩
 | f+1,r=>by
  simp only[Eb];split
  ·rename_i hl;obtain⟨c,c',Q,h1,h2,h3⟩:=pW hd hd0 hl;obtain⟨e,e',S,g1,g2,g3⟩:=WB hd hd0 f (DH r d);refine⟨e*c,c'*e',Du (Ay e Q) (Ay c' S),BL g1 h1,BL h2 g2,fun x => ?_⟩;have a:=h3 x;have b:=g3 x;rw[BM,A0,A0,AH e c,a,CW,AA e (c'*_),AH c',AA _ e,b];grind
  ·exact⟨1,1,[],by decide,by decide,fun x=>by simp[V]⟩
theorem WC{a b:LI}(hb:BZ b)(hb0:b ≠ []):∃ (c c':Int) (Q:LI),0<c/\0<c'/\∀ x,c*V a x=V Q x*V b x+(-c')*V (Cc (Bt a b)) x:=by
 obtain⟨c,c',Q,h1,h2,h3⟩:=WB hb hb0 a.length a;refine⟨c,c',Q,h1,h2,fun x => ?_⟩;rw[h3 x,HU];unfold Bt;grind
theorem Qp{a b:LI}(hb:BZ b)(hb0:b ≠ [])(h:HO [1] a b):HO [1] b (Cc (Bt a b)):=by
 obtain⟨c,c',Q,h1,h2,h3⟩:=WC (a:=a) hb hb0;have h4:HO [1] (Cc (Bt a b)) b:=HO.step (r:=Cc (Bt a b)) (d:=b) (e:=a) (q:=Q) (a:=c') (m := -c) (by omega) (by omega) (fun x=>by
  have:=h3 x;grind) h.comm
 exact h4.comm
def Hh(p:LI)(x q:Int):Int:=hp p x q (p.length-1)
def LP(p:LI)(x q:Int):Prop:=(0<Hh p x q/\0<Hh p (x+1) q)\/(Hh p x q<0/\Hh p (x+1) q<0)
def ZS(R q x:Int):Prop:=0<q/\(x.natAbs:Int)<=R*q/\((x+1).natAbs:Int)<=R*q
theorem G9{q:Int}(h:0<q)(n:Nat):0<q^n:=Ez h
theorem small(p:LI)(R:Int)(hR:0<=R):∃ K:Int,0<=K/\∀ q x:Int,ZS R q x->¬ LP p x q->((Hh p x q).natAbs:Int)*q<=K*q^(p.length-1)/\((Hh p (x+1) q).natAbs:Int)*q<=K*q^(p.length-1):=by
 cases hn:p.length-1 with
 | zero =>
  refine⟨0,Dz _,fun q x _ hst => ?_⟩;have e:∀ y,Hh p y q=p.getD 0 0:=fun y=>by unfold Hh hp;rw[hn];rfl
  unfold LP at hst;rw[e,e] at hst |-;have:p.getD 0 0=0:=by omega
  rw[this];simp
 | succ T =>
  obtain⟨K,hK,h⟩:=sS (fun i=>p.getD i 0) R hR T;refine⟨K,hK,fun q x hr hst => ?_⟩;have h1:=h q x hr.1 hr.2.1 hr.2.2;have e:∀ y,Hh p y q=hs (fun i=>p.getD i 0) y q (T+1):=fun y=>by unfold Hh hp;rw[hn]
  unfold LP at hst;rw[e,e] at hst;rw[e,e];generalize hs (fun i=>p.getD i 0) x q (T+1)=a at *
  generalize hs (fun i=>p.getD i 0) (x+1) q (T+1)=b at *
  have ha:(a.natAbs:Int)<=((b-a).natAbs:Int):=by omega
  have hb:(b.natAbs:Int)<=((b-a).natAbs:Int):=by omega
  have hq:=hr.1;rw[A2,<- AH];exact⟨Ae (EC ha h1) (by omega),Ae (EC hb h1) (by omega)⟩
theorem A1w(x q:Int)(T:Nat):hp [1] x q T=q^T:=by
 have:=R2 (p:=[1]) (T:=0) (by simp) x q T;rw[B_] at this;rw[this];show q^T*1=_;omega
theorem SD{f g:LI}(R:Int)(hR:0<=R)(h:HO [1] f g):∃ L Q0:Int,0<L/\0<Q0/\∀ q x:Int,ZS R q x->Q0<=q->¬ LP f x q->q^(g.length-1)<=L*((Hh g x q).natAbs:Int):=by
 obtain⟨_,_,c,u,v,hc,hid⟩:=h;obtain⟨K,hK,hsm⟩:=small f R hR;obtain⟨Ku,hKu,hu⟩:=Pb (fun i=>u.getD i 0) R hR (max u.length v.length+(g.length-1));obtain⟨Kv,hKv,hv⟩:=Pb (fun i=>v.getD i 0) R hR (max u.length v.length+(f.length-1));refine⟨2*Kv+1,2*(Ku*K)+1,by omega,by have:=A6 hKu hK;omega,fun q x hr hq hst => ?_⟩;obtain⟨hq0,hx,hx1⟩:=hr;have h1:=(hsm q x ⟨hq0,hx,hx1⟩ hst).1;have h2:=hu q x hq0 hx;have h3:=hv q x hq0 hx;have e1:=Ave (r:=[1]) (d:=f) (e:=BQ v g) (Q:=u) (c:=c) (c':=1) (fun y=>by rw[Bf,hid y];omega) x q (tq:=max u.length v.length+(g.length-1)) (td:=f.length-1) (by omega) (by omega);have e2:=ZR (r:=g) (tr:=g.length-1) (by omega) x q v (max u.length v.length+(f.length-1)) (by omega);have eT:max u.length v.length+(f.length-1)+(g.length-1)=max u.length v.length+(g.length-1)+(f.length-1):=by omega
 rw[eT] at e2;rw[e2,A1w,Do] at e1;change c*q^(max u.length v.length+(g.length-1)+(f.length-1))=hs (fun i=>u.getD i 0) x q (max u.length v.length+(g.length-1))*Hh f x q+hs (fun i=>v.getD i 0) x q (max u.length v.length+(f.length-1))*Hh g x q at e1;have ep:q^(max u.length v.length+(g.length-1)+(f.length-1))=q^(max u.length v.length+(f.length-1))*q^(g.length-1):=by rw[<- BB,<- eT]
 have ep2:q^(max u.length v.length+(g.length-1))*q^(f.length-1)=q^(max u.length v.length+(f.length-1))*q^(g.length-1):=by rw[<- BB,<- ep]
 have pa:=G9 hq0 (max u.length v.length+(f.length-1));have pb:=G9 hq0 (max u.length v.length+(g.length-1));have pm:=G9 hq0 (g.length-1);have pn:=G9 hq0 (f.length-1);rw[ep] at e1;generalize hs (fun i=>u.getD i 0) x q (max u.length v.length+(g.length-1))=U at *
 generalize hs (fun i=>v.getD i 0) x q (max u.length v.length+(f.length-1))=V at *
 generalize q^(max u.length v.length+(f.length-1))=A at *
 generalize q^(max u.length v.length+(g.length-1))=B at *
 generalize q^(g.length-1)=M at *
 generalize q^(f.length-1)=N at *
 generalize Hh f x q=F at *
 generalize Hh g x q=G at *
 have n1:((c*(A*M)).natAbs:Int)<=(U.natAbs:Int)*(F.natAbs:Int)+(V.natAbs:Int)*(G.natAbs:Int):=by
  rw[e1];exact H' (DE (Dz _) (Dz _)) (DE (Dz _) (Dz _))
 have n2:A*M<=((c*(A*M)).natAbs:Int):=by
  rw[BK,CQ];have hAM:=BL pa pm;have:((A*M).natAbs:Int)=A*M:=KS (by omega);rw[this];have:=Ae (show (1:Int)<=(c.natAbs:Int) by omega) (show 0<=A*M by omega);omega
 have n3:(U.natAbs:Int)*(F.natAbs:Int)*q<=A*(Ku*K*M):=by
  have h5:(U.natAbs:Int)*((F.natAbs:Int)*q)<=Ku*B*(K*N):=DJ h2 h1 (A6 (by omega) (by omega)) (A6 hKu (by omega));have e5:Ku*B*(K*N)=A*(Ku*K*M):=by
   have:Ku*B*(K*N)=Ku*K*(B*N):=by grind
   rw[this,ep2];grind
  rw[AH];omega
 have n4:(V.natAbs:Int)*(G.natAbs:Int)*q<=A*(Kv*((G.natAbs:Int)*q)):=by
  have h5:=Ae h3 (A6 (show (0:Int)<=(G.natAbs:Int) by omega) (show 0<=q by omega));rw[AH];refine EC h5 (ED ?_);grind
 have n5:A*(M*q)<=A*(Ku*K*M+Kv*((G.natAbs:Int)*q)):=by
  have h6:=Ae (EC n2 n1) (show 0<=q by omega);rw[Hg] at h6;rw[CW];have:A*M*q=A*(M*q):=AH ..;omega
 have n6:=Ei n5 pa;have n7:2*(Ku*K*M)<=M*q:=by
  have h7:=Ak (show 2*(Ku*K)<=q by omega) (show 0<=M by omega);have:M*(2*(Ku*K))=2*(Ku*K*M):=by grind
  omega
 have n8:M*q<=2*Kv*(G.natAbs:Int)*q:=by
  have:2*Kv*(G.natAbs:Int)*q=2*(Kv*((G.natAbs:Int)*q)):=by grind
  omega
 have n9:M<=2*Kv*(G.natAbs:Int):=FS n8 hq0;have:(2*Kv+1)*(G.natAbs:Int)=2*Kv*(G.natAbs:Int)+(G.natAbs:Int):=by rw[Hg,Do]
 omega
theorem Avf(g:LI)(R L:Int)(hR:0<=R)(hL:0<L):∃ Q0:Int,0<Q0/\∀ q x:Int,ZS R q x->Q0<=q->q^(g.length-1)<=L*((Hh g x q).natAbs:Int)->LP g x q:=by
 obtain⟨K,hK,hsm⟩:=small g R hR;refine⟨L*K+1,by have:=A6 (show 0<=L by omega) hK;omega,fun q x hr hq hf => ?_⟩;apply A5;intro hst;have h1:=(hsm q x hr hst).1;have hq0:=hr.1;have pm:=G9 hq0 (g.length-1);generalize q^(g.length-1)=M at *
 generalize ((Hh g x q).natAbs:Int)=G at *
 have h2:=Ae hf (show 0<=q by omega);have h3:=Ak h1 (show 0<=L by omega);have e1:L*(G*q)=L*G*q:=by grind
 have e2:L*(K*M)=M*(L*K):=by grind
 have h4:M*q<=M*(L*K):=by omega
 have h5:=Ei h4 pm;omega
theorem SE{f g:LI}(R:Int)(hR:0<=R)(h:HO [1] f g):∃ L Q0:Int,0<L/\0<Q0/\∀ q x:Int,ZS R q x->Q0<=q->¬ LP f x q->LP g x q/\q^(g.length-1)<=L*((Hh g x q).natAbs:Int):=by
 obtain⟨L,Q1,hL,hQ1,h1⟩:=SD R hR h;obtain⟨Q2,hQ2,h2⟩:=Avf g R L hR hL;refine⟨L,Q1+Q2,hL,by omega,fun q x hr hq hst => ?_⟩;have h3:=h1 q x hr (by omega) hst;exact⟨h2 q x hr (by omega) h3,h3⟩
theorem Aeg{a b e Q:LI}{c c':Int}(R:Int)(hR:0<=R)(hc:0<c)(hc':0<c')(hid:∀ x,c*V a x=V Q x*V b x+(-c')*V e x)(h:HO [1] b e) :
  ∃ Q0:Int,0<Q0/\∀ q x:Int,ZS R q x->Q0<=q->¬ LP b x q->(0<Hh e x q->Hh a x q<0)/\(Hh e x q<0->0<Hh a x q):=by
 obtain⟨K,hK,hsm⟩:=small b R hR;obtain⟨L,Q1,hL,hQ1,hf⟩:=SD R hR h;obtain⟨KQ,hKQ,hq⟩:=Pb (fun i=>Q.getD i 0) R hR (Q.length+a.length+e.length);have hLK:=A6 (show 0<=L by omega) (A6 hKQ hK);refine⟨Q1+L*(KQ*K)+1,by omega,fun q x hr hqq hst => ?_⟩;have h1:=(hsm q x hr hst).1;have h2:=hf q x hr (by omega) hst;have hq0:=hr.1;have h3:=hq q x hq0 hr.2.1;have e1:=Ave hid x q (tq:=Q.length+a.length+e.length) (td:=b.length-1) (by omega) (by omega);have ea:=R2 (p:=a) (T:=a.length-1) (by omega) x q (Q.length+a.length+e.length+(b.length-1)-(a.length-1));have ee:=R2 (p:=e) (T:=e.length-1) (by omega) x q (Q.length+a.length+e.length+(b.length-1)-(e.length-1));rw[show a.length-1+(Q.length+a.length+e.length+(b.length-1)-(a.length-1))=Q.length+a.length+e.length+(b.length-1) by omega] at ea;rw[show e.length-1+(Q.length+a.length+e.length+(b.length-1)-(e.length-1))=Q.length+a.length+e.length+(b.length-1) by omega] at ee;rw[ea,ee] at e1;change c*(q^_*Hh a x q)=hs (fun i=>Q.getD i 0) x q (Q.length+a.length+e.length)*Hh b x q+(-c')*(q^_*Hh e x q) at e1;have pA:=G9 hq0 (Q.length+a.length+e.length+(b.length-1)-(a.length-1));have pE:=G9 hq0 (Q.length+a.length+e.length+(b.length-1)-(e.length-1));have pT:=G9 hq0 (Q.length+a.length+e.length);have pB:=G9 hq0 (b.length-1);have eP:q^(Q.length+a.length+e.length+(b.length-1)-(e.length-1))*q^(e.length-1)=q^(Q.length+a.length+e.length)*q^(b.length-1):=by
  rw[<- BB,<- BB];congr 1;omega
 generalize q^(Q.length+a.length+e.length+(b.length-1)-(a.length-1))=A at *
 generalize q^(Q.length+a.length+e.length+(b.length-1)-(e.length-1))=E at *
 generalize q^(Q.length+a.length+e.length)=T at *
 generalize q^(b.length-1)=B at *
 generalize q^(e.length-1)=M at *
 generalize hs (fun i=>Q.getD i 0) x q (Q.length+a.length+e.length)=U at *
 generalize Hh a x q=Ha at *
 generalize Hh b x q=Hb at *
 generalize Hh e x q=He at *
 have pP:=BL pT pB;have n1:((U*Hb).natAbs:Int)*q<=KQ*K*(T*B):=by
  have h5:(U.natAbs:Int)*((Hb.natAbs:Int)*q)<=KQ*T*(K*B):=DJ h3 h1 (A6 (by omega) (by omega)) (A6 hKQ (by omega));have e5:((U*Hb).natAbs:Int)*q=(U.natAbs:Int)*((Hb.natAbs:Int)*q):=by rw[BK,CQ];grind
  have e6:KQ*T*(K*B)=KQ*K*(T*B):=by grind
  omega
 have n2:T*B<=L*(E*(He.natAbs:Int)):=by
  have h6:=Ak h2 (show 0<=E by omega);have e7:E*(L*(He.natAbs:Int))=L*(E*(He.natAbs:Int)):=by grind
  omega
 have n3:((U*Hb).natAbs:Int)<E*(He.natAbs:Int):=by
  apply Jl.1;intro hle;have h7:=Ae (Ak hle (show 0<=L by omega)) (show 0<=q by omega);have h8:=Ae n2 (show 0<=q by omega);have h9:=Ak n1 (show 0<=L by omega);have e8:L*((U*Hb).natAbs:Int)*q=L*(((U*Hb).natAbs:Int)*q):=AH ..;have e9:L*(KQ*K*(T*B))=T*B*(L*(KQ*K)):=by grind
  have h10:T*B*q<=T*B*(L*(KQ*K)):=by omega
  have h11:=Ei h10 pP;omega
 have n4:E*(He.natAbs:Int)<=c'*(E*(He.natAbs:Int)):=by
  have:=Ae (show (1:Int)<=c' by omega) (A6 (show 0<=E by omega) (show (0:Int)<=(He.natAbs:Int) by omega));omega
 generalize U*Hb=W at *
 refine⟨fun hp => ?_,fun hn => ?_⟩
 ·have e10:(He.natAbs:Int)=He:=by omega
  rw[e10] at n3 n4;apply Jl.1;intro hge;have h12:=A6 (show 0<=c by omega) (A6 (show 0<=A by omega) hge);rw[e1,Q5] at h12;omega
 ·have e10:(He.natAbs:Int) = -He:=by omega
  rw[e10,EV] at n3;rw[e10,EV,EV] at n4;apply Jl.1;intro hle;have h12:=A6 (show 0<=c by omega) (A6 (show 0<=A by omega) (show 0 <= -Ha by omega));rw[EV,EV,e1,Q5] at h12;omega
theorem gQ(f:LI)(x q:Int)(m:Nat):hs (TC fun i=>f.getD i 0) x q m=(AQ (At f):Int)*hs (fun i=>(prim (At f)).getD i 0) x q m:=by
 have h:=O_ (AQ (At f):Int) 0 (fun i=>(prim (At f)).getD i 0) (fun i=>(prim (At f)).getD i 0) x q m;rw[DF,B5] at h;rw[<- h];apply O';intro i _;have h1:=OU (At f) i;have h2:=DC f i;unfold TC;rw[h1,h2];grind
theorem TD{f:LI}(R:Int)(hR:0<=R)(hl:2<=f.length)(hl1:(prim (At f)).length=f.length-1)(h:HO [1] f (prim (At f)))(hc:0<AQ (At f)) :
  ∃ Q0:Int,0<Q0/\∀ q x:Int,ZS R q x->Q0<=q->¬ LP f x q->(0<Hh (prim (At f)) x q->Hh f x q<Hh f (x+1) q)/\(Hh (prim (At f)) x q<0->Hh f (x+1) q<Hh f x q):=by
 obtain⟨L,Q1,hL,hQ1,hf⟩:=SD R hR h;cases hm:f.length-2 with
 | zero =>
  refine⟨Q1,hQ1,fun q x hr hq hst => ?_⟩;have hd:=gQ f x q 0;have e1:∀ y,Hh f y q=hs (fun i=>f.getD i 0) y q 1:=fun y=>by unfold Hh hp;rw[show f.length-1=1 by omega]
  have e2:Hh (prim (At f)) x q=hs (fun i=>(prim (At f)).getD i 0) x q 0:=by unfold Hh hp;rw[hl1,show f.length-1-1=0 by omega]
  have e3:hs (fun i=>f.getD i 0) (x+1) q 1-hs (fun i=>f.getD i 0) x q 1=hs (TC fun i=>f.getD i 0) x q 0:=by
   show (q*f.getD 0 0+f.getD (0+1) 0*(x+1)^(0+1))-(q*f.getD 0 0+f.getD (0+1) 0*x^(0+1))=((0+1:Nat):Int)*f.getD (0+1) 0;have p1:∀ y:Int,y^(0+1)=y:=fun y=>by rw[A2,CE,Do]
   rw[p1,p1];have h1:((0+1:Nat):Int)=1:=rfl;rw[h1];grind
  rw[e1,e1,e2];rw[hd] at e3;generalize hs (fun i=>(prim (At f)).getD i 0) x q 0=D at *
  refine⟨fun hp => ?_,fun hn => ?_⟩
  ·have:=BL (show (0:Int)<(AQ (At f):Int) by omega) hp;omega
  ·have:=BL (show (0:Int)<(AQ (At f):Int) by omega) (show 0 < -D by omega);rw[EV] at this;omega
 | succ T =>
  obtain⟨K,hK,hder⟩:=sT (fun i=>f.getD i 0) R hR T;have hLK:=A6 (show 0<=L by omega) hK;refine⟨Q1+L*K+1,by omega,fun q x hr hq hst => ?_⟩;have hq0:=hr.1;have h2:=hf q x hr (by omega) hst;have h3:=hder q x hq0 hr.2.1 hr.2.2;have hd:=gQ f x q (T+1);have e1:∀ y,Hh f y q=hs (fun i=>f.getD i 0) y q (T+2):=fun y=>by unfold Hh hp;rw[show f.length-1=T+2 by omega]
  have e2:Hh (prim (At f)) x q=hs (fun i=>(prim (At f)).getD i 0) x q (T+1):=by unfold Hh hp;rw[hl1,show f.length-1-1=T+1 by omega]
  rw[hl1,show f.length-1-1=T+1 by omega,A2,e2] at h2;rw[e1,e1,e2];rw[hd] at h3;have pT:=G9 hq0 T;generalize q^T=M at *
  generalize hs (fun i=>f.getD i 0) (x+1) q (T+2)=b at *
  generalize hs (fun i=>f.getD i 0) x q (T+2)=a at *
  generalize hs (fun i=>(prim (At f)).getD i 0) x q (T+1)=D at *
  have n1:K*M<(D.natAbs:Int):=by
   apply Jl.1;intro hle;have h5:=Ak hle (show 0<=L by omega);have e5:L*(K*M)=M*(L*K):=by grind
   have h6:M*q<=M*(L*K):=by omega
   have:=Ei h6 pT;omega
  have n2:=Ae (show (1:Int)<=(AQ (At f):Int) by omega) (show (0:Int)<=(D.natAbs:Int) by omega);refine⟨fun hp => ?_,fun hn => ?_⟩
  ·have e6:(D.natAbs:Int)=D:=by omega
   rw[e6] at n1 n2;omega
  ·have e6:(D.natAbs:Int) = -D:=by omega
   rw[e6,Do,EV] at n2;omega
def CG(n:Int):Int:=if n<0 then -1 else if 0<n then 1 else 0
theorem ZT(n:Int) : -1<=CG n/\CG n<=1:=by unfold CG; (repeat' split) <;> omega
def HS:Nat->LI->LI->List (LI)
 | 0,_,_=>[]
 | f+1,a,b=>if b=[] then [] else b::HS f b (Cc (Bt a b))
def DZ(l:List (LI))(x q:Int):LI:=l.map fun p=>CG (Hh p x q)
theorem KI{p:LI}{x q:Int}(h:LP p x q):CG (Hh p (x+1) q)=CG (Hh p x q)/\(CG (Hh p x q)=1\/CG (Hh p x q) = -1):=by
 unfold LP at h;unfold CG;rcases h with ⟨h1,h2⟩ | ⟨h1,h2⟩
 ·rw[if_neg (by omega),if_pos h2,if_neg (by omega),if_pos h1];exact⟨rfl,.inl rfl⟩
 ·rw[if_pos h2,if_pos h1];exact⟨rfl,.inr rfl⟩
theorem A1x(x q:Int):Hh [] x q=0:=Um x q _
theorem O6{a b:LI}(ha:BZ a):BZ (Bt a b):=by
 unfold Bt;generalize a.length=f;induction f generalizing a with
 | zero=>exact ha
 | succ f ih =>
  simp only[Eb];split
  ·exact ih (T1 a b)
  ·exact ha
theorem Aeh{d:LI}(hd0:d ≠ []):∀ (f:Nat) (r:LI),r.length<=f->(Eb f r d).length<d.length:=by
 have hdl:=An.2 hd0;intro f;induction f with
 | zero=>intro r h;simp only[Eb];omega
 | succ f ih =>
  intro r h;simp only[Eb];split
  ·rename_i hl;have:=Jh hd0 hl;exact ih _ (by omega)
  ·omega
theorem SF{a b:LI}(hb0:b ≠ []):(Bt a b).length<b.length:=Aeh hb0 _ _ (Ap _)
theorem gR(R:Int)(hR:0<=R):∀ (n f:Nat),f<=n->∀ (a b:LI),b.length<=f->BZ a->BZ b->HO [1] a b ->
  ∃ Q0:Int,0<Q0/\∀ q x:Int,ZS R q x->Q0<=q->LP a x q->Mid (CG (Hh a x q)) (DZ (HS f a b) x q) (DZ (HS f a b) (x+1) q):=by
 intro n;induction n with
 | zero =>
  intro f hf a b hb _ _ _;have:f=0:=by omega
  subst this;exact⟨1,by decide,fun q x _ _ _=>Mid.nil _⟩
 | succ n ih =>
  intro f hf a b hb ha lb h;by_cases hb0:b=[]
  ·have e:HS f a b=[]:=by
    cases f with
    | zero=>rfl
    | succ f=>simp only[HS];rw[if_pos hb0]
   rw[e];exact⟨1,by decide,fun q x _ _ _=>Mid.nil _⟩
  ·have hbl:=An.2 hb0;obtain⟨f,rfl⟩:∃ k,f=k+1:=⟨f-1,by omega⟩;have hpl:=SF (a:=a) hb0;have he:=Qp lb hb0 h;have le:BZ (Cc (Bt a b)):=HP (O6 ha);obtain⟨Q1,hQ1,h1⟩:=ih f (by omega) b (Cc (Bt a b)) (by rw[DR];omega) lb le he;obtain⟨L,Q2,hL,hQ2,h2⟩:=SE R hR he;obtain⟨c,c',Q,hc,hc',hid⟩:=WC (a:=a) lb hb0;obtain⟨Q3,hQ3,h3⟩:=Aeg R hR hc hc' hid he;have e1:HS (f+1) a b=b::HS f b (Cc (Bt a b)):=by simp only[HS];rw[if_neg hb0]
   rw[e1];by_cases he0:Cc (Bt a b)=[]
   ·refine⟨Q1+Q2,by omega,fun q x hr hq hst => ?_⟩;have hsb:LP b x q:=by
     apply A5;intro hn;have:=(h2 q x hr (by omega) hn).2;rw[he0,A1x] at this;simp at this
    obtain⟨g1,g2⟩:=KI hsb;have hm:=h1 q x hr (by omega) hsb;show Mid _ (CG (Hh b x q)::_) (CG (Hh b (x+1) q)::_);rw[g1];exact Mid.st _ _ g2 hm
   ·have hel:=An.2 he0;rw[DR] at hel;obtain⟨f,rfl⟩:∃ k,f=k+1:=⟨f-1,by omega⟩;have he2:=Qp le he0 he;have hpl2:=SF (a:=b) he0;rw[DR] at hpl2;obtain⟨Q4,hQ4,h4⟩:=ih f (by omega) (Cc (Bt a b)) (Cc (Bt b (Cc (Bt a b)))) (by rw[DR];omega) le (HP (O6 lb)) he2;refine⟨Q1+Q2+Q3+Q4,by omega,fun q x hr hq hst => ?_⟩;by_cases hsb:LP b x q
    ·obtain⟨g1,g2⟩:=KI hsb;have hm:=h1 q x hr (by omega) hsb;show Mid _ (CG (Hh b x q)::_) (CG (Hh b (x+1) q)::_);rw[g1];exact Mid.st _ _ g2 hm
    ·obtain⟨hse,_⟩:=h2 q x hr (by omega) hsb;obtain⟨r1,r2⟩:=h3 q x hr (by omega) hsb;obtain⟨g1,g2⟩:=KI hse;have hm:=h4 q x hr (by omega) hse;have hsg:CG (Hh (Cc (Bt a b)) x q) = -CG (Hh a x q):=by
      unfold LP at hse;unfold CG;rcases hse with ⟨k1,_⟩ | ⟨k1,_⟩
      ·have:=r1 k1;rw[if_neg (by omega),if_pos k1,if_pos this];rfl
      ·have:=r2 k1;rw[if_pos k1,if_neg (by omega),if_pos this]
     have e2:HS (f+1) b (Cc (Bt a b))=Cc (Bt a b)::HS f (Cc (Bt a b)) (Cc (Bt b (Cc (Bt a b)))):=by simp only[HS];rw[if_neg he0]
     rw[e2];show Mid _ (CG (Hh b x q)::CG (Hh (Cc (Bt a b)) x q)::_) (CG (Hh b (x+1) q)::CG (Hh (Cc (Bt a b)) (x+1) q)::_);rw[g1];rw[hsg] at hm |-;exact Mid.un _ _ _ (ZT _) (ZT _) hm
theorem A1y{a:Int}(h:a=1\/a = -1)(n:Int)(h2:CG n=a):(a=1/\0<n)\/(a = -1/\n<0):=by
 unfold CG at h2;split at h2
 ·right;omega
 ·split at h2
  ·left;omega
  ·omega
theorem YB{f:LI}(R:Int)(hR:0<=R)(lf:BZ f)(hl:2<=f.length)(hl1:(prim (At f)).length=f.length-1)(h:HO [1] f (prim (At f)))(hc:0<AQ (At f))(n:Nat)(hn:f.length-1<=n) :
  ∃ Q0:Int,0<Q0/\∀ q x:Int,ZS R q x->Q0<=q->∃ d:Int,Top (DZ (f::HS n f (prim (At f))) x q) (DZ (f::HS n f (prim (At f))) (x+1) q) d/\(d=0\/d=1)/\(d=1->¬ LP f x q/\Hh f x q ≠ 0)/\(d=0->LP f x q\/Hh f x q=0):=by
 have l1:BZ (prim (At f)):=BX _;have h10:prim (At f) ≠ []:=by intro h0;rw[h0] at hl1;simp at hl1;omega
 obtain⟨Q1,hQ1,m1⟩:=gR R hR n n (Ap _) f (prim (At f)) (by omega) lf l1 h;obtain⟨L,Q2,hL,hQ2,p2⟩:=SE R hR h;obtain⟨Q3,hQ3,p3⟩:=TD R hR hl hl1 h hc;obtain⟨n,rfl⟩:∃ k,n=k+1:=⟨n-1,by omega⟩;have e1:HS (n+1) f (prim (At f))=prim (At f)::HS n (prim (At f)) (Cc (Bt f (prim (At f)))):=by simp only[HS];rw[if_neg h10]
 have he:=Qp l1 h10 h;have hpl:=SF (a:=f) h10;obtain⟨Q4,hQ4,m4⟩:=gR R hR n n (Ap _) (prim (At f)) (Cc (Bt f (prim (At f)))) (by rw[DR];omega) l1 (HP (O6 lf)) he;refine⟨Q1+Q2+Q3+Q4,by omega,fun q x hr hq => ?_⟩;by_cases hst:LP f x q
 ·obtain⟨g1,g2⟩:=KI hst;have hm:=m1 q x hr (by omega) hst;refine⟨0,?_,.inl rfl,fun h=>absurd h (by decide),fun _ => .inl hst⟩;show Top (CG (Hh f x q)::_) (CG (Hh f (x+1) q)::_) 0;rw[g1];exact Top.st _ g2 hm
 ·obtain⟨hs1,_⟩:=p2 q x hr (by omega) hst;obtain⟨g1,g2⟩:=KI hs1;obtain⟨r1,r2⟩:=p3 q x hr (by omega) hst;have hm:=m4 q x hr (by omega) hs1;rw[e1];refine⟨if CG (Hh f x q)=0 then 0 else 1,?_,by split;exact .inl rfl;exact .inr rfl,?_,?_⟩
  ·show Top (CG (Hh f x q)::CG (Hh (prim (At f)) x q)::_) (CG (Hh f (x+1) q)::CG (Hh (prim (At f)) (x+1) q)::_) _;rw[g1];unfold LP at hst;rcases A1y g2 _ rfl with ⟨k1,k2⟩ | ⟨k1,k2⟩
   ·have hd:=r1 k2;refine Top.un _ _ _ g2 ?_ ?_ hm
    ·rw[k1];unfold CG; (repeat' split) <;> omega
    ·rw[k1];unfold CG; (repeat' split) <;> omega
   ·have hd:=r2 k2;refine Top.un _ _ _ g2 ?_ ?_ hm
    ·rw[k1];unfold CG; (repeat' split) <;> omega
    ·rw[k1];unfold CG; (repeat' split) <;> omega
  ·intro hd;refine⟨hst,fun h0 => ?_⟩;rw[h0] at hd;exact absurd hd (by decide)
  ·intro hd;right;apply A5;intro h0;rw[if_neg (by unfold CG; (repeat' split) <;> omega)] at hd
   exact absurd hd (by decide)
theorem gS{f:LI}(R:Int)(hR:0<=R)(lf:BZ f)(hl:2<=f.length)(hl1:(prim (At f)).length=f.length-1)(h:HO [1] f (prim (At f)))(hc:0<AQ (At f))(n:Nat)(hn:f.length-1<=n) :
  ∃ Q0:Int,0<Q0/\∀ q u:Int,0<q->Q0<=q->∀ k:Nat,(u.natAbs:Int)<=R*q->((u+(k:Int)).natAbs:Int)<=R*q ->
   wv 0 (DZ (f::HS n f (prim (At f))) (u+(k:Int)) q)<=wv 0 (DZ (f::HS n f (prim (At f))) u q):=by
 obtain⟨Q0,hQ0,ht⟩:=YB R hR lf hl hl1 h hc n hn;refine⟨Q0,hQ0,fun q u hq0 hq k => ?_⟩;induction k with
 | zero=>intro _ _;simp
 | succ k ih =>
  intro h1 h2;have h3:((u+(k:Int)).natAbs:Int)<=R*q:=by omega
  have h4:=ih h1 h3;have h6:((u+(k:Int)+1).natAbs:Int)<=R*q:=by omega
  obtain⟨d,hd,hd2,_,_⟩:=ht q (u+(k:Int)) ⟨hq0,h3,h6⟩ hq;have h5:=sV hd;have e:u+((k+1:Nat):Int)=u+(k:Int)+1:=by omega
  rw[e];omega
theorem YC(p:LI)(x q c:Int)(hc:0<c):CG (Hh p (c*x) (c*q))=CG (Hh p x q):=by
 have e:∀ T,hs (fun i=>p.getD i 0) (c*x) (c*q) T=c^T*hs (fun i=>p.getD i 0) x q T:=by
  intro T;induction T with
  | zero=>simp[hs]
  | succ T ih =>
   simp only[hs];rw[ih,Q8,A2 c T];grind
 have hp:0<c^(p.length-1):=Ez hc;unfold Hh Go.Ai.hp;rw[e];generalize hs (fun i=>p.getD i 0) x q (p.length-1)=H;generalize c^(p.length-1)=C at *
 unfold CG;by_cases h1:H<0
 ·have:=Mm hp h1;rw[if_pos this,if_pos h1]
 ·by_cases h2:0<H
  ·have:=BL hp h2;rw[if_neg (by omega),if_neg h1,if_pos this,if_pos h2]
  ·have:H=0:=by omega
   rw[this];simp
theorem KJ(l:List (LI))(x q c:Int)(hc:0<c):DZ l (c*x) (c*q)=DZ l x q:=by
 unfold DZ;exact Gj fun p _=>YC p x q c hc
theorem ZU{f:LI}(lf:BZ f)(hl:2<=f.length):(At f).length=f.length-1:=by
 have ht:=E6 lf (by intro h;rw[h] at hl;simp at hl);unfold At;have hL:BZ ((Aq (f.length-1)).map fun j=>f.getD (j+1) 0*((j+1:Nat):Int)):=by
  refine Rg (.inr ?_);rw[N,B9,GV,if_pos (by omega),show f.length-1-1+1=f.length-1 by omega];exact BW ht (by omega)
 rw[hL,N,B9]
theorem Jx{p:LI}(hp:Aa p ≠ [])(hl:2<=(Ag p).length):BZ (Ag p)/\(prim (At (Ag p))).length=(Ag p).length-1/\HO [1] (Ag p) (prim (At (Ag p)))/\0<AQ (At (Ag p)):=by
 obtain⟨lf,cf,tf,f0,_,_,_,h1⟩:=Fi hp;generalize Ag p=f at *
 have hd:=ZU lf hl;have ld:BZ (At f):=Gv _;have hd0:Aa (At f) ≠ []:=by rw[ld];intro h;rw[h] at hd;simp at hd;omega
 have hG:=Ky f (At f);obtain⟨c,hc⟩:=Rq h1;have tG:=S4 (t:=At f) (Fb lf f0);rw[hc] at hG tG;have hc0:0<c:=tG;refine⟨lf,by rw[BN,ld,hd],?_,IQ hd0⟩;have h2:HO [1] f (At f):=hG.gscaled (m:=c) (n:=1) (by omega) (by decide) (fun x=>by simp[V]);obtain⟨m,hm,hm2⟩:=FI (At f);exact h2.scaled (m:=1) (n:=1) (k:=m) (l:=1) (by decide) (by decide) hm (by decide) (fun x=>rfl) (fun x=>by rw[<- hm2 x];omega)
def CV(p:LI):List (LI):=if Ag p=[] then [] else Ag p::HS (Ag p).length (Ag p) (prim (At (Ag p)))
theorem O7(p:LI){x y q:Int}(hq:0<q)(hxy:x<=y):wv 0 (DZ (CV p) y q)<=wv 0 (DZ (CV p) x q):=by
 unfold CV;by_cases h0:Ag p=[]
 ·rw[if_pos h0];exact Dz _
 ·rw[if_neg h0];have hp:Aa p ≠ []:=by
   intro h;have hz:prim p=[]:=by rw[Ee,<- C'];exact h
   apply h0;unfold Ag;rw[hz];rfl
  have hpos:=An.2 h0;by_cases hl:2<=(Ag p).length
  ·obtain⟨lf,hl1,hG,hc⟩:=Jx hp hl;obtain⟨Q0,hQ0,hm⟩:=gS ((x.natAbs:Int)+(y.natAbs:Int)) (by omega) lf hl hl1 hG hc (Ag p).length (by omega);have h1:(0:Int)<Q0*q:=BL hQ0 hq;have hQq:Q0<=Q0*q:=by
    have:=Ak (show (1:Int)<=q by omega) (show 0<=Q0 by omega);omega
   have hb:∀ z:Int,(z.natAbs:Int)<=(x.natAbs:Int)+(y.natAbs:Int)->((Q0*z).natAbs:Int)<=((x.natAbs:Int)+(y.natAbs:Int))*(Q0*q):=by
    intro z hz;have h2:=DE (a:=Q0) (A:=Q0*q) (by omega) hz;have e:Q0*q*((x.natAbs:Int)+(y.natAbs:Int))=((x.natAbs:Int)+(y.natAbs:Int))*(Q0*q):=AA ..;omega
   have hd:0<=Q0*(y-x):=A6 (by omega) (by omega);have e1:Q0*x+((Q0*(y-x)).toNat:Int)=Q0*y:=by rw[Int.toNat_of_nonneg hd,Hu];omega
   have h3:=hm (Q0*q) (Q0*x) h1 hQq (Q0*(y-x)).toNat (hb x (by omega)) (by rw[e1];exact hb y (by omega));rw[e1,KJ _ _ _ _ hQ0,KJ _ _ _ _ hQ0] at h3;exact h3
  ·have hl1:(Ag p).length=1:=by omega
   have hz:prim (At (Ag p))=[]:=by
    rw[Ee];intro i;rw[DC,Bw (by omega),DF]
   have e:HS (Ag p).length (Ag p) (prim (At (Ag p)))=[]:=by rw[hl1,hz];rfl
   rw[e];have eh:∀ z,Hh (Ag p) z q=(Ag p).getD 0 0:=fun z=>by unfold Hh Go.Ai.hp;rw[hl1];rfl
   unfold DZ;simp only[C2,GC];rw[eh,eh];exact Dz _
theorem E8{n:Int}:CG n=0↔n=0:=by unfold CG; (repeat' split) <;> omega
theorem KK{n:Int}:CG n=1↔0<n:=by unfold CG; (repeat' split) <;> omega
theorem KL{n:Int}:CG n = -1↔n<0:=by unfold CG; (repeat' split) <;> omega
def Ny(f g:LI)(W:Int->Int)(q x:Int):Prop :=
 (CG (Hh f (x+1) q)=CG (Hh f x q)/\Hh f x q ≠ 0/\W x=W (x+1)) \/
 ((CG (Hh g x q)=1\/CG (Hh g x q) = -1)/\CG (Hh g (x+1) q)=CG (Hh g x q) /\
  ((Hh f x q=0/\CG (Hh f (x+1) q)=CG (Hh g x q)/\W x=W (x+1)) \/
  (CG (Hh f x q) = -CG (Hh g x q)/\(Hh f (x+1) q=0\/CG (Hh f (x+1) q)=CG (Hh g x q))/\W x=W (x+1)+1)))
theorem cell{f:LI}(R:Int)(hR:0<=R)(lf:BZ f)(hl:2<=f.length)(hl1:(prim (At f)).length=f.length-1)(h:HO [1] f (prim (At f)))(hc:0<AQ (At f))(n:Nat)(hn:f.length-1<=n) :
  ∃ Q0:Int,0<Q0/\∀ q x:Int,ZS R q x->Q0<=q->Ny f (prim (At f)) (fun y=>wv 0 (DZ (f::HS n f (prim (At f))) y q)) q x:=by
 obtain⟨Q1,hQ1,t1⟩:=YB R hR lf hl hl1 h hc n hn;obtain⟨L,Q2,hL,hQ2,p2⟩:=SE R hR h;obtain⟨Q3,hQ3,p3⟩:=TD R hR hl hl1 h hc;refine⟨Q1+Q2+Q3,by omega,fun q x hr hq => ?_⟩;obtain⟨d,hd,hd2,hd3,hd4⟩:=t1 q x hr (by omega);have hw:=sV hd;unfold Ny;by_cases hst:LP f x q
 ·left;obtain⟨g1,g2⟩:=KI hst;have hd0:d=0:=by
   rcases hd2 with e | e
   ·exact e
   ·exact absurd hst (hd3 e).1
  refine⟨g1,fun h0 => ?_,by show wv 0 _=wv 0 _;omega⟩;rw[h0] at g2;exact absurd g2 (by decide)
 ·right;obtain⟨hs1,_⟩:=p2 q x hr (by omega) hst;obtain⟨g1,g2⟩:=KI hs1;obtain⟨r1,r2⟩:=p3 q x hr (by omega) hst;refine⟨g2,g1,?_⟩;by_cases h0:Hh f x q=0
  ·left;have hd0:d=0:=by
    rcases hd2 with e | e
    ·exact e
    ·exact absurd h0 (hd3 e).2
   refine⟨h0,?_,by show wv 0 _=wv 0 _;omega⟩;rcases g2 with k | k
   ·have:=r1 (KK.1 k);rw[k,KK];omega
   ·have:=r2 (KL.1 k);rw[k,KL];omega
  ·right;have hd1:d=1:=by
    rcases hd2 with e | e
    ·rcases hd4 e with k | k
     ·exact absurd k hst
     ·exact absurd k h0
    ·exact e
   unfold LP at hst;rcases g2 with k | k
   ·have:=r1 (KK.1 k);refine⟨by rw[k,KL];omega,?_,by show wv 0 _=wv 0 _+1;omega⟩;by_cases hz:Hh f (x+1) q=0
    ·exact .inl hz
    ·right;rw[k,KK];omega
   ·have:=r2 (KL.1 k);refine⟨by rw[k];show _=1;rw[KK];omega,?_,by show wv 0 _=wv 0 _+1;omega⟩;by_cases hz:Hh f (x+1) q=0
    ·exact .inl hz
    ·right;rw[k,KL];omega
theorem Ny.mono{f g:LI}{W:Int->Int}{q x:Int}(h:Ny f g W q x):W (x+1)<=W x:=by
 rcases h with ⟨_,_,h⟩ | ⟨_,_,⟨_,_,h⟩ | ⟨_,_,h⟩⟩ <;> omega
theorem Ny.root{f g:LI}{W:Int->Int}{q x:Int}(h:Ny f g W q x)(h0:Hh f (x+1) q=0):W x=W (x+1)+1:=by
 have e:CG (Hh f (x+1) q)=0:=E8.2 h0;rcases h with ⟨h1,h2,_⟩ | ⟨h1,_,⟨_,h3,_⟩ | ⟨_,_,h⟩⟩
 ·rw[e] at h1;exact absurd (E8.1 h1.symm) h2
 ·omega
 ·exact h
def Par(f g:LI)(W:Int->Int)(q u v:Int):Prop :=
 (Hh f v q ≠ 0/\CG (Hh f v q)=(if (W u-W v) % 2=0 then 1 else -1)*CG (Hh f u q)) \/
 (Hh f v q=0/\CG (Hh g v q)=(if (W u-W v) % 2=0 then 1 else -1)*CG (Hh f u q))
theorem WD{f g:LI}{W:Int->Int}{q u:Int}(h0:Hh f u q ≠ 0):∀ k:Nat,(∀ j:Nat,j<k->Ny f g W q (u+(j:Int)))->Par f g W q u (u+(k:Int))
 | 0,_=>by
  left;rw[show u+((0:Nat):Int)=u by omega];exact⟨h0,by rw[if_pos (by omega),Do]⟩
 | k+1,hc=>by
  have ih:=WD h0 k (fun j hj=>hc j (by omega));have c:=hc k (by omega);have e:u+((k+1:Nat):Int)=u+(k:Int)+1:=by omega
  rw[e];have hu:CG (Hh f u q)=1\/CG (Hh f u q) = -1:=by
   have:=ZT (Hh f u q);have:CG (Hh f u q) ≠ 0:=fun hh=>h0 (E8.1 hh);omega
  generalize u+(k:Int)=v at *
  unfold Par at ih |-;rcases c with ⟨c1,c2,c3⟩ | ⟨c1,c2,⟨c3,c4,c5⟩ | ⟨c3,c4,c5⟩⟩
  ·rw[<- c3];rcases ih with ⟨i1,i2⟩ | ⟨i1,_⟩
   ·left;refine⟨fun hz => ?_,by rw[c1];exact i2⟩;rw[hz] at c1;exact i1 (E8.1 c1.symm)
   ·exact absurd i1 c2
  ·rw[<- c5];rcases ih with ⟨i1,_⟩ | ⟨_,i2⟩
   ·exact absurd c3 i1
   ·left;refine⟨fun hz => ?_,by rw[c4];exact i2⟩;rw[hz] at c4;have:CG 0=0:=rfl;omega
  ·have i2:CG (Hh f v q)=(if (W u-W v) % 2=0 then 1 else -1)*CG (Hh f u q):=by
    rcases ih with ⟨_,i2⟩ | ⟨i1,_⟩
    ·exact i2
    ·rw[i1] at c3;have:CG 0=0:=rfl;omega
   have flip:CG (Hh g v q)=(if (W u-W (v+1)) % 2=0 then 1 else -1)*CG (Hh f u q):=by
    by_cases hp:(W u-W v) % 2=0
    ·rw[if_pos hp] at i2;rw[if_neg (by omega)];omega
    ·rw[if_neg hp] at i2;rw[if_pos (by omega)];omega
   rcases c4 with c4 | c4
   ·right;exact⟨c4,by rw[c2];exact flip⟩
   ·left;refine⟨fun hz => ?_,by rw[c4];exact flip⟩;rw[hz] at c4;have:CG 0=0:=rfl;omega
theorem TE{f g:LI}{W:Int->Int}{q u:Int}:∀ k:Nat,(∀ j:Nat,j<k->Ny f g W q (u+(j:Int)))->W (u+(k:Int))<=W u
 | 0,_=>by simp
 | k+1,hc=>by
  have ih:=TE k (fun j hj=>hc j (by omega));have:=(hc k (by omega)).mono;have e:u+((k+1:Nat):Int)=u+(k:Int)+1:=by omega
  rw[e];omega
theorem grid(p:LI)(hp:Aa p ≠ [])(hl:2<=(Ag p).length){x y q:Int}(hq:0<q):∃ c:Int,0<c/\∀ z:Int,c*x<=z->z<c*y->Ny (Ag p) (prim (At (Ag p))) (fun z=>wv 0 (DZ (CV p) z (c*q))) (c*q) z:=by
 obtain⟨lf,hl1,hG,hc⟩:=Jx hp hl;have h0:Ag p ≠ []:=by intro h;rw[h] at hl;simp at hl
 obtain⟨Q0,hQ0,hm⟩:=cell ((x.natAbs:Int)+(y.natAbs:Int)) (by omega) lf hl hl1 hG hc (Ag p).length (by omega);refine⟨Q0,hQ0,fun z h1 h2 => ?_⟩;have hQq:Q0<=Q0*q:=by
  have:=Ak (show (1:Int)<=q by omega) (show 0<=Q0 by omega);omega
 have hb:∀ z:Int,(z.natAbs:Int)<=(x.natAbs:Int)+(y.natAbs:Int)->((Q0*z).natAbs:Int)<=((x.natAbs:Int)+(y.natAbs:Int))*(Q0*q):=by
  intro z hz;have h2:=DE (a:=Q0) (A:=Q0*q) (by omega) hz;have e:Q0*q*((x.natAbs:Int)+(y.natAbs:Int))=((x.natAbs:Int)+(y.natAbs:Int))*(Q0*q):=AA ..;omega
 have bx:=hb x (by omega);have by':=hb y (by omega);have e:CV p=Ag p::HS (Ag p).length (Ag p) (prim (At (Ag p))):=by unfold CV;rw[if_neg h0]
 rw[e];exact hm (Q0*q) z ⟨BL hQ0 hq,by omega,by omega⟩ hQq
theorem gT(p:LI)(hp:Aa p ≠ [])(hl:2<=(Ag p).length){x m y q:Int}(hq:0<q)(hxm:x<m)(hmy:m<y)(h1:wv 0 (DZ (CV p) x q)-wv 0 (DZ (CV p) y q)=1) :
  (Hh (Ag p) m q=0->wv 0 (DZ (CV p) m q)=wv 0 (DZ (CV p) y q)) /\
  (Hh (Ag p) m q ≠ 0->Hh (Ag p) y q=0->wv 0 (DZ (CV p) m q)=wv 0 (DZ (CV p) y q)+1) /\
  (Hh (Ag p) m q ≠ 0->Hh (Ag p) y q ≠ 0->(CG (Hh (Ag p) m q)=CG (Hh (Ag p) y q)↔wv 0 (DZ (CV p) m q)=wv 0 (DZ (CV p) y q))):=by
 obtain⟨c,hc,hg⟩:=grid p hp hl (x:=x) (y:=y) hq;have m1:=O7 p hq (A7 hxm);have m2:=O7 p hq (A7 hmy);have sc:∀ z,wv 0 (DZ (CV p) (c*z) (c*q))=wv 0 (DZ (CV p) z q):=fun z=>by rw[KJ _ _ _ _ hc]
 have hs:∀ z,CG (Hh (Ag p) (c*z) (c*q))=CG (Hh (Ag p) z q):=fun z=>YC _ _ _ _ hc;have d1:c*x+c<=c*m:=by
  have:=Ak (show x+1<=m by omega) (show 0<=c by omega);rw[CW,Dn] at this;exact this
 have d2:c*m+c<=c*y:=by
  have:=Ak (show m+1<=y by omega) (show 0<=c by omega);rw[CW,Dn] at this;exact this
 have back:∀ a b:Int,c*x<=a->a<b->b<=c*y->Hh (Ag p) b (c*q)=0->wv 0 (DZ (CV p) b (c*q))+1<=wv 0 (DZ (CV p) a (c*q)):=by
  intro a b ha hab hb hz;have hcell:=hg (b-1) (by omega) (by omega);have h2:=hcell.root (by rw[show b-1+1=b by omega];exact hz);simp only[show b-1+1=b by omega] at h2;have h3:=TE (u:=a) (b-1-a).toNat (fun j hj=>hg (a+(j:Int)) (by omega) (by omega));simp only[show a+((b-1-a).toNat:Int)=b-1 by omega] at h3;omega
 refine⟨fun hz => ?_,fun _ hz => ?_,fun hm0 hy0 => ?_⟩
 ·have hz':Hh (Ag p) (c*m) (c*q)=0:=by rw[<- E8,hs,E8];exact hz
  have:=back (c*x) (c*m) (Dz _) (by omega) (by omega) hz';rw[sc,sc] at this;omega
 ·have hz':Hh (Ag p) (c*y) (c*q)=0:=by rw[<- E8,hs,E8];exact hz
  have:=back (c*m) (c*y) (by omega) (by omega) (Dz _) hz';rw[sc,sc] at this;omega
 ·have hm':Hh (Ag p) (c*m) (c*q) ≠ 0:=fun g=>hm0 (by rw[<- E8,<- hs,E8];exact g);have hy':Hh (Ag p) (c*y) (c*q) ≠ 0:=fun g=>hy0 (by rw[<- E8,<- hs,E8];exact g);have hpar:=WD (g:=prim (At (Ag p))) (W:=fun z=>wv 0 (DZ (CV p) z (c*q))) hm' (c*y-c*m).toNat (fun j hj=>hg (c*m+(j:Int)) (by omega) (by omega));rw[show c*m+((c*y-c*m).toNat:Int)=c*y by omega] at hpar;rcases hpar with ⟨_,e⟩ | ⟨e,_⟩
  ·simp only[sc,hs] at e;have hb:CG (Hh (Ag p) m q) ≠ 0:=fun g=>hm0 (E8.1 g);constructor
   ·intro heq;apply A5;intro hne;rw[if_neg (by omega)] at e;omega
   ·intro heq;rw[if_pos (by omega)] at e;omega
  ·exact absurd e hy'
end Go.Ai
namespace Go.Proofs.YtajompaehjkgkaaGreat
open Go.Ai
set_option maxRecDepth 100000
open Bool renaming false_or->WM
open Classical renaming byContradiction->A5
open Decidable renaming decide->B
open Go.Ai.AV renaming bool->D,int->F,sl->H,tup->Ax
open Go.IntKind renaming i64->O,wrap->I
open Int renaming add_mul->Hg,eq_of_mul_eq_mul_left->I2,le_of_eq->ED,le_of_lt->A7,le_refl->Dz,lt_of_mul_lt_mul_left->Fj,lt_of_mul_lt_mul_right->Gi,mul_assoc->AH,mul_comm->AA,mul_ediv_cancel_left->BT,mul_lt_mul_of_pos_right->Cx,mul_pos->BL,pow_add->BB,pow_pos->Ez,pow_succ->A2,toNat->A,toNat_natCast->R,zero_mul->DF
open List renaming any_eq_false->P9,drop_eq_getElem_cons->CL,drop_length->JP,getD_eq_getElem?_getD->Z,getElem?_eq_getElem->Af,getElem?_map->Ch,getElem_mem->CT,length_append->AX,length_map->N,length_pos_iff->An,map_append->D_,mem_append->BV,mem_cons->D4,take_length->EK,take_succ_eq_append_getElem->qR
open Nat renaming add_comm->JW,le_refl->Ap,pow_add->De,zero_le->Ba
theorem TF:∀ (f:Nat) (a b:LI),DN f a b=HS f a b
 | 0,_,_=>rfl
 | f+1,a,b=>by simp only[DN,HS];rw[TF f]
theorem R4(p:LI):B0 p=CV p:=by unfold B0 CV;rw [TF]
theorem A6k(l:List (LI))(N:Int)(e i:Nat):HZ l N e i=CG (Hh (l.getD i []) N (2^e)):=by
 unfold HZ Hh;rw[ZQ];rfl
theorem Aei(l:List (LI))(N:Int)(e:Nat):∀ i,i<=l.length->(BY l N e i).1+wv (BY l N e i).2 (DZ (l.drop i) N (2^e))=wv 0 (DZ l N (2^e)):=by
 intro i;induction i with
 | zero=>intro _;simp[BY]
 | succ i ih =>
  intro hi;rw[<- ih (by omega)];rw[CL (show i<l.length by omega)];have hg:l.getD i []=l[i]:=by rw[Z,Af (by omega)];rfl
  have hs:=A6k l N e i;rw[hg] at hs;show (Qn (BY l N e i) (HZ l N e i)).1+wv (Qn (BY l N e i) (HZ l N e i)).2 _=(BY l N e i).1+wv (BY l N e i).2 (CG (Hh l[i] N (2^e))::_);rw[<- hs];generalize BY l N e i=x;generalize HZ l N e i=s;obtain⟨n,last⟩:=x;simp only[Qn,wv];by_cases h0:s=0
  ·rw[if_neg (fun h=>h.1 h0),if_neg (fun h=>h h0),if_pos h0];rfl
  ·rw[if_neg h0,if_pos h0];by_cases h1:last ≠ 0/\s ≠ last
   ·rw[if_pos ⟨h0,h1⟩,if_pos h1];show n+1+wv s (DZ (l.drop (i+1)) N (2^e))=n+(1+wv s (DZ (l.drop (i+1)) N (2^e)));omega
   ·rw[if_neg (fun h=>h1 h.2),if_neg h1];show n+wv s (DZ (l.drop (i+1)) N (2^e))=n+(0+wv s (DZ (l.drop (i+1)) N (2^e)));omega
def Vd(p:LI)(x:Int)(a:Nat):Int:=(BY (B0 p) x a (B0 p).length).1
theorem LQ(p:LI)(x:Int)(a:Nat):Vd p x a=wv 0 (DZ (CV p) x (2^a)):=by
 have h:=Aei (B0 p) x a (B0 p).length (Ap _);rw[JP,R4] at h;unfold Vd;rw[R4];have:wv (BY (CV p) x a (CV p).length).2 (DZ [] x (2^a))=0:=rfl;omega
theorem Da(n:Nat):(0:Int)<2^n:=Ez (by decide)
theorem IX(p:LI)(x:Int)(a c:Nat):Vd p (x*2^c) (a+c)=Vd p x a:=by
 rw[LQ,LQ,AA x,show (2:Int)^(a+c)=2^c*2^a by rw[BB,AA],KJ _ _ _ _ (Da c)]
theorem IY{p:LI}{x y:Int}{a b:Nat}(h:x*2^b<=y*2^a):Vd p y b<=Vd p x a:=by
 rw[<- IX p x a b,<- IX p y b a,JW b a,LQ,LQ];exact O7 p (Da _) h
theorem Avg{p:LI}{x y:Int}{a b:Nat}(h:x*2^b=y*2^a):Vd p x a=Vd p y b :=
 Int.le_antisymm (IY (ED h.symm)) (IY (ED h))
theorem sW(p:LI)(x:Int)(a:Nat):H2 p x a=CG (Hh p x (2^a)):=by unfold H2 Hh;rw [ZQ];rfl
theorem WE(p:LI)(x:Int)(a c:Nat):H2 p (x*2^c) (a+c)=H2 p x a:=Y9 (by rw [BB];grind)
theorem YD{p:LI}(h:(Ag p).length<2)(x y:Int)(a b:Nat):Vd p x a=Vd p y b:=by
 have e:∀ x a,Vd p x a=0:=by
  intro x a;rw[LQ];unfold CV;by_cases h0:Ag p=[]
  ·rw[if_pos h0];rfl
  ·rw[if_neg h0];have hz:prim (At (Ag p))=[]:=by
    rw[Ee];intro i;rw[DC,Bw (by omega),DF]
   have hl1:(Ag p).length=1:=by have:=An.2 h0;omega
   have e:HS (Ag p).length (Ag p) (prim (At (Ag p)))=[]:=by rw[hl1,hz];rfl
   rw[e];show wv 0 [_]=0;simp only[wv];split
   ·rfl
   ·rw[if_neg (fun h=>h.1 rfl)];rfl
 rw[e,e]
theorem half{p:LI}{x m y:Int}{a c b:Nat}(h1:x*2^c<m*2^a)(h2:m*2^b<y*2^c)(hV:Vd p x a-Vd p y b=1) :
  (H2 (Ag p) m c=0->Vd p m c=Vd p y b)/\(H2 (Ag p) m c ≠ 0->H2 (Ag p) y b=0->Vd p m c=Vd p y b+1) /\
  (H2 (Ag p) m c ≠ 0->H2 (Ag p) y b ≠ 0->(H2 (Ag p) m c=H2 (Ag p) y b↔Vd p m c=Vd p y b)):=by
 have hl:2<=(Ag p).length:=by
  apply A5;intro g;have:=YD (p:=p) (by omega) x y a b;omega
 have hp:Aa p ≠ []:=by
  intro h;have hz:prim p=[]:=by rw[Ee,<- C'];exact h
  have h0:Ag p=[]:=by unfold Ag;rw[hz];rfl
  rw[h0] at hl;simp at hl
 have e1:=IX p x a (c+b);have e2:=IX p m c (a+b);have e3:=IX p y b (a+c);have g2:=WE (Ag p) m c (a+b);have g3:=WE (Ag p) y b (a+c);rw[show a+(c+b)=a+b+c by omega,LQ] at e1;rw[show c+(a+b)=a+b+c by omega,LQ] at e2;rw[show b+(a+c)=a+b+c by omega,LQ] at e3;rw[show c+(a+b)=a+b+c by omega,sW] at g2;rw[show b+(a+c)=a+b+c by omega,sW] at g3;have i1:x*2^(c+b)<m*2^(a+b):=by
  have:=Cx h1 (Da b);rw[BB,BB,<- AH,<- AH];exact this
 have i2:m*2^(a+b)<y*2^(a+c):=by
  have:=Cx h2 (Da a);rw[BB,BB,AA (2^a) (2^b),AA (2^a) (2^c),<- AH,<- AH];exact this
 obtain⟨s1,s2,s3⟩:=gT p hp hl (Da (a+b+c)) i1 i2 (by rw[e1,e3];exact hV);rw[e2,e3] at s1 s2 s3;rw[g2,g3] at s3;have z2:Hh (Ag p) (m*2^(a+b)) (2^(a+b+c))=0↔H2 (Ag p) m c=0:=by rw[<- g2,E8]
 have z3:Hh (Ag p) (y*2^(a+c)) (2^(a+b+c))=0↔H2 (Ag p) y b=0:=by rw[<- g3,E8]
 exact⟨fun h=>s1 (z2.2 h),fun h h'=>s2 (fun g=>h (z2.1 g)) (z3.2 h'),fun h h'=>s3 (fun g=>h (z2.1 g)) (fun g=>h' (z3.1 g))⟩
theorem Ni{x y:Int}{a b:Nat}(h:x*2^b<y*2^a):x*2^Nu x a y b<P7 x a y b*2^a/\P7 x a y b*2^b<y*2^Nu x a y b:=by
 have hz:=O3 (max a b+1) (I0 x a y b);obtain⟨N,hN⟩:=K0 (max a b+1) (I0 x a y b);have hS:I0 x a y b=x*2^(max a b-a)+y*2^(max a b-b):=rfl;unfold P7 Nu;generalize I0 x a y b=S at *
 generalize DO S (max a b+1)=z at *
 have pz:=Da z;have e:S / 2^z=N:=by rw[hN];exact BT _ (by omega)
 rw[e];obtain⟨k,hk⟩:∃ k,max a b+1=z+k:=⟨max a b+1-z,by omega⟩;rw[show max a b+1-z=k by omega];have hz2:(2:Int)^z*2^k=2*2^max a b:=by rw[<- BB,<- hk,A2,AA]
 have ea:(2:Int)^max a b=2^(max a b-a)*2^a:=by rw[<- BB];congr 1;omega
 have eb:(2:Int)^max a b=2^(max a b-b)*2^b:=by rw[<- BB];congr 1;omega
 have pa:=Da (max a b-a);have pb:=Da (max a b-b);have pA:=Da a;have pB:=Da b;have pk:=Da k;generalize (2:Int)^max a b=M at *
 generalize (2:Int)^(max a b-a)=u at *
 generalize (2:Int)^(max a b-b)=v at *
 generalize (2:Int)^a=A at *
 generalize (2:Int)^b=B at *
 generalize (2:Int)^z=Z at *
 generalize (2:Int)^k=K at *
 have huv:x*u<y*v:=by
  have h3:x*B*(u*v)<y*A*(u*v):=Cx h (BL pa pb);have e3:x*B*(u*v)=x*u*M:=by rw[eb];grind
  have e4:y*A*(u*v)=y*v*M:=by rw[ea];grind
  rw[e3,e4] at h3;exact Gi h3 (by rw[ea];exact A7 (BL pa pA))
 constructor
 ·have h4:Z*(x*K)<Z*(N*A):=by
   have e5:Z*(x*K)=x*u*(2*A):=by
    have:Z*(x*K)=x*(Z*K):=by grind
    rw[this,hz2,ea];grind
   have e6:Z*(N*A)=(x*u+y*v)*A:=by rw[<- hS,hN];grind
   have h5:=Cx (show x*u+x*u<x*u+y*v by omega) pA;rw[e5,e6];have:x*u*(2*A)=(x*u+x*u)*A:=by grind
   rw[this];exact h5
  exact Fj h4 (A7 pz)
 ·have h4:Z*(N*B)<Z*(y*K):=by
   have e5:Z*(y*K)=y*v*(2*B):=by
    have:Z*(y*K)=y*(Z*K):=by grind
    rw[this,hz2,eb];grind
   have e6:Z*(N*B)=(x*u+y*v)*B:=by rw[<- hS,hN];grind
   have h5:=Cx (show x*u+y*v<y*v+y*v by omega) pB;rw[e5,e6];have:y*v*(2*B)=(y*v+y*v)*B:=by grind
   rw[this];exact h5
  exact Fj h4 (A7 pz)
theorem Jy{x y:Int}{a b:Nat}:Co x a y b = -1↔x*2^b<y*2^a:=by unfold Co CI; (repeat' split) <;> omega
theorem R5{x y:Int}{a b:Nat}:Co x a y b=0↔x*2^b=y*2^a:=by unfold Co CI; (repeat' split) <;> omega
theorem KM{x y:Int}{a b:Nat}:Co x a y b=1↔y*2^a<x*2^b:=by unfold Co CI; (repeat' split) <;> omega
structure One (p:List Int) (x:Iv):Prop where
 lt:P x.r*2^x.b<P x.t*2^x.a
 v:Vd p (P x.r) x.a-Vd p (P x.t) x.b=1
theorem gW{p:LI}{x:Iv}(h:One p x){m:Int}{c:Nat}(h1:P x.r*2^c<m*2^x.a)(h2:m*2^x.b<P x.t*2^c) :
  (JO (Ag p) (P x.r) x.a (P x.t) x.b m c<=0↔Vd p m c=Vd p (P x.t) x.b)/\(¬ JO (Ag p) (P x.r) x.a (P x.t) x.b m c<=0↔Vd p m c=Vd p (P x.t) x.b+1):=by
 obtain⟨k1,k2,k3⟩:=half h1 h2 h.v;have m1:Vd p m c<=Vd p (P x.r) x.a:=IY (A7 h1);have m2:Vd p (P x.t) x.b<=Vd p m c:=IY (A7 h2);have hv:=h.v;have e1:¬ Co m c (P x.r) x.a<=0:=by
  rw[KM.2 h1];decide
 have e2:¬ Co m c (P x.t) x.b>0:=by
  rw[Jy.2 h2];decide
 have key:JO (Ag p) (P x.r) x.a (P x.t) x.b m c<=0↔Vd p m c=Vd p (P x.t) x.b:=by
  unfold JO;rw[if_neg e1,if_neg e2];by_cases c1:H2 (Ag p) m c=0
  ·rw[if_pos c1];exact⟨fun _=>k1 c1,fun _=>Dz _⟩
  ·rw[if_neg c1];by_cases c2:H2 (Ag p) (P x.t) x.b=0
   ·have:=k2 c1 c2;rw[if_neg (by rw[c2];exact c1)];constructor <;> intro g <;> omega
   ·have:=k3 c1 c2;by_cases c3:H2 (Ag p) m c=H2 (Ag p) (P x.t) x.b
    ·rw[if_pos c3];exact⟨fun _=>this.1 c3,fun _=>by decide⟩
    ·rw[if_neg c3];exact⟨fun g=>absurd g (by decide),fun g=>absurd (this.2 g) c3⟩
 refine⟨key,?_⟩;rw[key];omega
theorem One.half{p:LI}{x:Iv}(h:One p x):One p (Pi (Ag p) x):=by
 obtain⟨b1,b2⟩:=Ni h.lt;have hne:Co (P x.r) x.a (P x.t) x.b ≠ 0:=by rw[Jy.2 h.lt];decide
 obtain⟨s1,s2⟩:=gW h b1 b2;have hv:=h.v;unfold Pi;rw[if_neg hne];split
 ·rename_i g;have e:=s1.1 g;refine⟨?_,?_⟩
  ·show P x.r*2^x.me<P (cn x.mn)*2^x.a;rw[u];exact b1
  ·show Vd p (P x.r) x.a-Vd p (P (cn x.mn)) x.me=1;rw[u];have:Vd p x.mn x.me=Vd p (P x.t) x.b:=e;omega
 ·rename_i g;have e:=s2.1 g;refine⟨?_,?_⟩
  ·show P (cn x.mn)*2^x.b<P x.t*2^x.me;rw[u];exact b2
  ·show Vd p (P (cn x.mn)) x.me-Vd p (P x.t) x.b=1;rw[u];have:Vd p x.mn x.me=Vd p (P x.t) x.b+1:=e;omega
theorem One.halves{p:LI}{x:Iv}(h:One p x):∀ n,One p (W9 (Ag p) x n)
 | 0=>h
 | n+1=>(One.halves h n).half
def sc(x:Int)(a k:Nat):Int:=x*2^k / 2^a
def Iv.lo(x:Iv)(k:Nat):Int:=sc (P x.r) x.a k
def Iv.hi(x:Iv)(k:Nat):Int:=sc (P x.t) x.b k
section
variable {p:LI} (hp:Rz p) {C m:Nat} {x:Iv} (h:IvOk C m x) {k:Nat} (hk:k<=64)
include hp h hk
end
section
variable {p q:LI} (hp:Rz p) (hq:Rz q) {C m:Nat} {x y:Iv} (hx:IvOk C m x) (hy:IvOk C m y)
include hp hq hx hy
end
section
variable {p q:LI} (hp:Rz p) (hq:Rz q) {C m:Nat} {x y:Iv} (hx:IvOk C m x) (hy:IvOk C m y)
include hp hq hx hy
end
theorem pX{rs:List Rn}(hg:∀ r∈rs,AO 5 r)(hn:rs.length<=9){r t:Rn}(hr:AO 100 r)(ht:AO 100 t){a b:Nat}(ha:a<=4096)(hb:b<=4096) :
  RQ 136 [sL pc rs,j r (a:Nat),j t (b:Nat)] (F O (Nv (Q rs) (P r) a (P t) b)):=by
 have hch:=O0 hg hn;have hnice:=Hp hg hn;have hlen:=G_ hg hn;have x1:=G1 hnice hr a (by omega) (by omega);have x2:=G1 hnice ht b (by omega) (by omega);have k:=Aut rs _ r t (a:Nat) (b:Nat) _ _ hch x1 x2;rw[L0 (by omega)] at k;exact k
def TG(r:Rn)(e:Int):Bool:=decide (e>=0)&&decide (e<=64)&&decide (CR (P r).natAbs<=128)
theorem R6{r:Rn}{e:Int}(hr:AO 100 r):RQ 54 [j r e] (D (TG r e)):=by
 have hb:=MV (neg:=r.1) hr.1 (by have:=hr.2;omega);unfold TG;by_cases c1:e>=0
 ·by_cases c2:e<=64
  ·have k:=Adk r e _ (decide_eq_true c1) (decide_eq_true c2) hb;have ez:decide (((CR (P r).natAbs:Nat):Int)<=128)=decide (CR (P r).natAbs<=128):=decide_eq_decide.2 (by omega);rw[decide_eq_true c1,decide_eq_true c2];show FK _ _ _ (D (B (CR (P r).natAbs<=128)));rw[<- ez];exact k
  ·rw[decide_eq_true c1,decide_eq_false c2];exact Adl r e (decide_eq_true c1) (decide_eq_false c2)
 ·rw[decide_eq_false c1];exact Adm r e (decide_eq_false c1)
def Iv.d(p:LI)(x:Iv):Int:=Vd p (P x.r) x.a-Vd p (P x.t) x.b
def Iv.lf(x:Iv):Iv:=⟨x.r,x.a,cn x.mn,x.me⟩
def Iv.rg(x:Iv):Iv:=⟨cn x.mn,x.me,x.t,x.b⟩
def Fy(p:LI):Nat->Iv->List Iv
 | 0,x=>if x.d p=0 then [] else [x]
 | n+1,x=>if x.d p=0 then [] else if x.d p=1 then [x] else Fy p n x.lf++Fy p n x.rg
def Deep(p:LI)(E:Nat):Nat->Iv->Prop
 | 0,x=>x.d p=0\/x.d p=1
 | n+1,x=>x.d p=0\/x.d p=1\/(x.me<=E/\Deep p E n x.lf/\Deep p E n x.rg)
def Dd(p:LI)(x:Iv):Rt:=⟨p.map cn,x.r,(x.a:Nat),x.t,(x.b:Nat)⟩
theorem pY{C m:Nat}{x:Iv}(h:IvOk C m x)(hC:C+m+1<3000):IvOk C (m+1) x.lf/\IvOk C (m+1) x.rg/\AO 100 (cn x.mn)/\x.me<=m+1:=by
 obtain⟨gr,gt,ha,hb,vr,vt⟩:=h;have e2:x.me<=max x.a x.b+1:=R0;have e3:x.mn.natAbs<=2^C*2^x.me:=ZP vr vt;have hf:AO 100 (cn x.mn):=BG (L1 (k:=C+x.me) (by rw[De];exact e3) (by omega));refine⟨⟨gr,hf,by show x.a<=_;omega,by show x.me<=_;omega,vr,by show (P (cn x.mn)).natAbs<=_;rw[u];exact e3⟩,⟨hf,gt,by show x.me<=_;omega,by show x.b<=_;omega,by show (P (cn x.mn)).natAbs<=_;rw[u];exact e3,vt⟩,hf,by omega⟩
theorem LR{p:LI}(hl:(B0 p).length<=10)(x:Int)(a:Nat):0<=Vd p x a/\Vd p x a<=10:=by
 have:=Kz (B0 p) x a (B0 p).length;unfold Vd;omega
section
variable {p:LI} (hnice:∀ q∈B0 p,fP q) (hlen:(B0 p).length<=10) (h1:0<(B0 p).length) (hfr:(B0 p).getD 0 []=Ag p) {E:Nat} (hE:E<=1000000)
include hnice hlen h1 hfr hE
theorem pZ:∀ (n:Nat) (x:Iv) (C m:Nat),IvOk C m x->C+m+n+1<3000->Deep p E n x->(Fy p n x).length<=1000*1000 ->
  RQ 105 [H (Dj (B0 p)).length (pp (Dj (B0 p))),j x.r (x.a:Nat),j x.t (x.b:Nat),F O (Vd p (P x.r) x.a),F O (Vd p (P x.t) x.b),F O (E:Nat)]
   (.frs (.tp true) 7 (Fy p n x).length (EH ((Fy p n x).map (Dd (Ag p))))):=by
 intro n;induction n with
 | zero =>
  intro x C m hx hC hd _;have b1:=LR hlen (P x.r) x.a;have b2:=LR hlen (P x.t) x.b;have ew:I O (Vd p (P x.r) x.a-Vd p (P x.t) x.b)=Iv.d p x:=Bl (by omega) (by omega);simp only[Fy];rcases hd with hd | hd
  ·rw[if_pos hd];exact W6 _ x.r x.t _ _ _ _ _ (by rw[ew,hd];rfl)
  ·rw[if_neg (by omega)];have k:=W7 (Dj (B0 p)) x.r x.t (x.a:Nat) (x.b:Nat) _ _ (E:Nat) (by rw[ew,hd];rfl) (by rw[ew,hd];rfl) (by rw[Iz];omega);rw[show A 0=0 from rfl,Mt h1,hfr] at k;exact k
 | succ n ih =>
  intro x C m hx hC hd hL;have b1:=LR hlen (P x.r) x.a;have b2:=LR hlen (P x.t) x.b;have ew:I O (Vd p (P x.r) x.a-Vd p (P x.t) x.b)=Iv.d p x:=Bl (by omega) (by omega);simp only[Fy] at hL |-;by_cases c0:x.d p=0
  ·rw[if_pos c0];exact W6 _ x.r x.t _ _ _ _ _ (by rw[ew,c0];rfl)
  ·rw[if_neg c0] at hL |-;by_cases c1:x.d p=1
   ·rw[if_pos c1];have k:=W7 (Dj (B0 p)) x.r x.t (x.a:Nat) (x.b:Nat) _ _ (E:Nat) (by rw[ew,c1];rfl) (by rw[ew,c1];rfl) (by rw[Iz];omega);rw[show A 0=0 from rfl,Mt h1,hfr] at k;exact k
   ·rw[if_neg c1] at hL |-;rcases hd with hd | hd | ⟨d1,d2,d3⟩
    ·exact absurd hd c0
    ·exact absurd hd c1
    ·obtain⟨o1,o2,o3,o4⟩:=pY hx (by omega);obtain⟨gr,gt,ha,hb,vr,vt⟩:=hx;rw[AX] at hL;have k1:=ih x.lf C (m+1) o1 (by omega) d2 (by omega);have k2:=ih x.rg C (m+1) o2 (by omega) d3 (by omega);have hm:=ZM (gr.mono (show 100<=200 by omega)) (gt.mono (show 100<=200 by omega)) (a:=x.a) (b:=x.b) (by omega) (by omega);have hv:=G1 hnice o3 x.me (by omega) (by omega);rw[u] at hv;have e1:Vd p (P (cn x.mn)) x.me=Vd p x.mn x.me:=by rw[u]
     have f1:(x.lf).t=cn x.mn:=rfl;have f2:(x.rg).r=cn x.mn:=rfl;rw[f1,show x.lf.b=x.me from rfl,show x.lf.r=x.r from rfl,show x.lf.a=x.a from rfl,e1] at k1;rw[f2,show x.rg.a=x.me from rfl,show x.rg.t=x.t from rfl,show x.rg.b=x.b from rfl,e1] at k2;have k:=pQ (Dj (B0 p)) x.r x.t (x.a:Nat) (x.b:Nat) _ _ (E:Nat) x.mn (x.me:Nat) _ true true _ _ _ _ (by rw[ew,beq_eq_false_iff_ne];exact c0) (by rw[ew,beq_eq_false_iff_ne];exact c1) (by rw[decide_eq_false_iff_not];omega) rfl (by rw[TB,N]) (by omega) hm hv k1 k2;rw[AX,D_,L2];exact k
end
theorem gX{p:LI}{C:Nat}:∀ (n:Nat) (x:Iv) (m:Nat),IvOk C m x->C+m+n+1<3000->∀ y∈Fy p n x,IvOk C (m+n) y:=by
 intro n;induction n with
 | zero =>
  intro x m hx _ y hy;simp only[Fy] at hy;split at hy
  ·cases hy
  ·rcases D4.1 hy with rfl | hy
   ·exact hx
   ·cases hy
 | succ n ih =>
  intro x m hx hC y hy;have up:IvOk C (m+(n+1)) x:=⟨hx.gr,hx.gt,by have:=hx.a;omega,by have:=hx.b;omega,hx.vr,hx.vt⟩;simp only[Fy] at hy;split at hy
  ·cases hy
  ·split at hy
   ·rcases D4.1 hy with rfl | hy
    ·exact up
    ·cases hy
   ·obtain⟨o1,o2,_,_⟩:=pY hx (by omega);rcases BV.1 hy with hy | hy
    ·have:=ih x.lf (m+1) o1 (by omega) y hy;rwa [show m+1+n=m+(n+1) by omega] at this
    ·have:=ih x.rg (m+1) o2 (by omega) y hy;rwa [show m+1+n=m+(n+1) by omega] at this
theorem Nj{p:LI}{K:Nat}(h:Kb K p)(hK:K<=256)(hl:p.length<=17):CP p=false:=by
 have ht:=Bq p;unfold CP;rw[decide_eq_false (by omega),WM,P9];intro x hx;have:=(h.trim.mem x hx).len;unfold O4;simp only[decide_eq_true_eq];omega
def Ht(p:LI)(n:Nat)(x:Iv):List Iv:=if (B0 p).length<2 then [] else Fy p n x
def Iv.out(p:LI)(x:Iv):Rt:=⟨p.map cn,cn (P x.r),(x.a:Nat),cn (P x.t),(x.b:Nat)⟩
theorem R7{p:LI}(h:0<(B0 p).length):(B0 p).getD 0 []=Ag p:=by
 unfold B0 at h |-;split at h
 ·simp at h
 ·rename_i g;rw[if_neg g];rfl
section
variable {rs:List Rn} (hg:∀ r∈rs,AO 5 r) (hn:rs.length<=9)
include hg hn
theorem Aej{n:Nat}{x:Iv}{C m:Nat}(hx:IvOk C m x)(hC:C+m+n+1<3000){E:Nat}(hE:E<=1000000)(hd:Deep (Q rs) E n x)(hL:(Fy (Q rs) n x).length<=1000*1000) :
  RQ 56 [sL pc rs,j x.r (x.a:Nat),j x.t (x.b:Nat),F O (E:Nat)] (.frs (.tp true) 7 ((Ht (Q rs) n x).map (Dd (Ag (Q rs)))).length (EH ((Ht (Q rs) n x).map (Dd (Ag (Q rs)))))) \/
  RQ 56 [sL pc rs,j x.r (x.a:Nat),j x.t (x.b:Nat),F O (E:Nat)] (Ax [H ((Ht (Q rs) n x).map (Dd (Ag (Q rs)))).length (EH ((Ht (Q rs) n x).map (Dd (Ag (Q rs))))),D true]):=by
 have hch:=O0 hg hn;have hnice:=Hp hg hn;have hlen:=G_ hg hn;unfold Ht;by_cases c:(B0 (Q rs)).length<2
 ·rw[if_pos c];exact .inl (Adn rs _ x.r x.t _ _ _ (by rw[decide_eq_true_eq,Iz];omega) hch)
 ·rw[if_neg c];have x1:=G1 hnice hx.gr x.a (by have:=hx.a;omega) (by omega);have x2:=G1 hnice hx.gt x.b (by have:=hx.b;omega) (by omega);have sp:=pZ hnice hlen (by omega) (R7 (by omega)) hE n x C m hx hC hd hL;rw[N];exact .inr (Ado rs _ x.r x.t _ _ _ _ _ true _ _ (by rw[decide_eq_false_iff_not,Iz];omega) hch x1 x2 sp)
theorem Avh(h0:Aa (Q rs) ≠ [])(hl:CP (Q rs)=false){n:Nat}{x:Iv}{C m:Nat}(hx:IvOk C m x)(hC:C+m+n+1<3000)(hd:Deep (Q rs) 896 n x)(hL:(Fy (Q rs) n x).length<=1000*1000)
  (e1:TG x.r (x.a:Nat)=true) (e2:TG x.t (x.b:Nat)=true) (hle:¬ Co (P x.r) x.a (P x.t) x.b>0) :
  RQ 15 [sL pc rs,j x.r (x.a:Nat),j x.t (x.b:Nat)] (Ax [H (Ht (Q rs) n x).length (EH ((Ht (Q rs) n x).map (Iv.out (Ag (Q rs))))),F O 0]):=by
 have s1:=Lz hg (by omega) (by omega);rw[hl] at s1;have dg:=Gm (fun r h=>(hg r h).mono (by omega)) (show rs.length<=1048576 by omega);have htl:=Fa (Q rs);rw[s] at htl;have hpos:=An.2 h0;have y1:=R6 (e:=(x.a:Nat)) hx.gr;have y2:=R6 (e:=(x.b:Nat)) hx.gt;rw[e1] at y1;rw[e2] at y2;have cm:=S9 (hx.gr.mono (show 100<=200 by omega)) (hx.gt.mono (show 100<=200 by omega)) (a:=x.a) (b:=x.b) (by have:=hx.a;omega) (by have:=hx.b;omega);have ri:=Aej hg hn hx hC (E:=896) (by omega) hd hL;obtain⟨k1,k2⟩:=Y7 h0 (by rw[s];exact hn) (Iy (C1 hg));have lf:=(Fi h0).1;have htl2:=Bq (Q rs);rw[s] at htl2;have hsm:=Lz (rs:=(Ag (Q rs)).map cn) (K:=8) (AW k1) (by omega) (by rw[N];omega);rw[v,Nj k1 (by omega) (by omega)] at hsm;have htr:=IN (rs:=(Ag (Q rs)).map cn) (fun r h=>(AW k1 r h).mono (show 8<=1048576 by omega)) (by rw[N];omega);rw[v,lf] at htr;have hok:∀ y∈Ht (Q rs) n x,IvOk C (m+n) y:=by
  unfold Ht;split
  ·intro y hy;cases hy
  ·exact gX n x m hx hC
 have hlen:(Ht (Q rs) n x).length<=1000*1000:=by unfold Ht;split <;> simp <;> omega
 generalize Ht (Q rs) n x=L at *
 generalize hq:Ag (Q rs)=q at *
 have step:∀ i,i<L.length->Ar UC (Nw rs (L.map (Dd q)) i (EH ((L.take i).map (Iv.out q))) ((L.map (Dd q)).length:Nat) (i:Nat)) .norm (Nw rs (L.map (Dd q)) (i+1) (EH ((L.take (i+1)).map (Iv.out q))) ((L.map (Dd q)).length:Nat) ((i+1:Nat):Int)):=by
  intro i hi;have ei:I O ((i:Int)+1)=((i+1:Nat):Int):=by rw[Bl (by omega) (by omega)];omega
  have hy:=hok L[i] (CT hi);have eg:(L.map (Dd q)).getD (A (i:Int)) zR=Dd q L[i]:=by
   rw[R,Z,Ch,Af hi];rfl
  have gr:=hy.gr;have gt:=hy.gt;have c1:=gD L[i].r (L[i].a:Nat) _ (MS (neg:=L[i].r.1) gr.1 (by have:=gr.2;omega));have c2:=gD L[i].t (L[i].b:Nat) _ (MS (neg:=L[i].t.1) gt.1 (by have:=gt.2;omega));have ro:=A1i (q.map cn) L[i].r L[i].t (L[i].a:Nat) (L[i].b:Nat) _ _ _ _ _ (E7 htr) c1 c2;have k:=A1q rs (L.map (Dd q)) i (EH ((L.take i).map (Iv.out q))) ((L.map (Dd q)).length:Nat) (i:Nat) (q.map cn) (P L[i].r) (L[i].a:Nat) (P L[i].t) (L[i].b:Nat) true (by rw[decide_eq_true_eq,N];omega) rfl (by rw[N];omega) (by omega) (by rw[eg];exact hsm) (by rw[eg];exact ro);have et:EH ((L.take (i+1)).map (Iv.out q))=EH ((L.take i).map (Iv.out q))++([H (q.map cn).length (pc (q.map cn)),D ((cn (P L[i].r)).1),H ((cn (P L[i].r)).2.length) (lm (cn (P L[i].r)).2),F O (L[i].a:Nat),D ((cn (P L[i].t)).1),H ((cn (P L[i].t)).2.length) (lm (cn (P L[i].t)).2),F O (L[i].b:Nat)]:List AV):=by
   rw[qR hi,D_,L2];rfl
  rw[ei] at k;rw[et];exact k
 have lp:=Cv.up (prog:=AY) (c:=UC) (ex := .exit 1) (fin:=Nw rs (L.map (Dd q)) L.length (EH ((L.take L.length).map (Iv.out q))) ((L.map (Dd q)).length:Nat) (L.length:Int))
  (fun i=>Nw rs (L.map (Dd q)) i (EH ((L.take i).map (Iv.out q))) ((L.map (Dd q)).length:Nat) (i:Nat)) L.length (by nofun) step (A1r _ _ _ _ _ _ (by rw[decide_eq_false_iff_not,N];omega)) 0 (Ba _)
 rw[EK] at lp;rcases ri with ri | ri
 ·exact gK rs x.r x.t _ _ _ _ _ true true true true (L.map (Dd q)) _ _ rfl (by rw[decide_eq_false_iff_not];omega) rfl rfl (decide_eq_false hle) rfl s1 dg y1 y2 cm ri lp
 ·exact gL rs x.r x.t _ _ _ _ _ true true true true (L.map (Dd q)) _ _ rfl (by rw[decide_eq_false_iff_not];omega) rfl rfl (decide_eq_false hle) rfl s1 dg y1 y2 cm ri lp
end
section
variable {rs ss:List Rn} (hg:∀ r∈rs,AO 5 r) (hn:rs.length<=9) {x y:Iv} {C m:Nat} (hx:IvOk C m x)
include hg hn hx
end
theorem Avi(x:Int)(a:Nat)(y:Int)(b:Nat):P7 x a y b*(2*(2^a*2^b))=(x*2^b+y*2^a)*2^Nu x a y b:=by
 have hz:=O3 (max a b+1) (I0 x a y b);obtain⟨N,hN⟩:=K0 (max a b+1) (I0 x a y b);have hS:I0 x a y b=x*2^(max a b-a)+y*2^(max a b-b):=rfl;unfold P7 Nu;generalize I0 x a y b=S at *
 generalize DO S (max a b+1)=z at *
 have pz:=Da z;have e:S / 2^z=N:=by rw[hN];exact BT _ (by omega)
 rw[e];obtain⟨k,hk⟩:∃ k,max a b+1=z+k:=⟨max a b+1-z,by omega⟩;rw[show max a b+1-z=k by omega];have hz2:(2:Int)^z*2^k=2*2^max a b:=by rw[<- BB,<- hk,A2,AA]
 have ea:(2:Int)^max a b=2^(max a b-a)*2^a:=by rw[<- BB];congr 1;omega
 have eb:(2:Int)^max a b=2^(max a b-b)*2^b:=by rw[<- BB];congr 1;omega
 generalize (2:Int)^max a b=M at *
 generalize (2:Int)^(max a b-a)=u at *
 generalize (2:Int)^(max a b-b)=v at *
 generalize (2:Int)^a=A at *
 generalize (2:Int)^b=B at *
 generalize (2:Int)^z=Z at *
 generalize (2:Int)^k=K at *
 apply I2 (show Z ≠ 0 by omega);have e1:Z*(N*(2*(A*B)))=(x*u+y*v)*(2*(A*B)):=by rw[<- hS,hN];grind
 have e2:Z*((x*B+y*A)*K)=(x*B+y*A)*(2*M):=by rw[<- hz2];grind
 have e3:x*B*(2*M)=x*u*(2*(A*B)):=by rw[ea];grind
 have e4:y*A*(2*M)=y*v*(2*(A*B)):=by rw[eb];grind
 rw[e1,e2,Hg,Hg,e3,e4]
end Go.Proofs.YtajompaehjkgkaaGreat
namespace Go.Ai
open Classical renaming byContradiction->A5
open Decidable renaming decide->B
open Int renaming add_mul->Hg,add_zero->B5,le_of_lt->A7,le_of_mul_le_mul_left->Ei,le_refl->Dz,le_trans->EC,lt_trichotomy->qU,mul_add->CW,mul_assoc->AH,mul_comm->AA,mul_le_mul->DJ,mul_le_mul_of_nonneg_left->Ak,mul_le_mul_of_nonneg_right->Ae,mul_ne_zero->BW,mul_neg_of_pos_of_neg->Mm,mul_nonneg->A6,mul_one->Dn,mul_pos->BL,mul_pow->Q8,mul_sub->Hu,mul_zero->AM,natAbs->E,natAbs_mul->BK,natAbs_natCast->BD,natCast_add->Kf,natCast_nonneg->G3,natCast_pow->C6,ofNat_le->A5o,one_mul->Do,pow_pos->Ez,pow_succ->A2,pow_zero->CE,sub_self->Tt,zero_mul->DF
open List renaming cons_append->HT,countP_eq_length_filter->H4,eq_nil_of_length_eq_zero->A9,getD_eq_getElem?_getD->Z,getElem?_eq_getElem->Af,length_cons->Bv,length_eq_countP_add_countP->qS,length_map->N,length_pos_iff->An,length_range->B9,length_tail->SI,length_take->AB,map_append->D_,map_cons->C2,map_nil->GC,mem_cons->D4,mem_cons_of_mem->Bi,mem_cons_self->By,mem_filter->IE,mem_iff_getElem->H3,mem_of_mem_take->C3,range->Aq,range_succ->Hq,take_sublist->A7d
open Nat renaming add_assoc->Dw,add_sub_cancel->Hi,div_add_mod->iS,div_div_eq_div_mul->gZ,div_lt_of_lt_mul->qA,eq_zero_or_pos->FJ,le_mul_of_pos_left->X7,le_mul_of_pos_right->BP,le_of_not_lt->Np,le_refl->Ap,le_trans->Be,mod_eq_of_lt->F3,mod_lt->HB,mul_add->A7b,mul_add_mod->Awe,mul_assoc->EQ,mul_comm->CS,mul_le_mul->Bj,mul_le_mul_left->AL,mul_le_mul_right->AF,mul_one->I6,mul_pos->Es,mul_zero->aD,not_lt_zero->Qw,pow_le_pow_right->BF,pow_pos->BS,pow_succ->FM,succ_mul->KT,zero_le->Ba
open Rat renaming div_def->X4,intCast_add->Ki,intCast_le_intCast->BC,intCast_mul->CC,intCast_natCast->Db,intCast_neg->Afh,inv_pos->X6,le_of_lt->EZ,mul_le_mul_of_nonneg_left->Ew,mul_le_mul_of_nonneg_right->Df,mul_lt_mul_of_pos_left->Awl,mul_lt_mul_of_pos_right->Ev,mul_nonneg->Ef,mul_pos->I7,natCast_add->Qy,natCast_le_natCast->Hf,natCast_mul->Qz,one_mul->X5,pow_succ->J6
theorem ZV:∀ (M N:Nat) (φ:Nat->Nat),(∀ i,i<N->φ i<M)->M<N->∃ i j,i<j/\j<N/\φ i=φ j
 | 0,N,φ,h,hN=>absurd (h 0 hN) (Qw _)
 | M+1,N,φ,h,hN=>by
  by_cases h0:∃ i,i<N/\φ i=M
  ·obtain⟨i,hi,ei⟩:=h0;by_cases h1:∃ j,j<N/\j ≠ i/\φ j=M
   ·obtain⟨j,hj,hne,ej⟩:=h1;rcases Nat.lt_or_gt_of_ne hne with g | g
    ·exact⟨j,i,g,hi,by omega⟩
    ·exact⟨i,j,g,hj,by omega⟩
   ·have other:∀ j,j<N->j ≠ i->φ j<M:=fun j hj hne=>by
     have:=h j hj;have:φ j ≠ M:=fun e=>h1 ⟨j,hj,hne,e⟩;omega
    obtain⟨a,b,hab,hb,e⟩:=ZV M (N-1) (fun k=>φ (if k<i then k else k+1)) (fun k hk=>other _ (by split <;> omega) (by split <;> omega)) (by omega);refine⟨if a<i then a else a+1,if b<i then b else b+1,by split <;> split <;> omega,by split <;> omega,e⟩
  ·obtain⟨a,b,hab,hb,e⟩:=ZV M N φ (fun i hi=>by
    have:=h i hi;have:φ i ≠ M:=fun e=>h0 ⟨i,hi,e⟩;omega) (by omega)
   exact⟨a,b,hab,hb,e⟩
def Kh(B v i:Nat):Nat:=v / (B+1)^i % (B+1)
theorem ZW(B v i:Nat):Kh B v i<=B:=by
 have:=HB (v / (B+1)^i) (show 0<B+1 by omega);unfold Kh;omega
theorem gY(B:Nat):∀ (k v w:Nat),v<(B+1)^k->w<(B+1)^k->(∀ i,i<k->Kh B v i=Kh B w i)->v=w
 | 0,v,w,hv,hw,_=>by simp at hv hw;omega
 | k+1,v,w,hv,hw,h=>by
  have h0:=h 0 (by omega);simp only[Kh,Nat.pow_zero,Nat.div_one] at h0;have hd:v / (B+1)=w / (B+1):=by
   apply gY B k
   ·rw[FM] at hv;exact qA (by rw[CS];exact hv)
   ·rw[FM] at hw;exact qA (by rw[CS];exact hw)
   ·intro i hi;have:=h (i+1) (by omega);simp only[Kh] at this |-;rw[gZ,gZ,CS (B+1),<- FM];exact this
  have e1:=iS v (B+1);have e2:=iS w (B+1);rw[hd] at e1;omega
def Eg(f:Nat->Int):Nat->Int
 | 0=>0
 | n+1=>Eg f n+f n
theorem YE(f g:Nat->Int):∀ n,Eg (fun i=>f i-g i) n=Eg f n-Eg g n
 | 0=>rfl
 | n+1=>by simp only[Eg];rw[YE f g n];omega
theorem K2{f g:Nat->Int}:∀ {n},(∀ i,i<n->f i=g i)->Eg f n=Eg g n
 | 0,_=>rfl
 | n+1,h=>by simp only[Eg];rw[K2 fun i hi=>h i (by omega),h n (by omega)]
theorem YF{f:Nat->Int}{A:Nat}:∀ n,(∀ i,i<n->(f i).natAbs<=A)->(Eg f n).natAbs<=n*A
 | 0,_=>by simp[Eg]
 | n+1,h=>by
  have h1:=YF n fun i hi=>h i (by omega);have h2:=h n (by omega);simp only[Eg,KT];omega
def Jn(t:Nat->Nat)(Q:Nat):Nat->Nat
 | 0=>0
 | m+1=>Jn t Q m*Q+t m
theorem hH{t:Nat->Nat}{Q:Nat}:∀ m,(∀ j,j<m->t j<Q)->Jn t Q m<Q^m
 | 0,_=>by simp[Jn]
 | m+1,h=>by
  have h1:=hH m fun j hj=>h j (by omega);have h2:=h m (by omega);simp only[Jn,FM];have:(Jn t Q m+1)*Q<=Q^m*Q:=AF _ h1;rw[KT] at this;omega
theorem YG{t u:Nat->Nat}{Q:Nat}:∀ m,(∀ j,j<m->t j<Q)->(∀ j,j<m->u j<Q)->Jn t Q m=Jn u Q m->∀ j,j<m->t j=u j
 | 0,_,_,_,j,hj=>absurd hj (Qw _)
 | m+1,ht,hu,h,j,hj=>by
  have h1:=ht m (by omega);have h2:=hu m (by omega);simp only[Jn] at h;have e1:(Jn t Q m*Q+t m) % Q=(Jn u Q m*Q+u m) % Q:=by rw[h]
  rw[CS,Awe,F3 h1,CS,Awe,F3 h2] at e1;have e2:Jn t Q m=Jn u Q m:=Nat.eq_of_mul_eq_mul_right (show 0<Q by omega) (by omega);by_cases hjm:j=m
  ·rw[hjm];exact e1
  ·exact YG m (fun j hj=>ht j (by omega)) (fun j hj=>hu j (by omega)) e2 j (by omega)
theorem sX(k C:Nat)(a:Nat->Nat->Int)(ha:∀ j i,(a j i).natAbs<=C)(hC:0<C)(hk:1<=k) :
  ∃ d:Nat->Int,(∀ i,(d i).natAbs<=(2*(k*C))^(k-1))/\(∃ i,i<k/\d i ≠ 0)/\∀ j,j<k-1->Eg (fun i=>a j i*d i) k=0:=by
 have hS:0<k*C:=Es hk hC;generalize hB:(2*(k*C))^(k-1)=B;have hval:∀ v j,(Eg (fun i=>a j i*(Kh B v i:Int)) k).natAbs<=k*C*B:=by
  intro v j;have:=YF (f:=fun i=>a j i*(Kh B v i:Int)) (A:=C*B) k (fun i _=>by
   rw[BK,BD];exact Bj (ha j i) (ZW B v i))
  rwa [<- EQ] at this
 have ht:∀ v j,(Eg (fun i=>a j i*(Kh B v i:Int)) k+(k*C*B:Nat)).toNat<2*(k*C*B)+1:=by
  intro v j;have:=hval v j;omega
 have hlt:(2*(k*C*B)+1)^(k-1)<(B+1)^k:=by
  have h1:(2*(k*C*B)+1)^(k-1)<=(2*(k*C)*(B+1))^(k-1):=by
   apply Nat.pow_le_pow_left;have:2*(k*C)*(B+1)=2*(k*C*B)+2*(k*C):=by rw[A7b,I6,EQ 2]
   omega
  rw[Nat.mul_pow,hB] at h1;have h2:(B+1)^k=(B+1)^(k-1)*(B+1):=by rw[<- FM];congr 1;omega
  have h3:0<(B+1)^(k-1):=BS (by omega);have h4:(B+1)^(k-1)*B=B*(B+1)^(k-1):=CS ..;rw[h2,A7b,I6];omega
 obtain⟨v,w,hvw,hw,e⟩:=ZV _ _ (fun v=>Jn (fun j=>(Eg (fun i=>a j i*(Kh B v i:Int)) k+(k*C*B:Nat)).toNat) (2*(k*C*B)+1) (k-1)) (fun v _=>hH _ (fun j _=>ht v j)) hlt;have he:=YG (k-1) (fun j _=>ht v j) (fun j _=>ht w j) e;refine⟨fun i=>(Kh B w i:Int)-(Kh B v i:Int),fun i => ?_,?_,fun j hj => ?_⟩
 ·have h1:=ZW B v i;have h2:=ZW B w i;show ((Kh B w i:Int)-(Kh B v i:Int)).natAbs<=B;omega
 ·apply A5;intro hn;have:=gY B k v w (by omega) hw (fun i hi=>by
   apply A5;intro g;exact hn ⟨i,hi,by show (Kh B w i:Int)-(Kh B v i:Int) ≠ 0;omega⟩)
  omega
 ·have h1:(Eg (fun i=>a j i*(Kh B v i:Int)) k+(k*C*B:Nat)).toNat=(Eg (fun i=>a j i*(Kh B w i:Int)) k+(k*C*B:Nat)).toNat:=he j hj;have h2:=hval v j;have h3:=hval w j;have h4:=YE (fun i=>a j i*(Kh B w i:Int)) (fun i=>a j i*(Kh B v i:Int)) k;have h5:Eg (fun i=>a j i*((Kh B w i:Int)-(Kh B v i:Int))) k=Eg (fun i=>a j i*(Kh B w i:Int)-a j i*(Kh B v i:Int)) k:=K2 fun i _=>Hu ..;rw[h5,h4];omega
def comb(d:Nat->Int)(b:Nat->LI):Nat->LI
 | 0=>[]
 | n+1=>Du (comb d b n) (Ay (d n) (b n))
theorem Nk(d:Nat->Int)(b:Nat->LI)(j:Nat):∀ n,(comb d b n).getD j 0=Eg (fun i=>(b i).getD j 0*d i) n
 | 0=>by simp[comb,Eg]
 | n+1=>by
  simp only[comb,Eg];rw[CX,AR,Nk d b j n,AA (d n)]
theorem O8(d:Nat->Int)(b:Nat->LI)(x:Int):∀ n,V (comb d b n) x=Eg (fun i=>d i*V (b i) x) n
 | 0=>by simp[comb,Eg,V]
 | n+1=>by
  simp only[comb,Eg];rw[BM,A0,O8 d b x n]
theorem Qq{f:Nat->Int}:∀ {n},(∀ i,i<n->f i=0)->Eg f n=0
 | 0,_=>rfl
 | n+1,h=>by simp only[Eg];rw[Qq fun i hi=>h i (by omega),h n (by omega)];rfl
theorem iA(b:Nat->LI)(k C:Nat)(hb:∀ i j,((b i).getD j 0).natAbs<=C)(hC:0<C)(hk:1<=k)(hl:∀ i,i<k->(b i).length<=k) :
  ∃ (d:Nat->Int) (R:Int),(∀ i,(d i).natAbs<=(2*(k*C))^(k-1))/\(∃ i,i<k/\d i ≠ 0)/\∀ x,Eg (fun i=>d i*V (b i) x) k=R:=by
 obtain⟨d,h1,h2,h3⟩:=sX k C (fun j i=>(b i).getD (j+1) 0) (fun j i=>hb i (j+1)) hC hk;refine⟨d,(comb d b k).getD 0 0,h1,h2,fun x => ?_⟩;rw[<- O8];have hz:∀ j,(comb d b k).getD j 0=[(comb d b k).getD 0 0].getD j 0:=by
  intro j;cases j with
  | zero=>rfl
  | succ j =>
   show _=0;rw[Nk];by_cases hj:j<k-1
   ·exact h3 j hj
   ·exact Qq fun i hi=>by rw[Bw (by have:=hl i hi;omega),DF]
 have e:Aa (comb d b k)=Aa [(comb d b k).getD 0 0]:=F2 hz;rw[<- DM (comb d b k),e,DM];simp[V]
def QE(f:LI):LI:=Du (Ay ((f.length-1:Nat):Int) f) (Ay (-1) (Ce 1 (At f)))
theorem WF(f:LI)(x:Int):V (QE f) x=((f.length-1:Nat):Int)*V f x-x*V (At f) x:=by
 unfold QE;rw[BM,A0,A0,CF,A2,CE,Do];omega
theorem YH(f:LI)(i:Nat):(QE f).getD i 0=(((f.length-1:Nat):Int)-(i:Int))*f.getD i 0:=by
 unfold QE;rw[CX,AR,AR,Cj];cases i with
 | zero=>simp
 | succ i =>
  rw[if_pos (by omega),DC,Hi];rw[Int.sub_mul];have:f.getD (i+1) 0*((i+1:Nat):Int)=((i+1:Nat):Int)*f.getD (i+1) 0:=AA ..;omega
theorem iB(f:LI):(QE f).length<=f.length-1:=by
 have h:∀ i,f.length-1<=i->(QE f).getD i 0=0:=by
  intro i hi;rw[YH];by_cases e:i=f.length-1
  ·rw[e,Tt,DF]
  ·rw[Bw (show f.length<=i by omega),AM]
 apply A5;intro hn;have hl:BZ (QE f):=by
  show Aa _=_;unfold QE Du;rw[Gv]
 exact E6 hl (fun e=>by rw[e] at hn;simp at hn) (h _ (by omega))
def X2(f:LI)(m i:Nat):LI:=if i<m then Ce i (QE f) else Ce (i-m) (At f)
theorem SG(f:Nat->Int)(m:Nat):∀ k,Eg f (m+k)=Eg f m+Eg (fun i=>f (m+i)) k
 | 0=>by simp[Eg]
 | k+1=>by
  rw[<- Dw];simp only[Eg];rw[SG f m k];omega
theorem Jz(d:Nat->Int)(x:Int):∀ m,Eg (fun i=>d i*x^i) m=V ((Aq m).map d) x
 | 0=>rfl
 | m+1=>by
  simp only[Eg];rw[Jz d x m,Hq,D_];have:∀ (l:LI) (a:Int),V (l++[a]) x=V l x+a*x^l.length:=by
   intro l a;induction l with
   | nil=>simp[V]
   | cons b l ih =>
    simp only[HT,V,Bv];rw[ih,A2];grind
  rw[C2,GC,this,N,B9]
theorem Mv(f:Nat->Int)(c:Int):∀ m,Eg (fun i=>f i*c) m=Eg f m*c
 | 0=>by simp[Eg]
 | m+1=>by simp only[Eg];rw[Mv f c m,Hg]
theorem iC{f:LI}{n:Nat}(hn:f.length=n+1)(h2:2<=n)(hp:(At f).length=n){i:Nat}(hi:i<(n-1)+(n-1)):(X2 f (n-1) i).length<=(n-1)+(n-1):=by
 have:=iB f;unfold X2;split
 ·rw[I1];omega
 ·rw[I1];omega
theorem WG{f:LI}{n A:Nat}(hn:f.length=n+1)(hA:∀ i,(f.getD i 0).natAbs<=A)(i j:Nat):((X2 f (n-1) i).getD j 0).natAbs<=n*A:=by
 have hh:∀ j,((QE f).getD j 0).natAbs<=n*A:=by
  intro j;rw[YH,hn,BK];by_cases hj:j<=n
  ·exact Bj (by omega) (hA j)
  ·rw[Bw (by omega)];simp
 have hd:∀ j,((At f).getD j 0).natAbs<=n*A:=by
  intro j;rw[DC,BK,CS];by_cases hj:j<n
  ·exact Bj (by omega) (hA (j+1))
  ·rw[Bw (by omega)];simp
 unfold X2;split
 ·rw[Cj];split
  ·exact hh _
  ·simp
 ·rw[Cj];split
  ·exact hd _
  ·simp
theorem iD{f:LI}{n A:Nat}(hn:f.length=n+1)(h2:2<=n)(hp:(At f).length=n)(hA:∀ i,(f.getD i 0).natAbs<=A)(hA0:0<A) :
  ∃ (d:Nat->Int) (R:Int),(∀ i,(d i).natAbs<=(2*(((n-1)+(n-1))*(n*A)))^((n-1)+(n-1)-1))/\(∃ i,i<(n-1)+(n-1)/\d i ≠ 0) /\
   ∀ x,V ((Aq (n-1)).map d) x*V (QE f) x+V ((Aq (n-1)).map fun i=>d (n-1+i)) x*V (At f) x=R:=by
 obtain⟨d,R,h1,h3,h4⟩:=iA (X2 f (n-1)) ((n-1)+(n-1)) (n*A) (WG hn hA) (Es (by omega) hA0) (by omega) (fun i hi=>iC hn h2 hp hi);refine⟨d,R,h1,h3,fun x => ?_⟩;rw[<- h4 x,SG,<- Jz,<- Jz,<- Mv,<- Mv];congr 1
 ·apply K2;intro i hi;unfold X2;rw[if_pos hi,CF,AH]
 ·apply K2;intro i hi;unfold X2;rw[if_neg (by omega),CF,show n-1+i-(n-1)=i by omega,AH]
def pq:LI->Rat->Rat
 | [],_=>0
 | a::p,x=>(a:Rat)+x*pq p x
def pd:LI->Rat->Rat
 | [],_=>0
 | _::p,x=>pq p x+x*pd p x
def dD:LI->Rat->Rat->Rat
 | [],_,_=>0
 | _::p,a,b=>pq p a+b*dD p a b
def dE:LI->Rat->Rat->Rat
 | [],_,_=>0
 | _::p,a,b=>dD p a b+b*dE p a b+pd p a
def dT:LI->Rat->Rat->Rat
 | [],_,_=>0
 | _::p,a,b=>b*dT p a b+pd p a
def dS:LI->Rat->Rat->Rat
 | [],_,_=>0
 | _::p,a,b=>a*dS p a b-dT p a b+dE p a b
theorem J0(a b:Rat):∀ f,pq f b=pq f a+(b-a)*dD f a b
 | []=>by simp[pq,dD];grind
 | c::p=>by
  have:=J0 a b p;simp only[pq,dD];grind
theorem iE(a b:Rat):∀ f,pd f b=pd f a+(b-a)*dE f a b
 | []=>by simp[pd,dE];grind
 | c::p=>by
  have h1:=iE a b p;have h2:=J0 a b p;simp only[pd,dE];grind
theorem R8(a b:Rat):∀ f,pq f b=pq f a+(b-a)*pd f a+(b-a)*(b-a)*dT f a b
 | []=>by simp[pq,pd,dT];grind
 | c::p=>by
  have:=R8 a b p;simp only[pq,pd,dT];grind
theorem WH(a b:Rat):∀ f,dT f b a=dT f a b+(b-a)*dS f a b
 | []=>by simp[dT,dS];grind
 | c::p=>by
  have h1:=WH a b p;have h2:=iE a b p;simp only[dT,dS];grind
def Bd(x c:Rat):Prop := -c<=x/\x<=c
theorem Bd.add{x y c d:Rat}(h:Bd x c)(g:Bd y d):Bd (x+y) (c+d):=by
 unfold Bd at *
 constructor <;> grind
theorem Bd.sub{x y c d:Rat}(h:Bd x c)(g:Bd y d):Bd (x-y) (c+d):=by
 unfold Bd at *
 constructor <;> grind
theorem Bd.mul{x y c d:Rat}(h:Bd x c)(g:Bd y d):Bd (x*y) (c*d):=by
 unfold Bd at *
 have h1:=Ef (show 0<=c-x by grind) (show 0<=d+y by grind);have h2:=Ef (show 0<=c+x by grind) (show 0<=d-y by grind);have h3:=Ef (show 0<=c-x by grind) (show 0<=d-y by grind);have h4:=Ef (show 0<=c+x by grind) (show 0<=d+y by grind);constructor <;> grind
theorem Bd.pos{x c:Rat}(h:Bd x c):0<=c:=by unfold Bd at h;grind
theorem Bd.zero:Bd 0 0:=by unfold Bd;constructor <;> grind
theorem Bd.mono{x c d:Rat}(h:Bd x c)(g:c<=d):Bd x d:=by unfold Bd at *;constructor <;> grind
theorem A1z{n:Int}{A:Nat}(h:n.natAbs<=A):Bd (n:Rat) (A:Rat):=by
 have h1:((-(A:Int):Int):Rat)<=(n:Rat):=BC.2 (by omega);have h2:(n:Rat)<=((A:Int):Rat):=BC.2 (by omega);unfold Bd;constructor
 ·rwa [Afh,Db] at h1
 ·rwa [Db] at h2
def zV(X:Nat):Nat->Nat
 | 0=>0
 | n+1=>1+X*zV X n
def zD(X:Nat):Nat->Nat
 | 0=>0
 | n+1=>zV X n+X*zD X n
def zE(X:Nat):Nat->Nat
 | 0=>0
 | n+1=>zD X n+X*zE X n+zD X n
def zT(X:Nat):Nat->Nat
 | 0=>0
 | n+1=>X*zT X n+zD X n
def zS(X:Nat):Nat->Nat
 | 0=>0
 | n+1=>X*zS X n+zT X n+zE X n
section
variable {A X:Nat} {a b:Rat} (ha:Bd a X) (hb:Bd b X)
include ha
theorem KN:∀ f:LI,(∀ c∈f,c.natAbs<=A)->Bd (pq f a) (A*zV X f.length)
 | [],_=>by simpa [pq,zV] using Bd.zero
 | c::p,h=>by
  have ih:=KN p fun c hc=>h c (Bi _ hc);have h1:=A1z (h c (By ..));have:=h1.add (ha.mul ih);simp only[pq,zV,Bv];refine this.mono ?_;simp;grind
theorem qB:∀ f:LI,(∀ c∈f,c.natAbs<=A)->Bd (pd f a) (A*zD X f.length)
 | [],_=>by simpa [pd,zD] using Bd.zero
 | c::p,h=>by
  have hp:∀ c∈p,c.natAbs<=A:=fun c hc=>h c (Bi _ hc);have:=(KN ha p hp).add (ha.mul (qB p hp));simp only[pd,zD,Bv];refine this.mono ?_;simp;grind
include hb
theorem O9:∀ f:LI,(∀ c∈f,c.natAbs<=A)->Bd (dD f a b) (A*zD X f.length)
 | [],_=>by simpa [dD,zD] using Bd.zero
 | c::p,h=>by
  have hp:∀ c∈p,c.natAbs<=A:=fun c hc=>h c (Bi _ hc);have:=(KN ha p hp).add (hb.mul (O9 p hp));simp only[dD,zD,Bv];refine this.mono ?_;simp;grind
theorem Avj:∀ f:LI,(∀ c∈f,c.natAbs<=A)->Bd (dE f a b) (A*zE X f.length)
 | [],_=>by simpa [dE,zE] using Bd.zero
 | c::p,h=>by
  have hp:∀ c∈p,c.natAbs<=A:=fun c hc=>h c (Bi _ hc);have:=((O9 ha hb p hp).add (hb.mul (Avj p hp))).add (qB ha p hp);simp only[dE,zE,Bv];refine this.mono ?_;simp;grind
theorem ZX:∀ f:LI,(∀ c∈f,c.natAbs<=A)->Bd (dT f a b) (A*zT X f.length)
 | [],_=>by simpa [dT,zT] using Bd.zero
 | c::p,h=>by
  have hp:∀ c∈p,c.natAbs<=A:=fun c hc=>h c (Bi _ hc);have:=(hb.mul (ZX p hp)).add (qB ha p hp);simp only[dT,zT,Bv];refine this.mono ?_;simp;grind
theorem qC:∀ f:LI,(∀ c∈f,c.natAbs<=A)->Bd (dS f a b) (A*zS X f.length)
 | [],_=>by simpa [dS,zS] using Bd.zero
 | c::p,h=>by
  have hp:∀ c∈p,c.natAbs<=A:=fun c hc=>h c (Bi _ hc);have:=((ha.mul (qC p hp)).sub (ZX ha hb p hp)).add (Avj ha hb p hp);simp only[dS,zS,Bv];refine this.mono ?_;simp;grind
end
theorem far{f U W:LI}{R:Int}{A B X:Nat}{a b e u:Rat}(hR:R ≠ 0)(hid:∀ x,pq U x*pq f x+pq W x*pd f x=(R:Rat))
  (hA:∀ c∈f,c.natAbs<=A) (hB:∀ c∈W,c.natAbs<=B) (ha:Bd a X) (hb:Bd b X) (hab:a<b)
  (hfa:Bd (pq f a) e) (hfb:Bd (pq f b) e) (hUa:Bd (pq U a) u) (hUb:Bd (pq U b) u)
  (he:(b-a)*(u*e+u*e)+(B*zV X W.length+B*zV X W.length)*(e+e)<=b-a) :
  1<=(b-a)*(b-a)*((B*zD X W.length)*(A*zT X f.length)+(B*zV X W.length)*(A*zS X f.length)):=by
 have i1:=hid a;have i2:=hid b;have t1:=R8 a b f;have t2:=R8 b a f;have t3:=WH a b f;have t4:=J0 a b W;have hd:0<b-a:=by grind
 generalize hD:b-a=d at *
 have hba:a-b = -d:=by grind
 rw[hba] at t2;have key:2*(R:Rat)*d=d*(pq U a*pq f a+pq U b*pq f b)+(pq W a+pq W b)*(pq f b-pq f a)+d*(d*d*(dD W a b*dT f b a+pq W a*dS f a b)):=by
  have s1:d*pd f a=pq f b-pq f a-d*d*dT f a b:=by grind
  have s2:d*pd f b=pq f b-pq f a+d*d*dT f b a:=by grind
  have e1:2*(R:Rat)*d=d*(pq U a*pq f a+pq U b*pq f b)+pq W a*(d*pd f a)+pq W b*(d*pd f b):=by grind
  rw[e1,s1,s2];have e2:pq W b=pq W a+d*dD W a b:=t4;have e3:pq W b*dT f b a-pq W a*dT f a b=d*(dD W a b*dT f b a+pq W a*dS f a b):=by rw[e2,t3];grind
  grind
 have b1:=O9 ha hb W hB;have b2:=ZX hb ha f hA;have b3:=KN ha W hB;have b4:=qC ha hb f hA;have b5:=KN hb W hB;have bM:=(b1.mul b2).add (b3.mul b4);have bd1:Bd d d:=by unfold Bd;constructor <;> grind
 have berr:=(bd1.mul ((hUa.mul hfa).add (hUb.mul hfb))).add ((b3.add b5).mul (hfb.sub hfa));generalize hM:(B:Rat)*zD X W.length*(A*zT X f.length)+B*zV X W.length*(A*zS X f.length)=M at *
 generalize dD W a b*dT f b a+pq W a*dS f a b=m at *
 generalize d*(pq U a*pq f a+pq U b*pq f b)+(pq W a+pq W b)*(pq f b-pq f a)=err at *
 have berr2:=berr.mono he;have bdd:Bd (d*(d*d*m)) (d*(d*d*M)):=bd1.mul ((bd1.mul bd1).mul bM);apply A5;intro hn;have hlt:d*(d*d*M)<d:=by
  have h1:d*d*M<1:=by grind
  have h2:=Awl h1 hd;grind
 unfold Bd at berr2 bdd;rcases qU R 0 with g | g | g
 ·have h1:(R:Rat)<=((-1:Int):Rat):=BC.2 (by omega);have h2:(R:Rat) <= -1:=by simpa using h1
  have h3:=Ew h2 (EZ hd);grind
 ·exact hR g
 ·have h1:((1:Int):Rat)<=(R:Rat):=BC.2 (by omega);have h2:1<=(R:Rat):=by simpa using h1
  have h3:=Ew h2 (EZ hd);grind
theorem WI(p:LI)(x:Rat):pq p x=(p.getD 0 0:Int)+x*pq p.tail x:=by
 cases p with
 | nil=>simp[pq];grind
 | cons a p=>simp[pq]
theorem Qr(p:LI)(i:Nat):p.tail.getD i 0=p.getD (i+1) 0:=by
 cases p <;> simp
theorem sY(c d:Int)(x:Rat):∀ (n:Nat) (p q r:LI),p.length<=n->q.length<=n->r.length<=n->(∀ i,r.getD i 0=c*p.getD i 0+d*q.getD i 0)->pq r x=(c:Rat)*pq p x+(d:Rat)*pq q x
 | 0,p,q,r,hp,hq,hr,_=>by
  have e1:=A9 (show p.length=0 by omega);have e2:=A9 (show q.length=0 by omega);have e3:=A9 (show r.length=0 by omega);subst e1 e2 e3;simp[pq];grind
 | n+1,p,q,r,hp,hq,hr,h=>by
  have ih:=sY c d x n p.tail q.tail r.tail (by rw[SI];omega) (by rw[SI];omega) (by rw[SI];omega) (fun i=>by rw[Qr,Qr,Qr];exact h (i+1));rw[WI p,WI q,WI r,ih,h 0,Ki,CC,CC];grind
theorem R9(c d:Int)(x:Rat){p q r:LI}(h:∀ i,r.getD i 0=c*p.getD i 0+d*q.getD i 0):pq r x=(c:Rat)*pq p x+(d:Rat)*pq q x :=
 sY c d x (p.length+q.length+r.length) p q r (by omega) (by omega) (by omega) h
theorem A2a{p q:LI}(h:∀ i,p.getD i 0=q.getD i 0)(x:Rat):pq p x=pq q x:=by
 have:=R9 1 0 x (p:=q) (q:=q) (r:=p) (fun i=>by rw[h i];omega);rw[this];simp;grind
theorem iF(p q:LI)(x:Rat):pq (Du p q) x=pq p x+pq q x:=by
 have:=R9 1 1 x (p:=p) (q:=q) (r:=Du p q) (fun i=>by rw[CX];omega);rw[this];simp
theorem OA(q:LI)(x:Rat):∀ p,pq (BQ p q) x=pq p x*pq q x
 | []=>by simp[BQ,pq]
 | a::p=>by
  have ih:=OA q x p;have:=R9 a 1 x (p:=q) (q:=0::BQ p q) (r:=BQ (a::p) q) (fun i=>by simp only[BQ];rw[CX,AR];omega);rw[this];simp only[pq,ih];simp;grind
theorem iG{p q:LI}(h:∀ x,V p x=V q x)(x:Rat):pq p x=pq q x:=A2a (DB h) x
theorem WJ(x:Rat):∀ p,pq (At p) x=pd p x
 | []=>rfl
 | a::p=>by
  have ih:=WJ x p;have:=R9 1 1 x (p:=p) (q:=0::At p) (r:=At (a::p)) (fun i=>by
   rw[DC];cases i with
   | zero=>simp
   | succ i =>
    show p.getD (i+1) 0*_=1*p.getD (i+1) 0+1*(At p).getD i 0;rw[DC];have:p.getD (i+1) 0*((i+1+1:Nat):Int)=p.getD (i+1) 0*((i+1:Nat):Int)+p.getD (i+1) 0:=by rw[show ((i+1+1:Nat):Int)=((i+1:Nat):Int)+1 by omega,CW,Dn]
    omega)
  rw[this];simp only[pq,pd,ih];simp;grind
theorem ZY{U f W g:LI}{R:Int}(h:∀ x,V U x*V f x+V W x*V g x=R)(x:Rat):pq U x*pq f x+pq W x*pq g x=(R:Rat):=by
 have e:=iG (p:=Du (BQ U f) (BQ W g)) (q:=[R]) (fun x=>by rw[BM,Bf,Bf,h x];simp[V]) x;rw[iF,OA,OA] at e;rw[e];simp[pq];grind
theorem Pc{l:LI}{c:Int}(h:c∈l):∃ i,c=l.getD i 0:=by
 obtain⟨i,hi,rfl⟩:=H3.1 h;exact⟨i,by rw[Z,Af hi];rfl⟩
theorem HI(d:Nat->Int)(n i:Nat):((Aq n).map d).getD i 0=if i<n then d i else 0:=GV d n i
def T_(n A:Nat):Nat:=(2*(((n-1)+(n-1))*(n*A)))^((n-1)+(n-1)-1)
theorem A2b{f:LI}{n A:Nat}(hn:f.length=n+1)(h2:2<=n)(hp:(At f).length=n)(hG:HO [1] f (At f))(hA:∀ i,(f.getD i 0).natAbs<=A)(hA0:0<A) :
  ∃ (U W:LI) (R:Int),R ≠ 0/\(∀ x,pq U x*pq f x+pq W x*pd f x=(R:Rat))/\W.length<=n/\∀ c∈W,c.natAbs<=2*T_ n A:=by
 obtain⟨d,R,hd,⟨i0,hi0,hne⟩,hid⟩:=iD hn h2 hp hA hA0;generalize hUd:(Aq (n-1)).map d=Ud at *
 generalize hVd:((Aq (n-1)).map fun i=>d (n-1+i))=Vd at *
 have gU:∀ i,Ud.getD i 0=if i<n-1 then d i else 0:=fun i=>by rw[<- hUd];exact HI d (n-1) i
 have gV:∀ i,Vd.getD i 0=if i<n-1 then d (n-1+i) else 0:=fun i=>by rw[<- hVd];exact HI (fun i=>d (n-1+i)) (n-1) i
 have lU:Ud.length=n-1:=by rw[<- hUd];simp
 have lV:Vd.length=n-1:=by rw[<- hVd];simp
 have hB:∀ i,(d i).natAbs<=T_ n A:=hd;have hid2:∀ x,V (Ay (n:Nat) Ud) x*V f x+V (Du Vd (Ay (-1) (Ce 1 Ud))) x*V (At f) x=R:=by
  intro x;rw[A0,BM,A0,CF,<- hid x,WF,hn,Hi,A2,CE];grind
 refine⟨Ay (n:Nat) Ud,Du Vd (Ay (-1) (Ce 1 Ud)),R,?_,fun x => ?_,?_,?_⟩
 ·intro hR;rw[hR] at hid hid2;obtain⟨_,_,c,u,v,hc,huv⟩:=hG;have hlead:Aa (At f)=At f:=by unfold At;rw[Gv]
  have hD:Dv (At f) Ud:=by
   refine⟨c*(n:Nat),Du (BQ v (Ay (n:Nat) Ud)) (Ay (-1) (BQ u (Du Vd (Ay (-1) (Ce 1 Ud))))),BW hc (by omega),fun x => ?_⟩;have h1:=huv x;have h3:=hid2 x;rw[A0] at h3;rw[BM,Bf,A0,A0,Bf];have e1:V [1] x=1:=by simp[V]
   rw[e1,Dn] at h1;rw[h1];generalize V u x=a at *
   generalize V v x=b at *
   generalize V (Du Vd (Ay (-1) (Ce 1 Ud))) x=w at *
   generalize V Ud x=y at *
   generalize V f x=z at *
   generalize V (At f) x=t at *
   have e2:(n:Nat)*y*z = -(w*t):=by omega
   have e3:(a*z+b*t)*(n:Nat)*y=a*((n:Nat)*y*z)+b*t*((n:Nat)*y):=by grind
   rw[e3,e2];grind
  have hU0:Aa Ud=[]:=by
   apply A5;intro hz;have:=(hD.length hz).1;rw[hlead,hp] at this;have:=Bq Ud;omega
  have hUz:=C'.1 hU0;have hUe:∀ x,V Ud x=0:=fun x=>by rw[<- DM,hU0];rfl
  have hVe:=M' (p:=At f) (q:=Vd) (by rw[hlead];intro e;rw[e] at hp;simp at hp;omega) (fun x=>by
   have:=hid x;rw[hUe x] at this;rw[AA];omega)
  have hVz:∀ i,Vd.getD i 0=0:=fun i=>by
   have:=DB (p:=Vd) (q:=[]) (fun x=>by rw[hVe x];rfl) i;rw[this];rfl
  by_cases hlt:i0<n-1
  ·have:=gU i0;rw[hUz i0,if_pos hlt] at this;exact hne this.symm
  ·have:=gV (i0-(n-1));rw[hVz,if_pos (by omega),show n-1+(i0-(n-1))=i0 by omega] at this;exact hne this.symm
 ·rw[<- WJ];exact ZY hid2 x
 ·have h1:=Sr Vd (Ay (-1) (Ce 1 Ud));have h3:(Ay (-1) (Ce 1 Ud)).length=1+Ud.length:=by rw[<- I1];simp[Ay]
  omega
 ·intro c hc;obtain⟨i,rfl⟩:=Pc hc;rw[CX,AR,Cj,gV];have b1:(if i<n-1 then d (n-1+i) else 0).natAbs<=T_ n A:=by
   split
   ·exact hB _
   ·simp
  have b2:(if 1<=i then Ud.getD (i-1) 0 else 0).natAbs<=T_ n A:=by
   split
   ·rw[gU];split
    ·exact hB _
    ·simp
   ·simp
  omega
theorem qD(x d:Int)(hd:0<d):∀ p:LI,pq p ((x:Rat) / (d:Rat))*(d:Rat)^p.length=((hv p x d:Int):Rat)*(d:Rat)
 | []=>by simp[pq,hv]
 | t::ts=>by
  have ih:=qD x d hd ts;have h0:(d:Rat) ≠ 0:=by
   intro h;have:=Rat.intCast_inj.1 (show (d:Rat)=((0:Int):Rat) by simpa using h);omega
  simp only[pq,hv,Bv];rw[Ki,CC,CC,Rat.intCast_pow,J6];have e:(x:Rat) / (d:Rat)*(d:Rat)=(x:Rat):=by grind
  generalize pq ts ((x:Rat) / (d:Rat))=y at *
  generalize (d:Rat)^ts.length=z at *
  generalize ((hv ts x d:Int):Rat)=w at *
  generalize (x:Rat) / (d:Rat)=r at *
  grind
theorem A6l(p:LI)(x q:Int):hv p x q=Hh p x q:=by unfold Hh;rw [ZQ]
theorem RA{d:Rat}(h:0<d):∀ n:Nat,0<d^n
 | 0=>by simp;decide
 | n+1=>by rw[J6];exact I7 (RA h n) h
theorem J1{d:Int}(h:0<d):0<(d:Rat):=by
 have:=Rat.intCast_lt_intCast.2 h;simpa using this
theorem Pd{u v h:Rat}(hu:u*v<=0)(hd:Bd (v-u) h):Bd u h:=by
 have h0:=hd.pos;unfold Bd at *
 apply A5;intro hn;have:h<u\/u < -h:=by grind
 rcases this with g | g
 ·have hu0:0<u:=by grind
  have hv0:0<v:=by grind
  have:=I7 hu0 hv0;grind
 ·have hu0:0 < -u:=by grind
  have hv0:0 < -v:=by grind
  have:=I7 hu0 hv0;grind
theorem Kj{f:LI}{z d:Int}(hd:0<d)(h:Hh f z d*Hh f (z+1) d<=0):pq f ((z:Rat) / (d:Rat))*pq f (((z+1:Int):Rat) / (d:Rat))<=0:=by
 have e1:=qD z d hd f;have e2:=qD (z+1) d hd f;rw[A6l] at e1 e2;have hd0:=J1 hd;have hp:=RA hd0 f.length;have hR:((Hh f z d:Int):Rat)*((Hh f (z+1) d:Int):Rat)<=0:=by
  have:=BC.2 h;rw[CC] at this;simpa using this
 generalize pq f ((z:Rat) / (d:Rat))=u at *
 generalize pq f (((z+1:Int):Rat) / (d:Rat))=v at *
 generalize (d:Rat)^f.length=P at *
 generalize ((Hh f z d:Int):Rat)=a at *
 generalize ((Hh f (z+1) d:Int):Rat)=b at *
 generalize (d:Rat)=D at *
 apply A5;intro hn;have huv:0<u*v:=by grind
 have h1:=I7 huv (I7 hp hp);have e3:u*v*(P*P)=a*b*(D*D):=by
  have:u*v*(P*P)=(u*P)*(v*P):=by grind
  rw[this,e1,e2];grind
 have h2:=Ef (show 0 <= -(a*b) by grind) (EZ (I7 hd0 hd0));grind
theorem A6m(p:LI)(hp:Aa p ≠ [])(hl:2<=(Ag p).length){x y q:Int}(hq:0<q):∃ c0:Int,0<c0/\∀ c:Int,c0<=c->∀ z:Int,c*x<=z->z<c*y->Ny (Ag p) (prim (At (Ag p))) (fun z=>wv 0 (DZ (CV p) z (c*q))) (c*q) z:=by
 obtain⟨lf,hl1,hG,hc⟩:=Jx hp hl;have h0:Ag p ≠ []:=by intro h;rw[h] at hl;simp at hl
 obtain⟨Q0,hQ0,hm⟩:=cell ((x.natAbs:Int)+(y.natAbs:Int)) (by omega) lf hl hl1 hG hc (Ag p).length (by omega);refine⟨Q0,hQ0,fun c hcc z h1 h2 => ?_⟩;have hc0:0<c:=by omega
 have hQq:Q0<=c*q:=by
  have:=Ak (show (1:Int)<=q by omega) (show 0<=c by omega);omega
 have hb:∀ z:Int,(z.natAbs:Int)<=(x.natAbs:Int)+(y.natAbs:Int)->((c*z).natAbs:Int)<=((x.natAbs:Int)+(y.natAbs:Int))*(c*q):=by
  intro z hz;have hcq:c<=c*q:=by
   have:=Ak (show (1:Int)<=q by omega) (show 0<=c by omega);omega
  have h2:=DE (a:=c) (A:=c*q) (by omega) hz;have e:c*q*((x.natAbs:Int)+(y.natAbs:Int))=((x.natAbs:Int)+(y.natAbs:Int))*(c*q):=AA ..;omega
 have bx:=hb x (by omega);have by':=hb y (by omega);have e:CV p=Ag p::HS (Ag p).length (Ag p) (prim (At (Ag p))):=by unfold CV;rw[if_neg h0]
 rw[e];exact hm (c*q) z ⟨BL hc0 hq,by omega,by omega⟩ hQq
theorem Qs{f g:LI}{W:Int->Int}{q u:Int}(n:Nat)(hc:∀ j:Nat,j<n->Ny f g W q (u+(j:Int)))(h:W (u+(n:Int))<W u):∃ j:Nat,j<n/\W (u+(j:Int)+1)<W (u+(j:Int))/\W (u+(j:Int))=W u:=by
 rcases Ju (fun j=>decide (W (u+(j:Int)+1)<W (u+(j:Int)))) n n 0 (by omega) with g1 | ⟨j,_,h2,h3,h4⟩
 ·exfalso;have key:∀ m:Nat,m<=n->W (u+(m:Int))=W u:=by
   intro m;induction m with
   | zero=>intro _;simp
   | succ m ih =>
    intro hm;have i1:=ih (by omega);have i2:=of_decide_eq_false (g1 m (by omega) (by omega));have i3:=(hc m (by omega)).mono;have e:u+((m+1:Nat):Int)=u+(m:Int)+1:=by omega
    rw[e];omega
  have:=key n (Ap _);omega
 ·refine⟨j,h2,of_decide_eq_true h3,?_⟩;have key:∀ m:Nat,m<=j->W (u+(m:Int))=W u:=by
   intro m;induction m with
   | zero=>intro _;simp
   | succ m ih =>
    intro hm;have i1:=ih (by omega);have i2:=of_decide_eq_false (h4 m (by omega) (by omega));have i3:=(hc m (by omega)).mono;have e:u+((m+1:Nat):Int)=u+(m:Int)+1:=by omega
    rw[e];omega
  exact key j (Ap _)
theorem Ny.drop{f g:LI}{W:Int->Int}{q x:Int}(h:Ny f g W q x)(hd:W (x+1)<W x) :
  W x=W (x+1)+1/\(CG (Hh g x q)=1\/CG (Hh g x q) = -1)/\CG (Hh g (x+1) q)=CG (Hh g x q)/\CG (Hh f x q) = -CG (Hh g x q)/\(Hh f (x+1) q=0\/CG (Hh f (x+1) q)=CG (Hh g x q)):=by
 rcases h with ⟨_,_,h⟩ | ⟨h1,h2,⟨_,_,h⟩ | ⟨h3,h4,h5⟩⟩
 ·omega
 ·omega
 ·exact⟨h5,h1,h2,h3,h4⟩
theorem Ny.change{f g:LI}{W:Int->Int}{q x:Int}(h:Ny f g W q x)(hd:W (x+1)<W x):Hh f x q*Hh f (x+1) q<=0:=by
 obtain⟨_,h1,_,h3,h4⟩:=h.drop hd;rcases h4 with h4 | h4
 ·rw[h4];simp
 ·rcases h1 with e | e
  ·rw[e] at h3 h4;have a:=KL.1 h3;have b:=KK.1 h4;have:=Int.mul_neg_of_neg_of_pos a b;omega
  ·rw[e] at h3 h4;have a:=KK.1 (show CG (Hh f x q)=1 by omega);have b:=KL.1 h4;have:=Mm a b;omega
theorem WK(p:LI)(hp:Aa p ≠ [])(hl:2<=(Ag p).length){x y q:Int}(hq:0<q)(hxy:x<=y)(hV:2<=wv 0 (DZ (CV p) x q)-wv 0 (DZ (CV p) y q)) :
  ∃ c:Int,0<c/\∀ k:Int,0<k->∃ z w:Int,k*c*x<=z/\z+1<=k*c*y/\k*c*x<=w/\w+1<=k*c*y/\z+k<=w /\
   Hh (Ag p) z (k*c*q)*Hh (Ag p) (z+1) (k*c*q)<=0/\Hh (Ag p) w (k*c*q)*Hh (Ag p) (w+1) (k*c*q)<=0:=by
 obtain⟨c,hc,hg⟩:=A6m p hp hl (x:=x) (y:=y) hq;have sc:∀ c:Int,0<c->∀ z Q,wv 0 (DZ (CV p) (c*z) (c*Q))=wv 0 (DZ (CV p) z Q):=fun c hc z Q=>by rw[KJ _ _ _ _ hc]
 have g1:=hg c (Dz _);have hcx:=Ak hxy (A7 hc);have V1:=sc c hc x q;have V2:=sc c hc y q;obtain⟨j1,hj1,d1,e1⟩:=Qs (W:=fun z=>wv 0 (DZ (CV p) z (c*q))) (u:=c*x) (c*y-c*x).toNat (fun j hj=>g1 (c*x+(j:Int)) (by omega) (by omega)) (by
  show wv 0 (DZ (CV p) (c*x+((c*y-c*x).toNat:Int)) (c*q))<wv 0 (DZ (CV p) (c*x) (c*q));rw[show c*x+((c*y-c*x).toNat:Int)=c*y by omega];omega)
 obtain⟨D1,_,D3,_,D5⟩:=(g1 (c*x+(j1:Int)) (by omega) (by omega)).drop d1;generalize hz1:c*x+(j1:Int)=z1 at *
 obtain⟨j2,hj2,d2,e2⟩:=Qs (W:=fun z=>wv 0 (DZ (CV p) z (c*q))) (u:=z1+1) (c*y-(z1+1)).toNat (fun j hj=>g1 (z1+1+(j:Int)) (by omega) (by omega)) (by
  show wv 0 (DZ (CV p) (z1+1+((c*y-(z1+1)).toNat:Int)) (c*q))<wv 0 (DZ (CV p) (z1+1) (c*q));rw[show z1+1+((c*y-(z1+1)).toNat:Int)=c*y by omega];omega)
 obtain⟨_,E2,_,E4,_⟩:=(g1 (z1+1+(j2:Int)) (by omega) (by omega)).drop d2;have hj20:0<j2:=by
  apply A5;intro hn;have:j2=0:=by omega
  subst this;simp only[Int.natCast_zero,B5] at E2 E4 hz1;have:((0:Nat):Int)=0:=rfl;rcases D5 with k | k
  ·rw[show z1+1+((0:Nat):Int)=z1+1 by omega] at *
   rw[k] at E4;have:CG 0=0:=rfl;omega
  ·rw[show z1+1+((0:Nat):Int)=z1+1 by omega] at *
   omega
 generalize hz2:z1+1+(j2:Int)=z2 at *
 refine⟨c,hc,fun k hk => ?_⟩;have hkc:=BL hk hc;have gk:=hg (k*c) (by
  have:=Ae (show (1:Int)<=k by omega) (A7 hc);omega)
 have scz:∀ z,wv 0 (DZ (CV p) (k*z) (k*c*q))=wv 0 (DZ (CV p) z (c*q)):=fun z=>by rw[AH];exact sc k hk z (c*q)
 have one:∀ z0,c*x<=z0->z0+1<=c*y->wv 0 (DZ (CV p) (z0+1) (c*q))<wv 0 (DZ (CV p) z0 (c*q))->∃ z,k*z0<=z/\z+1<=k*z0+k/\Hh (Ag p) z (k*c*q)*Hh (Ag p) (z+1) (k*c*q)<=0:=by
  intro z0 h1 h2 h3;have b1:=Ak h1 (A7 hk);have b2:=Ak h2 (A7 hk);rw[<- AH] at b1 b2;rw[CW,Dn] at b2;have hcell:∀ j:Nat,j<k.toNat->Ny (Ag p) (prim (At (Ag p))) (fun z=>wv 0 (DZ (CV p) z (k*c*q))) (k*c*q) (k*z0+(j:Int)):=fun j hj=>gk _ (by omega) (by omega);obtain⟨j,hj,d,_⟩:=Qs (W:=fun z=>wv 0 (DZ (CV p) z (k*c*q))) (u:=k*z0) k.toNat hcell (by
   show wv 0 (DZ (CV p) (k*z0+(k.toNat:Int)) (k*c*q))<wv 0 (DZ (CV p) (k*z0) (k*c*q));rw[show k*z0+(k.toNat:Int)=k*(z0+1) by rw[CW,Dn];omega,scz,scz];exact h3)
  exact⟨k*z0+(j:Int),by omega,by omega,(hcell j hj).change d⟩
 obtain⟨z,a1,a2,a3⟩:=one z1 (by omega) (by omega) d1;obtain⟨w,b1,b2,b3⟩:=one z2 (by omega) (by omega) d2;have c1:=Ak (show c*x<=z1 by omega) (A7 hk);have c2:=Ak (show z2+1<=c*y by omega) (A7 hk);have c3:=Ak (show z1+2<=z2 by omega) (A7 hk);rw[<- AH] at c1 c2;rw[CW] at c2 c3;exact⟨z,w,by omega,by omega,by omega,by omega,by omega,a3,b3⟩
theorem qE:∀ l:LI,∃ A:Nat,∀ c∈l,c.natAbs<=A
 | []=>⟨0,fun c hc=>by cases hc⟩
 | a::l=>by
  obtain⟨A,h⟩:=qE l;refine⟨A+a.natAbs,fun c hc => ?_⟩;rcases D4.1 hc with rfl | hc
  ·omega
  ·have:=h c hc;omega
theorem iH{X:Nat}(hX:1<=X):∀ {m n:Nat},m<=n->zV X m<=zV X n/\zD X m<=zD X n:=by
 intro m n h;induction h with
 | refl=>exact⟨Ap _,Ap _⟩
 | step _ ih =>
  rename_i n _;have h1:=AF (zV X n) hX;have h2:=AF (zD X n) hX;simp only[zV,zD];omega
theorem J2{z D:Int}{X:Nat}(hD:0<D)(h1 : -(X*D)<=z)(h2:z<=X*D):Bd ((z:Rat) / (D:Rat)) X:=by
 have hD0:=J1 hD;have g1:=BC.2 h1;have g2:=BC.2 h2;rw[Afh,CC,Db] at g1;rw[CC,Db] at g2;have e:(z:Rat) / (D:Rat)*(D:Rat)=(z:Rat):=by grind
 generalize (z:Rat) / (D:Rat)=r at *
 rw[<- e] at g1 g2;generalize (D:Rat)=d at *
 unfold Bd;constructor
 ·apply A5;intro hn;have:=Ev (show r < -(X:Rat) by grind) hD0;grind
 ·apply A5;intro hn;have:=Ev (show (X:Rat)<r by grind) hD0;grind
def Mz(n A X:Nat):Nat:=(2*T_ n A*zD X n)*(A*zT X (n+1))+(2*T_ n A*zV X n)*(A*zS X (n+1))
theorem qF{p:LI}(hp:Aa p ≠ []){n A X:Nat}(hn:(Ag p).length=n+1)(h2:2<=n)(hA:∀ i,((Ag p).getD i 0).natAbs<=A)(hA0:0<A)(hX:1<=X)
  {x y q:Int} (hq:0<q) (hxy:x<=y) (hx : -(X*q)<=x) (hy:y<=X*q) (hV:2<=wv 0 (DZ (CV p) x q)-wv 0 (DZ (CV p) y q)):q*q<=(y-x)*(y-x)*(Mz n A X:Nat):=by
 have hl:2<=(Ag p).length:=by omega
 obtain⟨_,hl1,hG,_⟩:=Jx hp hl;obtain⟨c,hc,hk⟩:=WK p hp hl hq hxy hV;generalize Ag p=f at *
 have hlead:Aa (At f)=At f:=by unfold At;rw[Gv]
 have hpl:(At f).length=n:=by rw[BN,hlead] at hl1;omega
 obtain⟨m,hm,hme⟩:=FI (At f);have hG2:HO [1] f (At f):=HO.scaled (m:=1) (n:=1) (k:=1) (l:=m) (by decide) (by decide) (by decide) hm (fun _=>rfl) (fun x=>by rw[hme x];omega) hG;obtain⟨U,W,R,hR,hid,hWl,hW⟩:=A2b hn h2 hpl hG2 hA hA0;obtain⟨Au,hAu⟩:=qE U;have hAf:∀ c∈f,c.natAbs<=A:=fun c hc=>by
  obtain⟨i,rfl⟩:=Pc hc;exact hA i
 have mono:=iH hX hWl;generalize hS:2*T_ n A=B at *
 generalize hE:A*zD X f.length=E0;generalize hC:4*X*(Au*zV X U.length)+4*(B*zV X W.length)=C0;obtain⟨z,w,z1,z2,w1,w2,hzw,fz,fw⟩:=hk ((E0*C0+1:Nat):Int) (by omega);generalize hkk:((E0*C0+1:Nat):Int)=k at *
 have hk0:0<k:=by omega
 have hkc:=BL hk0 hc;have hD:0<k*c*q:=BL hkc hq;have sx:=Ak hx (A7 hkc);have sy:=Ak hy (A7 hkc);have ex:k*c * -(X*q) = -(X*(k*c*q)):=by grind
 have ey:k*c*(X*q)=X*(k*c*q):=by grind
 rw[ex] at sx;rw[ey] at sy;have hsub:(w-z)<=k*c*(y-x):=by rw[Hu];omega
 have eD:k*c*q=k*(c*q):=AH ..;generalize hDD:k*c*q=D at *
 have ba:=J2 (X:=X) hD (z:=z) (by omega) (by omega);have bb:=J2 (X:=X) hD (z:=w) (by omega) (by omega);have ba1:=J2 (X:=X) hD (z:=z+1) (by omega) (by omega);have bb1:=J2 (X:=X) hD (z:=w+1) (by omega) (by omega);have ca:=Kj hD fz;have cb:=Kj hD fw;have hD0:=J1 hD;have d1:=J0 ((z:Rat) / (D:Rat)) (((z+1:Int):Rat) / (D:Rat)) f;have d2:=J0 ((w:Rat) / (D:Rat)) (((w+1:Int):Rat) / (D:Rat)) f;have b1:=O9 ba ba1 f hAf;have b2:=O9 bb bb1 f hAf;have bUa:=KN ba U hAu;have bUb:=KN bb U hAu;have eN:(A:Rat)*(zD X f.length:Nat)=(E0:Nat):=by rw[<- hE];simp
 rw[eN] at b1 b2;have step:∀ s:Int,((s+1:Int):Rat) / (D:Rat)-(s:Rat) / (D:Rat)=1 / (D:Rat):=by
  intro s;rw[Ki];simp;grind
 have bone:Bd (1 / (D:Rat)) (1 / (D:Rat)):=by
  have:0<1 / (D:Rat):=by
   rw[X4,X5];exact X6.2 hD0
  unfold Bd;constructor <;> grind
 have hfa:Bd (pq f ((z:Rat) / (D:Rat))) (1 / (D:Rat)*(E0:Nat)):=Pd ca (by
  have e:pq f (((z+1:Int):Rat) / (D:Rat))-pq f ((z:Rat) / (D:Rat))=1 / (D:Rat)*dD f ((z:Rat) / (D:Rat)) (((z+1:Int):Rat) / (D:Rat)):=by rw[d1,step];grind
  rw[e];exact bone.mul b1)
 have hfb:Bd (pq f ((w:Rat) / (D:Rat))) (1 / (D:Rat)*(E0:Nat)):=Pd cb (by
  have e:pq f (((w+1:Int):Rat) / (D:Rat))-pq f ((w:Rat) / (D:Rat))=1 / (D:Rat)*dD f ((w:Rat) / (D:Rat)) (((w+1:Int):Rat) / (D:Rat)):=by rw[d2,step];grind
  rw[e];exact bone.mul b2)
 have hzw':=BC.2 hzw;rw[Ki] at hzw';have hkR:(k:Rat)=(E0:Nat)*(C0:Nat)+1:=by rw[<- hkk,Db,Qy,Qz];simp
 have hk1:(0:Rat)<(k:Rat):=J1 hk0;have eC:(C0:Rat)=4*(X:Nat)*((Au:Nat)*(zV X U.length:Nat))+4*((B:Nat)*(zV X W.length:Nat)):=by rw[<- hC];simp
 have ea:(z:Rat) / (D:Rat)*(D:Rat)=(z:Rat):=by grind
 have eb:(w:Rat) / (D:Rat)*(D:Rat)=(w:Rat):=by grind
 have eo:1 / (D:Rat)*(D:Rat)=1:=by grind
 have ho:0<1 / (D:Rat):=by
  rw[X4,X5];exact X6.2 hD0
 have key:1<=((w:Rat) / (D:Rat)-(z:Rat) / (D:Rat))*((w:Rat) / (D:Rat)-(z:Rat) / (D:Rat))*(((B:Nat)*(zD X W.length:Nat))*((A:Nat)*(zT X f.length:Nat))+((B:Nat)*(zV X W.length:Nat))*((A:Nat)*(zS X f.length:Nat))):=by
  refine far hR hid hAf hW ba bb ?_ hfa hfb bUa bUb ?_
  ·have h1:=Ev (show (z:Rat)<(w:Rat) by grind) ho;have e1:(z:Rat)*(1 / (D:Rat))=(z:Rat) / (D:Rat):=by grind
   have e2:(w:Rat)*(1 / (D:Rat))=(w:Rat) / (D:Rat):=by grind
   rw[e1,e2] at h1;exact h1
  ·-- the error
   have hkb:(k:Rat)*(1 / (D:Rat))<=(w:Rat) / (D:Rat)-(z:Rat) / (D:Rat):=by
    have h1:=Df (show (k:Rat)<=(w:Rat)-(z:Rat) by grind) (EZ ho);grind
   have hle2:(w:Rat) / (D:Rat)-(z:Rat) / (D:Rat)<=2*(X:Nat):=by
    unfold Bd at ba bb;grind
   generalize (w:Rat) / (D:Rat)-(z:Rat) / (D:Rat)=t at *
   generalize 1 / (D:Rat)=o at *
   have hE0:(0:Rat)<=(E0:Nat):=by
    have h:=(Hf (a:=0) (b:=E0)).2 (Ba _);simpa using h
   have hu0:=bUa.pos;have hv0:(0:Rat)<=(B:Nat)*(zV X W.length:Nat):=by
    have:=Ba (B*zV X W.length);have h:=(Hf (a:=0) (b:=B*zV X W.length)).2 this;simpa using h
   generalize (Au:Rat)*(zV X U.length:Nat)=u at *
   generalize (B:Rat)*(zV X W.length:Nat)=v at *
   have hoE:=Ef (EZ ho) hE0;have h1:=Df hle2 (Ef hu0 hoE);rw[hkR,eC] at hkb;generalize (E0:Rat)=e0 at *
   generalize (X:Rat)=xx at *
   grind
 have hDR:(D:Rat)*(D:Rat)<=((w:Rat)-(z:Rat))*((w:Rat)-(z:Rat))*(((B:Nat)*(zD X W.length:Nat))*((A:Nat)*(zT X f.length:Nat))+((B:Nat)*(zV X W.length:Nat))*((A:Nat)*(zS X f.length:Nat))):=by
  have h1:=Df key (EZ (I7 hD0 hD0));have e:(w:Rat)-(z:Rat)=((w:Rat) / (D:Rat)-(z:Rat) / (D:Rat))*(D:Rat):=by grind
  rw[e];grind
 have hInt:D*D<=(w-z)*(w-z)*(((B*zD X W.length)*(A*zT X f.length)+(B*zV X W.length)*(A*zS X f.length):Nat):Int):=by
  apply BC.1;rw[CC,CC,CC,Rat.intCast_sub,Db];simp only[Qy,Qz];exact hDR
 have hM:(B*zD X W.length)*(A*zT X f.length)+(B*zV X W.length)*(A*zS X f.length)<=Mz n A X:=by
  unfold Mz;rw[hS,hn];exact Nat.add_le_add (Bj (Bj (Ap _) mono.2) (Ap _)) (Bj (Bj (Ap _) mono.1) (Ap _))
 have hwz:0<=w-z:=by omega
 have s1:=DJ hsub hsub hwz (EC hwz hsub);have s2:=Ae s1 (G3 (Mz n A X));have s3:=Ak (A5o.2 hM) (A6 hwz hwz);apply Ei (a:=k*c*(k*c)) _ (BL hkc hkc);have e1:k*c*(k*c)*(q*q)=D*D:=by rw[<- hDD];grind
 have e2:k*c*(k*c)*((y-x)*(y-x)*(Mz n A X:Nat))=k*c*(y-x)*(k*c*(y-x))*(Mz n A X:Nat):=by grind
 rw[e1,e2];omega
theorem qG{t:LI}(ht:Aa t ≠ [])(hl:t.length<=9):∃ l:LI,l.Nodup/\l.length=7/\∀ x∈l,x.natAbs<=7/\V t x ≠ 0:=by
 obtain⟨L,hnd,hmem,hlen⟩:∃ L:LI,L.Nodup/\(∀ x∈L,x.natAbs<=7)/\L.length=15:=⟨[-7,-6,-5,-4,-3,-2,-1,0,1,2,3,4,5,6,7],by decide,by decide,rfl⟩;have hsum:=qS (fun x=>decide (V t x=0)) (l:=L);rw[H4,H4] at hsum;have hA:(L.filter fun x=>decide (V t x=0)).length<=8:=by
  apply Np;intro h;apply ht;rw[C'];exact Wj 9 t (L.filter fun x=>decide (V t x=0)) hl (hnd.filter _) (fun x hx=>by simpa using (IE.1 hx).2) (by omega)
 refine⟨(L.filter fun x=>decide ¬ (B (V t x=0))=true).take 7,(hnd.filter _).sublist (A7d _ _),?_,?_⟩
 ·rw[AB];omega
 ·intro x hx;obtain⟨h1,h2⟩:=IE.1 (C3 hx);exact⟨hmem x h1,by simpa using h2⟩
theorem A2c{t g k:LI}{P:Nat}(ht:Aa t ≠ [])(hl:t.length<=9)(hg:g.length<=7)(hP:∀ i,(t.getD i 0).natAbs<=P)(h:∀ x,V t x=V g x*V k x):∀ i,(g.getD i 0).natAbs<=P*8^9*17^6:=by
 obtain⟨l,l1,l2,l3⟩:=qG ht hl;exact T3 (R:=7) 6 g l (P*8^9) hg l1 l2 (fun x hx=>by
  obtain⟨a,b⟩:=l3 x hx;refine⟨a,?_⟩;have h2:=S3 (R:=7) t x hP a;have h3:=congrArg E (h x);rw[BK] at h3;have h4:1<=(V k x).natAbs:=by
   rcases FJ (V k x).natAbs with g | g
   ·rw[g,aD] at h3;omega
   ·exact g
  have h5:=BP (V g x).natAbs h4;have h6:P*8^t.length<=P*8^9:=AL _ (BF (by decide) hl);exact Be (Be h5 (Nat.le_of_eq h3.symm)) (Be h2 h6)) (fun x _ y _ hne=>by omega)
theorem SJ{u a b P Q:Int}{v:Int}(hu:u ≠ 0)(hv:v.natAbs<=u.natAbs)(h:u*a=b-v*P)(hb:(b.natAbs:Int)<=Q):(a.natAbs:Int)<=Q+(P.natAbs:Int):=by
 have h1:(u.natAbs:Int)*(a.natAbs:Int)<=(b.natAbs:Int)+(v.natAbs:Int)*(P.natAbs:Int):=by
  have e1:(u.natAbs:Int)*(a.natAbs:Int)=((u*a).natAbs:Int):=by rw[BK];rfl
  have e2:(v.natAbs:Int)*(P.natAbs:Int)=((v*P).natAbs:Int):=by rw[BK];rfl
  rw[e1,e2,h];omega
 have hu1:(1:Int)<=(u.natAbs:Int):=by omega
 have h2:(v.natAbs:Int)*(P.natAbs:Int)<=(u.natAbs:Int)*(P.natAbs:Int):=Ae (by omega) (by omega);have h3:(b.natAbs:Int)<=(u.natAbs:Int)*(b.natAbs:Int):=by
  have:=Ae hu1 (show (0:Int)<=(b.natAbs:Int) by omega);omega
 have h4:(u.natAbs:Int)*(a.natAbs:Int)<=(u.natAbs:Int)*((b.natAbs:Int)+(P.natAbs:Int)):=by rw[CW];omega
 have:=Ei h4 (by omega);omega
theorem qH{t f:LI}{v u:Int}{P N:Nat}(hu:u ≠ 0)(hN:f.length<=N)(hP:∀ i,(t.getD i 0).natAbs<=P)(h:∀ x,V t x=V f x*V [v,u] x):∀ i,(f.getD i 0).natAbs<=(N+1)*P:=by
 have hc:=DB (p:=t) (q:=Du (Ay v f) (Ay u (Ce 1 f))) (fun x=>by
  rw[h x,BM,A0,A0,CF,A2,CE];simp only[V];grind)
 have hi:∀ i,t.getD i 0=v*f.getD i 0+u*(if 1<=i then f.getD (i-1) 0 else 0):=by
  intro i;rw[hc i,CX,AR,AR,Cj]
 by_cases hvu:v.natAbs<=u.natAbs
 ·-- from the w
  have key:∀ j i:Nat,i+j=N->((f.getD i 0).natAbs:Int)<=(j:Int)*P:=by
   intro j;induction j with
   | zero=>intro i e;rw[Bw (by omega)];simp
   | succ j ih =>
    intro i e;have h1:=ih (i+1) (by omega);have h2:=hi (i+1);rw[if_pos (by omega),Hi] at h2;have h3:=SJ (a:=f.getD i 0) (b:=t.getD (i+1) 0) (P:=f.getD (i+1) 0) (Q:=P) hu hvu (by omega) (by have:=hP (i+1);omega);have:((j+1:Nat):Int)*(P:Int)=(j:Int)*P+P:=by rw[Kf];grind
    omega
  intro i;by_cases hiN:i<=N
  ·have:=key (N-i) i (by omega);have h2:((N-i:Nat):Int)*(P:Int)<=((N+1:Nat):Int)*(P:Int):=Ae (by omega) (by omega);have h3:(((N+1)*P:Nat):Int)=((N+1:Nat):Int)*(P:Int):=by simp
   omega
  ·rw[Bw (by omega)];simp
 ·have hv:v ≠ 0:=by omega
  have key:∀ i:Nat,((f.getD i 0).natAbs:Int)<=((i+1:Nat):Int)*P:=by
   intro i;induction i with
   | zero =>
    have h2:=hi 0;rw[if_neg (by omega),AM] at h2;have h3:=SJ (u:=v) (v:=0) (a:=f.getD 0 0) (b:=t.getD 0 0) (P:=0) (Q:=P) hv (by simp) (by omega) (by have:=hP 0;omega);simp at h3 |-;omega
   | succ i ih =>
    have h2:=hi (i+1);rw[if_pos (by omega),Hi] at h2;have h3:=SJ (u:=v) (v:=u) (a:=f.getD (i+1) 0) (b:=t.getD (i+1) 0) (P:=f.getD i 0) (Q:=P) hv (by omega) (by omega) (by have:=hP (i+1);omega);have:((i+1+1:Nat):Int)*(P:Int)=((i+1:Nat):Int)*P+P:=by
     rw[show ((i+1+1:Nat):Int)=((i+1:Nat):Int)+1 by omega,Hg,Do]
    omega
  intro i;by_cases hiN:i<N
  ·have:=key i;have h2:((i+1:Nat):Int)*(P:Int)<=((N+1:Nat):Int)*(P:Int):=Ae (by omega) (by omega);have h3:(((N+1)*P:Nat):Int)=((N+1:Nat):Int)*(P:Int):=by simp
   omega
  ·rw[Bw (by omega)];simp
def YI(n P:Nat):Nat:=if 7<=n then 10*P else P*8^9*17^6
theorem TH{p:LI}(hp:Aa p ≠ [])(hl:p.length<=9){P:Nat}(hP:∀ i,(p.getD i 0).natAbs<=P){n:Nat}(hn:(Ag p).length=n+1):∀ i,((Ag p).getD i 0).natAbs<=if n=8 then P else YI n P:=by
 obtain⟨lf,cf,tf,f0,⟨c,k,hc,hk⟩,_,_,_⟩:=Fi hp;generalize Ag p=f at *
 obtain⟨k',hk'⟩:=T4 hc cf hk;have hft:Aa f ≠ []:=by rw[lf];exact f0
 have hk0:Aa k' ≠ []:=by
  intro z;have:Aa p=[]:=by
   rw[C'];have:=DB (p:=p) (q:=[]) (fun x=>by rw[hk' x,<- DM k',z];simp[V]);intro i;rw[this i];rfl
  exact hp this
 have hlen:=Oz hft hk0;have e:=HL (p:=p) (q:=BQ f k') (fun x=>by rw[hk' x,Bf]);rw[<- e,lf] at hlen;have htl:=Bq p;have hkp:=An.2 hk0;have hk2:∀ x,V p x=V f x*V (Aa k') x:=fun x=>by rw[hk' x,DM]
 have hP0:P<=P*8^9*17^6:=by
  rw[EQ];exact BP _ (by decide)
 by_cases h1:(Aa k').length=1
 ·obtain⟨d,hd⟩:=Rq h1;have hd0:d ≠ 0:=by
   intro z;have:=E6 (HM k') hk0;rw[hd,z] at this;exact this rfl
  have hc2:=DB (p:=p) (q:=Ay d f) (fun x=>by rw[hk2 x,hd,A0];simp only[V];grind);have key:∀ i,(f.getD i 0).natAbs<=P:=by
   intro i;have h3:=hP i;rw[hc2 i,AR,BK] at h3;exact Be (X7 _ (by omega)) h3
  intro i;have:=key i;unfold YI;split
  ·exact this
  ·split <;> omega
 ·have hn8:n ≠ 8:=by omega
  rw[if_neg hn8];unfold YI;by_cases h7:7<=n
  ·rw[if_pos h7];have h2:(Aa k').length=2:=by omega
   obtain⟨v,u,hvu⟩:∃ v u,Aa k'=[v,u]:=by
    match hm:Aa k',h2 with
    | [v,u],_=>exact⟨v,u,rfl⟩
   have hu:u ≠ 0:=by
    have:=E6 (HM k') hk0;rw[hvu] at this;exact this
   have:=qH (f:=f) (t:=p) (N:=8) hu (by omega) hP (fun x=>by rw[hk2 x,hvu]);intro i;have:=this i;omega
  ·rw[if_neg h7];exact A2c hp hl (by omega) hP hk'
theorem Aek{n k:Nat}(h:n<=k):(4:Int)^n<=2^k*2^k:=by
 have e:(4:Int)^n=2^n*2^n:=by
  rw[<- Q8];rfl
 rw[e];have hp:(2:Int)^n<=2^k:=by
  have:=BF (n:=2) (by decide) h;have h:=A5o.2 this;rwa [C6,C6] at h
 exact DJ hp hp (A7 (Ez (by decide))) (A7 (Ez (by decide)))
theorem Un:∀ (l:LI) (last:Int),wv last l<=(l.length:Int)
 | [],_=>by simp[wv]
 | s::ss,last=>by
  simp only[wv,Bv];have h1:=Un ss last;have h2:=Un ss s;split
  ·omega
  ·split <;> omega
theorem Avk(s:Int)(ss:LI):wv 0 (s::ss)<=(ss.length:Int):=by
 simp only[wv];have h1:=Un ss 0;have h2:=Un ss s;split
 ·omega
 ·rw[if_neg (fun h=>h.1 rfl)];omega
theorem Qt:∀ (l:LI) (last:Int),0<=wv last l
 | [],_=>by simp[wv]
 | s::ss,last=>by
  simp only[wv];have h1:=Qt ss last;have h2:=Qt ss s;split
  ·exact h1
  ·split <;> omega
theorem Ael{p:LI}(h:(Ag p).length<=2)(x q:Int):wv 0 (DZ (CV p) x q)<=1:=by
 unfold CV;split
 ·simp[DZ,wv]
 ·rename_i h0;have hpos:=An.2 h0;have hb:(prim (At (Ag p))).length<=1:=by
   rw[BN];have:=Bq (At (Ag p));have:=S5 (Ag p);omega
  have hc:(HS (Ag p).length (Ag p) (prim (At (Ag p)))).length<=1:=by
   generalize prim (At (Ag p))=g at *
   obtain⟨n,hn⟩:∃ n,(Ag p).length=n+1:=⟨(Ag p).length-1,by omega⟩;rw[hn];simp only[HS];split
   ·simp
   ·rename_i hg;have hgp:=An.2 hg;have hn1:n<=1:=by omega
    have:(HS n g (Cc (Bt (Ag p) g))).length=0:=by
     match n,hn1 with
     | 0,_=>rfl
     | 1,_ =>
      simp only[HS];split
      ·rfl
      ·rename_i hz;exfalso;apply hz;have e:Bt (Ag p) g=[]:=by
        apply A5;intro he;have hle:(Bt (Ag p) g).length<g.length:=by
         have:=(T6 (x:=Ag p) (y:=g) ?_ hg).2
         ·exact this
         ·have h0':Aa p ≠ []:=by
           intro h;apply h0;have hz:prim p=[]:=by rw[Ee,<- C'];exact h
           unfold Ag;rw[hz];rfl
          exact (Fi h0').1
        have:=An.2 he;omega
       rw[e];rfl
    simp only[Bv];omega
  unfold DZ;rw[C2];have:=Avk (CG (Hh (Ag p) x q)) ((HS (Ag p).length (Ag p) (prim (At (Ag p)))).map fun p=>CG (Hh p x q));(first|rw[N] at this|(unfold sL at this;rw[N] at this));omega
end Go.Ai
namespace Go.Proofs.YtajompaehjkgkaaGreat
open Go.Ai
set_option maxRecDepth 100000
open Bool renaming and_eq_true->Ad
open Classical renaming byContradiction->A5
open Decidable renaming decide->B
open Go.Ai.AV renaming bool->D
open Int renaming le_of_lt->A7,lt_of_mul_lt_mul_right->Gi,mul_lt_mul_of_pos_right->Cx,mul_right_comm->Q7
open List renaming all_eq_true->BA,getD_eq_getElem?_getD->Z,getElem?_eq_getElem->Af,getElem?_map->Ch,getElem_mem->CT,length_map->N,length_pos_iff->An
open Nat renaming le_of_lt->WN,le_trans->Be,log2_lt->LJ,lt_of_le_of_lt->Dt,mul_le_mul->Bj,mul_le_mul_left->AL,mul_le_mul_right->AF,pow_add->De,pow_le_pow_right->BF,pow_lt_pow_right->Qf,zero_le->Ba
structure Fewp (p:List Int):Prop where
 ne:Aa p ≠ []
 len:p.length<=9
 co:∀ i,(p.getD i 0).natAbs<=2^100
theorem Avl{rs:List Rn}(h:Nx rs=true)(h0:Aa (Q rs) ≠ []):Fewp (Q rs):=by
 unfold Nx at h;simp only[Ad,decide_eq_true_eq,BA] at h;refine⟨h0,by rw[s];exact h.1,fun i => ?_⟩;by_cases hi:i<rs.length
 ·have e:(Q rs).getD i 0=P (rs[i]):=by
   rw[Z,Q,Ch,Af hi];rfl
  rw[e];have hb:=(h.2 _ (CT hi)).1;unfold CR at hb;split at hb
  ·rename_i g;rw[g];exact Ba _
  ·rename_i g;exact WN ((LJ g).1 (by omega))
 ·rw[Bw (by rw[s];omega)];exact Ba _
theorem Fewp.kb{p}(hp:Fewp p):Kb 5 (Ag p)/\(Ag p).length<=9:=by
 obtain⟨lf,_,_,f0,hd,_⟩:=Fi hp.ne;have h:=(hd.length hp.ne).1;rw[lf] at h;have h2:=Bq p;have h3:=hp.len;obtain⟨n,hn⟩:∃ n,(Ag p).length=n+1:=⟨(Ag p).length-1,by have:=An.2 f0;omega⟩;have hb:=TH hp.ne hp.len hp.co hn;refine⟨fun i => ?_,by omega⟩;refine L1 (k:=152) (Be (hb i) ?_) (by decide);split
 ·exact BF (by decide) (by decide)
 ·unfold YI;split
  ·exact Be (AF _ (show 10<=2^4 by decide)) (by rw[<- De];exact BF (by decide) (by decide))
  ·have e1:(8:Nat)^9<=2^27:=by decide
   have e2:(17:Nat)^6<=2^25:=by decide
   refine Be (Bj (AL _ e1) e2) ?_;rw[<- De,<- De];exact BF (by decide) (by decide)
theorem Fewp.fine{p}(hp:Fewp p):Rz (Ag p):=⟨hp.kb.1.mono (by decide),hp.kb.2⟩
theorem Fewp.good{p}(hp:Fewp p):∀ r∈(Ag p).map cn,AO 5 r:=AW hp.kb.1
theorem Fewp.l9{p}(hp:Fewp p):((Ag p).map cn).length<=9:=by rw [N];exact hp.kb.2
def sd(p:LI)(y:Iv)(m:Int)(c:Nat):Int:=JO (Ag p) (P y.r) y.a (P y.t) y.b m c
theorem One.len{p:LI}{y:Iv}(h:One p y):2<=(Ag p).length:=by
 apply A5;intro g;have:=YD (p:=p) (by omega) (P y.r) (P y.t) y.a y.b;have:=h.v;omega
theorem Avm{p:LI}{y:Iv}{m:Int}{c:Nat}(h:m*2^y.a<=P y.r*2^c):sd p y m c=1:=by
 unfold sd JO;rw[if_pos];have hb:=Rw (m*2^y.a) (P y.r*2^c);have:Co m c (P y.r) y.a ≠ 1:=fun g=>by have:=KM.1 g;omega
 unfold Co at this |-;omega
theorem A6n{p:LI}{y:Iv}{m:Int}{c:Nat}(hlt:P y.r*2^y.b<P y.t*2^y.a)(h:P y.t*2^c<m*2^y.b):sd p y m c = -1:=by
 have h1:P y.r*2^c<m*2^y.a:=by
  have hA:=Da y.a;have hB:=Da y.b;have hC:=Da c;apply Gi (a:=2^y.b) _ (A7 hB);have e1:=Cx hlt hC;have e2:=Cx h hA;have e3:P y.r*2^c*2^y.b=P y.r*2^y.b*2^c:=Q7 ..;have e4:P y.t*2^y.a*2^c=P y.t*2^c*2^y.a:=Q7 ..;have e5:m*2^y.b*2^y.a=m*2^y.a*2^y.b:=Q7 ..;omega
 unfold sd JO;rw[if_neg (by rw[KM.2 h1];decide),if_pos (by rw[KM.2 h];decide)]
theorem A6o{p:LI}{y:Iv}(h:One p y){m:Int}{c:Nat}(h1:P y.r*2^c<m*2^y.a)(h2:m*2^y.b<=P y.t*2^c) :
  (sd p y m c<=0↔Vd p m c=Vd p (P y.t) y.b)/\(sd p y m c=0↔H2 (Ag p) m c=0):=by
 have d1:¬ Co m c (P y.r) y.a<=0:=by rw[KM.2 h1];decide
 have d2:¬ Co m c (P y.t) y.b>0:=by
  intro g;have hb:=Rw (m*2^y.b) (P y.t*2^c);have:Co m c (P y.t) y.b=1:=by unfold Co at g |-;omega
  have:=KM.1 this;omega
 have e:sd p y m c=if H2 (Ag p) m c=0 then 0 else if H2 (Ag p) m c=H2 (Ag p) (P y.t) y.b then -1 else 1:=by
  unfold sd JO;rw[if_neg d1,if_neg d2]
 constructor
 ·by_cases hlt:m*2^y.b<P y.t*2^c
  ·exact (gW h h1 hlt).1
  ·have heq:m*2^y.b=P y.t*2^c:=by omega
   rw[e,Y9 heq,Avg heq];split
   ·simp
   ·simp
 ·rw[e];split
  ·rename_i g;simp[g]
  ·rename_i g;constructor
   ·intro hh;split at hh <;> omega
   ·intro hh;exact absurd hh g
def Iv.yo(y:Iv):Iv:=⟨cn (P y.r),y.a,cn (P y.t),y.b⟩
theorem One.yo{p y}(h:One p y):One p y.yo:=⟨by show P (cn _)*_<P (cn _)*_;rw [u,u];exact h.lt,by show Vd p (P (cn _)) _-Vd p (P (cn _)) _=1;rw [u,u];exact h.v⟩
theorem A6p{C m:Nat}{y}(h:IvOk C m y):IvOk C m y.yo:=⟨BG h.gr.fits,BG h.gt.fits,h.a,h.b,by show (P (cn _)).natAbs<=_;rw [u];exact h.vr,by show (P (cn _)).natAbs<=_;rw [u];exact h.vt⟩
theorem RB{n k:Nat}(h:n<=2^k):CR n<=k+1:=by
 unfold CR;split
 ·omega
 ·rename_i h0;have:n.log2<k+1:=(LJ h0).2 (Dt h (Qf (by decide) (by omega)));omega
theorem Pe{p:LI}(hp:Aa p ≠ [])(x:Int)(a:Nat):Vd (Ag p) x a=Vd p x a:=by
 have e:B0 (Ag p)=B0 p:=by
  unfold B0;rw[Rr hp]
 unfold Vd;rw[e]
section
variable {p:LI} (hp:Fewp p) {y:Iv} (h:One p y) (hx:IvOk 6 895 y)
include hp
theorem qI:RQ 20 [D2 ((Ag p).map cn) y.r (y.a:Nat) y.t (y.b:Nat)] (D2 ((Ag p).map cn) y.r (y.a:Nat) y.t (y.b:Nat)):=by
 have k:=pV hp.good hp.l9 y.r y.t (y.a:Nat) (y.b:Nat);rw[v,Rr hp.ne] at k;exact k
include h hx
end
def SK(q:Rn)(g:Int):Bool:=decide (g>=0)&&decide (g<=10)&&decide (q.2.length<=1)&&decide (CR (P q).natAbs<=20)
theorem YJ{q:Rn}(hq:AO 35184372088832 q)(g:Int):RQ 14 [j q g] (D (SK q g)):=by
 have hb:=HR (neg:=q.1) hq.1 hq.2;unfold SK;by_cases c1:g>=0
 ·rw[decide_eq_true c1];by_cases c2:g<=10
  ·rw[decide_eq_true c2];by_cases c3:q.2.length<=1
   ·rw[decide_eq_true c3];have k:=Adp q g _ (decide_eq_true c1) (decide_eq_true c2) (by rw[decide_eq_true_eq];omega) hb;have ez:decide (((CR (P q).natAbs:Nat):Int)<=20)=decide (CR (P q).natAbs<=20):=decide_eq_decide.2 (by omega);show FK _ _ _ (D (B (CR (P q).natAbs<=20)));rw[<- ez];exact k
   ·rw[decide_eq_false c3];exact Adq q g (decide_eq_true c1) (decide_eq_true c2) (by rw[decide_eq_false_iff_not];omega)
  ·rw[decide_eq_false c2];exact Adr q g (decide_eq_true c1) (decide_eq_false c2)
 ·rw[decide_eq_false c1];exact Ads q g (decide_eq_false c1)
theorem YK{q:Rn}(hq:AP q.2){g:Int}(h:SK q g=true):∃ a:Nat,g=(a:Nat)/\a<=10/\AO 1 q/\(P q).natAbs<=2^20:=by
 unfold SK at h;simp only[Ad,decide_eq_true_eq] at h;refine⟨g.toNat,by omega,by omega,⟨hq,h.1.2⟩,?_⟩;have hb:=h.2;unfold CR at hb;split at hb
 ·rename_i g0;rw[g0];exact Ba _
 ·rename_i g0;exact WN ((LJ g0).1 (by omega))
end Go.Proofs.YtajompaehjkgkaaGreat
namespace Go.Ai
def lin(s:Int):LI:=[-s,2]
def wq(p:LI)(x q:Int):Int:=wv 0 (DZ (CV p) x q)
def gapA:Nat:=2^100*8^9*17^6
end Go.Ai
namespace Go.Proofs.YtajompaehjkgkaaGreat
open Go.Ai
set_option maxRecDepth 100000
open Decidable renaming decide->B
open Go.Ai.AV renaming bool->D,int->F,sl->H
open Go.IntKind renaming i64->O,wrap->I
open Int renaming le_of_lt->A7,le_refl->Dz,not_le->Jl
open List renaming length_map->N
theorem One.d{p:LI}{y:Iv}(h:One p y):y.d p=1:=h.v
theorem qJ{rs:List Rn}(hg:∀ r∈rs,AO 5 r)(hn:rs.length<=9){r t:Rn}(hr:AO 100 r)(ht:AO 100 t){a b:Nat}(ha:a<=4096)(hb:b<=4096) :
  RQ 63 [sL pc rs,j r (a:Nat),j t (b:Nat)] (F O (Nv (Q rs) (P r) a (P t) b)):=by
 have hch:=O1 hg hn;have hnice:=Hp hg hn;have hlen:=G_ hg hn;have x1:=IT hnice hr a (by omega) (by omega);have x2:=IT hnice ht b (by omega) (by omega);have k:=sR rs _ r t (a:Nat) (b:Nat) _ _ hch x1 x2;rw[L0 (by omega)] at k;exact k
section
variable {p:LI} (hp:Fewp p) {qs:List Rn} (hg:∀ r∈qs,AO 5 r) (hn:qs.length<=6)
include hp hg hn
end
theorem Aem{p:LI}(hk:Kb 5 p)(hl:p.length<=9){y:Iv}{C m:Nat}(hx:IvOk C m y)(hm:m<=4096):RQ 136 [H (p.map cn).length (pc (p.map cn)),j y.r (y.a:Nat),j y.t (y.b:Nat)] (F O (y.d p)) /\
  RQ 63 [H (p.map cn).length (pc (p.map cn)),j y.r (y.a:Nat),j y.t (y.b:Nat)] (F O (y.d p)):=by
 have h1:=pX (AW hk) (by rw[N];exact hl) hx.gr hx.gt (a:=y.a) (b:=y.b) (by have:=hx.a;omega) (by have:=hx.b;omega);have h2:=qJ (AW hk) (by rw[N];exact hl) hx.gr hx.gt (a:=y.a) (b:=y.b) (by have:=hx.a;omega) (by have:=hx.b;omega);rw[v] at h1 h2;exact⟨h1,h2⟩
theorem iI{f g:LI}(hk:Kb 5 g)(hl:g.length<=9){y:Iv}{C m:Nat}(hx:IvOk C m y)(hm:m<=4096)(hlt:Co (P y.r) y.a (P y.t) y.b = -1):RQ 69 [D2 (f.map cn) y.r (y.a:Nat) y.t (y.b:Nat),H (g.map cn).length (pc (g.map cn))] (D (!decide (g.length<2)&&(y.d g==1))):=by
 by_cases c:g.length<2
 ·rw[decide_eq_true c];exact Adt _ y.r y.t _ _ _ (by rw[decide_eq_true_eq,N];omega)
 ·rw[decide_eq_false c];have h1:=Eh (hx.gr.mono (show 100<=200 by omega)) (hx.gt.mono (show 100<=200 by omega)) (a:=y.a) (b:=y.b) (by have:=hx.a;omega) (by have:=hx.b;omega);rw[hlt] at h1;exact Adu _ y.r y.t _ _ _ (-1) _ (by rw[decide_eq_false_iff_not,N];omega) rfl h1 (Aem hk hl hx hm).2
abbrev Dy:=Int × Nat
def dl(u v:Dy):Prop:=u.1*2^v.2<=v.1*2^u.2
def VD(p:LI)(u:Dy):Int:=Vd p u.1 u.2
theorem A7c(u v:Dy):dl u v\/dl v u:=by unfold dl;omega
def Iv.lo'(y:Iv):Dy:=(P y.r,y.a)
def Iv.hi'(y:Iv):Dy:=(P y.t,y.b)
theorem One.dlt{p:LI}{y:Iv}(h:One p y):dl y.lo' y.hi'/\¬ dl y.hi' y.lo':=⟨A7 h.lt,Jl.2 h.lt⟩
theorem A2d{p:LI}{y:Iv}(h:One p y)(m:Int)(c:Nat):sd p y m c<=0↔¬ dl (m,c) y.lo'/\VD p (m,c)<=VD p y.hi':=by
 unfold dl VD Iv.lo' Iv.hi';by_cases h1:m*2^y.a<=P y.r*2^c
 ·rw[Avm h1];exact⟨fun g=>absurd g (by decide),fun g=>absurd h1 g.1⟩
 ·by_cases h2:m*2^y.b<=P y.t*2^c
  ·rw[(A6o h (by omega) h2).1];have:=IY (p:=p) h2;simp only;constructor
   ·intro g;exact⟨h1,by omega⟩
   ·intro g;omega
  ·have:=IY (p:=p) (x:=P y.t) (a:=y.b) (y:=m) (b:=c) (by omega);rw[A6n h.lt (by omega)];exact⟨fun _=>⟨h1,this⟩,fun _=>by decide⟩
theorem A2e{p:LI}{y:Iv}(h:One p y):sd p y (P y.t) y.b<=0:=by
 rw[A2d h];exact⟨h.dlt.2,Dz _⟩
theorem Aen{u v:Dy}:Co u.1 u.2 v.1 v.2<=0↔dl u v:=by unfold dl Co CI; (repeat' split) <;> omega
theorem A2f{p q:LI}(hp:Fewp p)(hq:Fewp q):Nc 135 [H ((Ag p).map cn).length (pc ((Ag p).map cn)),H ((Ag q).map cn).length (pc ((Ag q).map cn))] (Di (Ag p) (Ag q))/\Nc 70 [H ((Ag p).map cn).length (pc ((Ag p).map cn)),H ((Ag q).map cn).length (pc ((Ag q).map cn))] (Di (Ag p) (Ag q)):=by
 have h:=Rp (K:=5) (c:=9) hp.good hq.good hp.l9 hq.l9 (by decide) (by decide);have k:=Ru (K:=5) (c:=9) hp.good hq.good hp.l9 hq.l9 (by decide) (by decide);rw[v,v] at h k;exact⟨h,k⟩
section
variable {p q:LI} (hp:Fewp p) (lp:p.length<=6) (hq:Fewp q) {y x:Iv} (h1:One p y) (h2:One q x) (o1:IvOk 6 895 y) (o2:IvOk 6 895 x)
include hp hq lp h1 h2 o1 o2
end
section
variable {p q:LI} (hp:Fewp p) (lp:p.length<=6) (hq:Fewp q) {y x:Iv} (h1:One p y) (h2:One q x) {C m:Nat} (hm:m+C<2990) (o1:IvOk C m y) (o2:IvOk C m x)
include hp hq h1 h2 hm o1 o2
theorem sZ:RQ 33 [j y.t (y.b:Nat),j x.r (x.a:Nat)] (F O (Co (P y.t) y.b (P x.r) x.a))/\RQ 33 [j x.t (x.b:Nat),j y.r (y.a:Nat)] (F O (Co (P x.t) x.b (P y.r) y.a)) /\
  RQ 33 [j y.r (y.a:Nat),j y.t (y.b:Nat)] (F O (-1))/\RQ 33 [j x.r (x.a:Nat),j x.t (x.b:Nat)] (F O (-1))/\RQ 33 [j y.r (y.a:Nat),j x.r (x.a:Nat)] (F O (Co (P y.r) y.a (P x.r) x.a)) /\
  RQ 71 [y.av (Ag p),x.av (Ag q)] (D (B (Co (P y.t) y.b (P x.r) x.a<=0) || decide (Co (P x.t) x.b (P y.r) y.a<=0))) /\
  RQ 72 [y.av (Ag p)] ((Pi (Ag p) y).av (Ag p))/\RQ 72 [x.av (Ag q)] ((Pi (Ag q) x).av (Ag q)):=by
 have cm:∀ {r t:Rn} {a b:Nat},AO 100 r->AO 100 t->a<=m->b<=m->RQ 33 [j r (a:Nat),j t (b:Nat)] (F O (Co (P r) a (P t) b)):=fun hr ht ha hb=>Eh (hr.mono (show 100<=200 by omega)) (ht.mono (show 100<=200 by omega)) (by omega) (by omega);have c1:=cm o1.gt o2.gr o1.b o2.a;have c2:=cm o2.gt o1.gr o2.b o1.a;have c3:=cm o1.gr o1.gt o1.a o1.b;have c4:=cm o2.gr o2.gt o2.a o2.b;have c5:=cm o1.gr o2.gr o1.a o2.a;rw[Jy.2 h1.lt] at c3;rw[Jy.2 h2.lt] at c4;refine⟨c1,c2,c3,c4,c5,?_,W5 hp.fine o1 (by omega) (Fi hp.ne).1,W5 hq.fine o2 (by omega) (Fi hq.ne).1⟩;by_cases g:Co (P y.t) y.b (P x.r) x.a<=0
 ·rw[decide_eq_true g];exact Adv _ y.r y.t _ _ _ x.r x.t _ _ _ (decide_eq_true g) c1
 ·rw[decide_eq_false g];exact Adw _ y.r y.t _ _ _ x.r x.t _ _ _ _ (decide_eq_false g) c1 c2
abbrev ZZ(p q:LI)(z:Int)(y x:Iv)(i:Nat):Al:=R1 z (p.map cn) y.r (y.a:Nat) y.t (y.b:Nat) (q.map cn) x.r (x.a:Nat) x.t (x.b:Nat) (i:Nat)
abbrev bS(p q:LI)(z:Int)(y x:Iv)(i:Nat):Al:=IW z (p.map cn) y.r (y.a:Nat) y.t (y.b:Nat) (q.map cn) x.r (x.a:Nat) x.t (x.b:Nat) (i:Nat)
abbrev cS(p q:LI)(z:Int)(y x:Iv)(i:Nat):Al:=Qo z (p.map cn) y.r (y.a:Nat) y.t (y.b:Nat) (q.map cn) x.r (x.a:Nat) x.t (x.b:Nat) (i:Nat)
theorem Avn{i:Nat}(hi:i<=2000)(a1:¬ Co (P y.t) y.b (P x.r) x.a<0)(a2:¬ Co (P x.t) x.b (P y.r) y.a<0)(hB:Ar LC (bS (Ag p) (Ag q) 0 y x i) .norm (bS (Ag p) (Ag q) 0 y x i))(hC:Ar RK (cS (Ag p) (Ag q) 0 y x i) .norm (cS (Ag p) (Ag q) 0 y x i)) :
  Ar Ps (ZZ (Ag p) (Ag q) 0 y x i) .norm (ZZ (Ag p) (Ag q) 0 (Pi (Ag p) y) (Pi (Ag q) x) (i+1)):=by
 obtain⟨c1,c2,c3,c4,_,_,c7,c8⟩:=sZ hp hq h1 h2 hm o1 o2;have ei:I O ((i:Int)+1)=((i+1:Nat):Int):=by rw[Bl (by omega) (by omega)];omega
 have k:=Aux 0 _ _ _ _ _ _ _ _ _ _ (i:Nat) _ _ (-1) (-1) _ _ _ _ _ _ _ _ _ _ rfl rfl (decide_eq_false a1) (decide_eq_false a2) c1 c2 c3 c4 hB hC c7 c8;rw[ei] at k;exact k
theorem A2g{i:Nat}{z:Int}(a1:¬ Co (P y.t) y.b (P x.r) x.a<0)(a2:¬ Co (P x.t) x.b (P y.r) y.a<0)(h:Ar LC (bS (Ag p) (Ag q) 0 y x i) .ret (bS (Ag p) (Ag q) z y x i)\/Ar LC (bS (Ag p) (Ag q) 0 y x i) .norm (bS (Ag p) (Ag q) 0 y x i)/\Ar RK (cS (Ag p) (Ag q) 0 y x i) .ret (cS (Ag p) (Ag q) z y x i)) :
  Ar Ps (ZZ (Ag p) (Ag q) 0 y x i) .ret (ZZ (Ag p) (Ag q) z y x i):=by
 obtain⟨c1,c2,c3,c4,_⟩:=sZ hp hq h1 h2 hm o1 o2;rcases h with h | ⟨hB,hC⟩
 ·exact A1s 0 _ _ _ _ _ _ _ _ _ _ (i:Nat) _ _ _ (-1) (-1) rfl rfl (decide_eq_false a1) (decide_eq_false a2) c1 c2 c3 c4 h
 ·exact Auw 0 _ _ _ _ _ _ _ _ _ _ (i:Nat) _ _ _ (-1) (-1) rfl rfl (decide_eq_false a1) (decide_eq_false a2) c1 c2 c3 c4 hB hC
theorem Aeo{i:Nat}(hi:i<8)(a1:¬ Co (P y.t) y.b (P x.r) x.a<0)(a2:¬ Co (P x.t) x.b (P y.r) y.a<0):Ar Ps (ZZ (Ag p) (Ag q) 0 y x i) .norm (ZZ (Ag p) (Ag q) 0 (Pi (Ag p) y) (Pi (Ag q) x) (i+1)) :=
 Avn hp hq h1 h2 hm o1 o2 (by omega) a1 a2 (Auu _ _ _ _ _ _ _ _ _ _ _ _ (by rw[beq_eq_false_iff_ne];omega)) (Auv _ _ _ _ _ _ _ _ _ _ _ _ (by rw[decide_eq_false_iff_not];omega))
include lp
end
end Go.Proofs.YtajompaehjkgkaaGreat
namespace Go.Ai
open Classical renaming byContradiction->A5
open Int renaming le_of_lt->A7,le_of_mul_le_mul_left->Ei,le_trans->EC,lt_irrefl->A5e,lt_of_le_of_lt->Nm,mul_assoc->AH,mul_comm->AA,mul_le_mul->DJ,mul_le_mul_of_nonneg_left->Ak,mul_le_mul_of_nonneg_right->Ae,mul_ne_zero->BW,mul_nonneg->A6,mul_one->Dn,mul_pos->BL,mul_sub->Hu,natCast_mul->CQ,natCast_nonneg->G3,natCast_pow->C6,ofNat_le->A5o,ofNat_lt->Afa,pow_pos->Ez,pow_succ->A2,pow_zero->CE,zero_mul->DF
open List renaming all_eq_true->BA,mem_range->I9,range->Aq,replicate_succ->Ft
open Nat renaming add_sub_cancel->Hi,blt->EX,le_refl->Ap,mul_le_mul->Bj,mul_pos->Es,pow_pos->BS,sub_self->LV,zero_le->Ba
open Rat renaming div_def->X4,intCast_add->Ki,intCast_le_intCast->BC,intCast_mul->CC,intCast_natCast->Db,intCast_neg->Afh,inv_pos->X6,le_of_lt->EZ,mul_le_mul_of_nonneg_left->Ew,mul_le_mul_of_nonneg_right->Df,mul_lt_mul_of_pos_left->Awl,mul_lt_mul_of_pos_right->Ev,mul_nonneg->Ef,mul_pos->I7,natCast_add->Qy,natCast_le_natCast->Hf,natCast_mul->Qz,one_mul->X5,pow_succ->J6
theorem qK(b:Nat->LI)(k C:Nat)(hb:∀ i j,((b i).getD j 0).natAbs<=C)(hC:0<C)(hk:1<=k)(hl:∀ i,i<k->(b i).length<=k) :
  ∃ (d:Nat->Int) (R:Int),(∀ i,(d i).natAbs<=(2*(k*C))^(k-1))/\(∃ i,i<k/\d i ≠ 0)/\∀ x,Eg (fun i=>d i*V (b i) x) k=R*x^(k-1):=by
 obtain⟨d,h1,h2,h3⟩:=sX k C (fun j i=>(b i).getD j 0) (fun j i=>hb i j) hC hk;refine⟨d,(comb d b k).getD (k-1) 0,h1,h2,fun x => ?_⟩;rw[<- O8];have hz:∀ j,(comb d b k).getD j 0=(Ce (k-1) [(comb d b k).getD (k-1) 0]).getD j 0:=by
  intro j;rw[Cj];by_cases hj:j<k-1
  ·rw[if_neg (by omega),Nk];exact h3 j hj
  ·rw[if_pos (by omega)];by_cases e:j=k-1
   ·rw[e,LV];rfl
   ·rw[Bw (xs:=[(comb d b k).getD (k-1) 0]) (by show 1<=_;omega),Nk];exact Qq fun i hi=>by rw[Bw (by have:=hl i hi;omega),DF]
 have e:Aa (comb d b k)=Aa (Ce (k-1) [(comb d b k).getD (k-1) 0]):=F2 hz;rw[<- DM (comb d b k),e,DM,CF];simp[V,AA]
theorem far2{f U W:LI}{ra rb m:Rat}{A B X:Nat}{a b e u:Rat}(hm:1<=m)(hr:2*m<=ra+rb\/ra+rb <= -(2*m))(i1:pq U a*pq f a+pq W a*pd f a=ra)(i2:pq U b*pq f b+pq W b*pd f b=rb)
  (hA:∀ c∈f,c.natAbs<=A) (hB:∀ c∈W,c.natAbs<=B) (ha:Bd a X) (hb:Bd b X) (hab:a<b)
  (hfa:Bd (pq f a) e) (hfb:Bd (pq f b) e) (hUa:Bd (pq U a) u) (hUb:Bd (pq U b) u)
  (he:(b-a)*(u*e+u*e)+(B*zV X W.length+B*zV X W.length)*(e+e)<=b-a) :
  m<=(b-a)*(b-a)*((B*zD X W.length)*(A*zT X f.length)+(B*zV X W.length)*(A*zS X f.length)):=by
 have t1:=R8 a b f;have t2:=R8 b a f;have t3:=WH a b f;have t4:=J0 a b W;have hd:0<b-a:=by grind
 generalize hD:b-a=d at *
 have hba:a-b = -d:=by grind
 rw[hba] at t2;have key:(ra+rb)*d=d*(pq U a*pq f a+pq U b*pq f b)+(pq W a+pq W b)*(pq f b-pq f a)+d*(d*d*(dD W a b*dT f b a+pq W a*dS f a b)):=by
  have s1:d*pd f a=pq f b-pq f a-d*d*dT f a b:=by grind
  have s2:d*pd f b=pq f b-pq f a+d*d*dT f b a:=by grind
  have e1:(ra+rb)*d=d*(pq U a*pq f a+pq U b*pq f b)+pq W a*(d*pd f a)+pq W b*(d*pd f b):=by grind
  rw[e1,s1,s2];have e2:pq W b=pq W a+d*dD W a b:=t4;have e3:pq W b*dT f b a-pq W a*dT f a b=d*(dD W a b*dT f b a+pq W a*dS f a b):=by rw[e2,t3];grind
  grind
 have b1:=O9 ha hb W hB;have b2:=ZX hb ha f hA;have b3:=KN ha W hB;have b4:=qC ha hb f hA;have b5:=KN hb W hB;have bM:=(b1.mul b2).add (b3.mul b4);have bd1:Bd d d:=by unfold Bd;constructor <;> grind
 have berr:=(bd1.mul ((hUa.mul hfa).add (hUb.mul hfb))).add ((b3.add b5).mul (hfb.sub hfa));generalize hM:(B:Rat)*zD X W.length*(A*zT X f.length)+B*zV X W.length*(A*zS X f.length)=M at *
 generalize dD W a b*dT f b a+pq W a*dS f a b=t at *
 generalize d*(pq U a*pq f a+pq U b*pq f b)+(pq W a+pq W b)*(pq f b-pq f a)=err at *
 have berr2:=berr.mono he;have bdd:Bd (d*(d*d*t)) (d*(d*d*M)):=bd1.mul ((bd1.mul bd1).mul bM);apply A5;intro hn;have hlt:d*(d*d*M)<d*m:=Awl (show d*d*M<m by grind) hd;have hdm:d*1<=d*m:=Ew hm (EZ hd);unfold Bd at berr2 bdd;rcases hr with g | g
 ·have h3:=Ew g (EZ hd);grind
 ·have h3:=Ew g (EZ hd);grind
theorem YL(p:LI)(x:Rat):∀ k,pq (Ce k p) x=x^k*pq p x
 | 0=>by simp[Ce]
 | k+1=>by
  have ih:=YL p x k;have e:Ce (k+1) p=0::Ce k p:=by unfold Ce;rw[Ft];rfl
  rw[e];simp only[pq];rw[ih,J6];simp;grind
theorem iJ{f:LI}{n A:Nat}(hn:f.length=n+1)(h2:2<=n)(hp:(At f).length=n)(hG:HO [1] f (At f))(hA:∀ i,(f.getD i 0).natAbs<=A)(hA0:0<A) :
  ∃ (U W:LI) (R:Int),R ≠ 0/\(∀ x,pq U x*pq f x+pq W x*pd f x=(R:Rat)*x^((n-1)+(n-1)-1))/\W.length<=n/\∀ c∈W,c.natAbs<=2*T_ n A:=by
 obtain⟨d,R,hd,⟨i0,hi0,hne⟩,h4⟩:=qK (X2 f (n-1)) ((n-1)+(n-1)) (n*A) (WG hn hA) (Es (by omega) hA0) (by omega) (fun i hi=>iC hn h2 hp hi);have hid:∀ x,V ((Aq (n-1)).map d) x*V (QE f) x+V ((Aq (n-1)).map fun i=>d (n-1+i)) x*V (At f) x=R*x^((n-1)+(n-1)-1):=by
  intro x;rw[<- h4 x,SG,<- Jz,<- Jz,<- Mv,<- Mv];congr 1
  ·apply K2;intro i hi;unfold X2;rw[if_pos hi,CF,AH]
  ·apply K2;intro i hi;unfold X2;rw[if_neg (by omega),CF,show n-1+i-(n-1)=i by omega,AH]
 generalize hUd:(Aq (n-1)).map d=Ud at *
 generalize hVd:((Aq (n-1)).map fun i=>d (n-1+i))=Vd at *
 have gU:∀ i,Ud.getD i 0=if i<n-1 then d i else 0:=fun i=>by rw[<- hUd];exact HI d (n-1) i
 have gV:∀ i,Vd.getD i 0=if i<n-1 then d (n-1+i) else 0:=fun i=>by rw[<- hVd];exact HI (fun i=>d (n-1+i)) (n-1) i
 have lU:Ud.length=n-1:=by rw[<- hUd];simp
 have lV:Vd.length=n-1:=by rw[<- hVd];simp
 have hB:∀ i,(d i).natAbs<=T_ n A:=hd;have hid2:∀ x,V (Ay (n:Nat) Ud) x*V f x+V (Du Vd (Ay (-1) (Ce 1 Ud))) x*V (At f) x=R*x^((n-1)+(n-1)-1):=by
  intro x;rw[A0,BM,A0,CF,<- hid x,WF,hn,Hi,A2,CE];grind
 refine⟨Ay (n:Nat) Ud,Du Vd (Ay (-1) (Ce 1 Ud)),R,?_,fun x => ?_,?_,?_⟩
 ·intro hR;simp only[hR,DF] at hid hid2;obtain⟨_,_,c,u,v,hc,huv⟩:=hG;have hlead:Aa (At f)=At f:=by unfold At;rw[Gv]
  have hD:Dv (At f) Ud:=by
   refine⟨c*(n:Nat),Du (BQ v (Ay (n:Nat) Ud)) (Ay (-1) (BQ u (Du Vd (Ay (-1) (Ce 1 Ud))))),BW hc (by omega),fun x => ?_⟩;have h1:=huv x;have h3:=hid2 x;rw[A0] at h3;rw[BM,Bf,A0,A0,Bf];have e1:V [1] x=1:=by simp[V]
   rw[e1,Dn] at h1;rw[h1];generalize V u x=a at *
   generalize V v x=b at *
   generalize V (Du Vd (Ay (-1) (Ce 1 Ud))) x=w at *
   generalize V Ud x=y at *
   generalize V f x=z at *
   generalize V (At f) x=t at *
   have e2:(n:Nat)*y*z = -(w*t):=by omega
   have e3:(a*z+b*t)*(n:Nat)*y=a*((n:Nat)*y*z)+b*t*((n:Nat)*y):=by grind
   rw[e3,e2];grind
  have hU0:Aa Ud=[]:=by
   apply A5;intro hz;have:=(hD.length hz).1;rw[hlead,hp] at this;have:=Bq Ud;omega
  have hUz:=C'.1 hU0;have hUe:∀ x,V Ud x=0:=fun x=>by rw[<- DM,hU0];rfl
  have hVe:=M' (p:=At f) (q:=Vd) (by rw[hlead];intro e;rw[e] at hp;simp at hp;omega) (fun x=>by
   have:=hid x;rw[hUe x] at this;rw[AA];omega)
  have hVz:∀ i,Vd.getD i 0=0:=fun i=>by
   have:=DB (p:=Vd) (q:=[]) (fun x=>by rw[hVe x];rfl) i;rw[this];rfl
  by_cases hlt:i0<n-1
  ·have:=gU i0;rw[hUz i0,if_pos hlt] at this;exact hne this.symm
  ·have:=gV (i0-(n-1));rw[hVz,if_pos (by omega),show n-1+(i0-(n-1))=i0 by omega] at this;exact hne this.symm
 ·have h:=iG (p:=Du (BQ (Ay (n:Nat) Ud) f) (BQ (Du Vd (Ay (-1) (Ce 1 Ud))) (At f))) (q:=Ce ((n-1)+(n-1)-1) [R]) (fun z=>by
   rw[BM,Bf,Bf,hid2,CF];simp[V,AA]) x
  rw[iF,OA,OA,WJ,YL] at h;rw[h];simp[pq];grind
 ·have h1:=Sr Vd (Ay (-1) (Ce 1 Ud));have h3:(Ay (-1) (Ce 1 Ud)).length=1+Ud.length:=by rw[<- I1];simp[Ay]
  omega
 ·intro c hc;obtain⟨i,rfl⟩:=Pc hc;rw[CX,AR,Cj,gV];have b1:(if i<n-1 then d (n-1+i) else 0).natAbs<=T_ n A:=by
   split
   ·exact hB _
   ·simp
  have b2:(if 1<=i then Ud.getD (i-1) 0 else 0).natAbs<=T_ n A:=by
   split
   ·rw[gU];split
    ·exact hB _
    ·simp
   ·simp
  omega
theorem iK{z D:Int}{Y:Nat}(hD:0<D)(h:(Y:Int)*D<=z):(Y:Rat)<=(z:Rat) / (D:Rat):=by
 have hD0:=J1 hD;have g:=BC.2 h;rw[CC,Db] at g;have e:(z:Rat) / (D:Rat)*(D:Rat)=(z:Rat):=by grind
 generalize (z:Rat) / (D:Rat)=r at *
 rw[<- e] at g;apply A5;intro hn;have:=Ev (show r<(Y:Rat) by grind) hD0;grind
theorem iL{z D:Int}{Y:Nat}(hD:0<D)(h:z <= -((Y:Int)*D)):(z:Rat) / (D:Rat) <= -(Y:Rat):=by
 have hD0:=J1 hD;have g:=BC.2 h;rw[Afh,CC,Db] at g;have e:(z:Rat) / (D:Rat)*(D:Rat)=(z:Rat):=by grind
 generalize (z:Rat) / (D:Rat)=r at *
 rw[<- e] at g;apply A5;intro hn;have:=Ev (show -(Y:Rat)<r by grind) hD0;grind
theorem Hd{a b:Rat}(ha:0<=a)(h:a<=b):∀ n:Nat,0<=a^n/\a^n<=b^n
 | 0=>by simp;decide
 | n+1=>by
  obtain⟨h1,h2⟩:=Hd ha h n;rw[J6,J6];refine⟨Ef h1 ha,?_⟩;have g1:=Df h2 ha;have g2:=Ew h (show 0<=b^n by grind);grind
theorem Z'{Y:Nat}(h:1<=Y)(n:Nat):(1:Rat)<=(Y:Rat)^n:=by
 have h1:(1:Rat)<=(Y:Rat):=by
  have:=(Hf (a:=1) (b:=Y)).2 h;simpa using this
 have h2:=(Hd (a:=1) (by decide) h1 n).2;have e:∀ n:Nat,(1:Rat)^n=1:=by
  intro n;induction n with
  | zero=>simp
  | succ n ih=>rw[J6,ih];simp
 rw[e] at h2;exact h2
theorem YM(a b:Rat):∀ n:Nat,(a^n=(-a)^n/\b^n=(-b)^n)\/(a^n = -((-a)^n)/\b^n = -((-b)^n))
 | 0 => .inl (by simp)
 | n+1=>by
  simp only[J6];rcases YM a b n with ⟨h,g⟩ | ⟨h,g⟩
  ·right;rw[h,g];constructor <;> grind
  ·left;rw[h,g];constructor <;> grind
theorem Aep{R:Int}(hR:R ≠ 0){a b:Rat}{Y:Nat}{K:Nat}(h:((Y:Rat)<=a/\(Y:Rat)<=b)\/(a <= -(Y:Rat)/\b <= -(Y:Rat))):2*(Y:Rat)^K<=(R:Rat)*a^K+(R:Rat)*b^K\/(R:Rat)*a^K+(R:Rat)*b^K <= -(2*(Y:Rat)^K):=by
 have hY:(0:Rat)<=(Y:Rat):=Rat.natCast_nonneg;have key:∀ A B:Rat,(Y:Rat)^K<=A->(Y:Rat)^K<=B->2*(Y:Rat)^K<=(R:Rat)*(A+B)\/(R:Rat)*(A+B) <= -(2*(Y:Rat)^K):=by
  intro A B hA hB;have hm:=(Hd hY (Rat.le_refl (a:=(Y:Rat))) K).1;generalize (Y:Rat)^K=m at *
  rcases Int.lt_or_gt_of_ne hR with g | g
  ·right;have h1:(R:Rat) <= -1:=by
    have:=BC.2 (show R <= -1 by omega);simpa using this
   have:=Ef (show 0 <= -1-(R:Rat) by grind) (show 0<=A+B by grind);grind
  ·left;have h1:(1:Rat)<=(R:Rat):=by
    have:=BC.2 (show (1:Int)<=R by omega);simpa using this
   have:=Ef (show 0<=(R:Rat)-1 by grind) (show 0<=A+B by grind);grind
 rcases h with ⟨h1,h2⟩ | ⟨h1,h2⟩
 ·have:=key _ _ (Hd hY h1 K).2 (Hd hY h2 K).2;grind
 ·have k:=key _ _ (Hd hY (show (Y:Rat) <= -a by grind) K).2 (Hd hY (show (Y:Rat) <= -b by grind) K).2;rcases YM a b K with ⟨e1,e2⟩ | ⟨e1,e2⟩
  ·rw[e1,e2];grind
  ·rw[e1,e2];grind
theorem TI{p:LI}(hp:Aa p ≠ []){n A Y:Nat}(hn:(Ag p).length=n+1)(h2:2<=n)(hA:∀ i,((Ag p).getD i 0).natAbs<=A)(hA0:0<A)(hY:1<=Y)
  {x y q:Int} (hq:0<q) (hxy:x<=y) (hside:((Y:Int)*q<=x/\y<=((4*Y:Nat):Int)*q)\/(-(((4*Y:Nat):Int)*q)<=x/\y <= -((Y:Int)*q))) (hV:2<=wv 0 (DZ (CV p) x q)-wv 0 (DZ (CV p) y q)) :
  q*q*((Y^((n-1)+(n-1)-1):Nat):Int)<=(y-x)*(y-x)*(Mz n A (4*Y):Nat):=by
 have hX:1<=4*Y:=by omega
 have hYq:0<=(Y:Int)*q:=A6 (by omega) (by omega);have e4:((4*Y:Nat):Int)*q=4*((Y:Int)*q):=by rw[CQ];grind
 have hx : -(((4*Y:Nat):Int)*q)<=x:=by omega
 have hy:y<=((4*Y:Nat):Int)*q:=by omega
 generalize hX4:4*Y=X at *
 have hl:2<=(Ag p).length:=by omega
 obtain⟨_,hl1,hG,_⟩:=Jx hp hl;obtain⟨c,hc,hk⟩:=WK p hp hl hq hxy hV;generalize Ag p=f at *
 have hlead:Aa (At f)=At f:=by unfold At;rw[Gv]
 have hpl:(At f).length=n:=by rw[BN,hlead] at hl1;omega
 obtain⟨m,hm,hme⟩:=FI (At f);have hG2:HO [1] f (At f):=HO.scaled (m:=1) (n:=1) (k:=1) (l:=m) (by decide) (by decide) (by decide) hm (fun _=>rfl) (fun x=>by rw[hme x];omega) hG;obtain⟨U,W,R,hR,hid,hWl,hW⟩:=iJ hn h2 hpl hG2 hA hA0;obtain⟨Au,hAu⟩:=qE U;have hAf:∀ c∈f,c.natAbs<=A:=fun c hc=>by
  obtain⟨i,rfl⟩:=Pc hc;exact hA i
 have mono:=iH hX hWl;generalize hS:2*T_ n A=B at *
 generalize hE:A*zD X f.length=E0;generalize hC:4*X*(Au*zV X U.length)+4*(B*zV X W.length)=C0;obtain⟨z,w,z1,z2,w1,w2,hzw,fz,fw⟩:=hk ((E0*C0+1:Nat):Int) (by omega);generalize hkk:((E0*C0+1:Nat):Int)=k at *
 have hk0:0<k:=by omega
 have hkc:=BL hk0 hc;have hD:0<k*c*q:=BL hkc hq;have sx:=Ak hx (A7 hkc);have sy:=Ak hy (A7 hkc);have ex:k*c * -(X*q) = -(X*(k*c*q)):=by grind
 have ey:k*c*(X*q)=X*(k*c*q):=by grind
 rw[ex] at sx;rw[ey] at sy;have hsub:(w-z)<=k*c*(y-x):=by rw[Hu];omega
 have eD:k*c*q=k*(c*q):=AH ..;generalize hDD:k*c*q=D at *
 have hs:((Y:Rat)<=(z:Rat) / (D:Rat)/\(Y:Rat)<=(w:Rat) / (D:Rat))\/((z:Rat) / (D:Rat) <= -(Y:Rat)/\(w:Rat) / (D:Rat) <= -(Y:Rat)):=by
  rcases hside with ⟨g1,g2⟩ | ⟨g1,g2⟩
  ·have:=Ak g1 (A7 hkc);have e:k*c*((Y:Int)*q)=(Y:Int)*D:=by rw[<- hDD];grind
   exact .inl ⟨iK hD (by omega),iK hD (by omega)⟩
  ·have:=Ak g2 (A7 hkc);have e:k*c * -((Y:Int)*q) = -((Y:Int)*D):=by rw[<- hDD];grind
   exact .inr ⟨iL hD (by omega),iL hD (by omega)⟩
 have ba:=J2 (X:=X) hD (z:=z) (by omega) (by omega);have bb:=J2 (X:=X) hD (z:=w) (by omega) (by omega);have ba1:=J2 (X:=X) hD (z:=z+1) (by omega) (by omega);have bb1:=J2 (X:=X) hD (z:=w+1) (by omega) (by omega);have ca:=Kj hD fz;have cb:=Kj hD fw;have hD0:=J1 hD;have d1:=J0 ((z:Rat) / (D:Rat)) (((z+1:Int):Rat) / (D:Rat)) f;have d2:=J0 ((w:Rat) / (D:Rat)) (((w+1:Int):Rat) / (D:Rat)) f;have b1:=O9 ba ba1 f hAf;have b2:=O9 bb bb1 f hAf;have bUa:=KN ba U hAu;have bUb:=KN bb U hAu;have eN:(A:Rat)*(zD X f.length:Nat)=(E0:Nat):=by rw[<- hE];simp
 rw[eN] at b1 b2;have step:∀ s:Int,((s+1:Int):Rat) / (D:Rat)-(s:Rat) / (D:Rat)=1 / (D:Rat):=by
  intro s;rw[Ki];simp;grind
 have bone:Bd (1 / (D:Rat)) (1 / (D:Rat)):=by
  have:0<1 / (D:Rat):=by
   rw[X4,X5];exact X6.2 hD0
  unfold Bd;constructor <;> grind
 have hfa:Bd (pq f ((z:Rat) / (D:Rat))) (1 / (D:Rat)*(E0:Nat)):=Pd ca (by
  have e:pq f (((z+1:Int):Rat) / (D:Rat))-pq f ((z:Rat) / (D:Rat))=1 / (D:Rat)*dD f ((z:Rat) / (D:Rat)) (((z+1:Int):Rat) / (D:Rat)):=by rw[d1,step];grind
  rw[e];exact bone.mul b1)
 have hfb:Bd (pq f ((w:Rat) / (D:Rat))) (1 / (D:Rat)*(E0:Nat)):=Pd cb (by
  have e:pq f (((w+1:Int):Rat) / (D:Rat))-pq f ((w:Rat) / (D:Rat))=1 / (D:Rat)*dD f ((w:Rat) / (D:Rat)) (((w+1:Int):Rat) / (D:Rat)):=by rw[d2,step];grind
  rw[e];exact bone.mul b2)
 have hzw':=BC.2 hzw;rw[Ki] at hzw';have hkR:(k:Rat)=(E0:Nat)*(C0:Nat)+1:=by rw[<- hkk,Db,Qy,Qz];simp
 have hk1:(0:Rat)<(k:Rat):=J1 hk0;have eC:(C0:Rat)=4*(X:Nat)*((Au:Nat)*(zV X U.length:Nat))+4*((B:Nat)*(zV X W.length:Nat)):=by rw[<- hC];simp
 have ea:(z:Rat) / (D:Rat)*(D:Rat)=(z:Rat):=by grind
 have eb:(w:Rat) / (D:Rat)*(D:Rat)=(w:Rat):=by grind
 have eo:1 / (D:Rat)*(D:Rat)=1:=by grind
 have ho:0<1 / (D:Rat):=by
  rw[X4,X5];exact X6.2 hD0
 have key:((Y:Nat):Rat)^((n-1)+(n-1)-1)<=((w:Rat) / (D:Rat)-(z:Rat) / (D:Rat))*((w:Rat) / (D:Rat)-(z:Rat) / (D:Rat))*(((B:Nat)*(zD X W.length:Nat))*((A:Nat)*(zT X f.length:Nat))+((B:Nat)*(zV X W.length:Nat))*((A:Nat)*(zS X f.length:Nat))):=by
  refine far2 (Z' hY _) (Aep hR hs) (hid _) (hid _) hAf hW ba bb ?_ hfa hfb bUa bUb ?_
  ·have h1:=Ev (show (z:Rat)<(w:Rat) by grind) ho;have e1:(z:Rat)*(1 / (D:Rat))=(z:Rat) / (D:Rat):=by grind
   have e2:(w:Rat)*(1 / (D:Rat))=(w:Rat) / (D:Rat):=by grind
   rw[e1,e2] at h1;exact h1
  ·-- the error
   have hkb:(k:Rat)*(1 / (D:Rat))<=(w:Rat) / (D:Rat)-(z:Rat) / (D:Rat):=by
    have h1:=Df (show (k:Rat)<=(w:Rat)-(z:Rat) by grind) (EZ ho);grind
   have hle2:(w:Rat) / (D:Rat)-(z:Rat) / (D:Rat)<=2*(X:Nat):=by
    unfold Bd at ba bb;grind
   generalize (w:Rat) / (D:Rat)-(z:Rat) / (D:Rat)=t at *
   generalize 1 / (D:Rat)=o at *
   have hE0:(0:Rat)<=(E0:Nat):=by
    have h:=(Hf (a:=0) (b:=E0)).2 (Ba _);simpa using h
   have hu0:=bUa.pos;have hv0:(0:Rat)<=(B:Nat)*(zV X W.length:Nat):=by
    have:=Ba (B*zV X W.length);have h:=(Hf (a:=0) (b:=B*zV X W.length)).2 this;simpa using h
   generalize (Au:Rat)*(zV X U.length:Nat)=u at *
   generalize (B:Rat)*(zV X W.length:Nat)=v at *
   have hoE:=Ef (EZ ho) hE0;have h1:=Df hle2 (Ef hu0 hoE);rw[hkR,eC] at hkb;generalize (E0:Rat)=e0 at *
   generalize (X:Rat)=xx at *
   grind
 have hDR:((Y:Nat):Rat)^((n-1)+(n-1)-1)*((D:Rat)*(D:Rat))<=((w:Rat)-(z:Rat))*((w:Rat)-(z:Rat))*(((B:Nat)*(zD X W.length:Nat))*((A:Nat)*(zT X f.length:Nat))+((B:Nat)*(zV X W.length:Nat))*((A:Nat)*(zS X f.length:Nat))):=by
  have h1:=Df key (EZ (I7 hD0 hD0));have e:(w:Rat)-(z:Rat)=((w:Rat) / (D:Rat)-(z:Rat) / (D:Rat))*(D:Rat):=by grind
  rw[e];grind
 have hInt:((Y^((n-1)+(n-1)-1):Nat):Int)*(D*D)<=(w-z)*(w-z)*(((B*zD X W.length)*(A*zT X f.length)+(B*zV X W.length)*(A*zS X f.length):Nat):Int):=by
  apply BC.1;rw[CC,CC,CC,CC,Rat.intCast_sub,Db,Db];simp only[Qy,Qz,Rat.natCast_pow];exact hDR
 have hM:(B*zD X W.length)*(A*zT X f.length)+(B*zV X W.length)*(A*zS X f.length)<=Mz n A X:=by
  unfold Mz;rw[hS,hn];exact Nat.add_le_add (Bj (Bj (Ap _) mono.2) (Ap _)) (Bj (Bj (Ap _) mono.1) (Ap _))
 have hwz:0<=w-z:=by omega
 have s1:=DJ hsub hsub hwz (EC hwz hsub);have s2:=Ae s1 (G3 (Mz n A X));have s3:=Ak (A5o.2 hM) (A6 hwz hwz);apply Ei (a:=k*c*(k*c)) _ (BL hkc hkc);have e1:k*c*(k*c)*(q*q*((Y^((n-1)+(n-1)-1):Nat):Int))=((Y^((n-1)+(n-1)-1):Nat):Int)*(D*D):=by rw[<- hDD];grind
 have e2:k*c*(k*c)*((y-x)*(y-x)*(Mz n A X:Nat))=k*c*(y-x)*(k*c*(y-x))*(Mz n A X:Nat):=by grind
 rw[e1,e2];omega
def iM(n:Nat):Nat:=if n=8 then 2^100 else YI n (2^100)
theorem A2h:∀ e,e=810->∀ j,j<=20->∀ n,2<=n->n<=8->Mz n (iM n) (4*2^j)<4^e*(2^j)^((n-1)+(n-1)-1):=by
 intro e he j hj n h2 h8;have key:((Aq 21).all fun j=>(Aq 7).all fun n=>EX (Mz (n+2) (iM (n+2)) (4*2^j)) (4^e*(2^j)^((n+2-1)+(n+2-1)-1)))=true:=by
  subst he;kernel_rfl
 rw[BA] at key;have k1:=key j (I9.2 (by omega));rw[BA] at k1;have k2:=k1 (n-2) (I9.2 (by omega));rw[show n-2+2=n by omega] at k2;simpa using k2
theorem A2i:∀ e,e=810->∀ n,2<=n->n<=8->Mz n (iM n) 2<4^e:=by
 intro e he n h2 h8;have key:((Aq 7).all fun n=>EX (Mz (n+2) (iM (n+2)) 2) (4^e))=true:=by
  subst he;kernel_rfl
 rw[BA] at key;have k2:=key (n-2) (I9.2 (by omega));rw[show n-2+2=n by omega] at k2;simpa using k2
theorem Z_{v Q:Int}(hQ:0<Q)(h1:Q<=v):∀ m:Nat,v<=2^m*Q->∃ j:Nat,j<=m/\2^j*Q<=v/\v<=2*(2^j*Q)
 | 0,h=>⟨0,Ap _,by simpa using h1,by simp at h |-;omega⟩
 | m+1,h=>by
  by_cases g:v<=2^m*Q
  ·obtain⟨j,a,b,c⟩:=Z_ hQ h1 m g;exact⟨j,by omega,b,c⟩
  ·refine⟨m,by omega,by omega,?_⟩;rw[A2] at h;have:(2:Int)^m*2*Q=2*(2^m*Q):=by grind
   omega
theorem Aeq{p:LI}(hp:Aa p ≠ [])(hl:p.length<=9)(hP:∀ i,(p.getD i 0).natAbs<=2^100){x y q:Int}(hq:0<q)(hxy:x<=y)(hx : -(2^20*q)<=x)(hy:y<=2^20*q){k:Nat}(hk:810<=k)(hw:(y-x)*2^k<=q) :
  wv 0 (DZ (CV p) x q)-wv 0 (DZ (CV p) y q)<=1:=by
 apply A5;intro hn;have h3:3<=(Ag p).length:=by
  apply A5;intro g;have a1:=Ael (p:=p) (by omega) x q;have a2:=Qt (DZ (CV p) y q) 0;omega
 obtain⟨n,hn1⟩:∃ n,(Ag p).length=n+1:=⟨(Ag p).length-1,by omega⟩;have hpl:(Ag p).length<=9:=by
  obtain⟨lf,cf,_,_,hd,_⟩:=Fi hp;have h:=(hd.length hp).1;rw[lf] at h;have:=Bq p;omega
 have hb:=TH hp hl hP hn1;have hA0:0<iM n:=by
  unfold iM;split
  ·exact BS (by decide)
  ·unfold YI;split
   ·exact Es (by decide) (BS (by decide))
   ·exact Es (Es (BS (by decide)) (BS (by decide))) (BS (by decide))
 have hK:(0:Int)<2^k:=Ez (by decide);have hK1:(1:Int)<=2^k:=hK;have hd0:0<=y-x:=by omega
 have hwq:y-x<=q:=by
  have:=Ak hK1 hd0;omega
 have hsq:=DJ hw hw (A6 hd0 (A7 hK)) (A7 hq);have fin:∀ (M:Nat) (c:Nat),q*q*(c:Int)<=(y-x)*(y-x)*(M:Int)->(4:Int)^810*c<=M\/c=0:=by
  intro M c h;by_cases hc:c=0
  ·exact .inr hc
  left;have h1:=Ae h (A7 (BL hK hK));have e1:(y-x)*(y-x)*(M:Int)*(2^k*2^k)=((y-x)*2^k)*((y-x)*2^k)*(M:Int):=by grind
  rw[e1] at h1;have h2:=EC h1 (Ae hsq (show (0:Int)<=(M:Int) by omega));have e2:q*q*(c:Int)*(2^k*2^k)=q*q*(c*(2^k*2^k)):=by grind
  rw[e2] at h2;have h3:=Ei h2 (BL hq hq);have h4:=Ak (Aek hk) (show (0:Int)<=(c:Int) by omega);rw[AA];exact EC h4 h3
 obtain⟨e,he⟩:∃ e,e=810:=⟨_,rfl⟩;rw[<- he] at fin;have w:∀ j:Nat,j<=20->q*q*(((2^j)^((n-1)+(n-1)-1):Nat):Int)<=(y-x)*(y-x)*(Mz n (iM n) (4*2^j):Nat)->False:=by
  intro j hj h;have num:=A2h e he j hj n (by omega) (by omega);rcases fin _ _ h with g | g
  ·have n2:=Afa.2 num;rw[CQ,C6 4] at n2;exact absurd (Nm g n2) (A5e _)
  ·exact absurd g (Nat.pos_iff_ne_zero.1 (BS (BS (by decide))))
 have cast:∀ j:Nat,((2^j:Nat):Int)*q=2^j*q/\((4*2^j:Nat):Int)*q=4*(2^j*q):=by
  intro j;constructor
  ·rw[C6];rfl
  ·rw[CQ,C6];have:((2:Nat):Int)=2:=rfl;rw[this];show (4:Int)*2^j*q=_;rw[AH]
 by_cases c1:2*q<y
 ·obtain⟨j,hj,j1,j2⟩:=Z_ hq (v:=x) (by omega) 20 (by omega);obtain⟨e1,e2⟩:=cast j;have one:(1:Int)<=2^j:=Ez (by decide);have oq:=Ae one (A7 hq);refine w j hj (TI hp hn1 (by omega) hb hA0 (Y:=2^j) (BS (by decide)) hq hxy (.inl ⟨by omega,by omega⟩) (by omega))
 by_cases c2:x < -(2*q)
 ·obtain⟨j,hj,j1,j2⟩:=Z_ hq (v := -y) (by omega) 20 (by omega);obtain⟨e1,e2⟩:=cast j;have one:(1:Int)<=2^j:=Ez (by decide);have oq:=Ae one (A7 hq);refine w j hj (TI hp hn1 (by omega) hb hA0 (Y:=2^j) (BS (by decide)) hq hxy (.inr ⟨by omega,by omega⟩) (by omega))
 ·have hs:=qF hp hn1 (by omega) hb hA0 (X:=2) (by decide) hq hxy (by show -(2*q)<=x;omega) (by show y<=2*q;omega) (by omega);have num:=A2i e he n (by omega) (by omega);have hs':q*q*((1:Nat):Int)<=(y-x)*(y-x)*(Mz n (iM n) 2:Nat):=by
   rw[show ((1:Nat):Int)=1 from rfl,Dn];exact hs
  rcases fin _ _ hs' with g | g
  ·have n2:=Afa.2 num;rw[C6 4] at n2;rw[show ((1:Nat):Int)=1 from rfl,Dn] at g;exact absurd (Nm g n2) (A5e _)
  ·cases g
end Go.Ai
namespace Go.Proofs.YtajompaehjkgkaaGreat
open Go.Ai
set_option maxRecDepth 100000
open Bool renaming not_eq_true->SL
open Go.Ai.AV renaming agg->o,bool->D,fresh->L,int->F,sl->H,tup->Ax
open Go.IntKind renaming i64->O,u32->Ac,wrap->I
open Int renaming le_of_eq->ED,le_of_lt->A7,le_of_mul_le_mul_right->FS,le_refl->Dz,mul_comm->AA,mul_le_mul_of_nonneg_left->Ak,mul_le_mul_of_nonneg_right->Ae,mul_one->Dn,natCast_add->Kf,pow_add->BB,pow_succ->A2,pow_zero->CE,toNat->A,toNat_natCast->R
open List renaming append_assoc->JQ,append_nil->L5,getD_eq_getElem?_getD->Z,getElem?_eq_getElem->Af,getElem?_map->Ch,getElem_mem->CT,length->Bh,length_append->AX,length_map->N,length_nil->Ib,length_pos_iff->An,map_append->D_,mem_append->BV,mem_cons->D4,nil_append->Ia
open Nat renaming add_assoc->Dw,add_comm->JW,le_mul_of_pos_right->BP,le_refl->Ap,le_trans->Be,pow_add->De,pow_pos->BS,zero_add->B_,zero_le->Ba
structure Wn (k:Nat) (x:Iv):Prop where
 lt:P x.r*2^x.b<P x.t*2^x.a
 w:(P x.t*2^x.a-P x.r*2^x.b)*2^k<=2097152*(2^x.a*2^x.b)
 lo : -(1048576*2^x.a)<=P x.r
 hi:P x.t<=1048576*2^x.b
 a:x.a<=10+k
 b:x.b<=10+k
theorem Wn.halves{k x}(h:Wn k x):Wn (k+1) x.lf/\Wn (k+1) x.rg:=by
 have hA:=Da x.a;have hB:=Da x.b;have hK:=Da k;have hE:=Da x.me;have hw:=h.w;have hlo:=h.lo;have hhi:=h.hi;have ha:=h.a;have hb:=h.b;obtain⟨m1,m2⟩:=Ni h.lt;have m1:P x.r*2^x.me<x.mn*2^x.a:=m1;have m2:x.mn*2^x.b<P x.t*2^x.me:=m2;have hv:x.mn*(2*(2^x.a*2^x.b))=(P x.r*2^x.b+P x.t*2^x.a)*2^x.me:=Avi (P x.r) x.a (P x.t) x.b;have hme:x.me<=max x.a x.b+1:=R0;have eK:(2:Int)^(k+1)=2*2^k:=by rw[A2,AA]
 constructor
 ·refine⟨?_,?_,hlo,?_,by show x.a<=_;omega,by show x.me<=_;omega⟩
  ·show P x.r*2^x.me<P (cn x.mn)*2^x.a;rw[u];exact m1
  ·show (P (cn x.mn)*2^x.a-P x.r*2^x.me)*2^(k+1)<=2097152*(2^x.a*2^x.me);rw[u,eK];generalize (2:Int)^k=K at *
   generalize (2:Int)^x.a=A at *
   generalize (2:Int)^x.b=B at *
   generalize (2:Int)^x.me=E at *
   apply FS (a:=B) _ hB;have e1:(x.mn*A-P x.r*E)*(2*K)*B=(x.mn*(2*(A*B))-2*(P x.r*B*E))*K:=by grind
   have e2:((P x.r*B+P x.t*A)*E-2*(P x.r*B*E))*K=(P x.t*A-P x.r*B)*K*E:=by grind
   rw[e1,hv,e2];have:=Ae hw (A7 hE);have e3:2097152*(A*B)*E=2097152*(A*E)*B:=by grind
   omega
  ·show P (cn x.mn)<=1048576*2^x.me;rw[u];apply FS (a:=2^x.b) _ hB;have e1:=Ae hhi (A7 hE);have e2:(1048576:Int)*2^x.b*2^x.me=1048576*2^x.me*2^x.b:=by grind
   omega
 ·refine⟨?_,?_,?_,hhi,by show x.me<=_;omega,by show x.b<=_;omega⟩
  ·show P (cn x.mn)*2^x.b<P x.t*2^x.me;rw[u];exact m2
  ·show (P x.t*2^x.me-P (cn x.mn)*2^x.b)*2^(k+1)<=2097152*(2^x.me*2^x.b);rw[u,eK];generalize (2:Int)^k=K at *
   generalize (2:Int)^x.a=A at *
   generalize (2:Int)^x.b=B at *
   generalize (2:Int)^x.me=E at *
   apply FS (a:=A) _ hA;have e1:(P x.t*E-x.mn*B)*(2*K)*A=(2*(P x.t*A*E)-x.mn*(2*(A*B)))*K:=by grind
   have e2:(2*(P x.t*A*E)-(P x.r*B+P x.t*A)*E)*K=(P x.t*A-P x.r*B)*K*E:=by grind
   rw[e1,hv,e2];have:=Ae hw (A7 hE);have e3:2097152*(A*B)*E=2097152*(E*B)*A:=by grind
   omega
  ·show -(1048576*2^x.me)<=P (cn x.mn);rw[u];apply FS (a:=2^x.a) _ hA;have e1:=Ae hlo (A7 hE);have e2 : -((1048576:Int)*2^x.a)*2^x.me = -(1048576*2^x.me)*2^x.a:=by grind
   omega
theorem Fewp.d1n{p}(hp:Fewp p){k x}(h:Wn k x)(hk:831<=k):x.d p=0\/x.d p=1:=by
 have hA:=Da x.a;have hB:=Da x.b;have h0:0<=x.d p:=by
  have:=IY (p:=p) (A7 h.lt);unfold Iv.d;omega
 have h1:x.d p<=1:=by
  unfold Iv.d;have e1:=IX p (P x.r) x.a x.b;have e2:=IX p (P x.t) x.b x.a;rw[JW x.b x.a] at e2;rw[<- e1,<- e2,LQ,LQ];have hq:(2:Int)^(x.a+x.b)=2^x.a*2^x.b:=BB ..;obtain⟨j,rfl⟩:∃ j,k=j+21:=⟨k-21,by omega⟩;have c20:(2:Int)^20=1048576:=rfl;refine Aeq hp.ne hp.len hp.co (Da _) (A7 h.lt) ?_ ?_ (k:=j) (by omega) ?_
  ·rw[hq,c20];have:=Ae h.lo (A7 hB);have e : -((1048576:Int)*2^x.a)*2^x.b = -(1048576*(2^x.a*2^x.b)):=by grind
   omega
  ·rw[hq,c20];have:=Ae h.hi (A7 hA);have e:(1048576:Int)*2^x.b*2^x.a=1048576*(2^x.a*2^x.b):=by grind
   omega
  ·rw[hq];have hw:=h.w;rw[BB,show (2:Int)^21=2097152 from rfl] at hw;have e:(P x.t*2^x.a-P x.r*2^x.b)*(2^j*2097152)=2097152*((P x.t*2^x.a-P x.r*2^x.b)*2^j):=by grind
   omega
 omega
theorem Fewp.deepn{p}(hp:Fewp p):∀ (n k:Nat) (x:Iv),k+n=831->Wn k x->Deep p 896 n x:=by
 intro n;induction n with
 | zero=>intro k x hk h;exact hp.d1n h (by omega)
 | succ n ih =>
  intro k x hk h;obtain⟨h1,h2⟩:=h.halves;have hme:x.me<=max x.a x.b+1:=R0;have ha:=h.a;have hb:=h.b;exact .inr (.inr ⟨by omega,ih (k+1) x.lf (by omega) h1,ih (k+1) x.rg (by omega) h2⟩)
theorem A6q{p:LI}{E:Nat}{x:Iv}(h:x.d p=0):∀ n,Deep p E n x
 | 0 => .inl h
 | _+1 => .inl h
theorem YN{p:LI}{x:Iv}(h:x.d p=0):∀ {n:Nat},Fy p n x=[]
 | 0=>if_pos h
 | _+1=>if_pos h
theorem Aer(p:LI)(n:Nat)(x:Iv):(Ht p n x).length<=(Fy p n x).length:=by
 unfold Ht;split
 ·exact Ba _
 ·exact Ap _
theorem qL{x:Iv}(h:P x.r*2^x.b<P x.t*2^x.a):P x.lf.r*2^x.lf.b<P x.lf.t*2^x.lf.a/\P x.rg.r*2^x.rg.b<P x.rg.t*2^x.rg.a:=by
 obtain⟨m1,m2⟩:=Ni h;constructor
 ·show P x.r*2^x.me<P (cn x.mn)*2^x.a;rw[u];exact m1
 ·show P (cn x.mn)*2^x.b<P x.t*2^x.me;rw[u];exact m2
theorem Aes{p:LI}{E:Nat}:∀ (n:Nat) (x:Iv),P x.r*2^x.b<P x.t*2^x.a->Deep p E n x->∀ y∈Fy p n x,One p y:=by
 intro n;induction n with
 | zero =>
  intro x h hd y hy;simp only[Fy] at hy;rcases hd with hd | hd
  ·rw[if_pos hd] at hy;cases hy
  ·rw[if_neg (by omega)] at hy;rcases D4.1 hy with rfl | hy
   ·exact⟨h,hd⟩
   ·cases hy
 | succ n ih =>
  intro x h hd y hy;simp only[Fy] at hy;by_cases c0:x.d p=0
  ·rw[if_pos c0] at hy;cases hy
  ·rw[if_neg c0] at hy;by_cases c1:x.d p=1
   ·rw[if_pos c1] at hy;rcases D4.1 hy with rfl | hy
    ·exact⟨h,c1⟩
    ·cases hy
   ·rw[if_neg c1] at hy;rcases hd with hd | hd | ⟨_,d1,d2⟩
    ·exact absurd hd c0
    ·exact absurd hd c1
    ·obtain⟨h1,h2⟩:=qL h;rcases BV.1 hy with hy | hy
     ·exact ih x.lf h1 d1 y hy
     ·exact ih x.rg h2 d2 y hy
theorem Aet{p:LI}{E:Nat}:∀ (n:Nat) (x:Iv),Deep p E n x->((Fy p n x).length:Int)=x.d p:=by
 intro n;induction n with
 | zero =>
  intro x hd;simp only[Fy];rcases hd with hd | hd
  ·rw[if_pos hd,hd];rfl
  ·rw[if_neg (by omega),hd];rfl
 | succ n ih =>
  intro x hd;simp only[Fy];by_cases c0:x.d p=0
  ·rw[if_pos c0,c0];rfl
  ·rw[if_neg c0];by_cases c1:x.d p=1
   ·rw[if_pos c1,c1];rfl
   ·rw[if_neg c1];rcases hd with hd | hd | ⟨_,d1,d2⟩
    ·exact absurd hd c0
    ·exact absurd hd c1
    ·have i1:=ih x.lf d1;have i2:=ih x.rg d2;rw[AX,Kf,i1,i2];show (Vd p (P x.r) x.a-Vd p (P (cn x.mn)) x.me)+(Vd p (P (cn x.mn)) x.me-Vd p (P x.t) x.b)=Vd p (P x.r) x.a-Vd p (P x.t) x.b;omega
section
variable {p:LI} (hnice:∀ q∈B0 p,fP q) (hlen:(B0 p).length<=10) (h1:0<(B0 p).length) (hfr:(B0 p).getD 0 []=Ag p) {E:Nat}
include hnice hlen h1 hfr
theorem iN:∀ (n:Nat) (x:Iv) (C m:Nat),IvOk C m x->C+m+n+1<3000->Deep p E n x->∀ (k0:Nat) (cs0:List AV),k0+(Fy p n x).length<=1000*1000 ->
  RQ 109 [L 7 k0 cs0,H (Dj (B0 p)).length (pp (Dj (B0 p))),j x.r (x.a:Nat),j x.t (x.b:Nat),F O (Vd p (P x.r) x.a),F O (Vd p (P x.t) x.b)]
   (L 7 (k0+(Fy p n x).length) (cs0++EH ((Fy p n x).map (Dd (Ag p))))):=by
 have none:∀ (x:Iv) (k0:Nat) (cs0:List AV),x.d p=0->RQ 109 [L 7 k0 cs0,H (Dj (B0 p)).length (pp (Dj (B0 p))),j x.r (x.a:Nat),j x.t (x.b:Nat),F O (Vd p (P x.r) x.a),F O (Vd p (P x.t) x.b)] (L 7 (k0+([]:List Iv).length) (cs0++EH (([]:List Iv).map (Dd (Ag p))))):=by
  intro x k0 cs0 h;rw[show cs0++EH (([]:List Iv).map (Dd (Ag p)))=cs0 from L5 _];exact pR _ _ _ x.r x.t _ _ _ _ (by unfold Iv.d at h;rw[beq_iff_eq];omega)
 have one:∀ (x:Iv) (k0:Nat) (cs0:List AV),x.d p=1->k0+1<=1000*1000->RQ 109 [L 7 k0 cs0,H (Dj (B0 p)).length (pp (Dj (B0 p))),j x.r (x.a:Nat),j x.t (x.b:Nat),F O (Vd p (P x.r) x.a),F O (Vd p (P x.t) x.b)] (L 7 (k0+[x].length) (cs0++EH ([x].map (Dd (Ag p))))):=by
  intro x k0 cs0 h hk;have b1:=LR hlen (P x.r) x.a;have b2:=LR hlen (P x.t) x.b;have ew:I O (Vd p (P x.r) x.a-Vd p (P x.t) x.b)=Iv.d p x:=Bl (by omega) (by omega);have k:=pS k0 cs0 (Dj (B0 p)) x.r x.t (x.a:Nat) (x.b:Nat) (Vd p (P x.r) x.a) (Vd p (P x.t) x.b) (by unfold Iv.d at h;rw[beq_eq_false_iff_ne];omega) (by rw[ew,h];rfl) (by rw[Iz];omega) (by omega);rw[show A 0=0 from rfl,Mt h1,hfr] at k;exact k
 intro n;induction n with
 | zero =>
  intro x C m hx hC hd k0 cs0 hL;simp only[Fy] at hL |-;rcases hd with hd | hd
  ·rw[if_pos hd];exact none x k0 cs0 hd
  ·rw[if_neg (by omega)] at hL |-;exact one x k0 cs0 hd hL
 | succ n ih =>
  intro x C m hx hC hd k0 cs0 hL;simp only[Fy] at hL |-;by_cases c0:x.d p=0
  ·rw[if_pos c0];exact none x k0 cs0 c0
  ·rw[if_neg c0] at hL |-;by_cases c1:x.d p=1
   ·rw[if_pos c1] at hL |-;exact one x k0 cs0 c1 hL
   ·rw[if_neg c1] at hL |-;rcases hd with hd | hd | ⟨_,d2,d3⟩
    ·exact absurd hd c0
    ·exact absurd hd c1
    ·have b1:=LR hlen (P x.r) x.a;have b2:=LR hlen (P x.t) x.b;have ew:I O (Vd p (P x.r) x.a-Vd p (P x.t) x.b)=Iv.d p x:=Bl (by omega) (by omega);obtain⟨o1,o2,o3,o4⟩:=pY hx (by omega);obtain⟨gr,gt,ha,hb,vr,vt⟩:=hx;rw[AX] at hL;have k1:=ih x.lf C (m+1) o1 (by omega) d2 k0 cs0 (by omega);have k2:=ih x.rg C (m+1) o2 (by omega) d3 (k0+(Fy p n x.lf).length) (cs0++EH ((Fy p n x.lf).map (Dd (Ag p)))) (by omega);have hm:=W3 (gr.mono (show 100<=200 by omega)) (gt.mono (show 100<=200 by omega)) (a:=x.a) (b:=x.b) (by omega) (by omega);have hv:=IT hnice o3 x.me (by omega) (by omega);rw[u] at hv;have e1:Vd p (P (cn x.mn)) x.me=Vd p x.mn x.me:=by rw[u]
     rw[show x.lf.t=cn x.mn from rfl,show x.lf.b=x.me from rfl,show x.lf.r=x.r from rfl,show x.lf.a=x.a from rfl,e1] at k1;rw[show x.rg.r=cn x.mn from rfl,show x.rg.a=x.me from rfl,show x.rg.t=x.t from rfl,show x.rg.b=x.b from rfl,e1] at k2;have k:=pU k0 cs0 (Dj (B0 p)) x.r x.t (x.a:Nat) (x.b:Nat) (Vd p (P x.r) x.a) (Vd p (P x.t) x.b) x.mn (x.me:Nat) _ _ _ _ _ (by unfold Iv.d at c0;rw[beq_eq_false_iff_ne];omega) (by rw[ew,beq_eq_false_iff_ne];exact c1) hm hv k1 k2;rw[AX,D_,L2,<- Dw,<- JQ];exact k
end
section
variable {rs:List Rn} (hg:∀ r∈rs,AO 5 r) (hn:rs.length<=9)
include hg hn
theorem qM{n:Nat}{x:Iv}{C m:Nat}(hx:IvOk C m x)(hC:C+m+n+1<3000){E:Nat}(hd:Deep (Q rs) E n x)(hL:(Fy (Q rs) n x).length<=1000*1000)(hle:¬ Co (P x.r) x.a (P x.t) x.b>0) :
  RQ 60 [sL pc rs,j x.r (x.a:Nat),j x.t (x.b:Nat)] (L 7 ((Ht (Q rs) n x).map (Dd (Ag (Q rs)))).length (EH ((Ht (Q rs) n x).map (Dd (Ag (Q rs)))))):=by
 have hch:=O1 hg hn;have hnice:=Hp hg hn;have hlen:=G_ hg hn;unfold Ht;by_cases c:(B0 (Q rs)).length<2
 ·rw[if_pos c];exact Adz rs _ x.r x.t _ _ (by rw[decide_eq_true_eq,Iz];omega) hch
 ·rw[if_neg c];have cd:decide ((((Dj (B0 (Q rs))).length:Nat):Int)<2)=false:=by rw[decide_eq_false_iff_not,Iz];omega
  have cm:=Eh (hx.gr.mono (show 100<=200 by omega)) (hx.gt.mono (show 100<=200 by omega)) (a:=x.a) (b:=x.b) (by have:=hx.a;omega) (by have:=hx.b;omega);by_cases c2:Co (P x.r) x.a (P x.t) x.b>=0
  ·have e0:x.d (Q rs)=0:=by
    have e:=R5.1 (show Co (P x.r) x.a (P x.t) x.b=0 by omega);have v1:=IY (p:=Q rs) (ED e);have v2:=IY (p:=Q rs) (ED e.symm);unfold Iv.d;omega
   rw[YN e0];exact Aea rs _ x.r x.t _ _ _ cd (decide_eq_true c2) hch cm
  ·have x1:=IT hnice hx.gr x.a (by have:=hx.a;omega) (by omega);have x2:=IT hnice hx.gt x.b (by have:=hx.b;omega) (by omega);have sp:=iN hnice hlen (by omega) (R7 (by omega)) n x C m hx hC hd 0 [] (by omega);have k:=Aeb rs _ x.r x.t _ _ _ _ _ _ _ cd (decide_eq_false c2) hch cm x1 x2 sp;rw[B_,Ia] at k;rw[N];exact k
end
theorem qN{f:LI}(lf:BZ f)(cf:AQ f=1)(tf:0<w f)(f0:f ≠ []):Di f f=f:=by
 have hp:=H9 lf cf;have hr:Bt f f=[]:=by
  have h:=Atu (Dv.refl f) (Fb lf f0);rwa [hp] at h
 have hg:Lt f f=f:=by
  unfold Lt;rw[if_pos (Ap _)];match hl:f.length,An.2 f0 with
  | n+1,_ =>
   simp only[GW];rw[if_neg f0,hr];cases n <;> simp[GW]
 unfold Di z;rw[hp,hg,if_neg (by omega)]
structure Eqv (x y:Iv):Prop where
 r:P x.r=P y.r
 a:x.a=y.a
 t:P x.t=P y.t
 b:x.b=y.b
theorem Eqv.step{p:LI}{x y:Iv}(h:Eqv x y):Eqv (Pi p x) (Pi p y):=by
 have e1:x.mn=y.mn:=by unfold Iv.mn;rw[h.r,h.a,h.t,h.b]
 have e2:x.me=y.me:=by unfold Iv.me;rw[h.r,h.a,h.t,h.b]
 unfold Pi;rw[h.r,h.a,h.t,h.b,e1,e2];split
 ·exact h
 ·split
  ·exact⟨h.r,rfl,rfl,rfl⟩
  ·exact⟨rfl,rfl,h.t,rfl⟩
theorem Eqv.steps{p:LI}{x y:Iv}(h:Eqv x y):∀ n,Eqv (W9 p x n) (W9 p y n)
 | 0=>h
 | n+1=>(Eqv.steps h n).step
section
variable {p:LI} (hp:Fewp p) {y x:Iv} (e:Eqv y x) (h1:One p y) (h2:One p x) {C m:Nat} (hm:m+C<2990) (o1:IvOk C m y) (o2:IvOk C m x)
include hp e h1 h2 hm o1 o2
omit hp h1 hm o1 o2 in
theorem iO:¬ Co (P y.t) y.b (P x.r) x.a<0/\¬ Co (P x.t) x.b (P y.r) y.a<0:=by
 rw[e.t,e.b,e.r,e.a]
 have g:¬ Co (P x.t) x.b (P x.r) x.a<0:=fun g=>h2.dlt.2 ((Aen (u:=x.hi') (v:=x.lo')).1 (A7 g))
 exact⟨g,g⟩
theorem iP:Ar Ps (ZZ (Ag p) (Ag p) 0 y x 8) .ret (ZZ (Ag p) (Ag p) 0 y x 8):=by
 obtain⟨a1,a2⟩:=iO e h2;obtain⟨lf,cf,tf,f0,_⟩:=Fi hp.ne;obtain⟨_,hg⟩:=A2f hp hp;rw[qN lf cf tf f0] at hg;have wi:=iI (f:=Ag p) hp.kb.1 hp.kb.2 o1 (by omega) (Jy.2 h1.lt);have hd:y.d (Ag p)=1:=by
  unfold Iv.d;rw[Pe hp.ne,Pe hp.ne];exact h1.v
 have hl:¬ (Ag p).length<2:=by have:=h1.len;omega
 rw[decide_eq_false hl,hd] at wi;have wi:RQ 69 [y.av (Ag p),H ((Ag p).map cn).length (pc ((Ag p).map cn))] (D true):=wi;have hne:Co (P y.r) y.a (P y.t) y.b ≠ 0:=by rw[Jy.2 h1.lt];decide
 have wp:RQ 27 [y.av (Ag p),j x.r (x.a:Nat)] (F O (sd p y (P x.r) x.a)):=SB hp.fine o1.gr o1.gt o2.gr (by have:=o1.a;omega) (by have:=o1.b;omega) (by have:=o2.a;omega) lf hne;have wq:RQ 27 [y.av (Ag p),j x.t (x.b:Nat)] (F O (sd p y (P x.t) x.b)):=SB hp.fine o1.gr o1.gt o2.gt (by have:=o1.a;omega) (by have:=o1.b;omega) (by have:=o2.b;omega) lf hne;have b2:sd p y (P x.r) x.a>0:=by rw[<- e.r,<- e.a,Avm (Dz _)];decide
 have b3:sd p y (P x.t) x.b<=0:=by rw[<- e.t,<- e.b];exact A2e h1
 refine A2g hp hp h1 h2 hm o1 o2 a1 a2 (.inl ?_);rcases hg with hg | hg
 ·exact Ady _ _ _ _ _ _ _ _ _ _ _ 8 _ true _ _ rfl rfl (decide_eq_true b2) (decide_eq_true b3) hg wi wp wq
 ·exact Adx _ _ _ _ _ _ _ _ _ _ _ 8 _ true _ _ rfl rfl (decide_eq_true b2) (decide_eq_true b3) hg wi wp wq
end
theorem Aeu{p:LI}(hp:Fewp p){y x:Iv}(e:Eqv y x)(h1:One p y)(h2:One p x)(o1:IvOk 20 841 y)(o2:IvOk 20 841 x):RQ 19 [y.av (Ag p),x.av (Ag p)] (F O 0):=by
 have ok1:=fun i (hi:i<=8)=>WA (p:=Ag p) o1 i (by omega);have ok2:=fun i (hi:i<=8)=>WA (p:=Ag p) o2 i (by omega);have l:=FB (prog:=AY) (c:=Ps) (ex := .ret) (fun i=>ZZ (Ag p) (Ag p) 0 (W9 (Ag p) y i) (W9 (Ag p) x i) i) 8 (by nofun)
  (iP hp (e.steps 8) (h1.halves 8) (h2.halves 8) (by decide) (ok1 8 (by decide)) (ok2 8 (by decide))) 0 (Ba _) (fun t _ ht=>by
   obtain⟨a1,a2⟩:=iO (e.steps t) (h2.halves t);exact Aeo hp hp (h1.halves t) (h2.halves t) (by omega) (ok1 t (by omega)) (ok2 t (by omega)) ht a1 a2)
 exact A1t _ y.r y.t _ _ _ x.r x.t _ _ 0 (8:Nat) _ _ _ _ _ _ _ _ _ _ l
theorem tA{y:Iv}(hx:IvOk 20 841 y):JU y.r (y.a:Nat)=true/\JU y.t (y.b:Nat)=true:=by
 have bn:∀ (r:Rn) (a:Nat),a<=841->(P r).natAbs<=2^20*2^a->JU r (a:Nat)=true:=by
  intro r a ha hr;unfold JU;rw[<- De] at hr;have:=RB hr;rw[decide_eq_true (show (a:Int)>=0 by omega),decide_eq_true (show (a:Int)<=1024 by omega),decide_eq_true (show CR (P r).natAbs<=1024 by omega)];rfl
 exact⟨bn _ _ hx.a hx.vr,bn _ _ hx.b hx.vt⟩
theorem aA{p:LI}(hp:Fewp p){y:Iv}(h:One p y)(hx:IvOk 20 841 y):OZ ((Ag p).map cn) y.r (y.a:Nat) y.t (y.b:Nat)=true:=by
 have lf:=(Fi hp.ne).1;obtain⟨b1,b2⟩:=tA hx;unfold OZ;rw[v,Nj hp.kb.1 (by decide) (by have:=hp.kb.2;omega),lf,decide_eq_true h.len,b1,b2,R,R];rw[if_neg (by rw[Jy.2 h.lt];decide)];have hc:Nv (Ag p) (P y.r) y.a (P y.t) y.b=1:=by
  have e:Nv (Ag p) (P y.r) y.a (P y.t) y.b=Vd (Ag p) (P y.r) y.a-Vd (Ag p) (P y.t) y.b:=rfl;rw[e,Pe hp.ne,Pe hp.ne];exact h.v
 rw[decide_eq_true (show Co (P y.r) y.a (P y.t) y.b = -1/\Nv (Ag p) (P y.r) y.a (P y.t) y.b=1 from ⟨Jy.2 h.lt,hc⟩)];rfl
theorem tB{x y:Int}{a b:Nat}(hle:¬ Co x a y b>0)(c:¬ Co x a y b=0):x*2^b<y*2^a:=by
 have g1:¬ y*2^a<x*2^b:=fun g=>hle (by rw[KM.2 g];decide);have g2:¬ x*2^b=y*2^a:=fun g=>c (R5.2 g);omega
structure Found (p:List Int) (x:Iv) (L:List Iv):Prop where
 deep:Deep p 896 831 x
 eq:L=Ht p 831 x
 one:∀ y∈L,One p y
 ok:∀ y∈L,IvOk 20 841 y
 len:(Fy p 831 x).length<=1000*1000
 len':L.length<=1000
theorem A6r{rs:List Rn}(hg:∀ r∈rs,AO 5 r)(hn:rs.length<=9)(hp:Fewp (Q rs)){x:Iv}(hx:IvOk 20 10 x)(hx1:(P x.r).natAbs<=2^20)(hx2:(P x.t).natAbs<=2^20)(hle:¬ Co (P x.r) x.a (P x.t) x.b>0):Found (Q rs) x (Ht (Q rs) 831 x):=by
 have hd:Deep (Q rs) 896 831 x:=by
  by_cases c:Co (P x.r) x.a (P x.t) x.b=0
  ·have e:=R5.1 c;have v1:=IY (p:=Q rs) (ED e);have v2:=IY (p:=Q rs) (ED e.symm);exact A6q (by unfold Iv.d;omega) 831
  ·refine hp.deepn 831 0 x rfl ⟨tB hle c,?_,?_,?_,by have:=hx.a;omega,by have:=hx.b;omega⟩
   ·have hA:=Da x.a;have hB:=Da x.b;have a1 : -(1048576:Int)<=P x.r:=by have:(2:Nat)^20=1048576:=rfl;omega
    have a2:P x.t<=(1048576:Int):=by have:(2:Nat)^20=1048576:=rfl;omega
    rw[CE,Dn];generalize (2:Int)^x.a=A at *
    generalize (2:Int)^x.b=B at *
    have b1:=Ae a1 (A7 hB);have b2:=Ae a2 (A7 hA);have c1:=Ak (show (1:Int)<=A from hA) (A7 hB);have c2:=Ak (show (1:Int)<=B from hB) (A7 hA);have e1:B*A=A*B:=AA _ _;omega
   ·have hA:=Da x.a;have:(2:Nat)^20=1048576:=rfl;omega
   ·have hB:=Da x.b;have:(2:Nat)^20=1048576:=rfl;omega
 have hlen:=G_ hg hn;have hL:=Aet 831 x hd;have b1:=LR hlen (P x.r) x.a;have b2:=LR hlen (P x.t) x.b;have hdd:x.d (Q rs)<=10:=by unfold Iv.d;omega
 refine⟨hd,rfl,?_,?_,by omega,by have:=Aer (Q rs) 831 x;omega⟩
 ·intro y hy;unfold Ht at hy;split at hy
  ·cases hy
  ·by_cases c:Co (P x.r) x.a (P x.t) x.b=0
   ·have e:=R5.1 c;have v1:=IY (p:=Q rs) (ED e);have v2:=IY (p:=Q rs) (ED e.symm);have e0:x.d (Q rs)=0:=by unfold Iv.d;omega
    rw[YN e0] at hy;cases hy
   ·exact Aes 831 x (tB hle c) hd y hy
 ·intro y hy;unfold Ht at hy;split at hy
  ·cases hy
  ·exact gX 831 x 10 hx (by decide) y hy
theorem Aev{rs:List Rn}(hg:∀ r∈rs,AO 5 r)(hn:rs.length<=9)(hp:Fewp (Q rs)){x:Iv}(hx:IvOk 20 10 x)(hx1:(P x.r).natAbs<=2^20)(hx2:(P x.t).natAbs<=2^20)(hle:¬ Co (P x.r) x.a (P x.t) x.b>0){L:List Iv}(hL:Found (Q rs) x L) :
  RQ 15 [sL pc rs,j x.r (x.a:Nat),j x.t (x.b:Nat)] (Ax [H (L.map (Iv.out (Ag (Q rs)))).length (EH (L.map (Iv.out (Ag (Q rs))))),F O 0]) /\
  RQ 16 [sL pc rs,j x.r (x.a:Nat),j x.t (x.b:Nat)] (Ax [H (L.map (Dd (Ag (Q rs)))).length (EH (L.map (Dd (Ag (Q rs))))),F O 0]):=by
 have nl:CP (Q rs)=false:=Nj (K:=5) (Iy (C1 hg)) (by decide) (by rw[s];omega);have bl:∀ z:Int,z.natAbs<=2^20->CR z.natAbs<=128:=fun z hz=>by have:=RB hz;omega
 have eb:∀ (r:Rn) (a:Nat),a<=10->(P r).natAbs<=2^20->TG r (a:Nat)=true:=by
  intro r a ha hr;unfold TG;rw[decide_eq_true (show (a:Int)>=0 by omega),decide_eq_true (show (a:Int)<=64 by omega),decide_eq_true (bl _ hr)];rfl
 constructor
 ·have k:=Avh hg hn hp.ne nl (n:=831) hx (by decide) hL.deep hL.len (eb _ _ hx.a hx1) (eb _ _ hx.b hx2) hle;rw[hL.eq,N];exact k
 ·have rl:=Nh (rs:=rs) (fun r h=>(hg r h).mono (by omega)) (by omega);rw[nl] at rl;have dg:=LO (rs:=rs) (fun r h=>(hg r h).mono (by omega)) (by omega);have h0:=An.2 hp.ne;have v1:=Lx (e:=(x.a:Nat)) (hx.gr.mono (show 100<=200 by omega));have v2:=Lx (e:=(x.b:Nat)) (hx.gt.mono (show 100<=200 by omega));have ve:∀ a:Nat,a<=10->vE (a:Nat)=true:=fun a ha=>by
   unfold vE;rw[decide_eq_true (show (a:Int)>=0 by omega),decide_eq_true (show (a:Int)<=4096 by omega)];rfl
  rw[ve _ hx.a] at v1;rw[ve _ hx.b] at v2;have m1:=HR (neg:=x.r.1) hx.gr.1 (by have:=hx.gr.2;omega);have m2:=HR (neg:=x.t.1) hx.gt.1 (by have:=hx.gt.2;omega);have cm:=Eh (hx.gr.mono (show 100<=200 by omega)) (hx.gt.mono (show 100<=200 by omega)) (a:=x.a) (b:=x.b) (by have:=hx.a;omega) (by have:=hx.b;omega);have li:=qM hg hn hx (n:=831) (by decide) hL.deep hL.len hle;rw[<- hL.eq] at li;have hok:=hL.ok;have hlen:=hL.len';generalize hq:Ag (Q rs)=q at *
  have step:∀ i,i<L.length->Ar XK (P8 (L.map (Dd q)) (i:Nat)) .norm (P8 (L.map (Dd q)) ((i+1:Nat):Int)):=by
   intro i hi;have ei:I O ((i:Int)+1)=((i+1:Nat):Int):=by rw[Bl (by omega) (by omega)];omega
   have hy:=hok L[i] (CT hi);have eg:(L.map (Dd q)).getD (A (i:Int)) zR=Dd q L[i]:=by
    rw[R,Z,Ch,Af hi];rfl
   obtain⟨b1,b2⟩:=tA hy;have s1:=Ly (e:=(L[i].a:Nat)) hy.gr;have s2:=Ly (e:=(L[i].b:Nat)) hy.gt;rw[b1] at s1;rw[b2] at s2;have k:=A1u (L.map (Dd q)) (i:Nat) (by rw[decide_eq_true_eq,N];omega) (by rw[N];omega) (by rw[eg];exact s1) (by rw[eg];exact s2);rwa [ei] at k
  have lp:=Cv.up (prog:=AY) (c:=XK) (ex := .exit 1) (fin:=P8 (L.map (Dd q)) (L.length:Int))
   (fun i=>P8 (L.map (Dd q)) (i:Nat)) L.length (by nofun) step (A1v _ _ (by rw[decide_eq_false_iff_not,N];omega)) 0 (Ba _)
  exact Aee rs x.r x.t _ _ _ _ _ _ _ false (L.map (Dd q)) rfl (by rw[decide_eq_false_iff_not];omega) (by rw[decide_eq_false_iff_not];have:=hx.a;omega) (by rw[decide_eq_false_iff_not];have:=hx.b;omega) (by rw[decide_eq_false_iff_not];have:=bl _ hx1;unfold P at this;omega) (by rw[decide_eq_false_iff_not];have:=bl _ hx2;unfold P at this;omega) (decide_eq_false hle) rl dg v1 v2 m1 m2 cm li lp
theorem RC(haw:RQ 12 [] (D true)){rs:List Rn}(hg:∀ r∈rs,AO 35184372088832 r){r t:Rn}(hr:AO 35184372088832 r)(ht:AO 35184372088832 t)(e f:Int) :
  RQ 3 [sL pc rs,j r e,j t f] (D true):=by
 have hfew:=Avc hg;by_cases c0:Nx rs=true
 case neg =>
  rw[SL] at c0;rw[c0] at hfew;exact Avb rs r t e f false rfl haw hfew
 obtain⟨h5,h9⟩:=Avd hg c0;rw[c0] at hfew;have n1:=YJ hr e;have n2:=YJ ht f;by_cases c1:SK r e=true
 case neg =>
  rw[SL] at c1;rw[c1] at n1;exact Ava rs r t e f true false rfl rfl haw hfew n1
 rw[c1] at n1;by_cases c2:SK t f=true
 case neg =>
  rw[SL] at c2;rw[c2] at n2;exact Auz rs r t e f true true false rfl rfl rfl haw hfew n1 n2
 rw[c2] at n2;obtain⟨a,rfl,ha,g1,v1⟩:=YK hr.1 c1;obtain⟨b,rfl,hb,g2,v2⟩:=YK ht.1 c2;suffices h:∃ (l m:List Rt) (z:Int),l.length=m.length/\RQ 15 [sL pc rs,j r (a:Nat),j t (b:Nat)] (Ax [H l.length (EH l),F O z])/\RQ 16 [sL pc rs,j r (a:Nat),j t (b:Nat)] (Ax [H m.length (EH m),F O z]) /\
   l.length<=1000/\∀ i,i<l.length->Ar tW (X1 false l m (i:Nat)) .norm (X1 false l m ((i+1:Nat):Int)) by
  obtain⟨l,m,z,hl,k1,k2,_,step⟩:=h;have lp:=Cv.up (prog:=AY) (c:=tW) (ex := .exit 0) (fin:=X1 false l m (l.length:Int))
   (fun i=>X1 false l m (i:Nat)) l.length (by nofun) step (A6j _ _ _ _ (by rw[decide_eq_false_iff_not];omega)) 0 (Ba _)
  exact Auy rs r t _ _ z _ l m true true true (by simp) rfl rfl rfl (by rw[hl];simp) haw hfew n1 n2 k1 k2 lp
 have rl:=Nh (rs:=rs) (fun r h=>(h5 r h).mono (by omega)) (by omega);have ps:=Lz h5 (by omega) (by omega);have nl:CP (Q rs)=false:=Nj (K:=5) (Iy (C1 h5)) (by decide) (by rw[s];omega);rw[nl] at rl ps;have dg:=LO (rs:=rs) (fun r h=>(h5 r h).mono (by omega)) (by omega);have htl:=Fa (Q rs);rw[s] at htl;have da:=Gm (fun r h=>(h5 r h).mono (by omega)) (show rs.length<=1048576 by omega);by_cases h0:Aa (Q rs)=[]
 ·refine⟨[],[],3,rfl,?_,?_,by simp,fun i hi=>by simp at hi⟩
  ·exact gI rs r t _ _ _ true rfl (by rw[decide_eq_true_eq];have:=congrArg Bh h0;simp only[Ib] at this;omega) ps da
  ·exact Aec rs r t _ _ _ false rfl (by rw[h0];rfl) rl dg
 have hp:=Avl c0 h0;obtain⟨x,hx⟩:∃ x:Iv,x=⟨r,a,t,b⟩:=⟨_,rfl⟩;have er:x.r=r:=by rw[hx]
 have ea:x.a=a:=by rw[hx]
 have et:x.t=t:=by rw[hx]
 have eb:x.b=b:=by rw[hx]
 rw[<- er] at g1 v1 |-;rw[<- et] at g2 v2 |-;rw[<- ea] at ha |-;rw[<- eb] at hb |-;have p1:∀ n:Nat,2^20<=2^20*2^n:=fun n=>BP _ (BS (by decide));have ix:IvOk 20 10 x:=⟨g1.mono (by decide),g2.mono (by decide),ha,hb,Be v1 (p1 _),Be v2 (p1 _)⟩;by_cases hle:Co (P x.r) x.a (P x.t) x.b>0
 ·refine⟨[],[],1,rfl,?_,?_,by simp,fun i hi=>by simp at hi⟩
  ·have y1:=R6 (e:=(x.a:Nat)) ix.gr;have y2:=R6 (e:=(x.b:Nat)) ix.gt;have bl:∀ z:Int,z.natAbs<=2^20->CR z.natAbs<=128:=fun z hz=>by have:=RB hz;omega
   have eb:∀ (r:Rn) (a:Nat),a<=10->(P r).natAbs<=2^20->TG r (a:Nat)=true:=by
    intro r a ha hr;unfold TG;rw[decide_eq_true (show (a:Int)>=0 by omega),decide_eq_true (show (a:Int)<=64 by omega),decide_eq_true (bl _ hr)];rfl
   rw[eb _ _ ha v1] at y1;rw[eb _ _ hb v2] at y2;have cm:=S9 (ix.gr.mono (show 100<=200 by omega)) (ix.gt.mono (show 100<=200 by omega)) (a:=x.a) (b:=x.b) (by omega) (by omega);have:=An.2 h0;exact gJ rs x.r x.t _ _ _ _ true true true rfl (by rw[decide_eq_false_iff_not];omega) rfl rfl (decide_eq_true hle) ps da y1 y2 cm
  ·have v1':=Lx (e:=(x.a:Nat)) (ix.gr.mono (show 100<=200 by omega));have v2':=Lx (e:=(x.b:Nat)) (ix.gt.mono (show 100<=200 by omega));have ve:∀ a:Nat,a<=10->vE (a:Nat)=true:=fun a ha=>by
    unfold vE;rw[decide_eq_true (show (a:Int)>=0 by omega),decide_eq_true (show (a:Int)<=4096 by omega)];rfl
   rw[ve _ ha] at v1';rw[ve _ hb] at v2';have m1:=HR (neg:=x.r.1) ix.gr.1 (by have:=ix.gr.2;omega);have m2:=HR (neg:=x.t.1) ix.gt.1 (by have:=ix.gt.2;omega);have bl:∀ z:Int,z.natAbs<=2^20->CR z.natAbs<=128:=fun z hz=>by have:=RB hz;omega
   have cm:=Eh (ix.gr.mono (show 100<=200 by omega)) (ix.gt.mono (show 100<=200 by omega)) (a:=x.a) (b:=x.b) (by omega) (by omega);have:=An.2 h0;exact Aed rs x.r x.t _ _ _ _ _ _ false rfl (by rw[decide_eq_false_iff_not];omega) (by rw[decide_eq_false_iff_not];omega) (by rw[decide_eq_false_iff_not];omega) (by rw[decide_eq_false_iff_not];have:=bl _ v1;unfold P at this;omega) (by rw[decide_eq_false_iff_not];have:=bl _ v2;unfold P at this;omega) (decide_eq_true hle) rl dg v1' v2' m1 m2 cm
 ·have hf:=A6r h5 h9 hp ix v1 v2 hle;obtain⟨k1,k2⟩:=Aev h5 h9 hp ix v1 v2 hle hf;have hone:=hf.one;have hok:=hf.ok;have hlen:=hf.len';generalize Ht (Q rs) 831 x=L at *
  generalize Q rs=p at *
  refine⟨L.map (Iv.out (Ag p)),L.map (Dd (Ag p)),0,by rw[N,N],k1,k2,by rw[N];omega,?_⟩;intro i hi;(first|rw[N] at hi|(unfold sL at hi;rw[N] at hi));have ei:I O ((i:Int)+1)=((i+1:Nat):Int):=by rw[Bl (by omega) (by omega)];omega
  have on:=hone L[i] (CT hi);have ok:=hok L[i] (CT hi);have on2:=on.yo;have ok2:=A6p ok;have ev:Eqv L[i].yo L[i]:=⟨u _,rfl,u _,rfl⟩;have eg1:(L.map (Iv.out (Ag p))).getD (A (i:Int)) zR=⟨(Ag p).map cn,(L[i].yo).r,((L[i].yo).a:Nat),(L[i].yo).t,((L[i].yo).b:Nat)⟩:=by
   rw[R,Z,Ch,Af hi];rfl
  have eg2:(L.map (Dd (Ag p))).getD (A (i:Int)) zR=⟨(Ag p).map cn,(L[i]).r,((L[i]).a:Nat),(L[i]).t,((L[i]).b:Nat)⟩:=by
   rw[R,Z,Ch,Af hi];rfl
  generalize L[i].yo=y at *
  generalize L[i]=z at *
  have va:=ZO hp.good hp.l9 ok2.gr ok2.gt (y.a:Nat) (y.b:Nat);rw[aA hp on2 ok2] at va;have vb:=W4 hp.good hp.l9 ok2.gr ok2.gt (y.a:Nat) (y.b:Nat);rw[aA hp on2 ok2] at vb;have vc:=W4 hp.good hp.l9 ok.gr ok.gt (z.a:Nat) (z.b:Nat);rw[aA hp on ok] at vc;have k:=A6i false (L.map (Iv.out (Ag p))) (L.map (Dd (Ag p))) (i:Nat) ((Ag p).map cn) y.r y.t (y.a:Nat) (y.b:Nat) (by rw[decide_eq_true_eq,N];omega) (by rw[N];omega) (by rw[N];omega)
   (by rw[eg1];exact va) (by rw[eg1];exact vb) (by rw[eg2];exact vc) (by rw[eg1];exact qI hp) (by rw[eg2];exact Aeu hp ev on2 on ok2 ok)
  rwa [ei] at k
theorem aw0:RQ 118 [H 4 [D false,H 0 [],D true,H 1 [F Ac 1],D false,H 0 [],D false,H 1 [F Ac 1]],H 3 [D true,H 1 [F Ac 1],D false,H 0 [],D false,H 1 [F Ac 3]]] (L 2 2 [D false,H 0 [],D true,H 1 [F Ac 1]]):=Bp BR (k _) 400 _ _ _ (by kernel_rfl)
theorem aw1:RQ 118 [H 3 [D true,H 1 [F Ac 1],D false,H 0 [],D false,H 1 [F Ac 3]],H 2 [D false,H 0 [],D true,H 1 [F Ac 1]]] (L 2 1 [D true,H 1 [F Ac 1]]):=Bp BR (k _) 400 _ _ _ (by kernel_rfl)
theorem aw2:RQ 118 [H 2 [D false,H 0 [],D true,H 1 [F Ac 1]],H 1 [D true,H 1 [F Ac 1]]] (L 2 0 []):=Bp BR (k _) 400 _ _ _ (by kernel_rfl)
theorem aw3:RQ 135 [H 4 [D false,H 0 [],D true,H 1 [F Ac 1],D false,H 0 [],D false,H 1 [F Ac 1]],H 3 [D true,H 1 [F Ac 1],D false,H 0 [],D false,H 1 [F Ac 3]]] (L 2 1 [D false,H 1 [F Ac 1]]):=Bp BR (b aw2 (b aw1 (b aw0 (k _)))) 400 _ _ _ (by kernel_rfl)
theorem aw4:RQ 114 [H 4 [D false,H 0 [],D true,H 1 [F Ac 1],D false,H 0 [],D false,H 1 [F Ac 1]]] (H 4 [D false,H 0 [],D true,H 1 [F Ac 1],D false,H 0 [],D false,H 1 [F Ac 1]]):=Bp BR (b aw3 (k _)) 400 _ _ _ (by kernel_rfl)
theorem aw5:RQ 118 [H 3 [D true,H 1 [F Ac 1],D false,H 0 [],D false,H 1 [F Ac 3]],H 2 [D false,H 0 [],D false,H 1 [F Ac 1]]] (L 2 1 [D true,H 1 [F Ac 1]]):=Bp BR (k _) 400 _ _ _ (by kernel_rfl)
theorem aw6:RQ 118 [H 2 [D false,H 0 [],D false,H 1 [F Ac 1]],H 1 [D false,H 1 [F Ac 1]]] (L 2 0 []):=Bp BR (k _) 400 _ _ _ (by kernel_rfl)
theorem aw7:RQ 67 [H 4 [D false,H 0 [],D true,H 1 [F Ac 1],D false,H 0 [],D false,H 1 [F Ac 1]]] (L 1 4 [H 4 [D false,H 0 [],D true,H 1 [F Ac 1],D false,H 0 [],D false,H 1 [F Ac 1]],H 3 [D true,H 1 [F Ac 1],D false,H 0 [],D false,H 1 [F Ac 3]],H 2 [D false,H 0 [],D false,H 1 [F Ac 1]],H 1 [D false,H 1 [F Ac 1]]]):=Bp BR (b aw6 (b aw5 (b aw4 (b aw0 (k _))))) 400 _ _ _ (by kernel_rfl)
theorem aw8:RQ 65 [H 4 [D false,H 0 [],D true,H 1 [F Ac 1],D false,H 0 [],D false,H 1 [F Ac 1]],o [D true,H 1 [F Ac 1],F O 0]] (F O 0):=Bp BR (k _) 400 _ _ _ (by kernel_rfl)
theorem aw9:RQ 68 [H 4 [H 4 [D false,H 0 [],D true,H 1 [F Ac 1],D false,H 0 [],D false,H 1 [F Ac 1]],H 3 [D true,H 1 [F Ac 1],D false,H 0 [],D false,H 1 [F Ac 3]],H 2 [D false,H 0 [],D false,H 1 [F Ac 1]],H 1 [D false,H 1 [F Ac 1]]],o [D true,H 1 [F Ac 1],F O 0]] (F O 2):=Bp BR (b aw8 (k _)) 400 _ _ _ (by kernel_rfl)
theorem A5f:RQ 65 [H 4 [D false,H 0 [],D true,H 1 [F Ac 1],D false,H 0 [],D false,H 1 [F Ac 1]],o [D false,H 1 [F Ac 2],F O 0]] (F O 1):=Bp BR (k _) 400 _ _ _ (by kernel_rfl)
theorem A5g:RQ 68 [H 4 [H 4 [D false,H 0 [],D true,H 1 [F Ac 1],D false,H 0 [],D false,H 1 [F Ac 1]],H 3 [D true,H 1 [F Ac 1],D false,H 0 [],D false,H 1 [F Ac 3]],H 2 [D false,H 0 [],D false,H 1 [F Ac 1]],H 1 [D false,H 1 [F Ac 1]]],o [D false,H 1 [F Ac 2],F O 0]] (F O 0):=Bp BR (b A5f (k _)) 400 _ _ _ (by kernel_rfl)
theorem aw12:RQ 65 [H 4 [D false,H 0 [],D true,H 1 [F Ac 1],D false,H 0 [],D false,H 1 [F Ac 1]],o [D false,H 1 [F Ac 1],F O 1]] (F O (-1)):=Bp BR (k _) 400 _ _ _ (by kernel_rfl)
theorem Avo:RQ 68 [H 4 [H 4 [D false,H 0 [],D true,H 1 [F Ac 1],D false,H 0 [],D false,H 1 [F Ac 1]],H 3 [D true,H 1 [F Ac 1],D false,H 0 [],D false,H 1 [F Ac 3]],H 2 [D false,H 0 [],D false,H 1 [F Ac 1]],H 1 [D false,H 1 [F Ac 1]]],o [D false,H 1 [F Ac 1],F O 1]] (F O 1):=Bp BR (b aw12 (k _)) 400 _ _ _ (by kernel_rfl)
theorem aw14:RQ 15 [H 4 [D false,H 0 [],D true,H 1 [F Ac 1],D false,H 0 [],D false,H 1 [F Ac 1]],o [D true,H 1 [F Ac 1],F O 0],o [D false,H 1 [F Ac 2],F O 0]] (Ax [H 2 [H 4 [D false,H 0 [],D true,H 1 [F Ac 1],D false,H 0 [],D false,H 1 [F Ac 1]],D true,H 1 [F Ac 1],F O 0,D false,H 1 [F Ac 1],F O 1,H 4 [D false,H 0 [],D true,H 1 [F Ac 1],D false,H 0 [],D false,H 1 [F Ac 1]],D false,H 1 [F Ac 1],F O 1,D false,H 1 [F Ac 2],F O 0],F O 0]):=Bp BR (b Avo (b A5g (b aw9 (b aw7 (k _))))) 400 _ _ _ (by kernel_rfl)
theorem A5h:RQ 118 [H 3 [D true,H 1 [F Ac 2],D false,H 0 [],D false,H 1 [F Ac 1]],H 2 [D false,H 0 [],D false,H 1 [F Ac 1]]] (L 2 1 [D true,H 1 [F Ac 1]]):=Bp BR (k _) 400 _ _ _ (by kernel_rfl)
theorem aw16:RQ 118 [H 2 [D false,H 0 [],D false,H 1 [F Ac 1]],H 1 [D true,H 1 [F Ac 1]]] (L 2 0 []):=Bp BR (k _) 400 _ _ _ (by kernel_rfl)
theorem aw17:RQ 135 [H 3 [D true,H 1 [F Ac 2],D false,H 0 [],D false,H 1 [F Ac 1]],H 2 [D false,H 0 [],D false,H 1 [F Ac 2]]] (L 2 1 [D false,H 1 [F Ac 1]]):=Bp BR (b aw16 (b A5h (k _))) 400 _ _ _ (by kernel_rfl)
theorem A5i:RQ 114 [H 3 [D true,H 1 [F Ac 2],D false,H 0 [],D false,H 1 [F Ac 1]]] (H 3 [D true,H 1 [F Ac 2],D false,H 0 [],D false,H 1 [F Ac 1]]):=Bp BR (b aw17 (k _)) 400 _ _ _ (by kernel_rfl)
theorem Avp:RQ 67 [H 3 [D true,H 1 [F Ac 2],D false,H 0 [],D false,H 1 [F Ac 1]]] (L 1 3 [H 3 [D true,H 1 [F Ac 2],D false,H 0 [],D false,H 1 [F Ac 1]],H 2 [D false,H 0 [],D false,H 1 [F Ac 1]],H 1 [D false,H 1 [F Ac 1]]]):=Bp BR (b A5i (b A5h (b aw6 (k _)))) 400 _ _ _ (by kernel_rfl)
theorem Avq:RQ 68 [H 3 [H 3 [D true,H 1 [F Ac 2],D false,H 0 [],D false,H 1 [F Ac 1]],H 2 [D false,H 0 [],D false,H 1 [F Ac 1]],H 1 [D false,H 1 [F Ac 1]]],o [D false,H 0 [],F O 0]] (F O 1):=Bp BR (k _) 400 _ _ _ (by kernel_rfl)
theorem Avr:RQ 68 [H 3 [H 3 [D true,H 1 [F Ac 2],D false,H 0 [],D false,H 1 [F Ac 1]],H 2 [D false,H 0 [],D false,H 1 [F Ac 1]],H 1 [D false,H 1 [F Ac 1]]],o [D false,H 1 [F Ac 2],F O 0]] (F O 0):=Bp BR (k _) 400 _ _ _ (by kernel_rfl)
theorem aw22:RQ 15 [H 3 [D true,H 1 [F Ac 2],D false,H 0 [],D false,H 1 [F Ac 1]],o [D false,H 0 [],F O 0],o [D false,H 1 [F Ac 2],F O 0]] (Ax [H 1 [H 3 [D true,H 1 [F Ac 2],D false,H 0 [],D false,H 1 [F Ac 1]],D false,H 0 [],F O 0,D false,H 1 [F Ac 2],F O 0],F O 0]):=Bp BR (b Avr (b Avq (b Avp (k _)))) 400 _ _ _ (by kernel_rfl)
theorem Avs:RQ 115 [H 4 [D false,H 0 [],D false,H 0 [],D false,H 0 [],D false,H 1 [F Ac 4]]] (L 2 4 [D false,H 0 [],D false,H 0 [],D false,H 0 [],D false,H 1 [F Ac 1]]):=Bp BR (k _) 400 _ _ _ (by kernel_rfl)
theorem Avt:RQ 118 [H 5 [D true,H 1 [F Ac 4],D false,H 0 [],D false,H 0 [],D false,H 0 [],D false,H 1 [F Ac 1]],H 4 [D false,H 0 [],D false,H 0 [],D false,H 0 [],D false,H 1 [F Ac 1]]] (L 2 1 [D true,H 1 [F Ac 1]]):=Bp BR (k _) 400 _ _ _ (by kernel_rfl)
theorem aw25:RQ 118 [H 4 [D false,H 0 [],D false,H 0 [],D false,H 0 [],D false,H 1 [F Ac 1]],H 1 [D true,H 1 [F Ac 1]]] (L 2 0 []):=Bp BR (k _) 400 _ _ _ (by kernel_rfl)
theorem Avu:RQ 114 [H 5 [D true,H 1 [F Ac 4],D false,H 0 [],D false,H 0 [],D false,H 0 [],D false,H 1 [F Ac 1]]] (H 5 [D true,H 1 [F Ac 4],D false,H 0 [],D false,H 0 [],D false,H 0 [],D false,H 1 [F Ac 1]]):=Bp BR (b aw25 (b Avt (b Avs (k _)))) 400 _ _ _ (by kernel_rfl)
theorem A5j:RQ 118 [H 4 [D false,H 0 [],D false,H 0 [],D false,H 0 [],D false,H 1 [F Ac 1]],H 1 [D false,H 1 [F Ac 1]]] (L 2 0 []):=Bp BR (k _) 400 _ _ _ (by kernel_rfl)
theorem aw28:RQ 65 [H 5 [D true,H 1 [F Ac 4],D false,H 0 [],D false,H 0 [],D false,H 0 [],D false,H 1 [F Ac 1]],o [D false,H 0 [],F O 0]] (F O (-1)):=Bp BR (k _) 400 _ _ _ (by kernel_rfl)
theorem A5k:RQ 68 [H 3 [H 5 [D true,H 1 [F Ac 4],D false,H 0 [],D false,H 0 [],D false,H 0 [],D false,H 1 [F Ac 1]],H 4 [D false,H 0 [],D false,H 0 [],D false,H 0 [],D false,H 1 [F Ac 1]],H 1 [D false,H 1 [F Ac 1]]],o [D false,H 0 [],F O 0]] (F O 1):=Bp BR (b aw28 (k _)) 400 _ _ _ (by kernel_rfl)
theorem A5l:RQ 65 [H 5 [D true,H 1 [F Ac 4],D false,H 0 [],D false,H 0 [],D false,H 0 [],D false,H 1 [F Ac 1]],o [D false,H 1 [F Ac 5],F O 0]] (F O 1):=Bp BR (k _) 400 _ _ _ (by kernel_rfl)
theorem A5m:RQ 65 [H 4 [D false,H 0 [],D false,H 0 [],D false,H 0 [],D false,H 1 [F Ac 1]],o [D false,H 1 [F Ac 5],F O 0]] (F O 1):=Bp BR (k _) 400 _ _ _ (by kernel_rfl)
theorem aw32:RQ 56 [H 5 [D true,H 1 [F Ac 4],D false,H 0 [],D false,H 0 [],D false,H 0 [],D false,H 1 [F Ac 1]],o [D false,H 0 [],F O 0],o [D false,H 1 [F Ac 5],F O 0],F O 896] (Ax [H 1 [H 5 [D true,H 1 [F Ac 4],D false,H 0 [],D false,H 0 [],D false,H 0 [],D false,H 1 [F Ac 1]],D false,H 0 [],F O 0,D false,H 1 [F Ac 5],F O 0],D true]):=Bp BR (b A5m (b A5l (b A5k (b A5j (b Avu (b Avt (b Avs (k _)))))))) 400 _ _ _ (by kernel_rfl)
theorem aw33:RQ 15 [H 5 [D true,H 1 [F Ac 4],D false,H 0 [],D false,H 0 [],D false,H 0 [],D false,H 1 [F Ac 1]],o [D false,H 0 [],F O 0],o [D false,H 1 [F Ac 5],F O 0]] (Ax [H 1 [H 5 [D true,H 1 [F Ac 4],D false,H 0 [],D false,H 0 [],D false,H 0 [],D false,H 1 [F Ac 1]],D false,H 0 [],F O 0,D false,H 1 [F Ac 5],F O 0],F O 0]):=Bp BR (b aw32 (k _)) 400 _ _ _ (by kernel_rfl)
theorem aw34:RQ 76 [o [H 3 [D true,H 1 [F Ac 2],D false,H 0 [],D false,H 1 [F Ac 1]],D false,H 0 [],F O 0,D false,H 1 [F Ac 2],F O 0],o [D false,H 1 [F Ac 1],F O 0]] (F O 1):=Bp BR (k _) 400 _ _ _ (by kernel_rfl)
theorem aw35:RQ 76 [o [H 3 [D true,H 1 [F Ac 2],D false,H 0 [],D false,H 1 [F Ac 1]],D false,H 1 [F Ac 1],F O 0,D false,H 1 [F Ac 2],F O 0],o [D false,H 1 [F Ac 3],F O 1]] (F O (-1)):=Bp BR (k _) 400 _ _ _ (by kernel_rfl)
theorem aw36:RQ 76 [o [H 3 [D true,H 1 [F Ac 2],D false,H 0 [],D false,H 1 [F Ac 1]],D false,H 1 [F Ac 1],F O 0,D false,H 1 [F Ac 3],F O 1],o [D false,H 1 [F Ac 3],F O 1]] (F O (-1)):=Bp BR (k _) 400 _ _ _ (by kernel_rfl)
theorem aw37:RQ 77 [o [H 3 [D true,H 1 [F Ac 2],D false,H 0 [],D false,H 1 [F Ac 1]],D false,H 0 [],F O 0,D false,H 1 [F Ac 2],F O 0],F O 1] (o [D false,H 1 [F Ac 2]]):=Bp BR (b aw36 (b aw35 (b aw34 (k _)))) 400 _ _ _ (by kernel_rfl)
theorem aw38:RQ 18 [o [H 5 [D true,H 1 [F Ac 4],D false,H 0 [],D false,H 0 [],D false,H 0 [],D false,H 1 [F Ac 1]],D false,H 0 [],F O 0,D false,H 1 [F Ac 5],F O 0]] (D true):=Bp BR (b A5m (b A5l (b A5k (b A5j (b Avu (b Avt (b Avs (k _)))))))) 400 _ _ _ (by kernel_rfl)
theorem aw39:RQ 118 [H 3 [D true,H 1 [F Ac 2],D false,H 0 [],D false,H 1 [F Ac 1]],H 5 [D true,H 1 [F Ac 4],D false,H 0 [],D false,H 0 [],D false,H 0 [],D false,H 1 [F Ac 1]]] (L 2 3 [D true,H 1 [F Ac 2],D false,H 0 [],D false,H 1 [F Ac 1]]):=Bp BR (k _) 400 _ _ _ (by kernel_rfl)
theorem aw40:RQ 115 [H 5 [D true,H 1 [F Ac 4],D false,H 0 [],D false,H 1 [F Ac 2],D false,H 0 [],D false,H 0 []]] (L 2 3 [D true,H 1 [F Ac 2],D false,H 0 [],D false,H 1 [F Ac 1]]):=Bp BR (k _) 400 _ _ _ (by kernel_rfl)
theorem aw41:RQ 118 [H 5 [D true,H 1 [F Ac 4],D false,H 0 [],D false,H 0 [],D false,H 0 [],D false,H 1 [F Ac 1]],H 3 [D true,H 1 [F Ac 2],D false,H 0 [],D false,H 1 [F Ac 1]]] (L 2 0 []):=Bp BR (b aw40 (k _)) 400 _ _ _ (by kernel_rfl)
theorem aw42:RQ 135 [H 3 [D true,H 1 [F Ac 2],D false,H 0 [],D false,H 1 [F Ac 1]],H 5 [D true,H 1 [F Ac 4],D false,H 0 [],D false,H 0 [],D false,H 0 [],D false,H 1 [F Ac 1]]] (H 3 [D true,H 1 [F Ac 2],D false,H 0 [],D false,H 1 [F Ac 1]]):=Bp BR (b aw41 (b aw39 (k _))) 400 _ _ _ (by kernel_rfl)
theorem aw43:RQ 74 [o [H 3 [D true,H 1 [F Ac 2],D false,H 0 [],D false,H 1 [F Ac 1]],D false,H 0 [],F O 0,D false,H 1 [F Ac 2],F O 0],o [H 5 [D true,H 1 [F Ac 4],D false,H 0 [],D false,H 0 [],D false,H 0 [],D false,H 1 [F Ac 1]],D false,H 0 [],F O 0,D false,H 1 [F Ac 5],F O 0]] (F O 0):=Bp BR (b aw42 (b Avr (b Avq (b Avp (k _))))) 400 _ _ _ (by kernel_rfl)
theorem aw44:RQ 18 [o [H 4 [D false,H 0 [],D true,H 1 [F Ac 1],D false,H 0 [],D false,H 1 [F Ac 1]],D false,H 1 [F Ac 1],F O 1,D false,H 1 [F Ac 2],F O 0]] (D true):=Bp BR (b Avo (b A5g (b aw7 (k _)))) 400 _ _ _ (by kernel_rfl)
theorem aw45:RQ 65 [H 4 [D false,H 0 [],D true,H 1 [F Ac 1],D false,H 0 [],D false,H 1 [F Ac 1]],o [D false,H 1 [F Ac 1],F O 0]] (F O 0):=Bp BR (k _) 400 _ _ _ (by kernel_rfl)
theorem aw46:RQ 18 [o [H 4 [D false,H 0 [],D true,H 1 [F Ac 1],D false,H 0 [],D false,H 1 [F Ac 1]],D true,H 1 [F Ac 1],F O 0,D false,H 1 [F Ac 1],F O 1]] (D true):=Bp BR (b Avo (b aw9 (b aw7 (k _)))) 400 _ _ _ (by kernel_rfl)
theorem aw47:RQ 12 [] (D true):=Bp BR (b aw46 (b aw45 (b aw44 (b aw43 (b aw38 (b aw37 (b aw33 (b Avu (b aw22 (b Avr (b Avq (b Avp (b A5i (b aw14 (b A5f (b aw4 (k _))))))))))))))))) 400 _ _ _ (by kernel_rfl)
theorem A2j:RQ 12 [] (D true):=aw47
end Go.Proofs.YtajompaehjkgkaaGreat
