/- Texts of the proof of RootOrder: part 9 of 13. -/
import Derived.KernelRfl
import Derived.Test.YtajompaehjkgkaaGreatRod8
namespace Go.Proofs.YtajompaehjkgkaaGreat
open Go.Ai
set_option maxRecDepth 100000
open Bool renaming and_eq_true->Af,false_and->KR,not_eq_true'->Ey,true_and->LX
open Go.Ai.AV renaming agg->o,bool->F,int->D,sl->H
open Go.IntKind renaming i64->O,wrap->I
open Int renaming toNat_natCast->R
open List renaming all_eq_true->BY,getD_eq_getElem?_getD->Z,getElem?_eq_getElem->Ah,getElem_mem->CY,mem_iff_getElem->JK
open Nat renaming le_refl->Ap,zero_add->Cs,zero_le->By
def M6(rs:List Rn):Bool:=decide (rs.length<=9)&&rs.all fun r=>decide (DD (Q r).natAbs<=100)&&decide (r.2.length<=5)
theorem iU{rs:List Rn}(hg:∀ r∈rs,AO 35184372088832 r):RQ 13 [Y pc rs] (F (M6 rs)):=by
 by_cases c9:rs.length<=9
 ·have d9:decide ((rs.length:Int)>9)=false:=by rw[decide_eq_false_iff_not];omega
  have hb:∀ t:Nat,RQ 51 [Ay (rs.getD t z0)] (D O ((DD (Q (rs.getD t z0)).natAbs:Nat):Int)):=fun t=>rI (Bk hg t).1 (Bk hg t).2;have step:∀ t:Nat,t<rs.length->(!(decide (DD (Q (rs.getD t z0)).natAbs<=100)&&decide ((rs.getD t z0).2.length<=5)))=false->Ar Oe (IM false rs (t:Nat)) .norm (IM false rs ((t+1:Nat):Int)):=by
   intro t ht hk;simp only[Bool.not_eq_false',Af,decide_eq_true_eq] at hk;have ei:I O ((t:Int)+1)=((t+1:Nat):Int):=by rw[Bl (by omega) (by omega)];omega
   have k:=A3t false rs (t:Nat) ((DD (Q (rs.getD t z0)).natAbs:Nat):Int) (by simp;omega) (by rw[decide_eq_false_iff_not];omega) (by rw[R,decide_eq_false_iff_not];omega) (by omega) (by rw[R];exact hb t);rwa [ei] at k
  rcases Ik (fun j => !(decide (DD (Q (rs.getD j z0)).natAbs<=100)&&decide ((rs.getD j z0).2.length<=5))) rs.length _ 0 (by rw[Cs]) with h | ⟨j,_,h2,h3,h4⟩
  ·have e:M6 rs=true:=by
    unfold M6;rw[decide_eq_true c9,LX,BY];intro r hr;obtain⟨i,hi,rfl⟩:=JK.1 hr;have:=h i (by omega) hi;rw[Z,Ah hi] at this;simpa using this
   rw[e];exact iP rs _ d9 (Gk (prog:=AZ) (c:=Oe) (ex := .exit 0) (fun t=>IM false rs (t:Nat)) rs.length (by nofun) (A3u false rs _ (by simp)) 0 (By _) (fun t _ h6=>step t h6 (h t (by omega) h6)))
  ·have e:M6 rs=false:=by
    unfold M6;rw[decide_eq_true c9,LX,List.all_eq_false];refine⟨rs.getD j z0,?_,?_⟩
    ·rw[Z,Ah h2];exact CY h2
    ·intro g;rw[g] at h3;cases h3
   rw[e];have out:Ar Oe (IM false rs (j:Nat)) .ret (IM false rs (j:Nat)):=by
    by_cases c:DD (Q (rs.getD j z0)).natAbs<=100
    ·rw[decide_eq_true c,LX] at h3;simp only[Ey,decide_eq_false_iff_not] at h3;exact A3s false rs (j:Nat) ((DD (Q (rs.getD j z0)).natAbs:Nat):Int) (by simp;omega) (by rw[decide_eq_false_iff_not];omega) (by rw[R,decide_eq_true_eq];omega) (by omega) (by rw[R];exact hb j)
    ·exact A3r false rs (j:Nat) ((DD (Q (rs.getD j z0)).natAbs:Nat):Int) (by simp;omega) (by rw[decide_eq_true_eq];omega) (by omega) (by rw[R];exact hb j)
   exact iO rs _ d9 (Gk (prog:=AZ) (c:=Oe) (ex := .ret) (fun t=>IM false rs (t:Nat)) j (by nofun) out 0 (By _) (fun t _ h6=>step t (by omega) (h4 t (by omega) h6)))
 ·have e:M6 rs=false:=by unfold M6;rw[decide_eq_false c9,KR]
  rw[e];exact iN rs (by rw[decide_eq_true_eq];omega)
theorem iV{rs:List Rn}(hg:∀ r∈rs,AO 35184372088832 r)(h:M6 rs=true):(∀ r∈rs,AO 5 r)/\rs.length<=9:=by
 unfold M6 at h;simp only[Af,decide_eq_true_eq,BY] at h;exact⟨fun r hr=>⟨(hg r hr).1,(h.2 r hr).2⟩,h.1⟩
def stpN(p:LI)(x:Iv):Nat->Iv
 | 0=>x
 | n+1=>stp p (stpN p x n)
theorem IB{p:LI}{C m:Nat}{x:Iv}(h:IvOk C m x):∀ n,C+m+n<3000->IvOk C (m+n) (stpN p x n)
 | 0,_=>h
 | n+1,hc=>A3v (m:=m+n) (IB h n (by omega)) (by omega)
section
variable {p:LI} (hp:Qc p) {x:Iv} (h:IvOk 128 200 x) {fs:List Rn} {r0:Rn} {e0:Int} {t0:Rn} {f0:Int}
include hp h
end
section
variable {rs:List Rn} (hg:∀ r∈rs,AO 5 r) (hn:rs.length<=9)
include hg hn
theorem Zg(r t:Rn)(e f:Int):RQ 75 [o [Y pc rs,F r.1,H r.2.length (W r.2),D O e,F t.1,H t.2.length (W t.2),D O f]]
  (o [H ((A9k (P rs)).map V).length (pc ((A9k (P rs)).map V)),F r.1,H r.2.length (W r.2),D O e,F t.1,H t.2.length (W t.2),D O f]):=by
 rcases WK (K:=5) (c:=9) hg hn (Ap _) (by decide) with h | h
 ·exact Afa rs r t e f _ h
 ·exact Aez rs r t e f _ h
theorem rY(r t:Rn)(e f:Int):RQ 20 [o [Y pc rs,F r.1,H r.2.length (W r.2),D O e,F t.1,H t.2.length (W t.2),D O f]]
  (o [H ((A9k (P rs)).map V).length (pc ((A9k (P rs)).map V)),F r.1,H r.2.length (W r.2),D O e,F t.1,H t.2.length (W t.2),D O f]) :=
 A3q rs r t e f _ (RL (K:=5) (c:=9) hg hn (Ap _) (by decide))
end
end Go.Proofs.YtajompaehjkgkaaGreat
namespace Go.Ai
open Classical renaming byContradiction->A4
open Int renaming add_mul->G4,add_zero->BE,le_of_eq->HZ,le_of_lt->Aw,le_of_mul_le_mul_left->ET,le_of_mul_le_mul_right->CM,le_refl->C',le_trans->Eo,mul_add->CT,mul_assoc->AF,mul_comm->AA,mul_le_mul->Eb,mul_le_mul_of_nonneg_left->Aj,mul_le_mul_of_nonneg_right->Ae,mul_ne_zero->Ba,mul_neg->E5,mul_neg_of_pos_of_neg->IE,mul_nonneg->A6,mul_one->De,mul_pos->Be,mul_pow->Q',mul_sub->Fr,natAbs_mul->BT,natAbs_of_nonneg->Lk,natCast_add->Ky,natCast_mul->Dj,neg_mul->NL,not_le->GN,one_mul->Dt,pow_add->BG,pow_nonneg->NM,pow_pos->EQ,pow_succ->A2,pow_zero->Da,toNat_of_nonneg->kV,zero_add->DL,zero_mul->CX
open List renaming eq_nil_of_length_eq_zero->A7,length_map->N,length_pos_iff->Am,length_range->BI,map_congr_left->Gh,map_cons->C8,map_nil->FU,range->Aq
open Nat renaming add_assoc->DE,add_sub_cancel->IJ,le_refl->Ap,mul_le_mul->B2,succ_mul->Ll,zero_add->Cs
def hs(c:Nat->Int)(x q:Int):Nat->Int
 | 0=>c 0
 | T+1=>q*hs c x q T+c (T+1)*x^(T+1)
theorem Nz{c d:Nat->Int}{x q:Int}:∀ {T:Nat},(∀ i,i<=T->c i=d i)->hs c x q T=hs d x q T
 | 0,h=>h 0 (Ap _)
 | T+1,h=>by
  simp only[hs];rw[Nz (T:=T) fun i hi=>h i (by omega),h (T+1) (Ap _)]
theorem LJ(a b:Int)(c d:Nat->Int)(x q:Int):∀ T:Nat,hs (fun i=>a*c i+b*d i) x q T=a*hs c x q T+b*hs d x q T
 | 0=>rfl
 | T+1=>by
  simp only[hs];rw[LJ a b c d x q T];grind
theorem iW{c:Nat->Int}{T:Nat}(h:∀ i,T<i->c i=0)(x q:Int):∀ k:Nat,hs c x q (T+k)=q^k*hs c x q T
 | 0=>by simp
 | k+1=>by
  rw[<- DE];simp only[hs];rw[iW h x q k,h _ (by omega),A2];grind
theorem P0(c:Nat->Int)(x q:Int):∀ T:Nat,hs c x q (T+1)=c 0*q^(T+1)+x*hs (fun i=>c (i+1)) x q T
 | 0=>by simp only[hs];grind
 | T+1=>by
  have h:=P0 c x q T;have e1:hs c x q (T+1+1)=q*hs c x q (T+1)+c (T+1+1)*x^(T+1+1):=rfl;have e2:hs (fun i=>c (i+1)) x q (T+1)=q*hs (fun i=>c (i+1)) x q T+c (T+1+1)*x^(T+1):=rfl;rw[e1,h,e2,A2 q (T+1),A2 x (T+1)];grind
theorem Ago(c:Nat->Int)(x q:Int)(T:Nat):hs (fun i=>if i=0 then 0 else c (i-1)) x q (T+1)=x*hs c x q T:=by
 rw[P0];simp only[if_pos,CX,DL];rw[Nz (d:=c) fun i _=>by rw[if_neg (by omega),IJ]]
def hp(p:LI)(x q:Int)(T:Nat):Int:=hs (fun i=>p.getD i 0) x q T
theorem aQ:∀ (p:LI) (x q:Int),hv p x q=hp p x q (p.length-1)
 | [],_,_=>rfl
 | [a],x,q=>by simp[hv,hp,hs]
 | a::b::p,x,q=>by
  have ih:=aQ (b::p) x q;have e:hp (a::b::p) x q ((a::b::p).length-1)=a*q^(b::p).length+x*hp (b::p) x q ((b::p).length-1):=by
   unfold hp;show hs _ x q ((b::p).length-1+1)=_;rw[P0];rfl
  rw[e,<- ih];rfl
theorem RR{p:LI}{T:Nat}(h:p.length<=T+1)(x q:Int)(k:Nat):hp p x q (T+k)=q^k*hp p x q T :=
 iW (fun i hi=>B0 (by omega)) x q k
theorem U9(x q:Int):∀ T:Nat,hp [] x q T=0
 | 0=>rfl
 | T+1=>by
  have:=U9 x q T;unfold hp at *
  simp only[hs];rw[this];simp
theorem UA{r:LI}{tr:Nat}(hr:r.length<=tr+1)(x q:Int):∀ (p:LI) (tp:Nat),p.length<=tp+1->hp (BC p r) x q (tp+tr)=hp p x q tp*hp r x q tr
 | [],tp,_=>by rw[U9,CX];exact U9 x q _
 | a::p,tp,h=>by
  have hc:∀ i,(BC (a::p) r).getD i 0=a*r.getD i 0+1*(if i=0 then 0 else (BC p r).getD (i-1) 0):=by
   intro i;rw[EO,Cm];by_cases h0:i=0
   ·subst h0;rw[if_neg (by omega),if_pos rfl];omega
   ·rw[if_pos (by omega),if_neg h0];omega
  cases tp with
  | zero =>
   have hp0:p=[]:=A7 (by have h':p.length+1<=0+1:=h;omega);subst hp0;have h0:∀ i,(BC [] r).getD i 0=0:=fun i=>rfl;unfold hp;rw[Nz (d:=fun i=>a*r.getD i 0+0*r.getD i 0) fun i _=>by rw[hc,h0];split <;> simp,LJ,Cs];simp[hs]
  | succ tp =>
   have ih:=UA hr x q p tp (by have h':p.length+1<=tp+1+1:=h;omega);have hm:=RR hr x q (tp+1);have ha:hp (a::p) x q (tp+1)=a*q^(tp+1)+x*hp p x q tp:=by unfold hp;rw[P0];rfl
   have hsh:=Ago (fun i=>(BC p r).getD i 0) x q (tp+tr);have e:hp (BC (a::p) r) x q (tp+1+tr)=a*hp r x q (tp+1+tr)+1*(x*hp (BC p r) x q (tp+tr)):=by
    unfold hp;rw[Nz fun i _=>hc i,LJ,show tp+1+tr=tp+tr+1 by omega];rw[hsh]
   rw[e,ih,show tp+1+tr=tr+(tp+1) by omega,hm,ha];grind
theorem Axg{r d e Q:LI}{c c':Int}(h:∀ x,c*Aa r x=Aa Q x*Aa d x+c'*Aa e x)(x q:Int){tq td:Nat}(hQ:Q.length<=tq+1)(hd:d.length<=td+1) :
  c*hp r x q (tq+td)=hp Q x q tq*hp d x q td+c'*hp e x q (tq+td):=by
 have hi:=Dg (p:=A0 c r) (q:=DB (BC Q d) (A0 c' e)) (fun x=>by rw[Az,BU,AX,Az];exact h x);have hc:∀ i,c*r.getD i 0+0*r.getD i 0=1*(BC Q d).getD i 0+c'*e.getD i 0:=by
  intro i;have:=hi i;rw[AK,Dl,AK] at this;omega
 rw[<- UA hd x q Q tq hQ];unfold hp;have h1:=LJ c 0 (fun i=>r.getD i 0) (fun i=>r.getD i 0) x q (tq+td);have h2:=LJ 1 c' (fun i=>(BC Q d).getD i 0) (fun i=>e.getD i 0) x q (tq+td);rw[Nz fun i _=>hc i,h2] at h1;omega
theorem Di{a b A B:Int}(ha:(a.natAbs:Int)<=A)(hb:(b.natAbs:Int)<=B):((a*b).natAbs:Int)<=A*B:=by
 rw[BT,Dj];exact Eb ha hb (by omega) (by omega)
theorem Is{a b A B:Int}(ha:(a.natAbs:Int)<=A)(hb:(b.natAbs:Int)<=B):((a+b).natAbs:Int)<=A+B:=by omega
theorem LK{a A:Int}(ha:(a.natAbs:Int)<=A):∀ n:Nat,((a^n).natAbs:Int)<=A^n
 | 0=>by simp
 | n+1=>by rw[A2,A2];exact Di (LK ha n) ha
theorem P1(c:Nat->Int)(R:Int)(hR:0<=R):∀ T:Nat,∃ K:Int,0<=K/\∀ q x:Int,0<q->(x.natAbs:Int)<=R*q->((hs c x q T).natAbs:Int)<=K*q^T
 | 0=>⟨((c 0).natAbs:Int),by omega,fun q x _ _=>by simp[hs]⟩
 | T+1=>by
  obtain⟨K,hK,h⟩:=P1 c R hR T;refine⟨K+((c (T+1)).natAbs:Int)*R^(T+1),?_,fun q x hq hx => ?_⟩
  ·have:=A6 (show (0:Int)<=((c (T+1)).natAbs:Int) by omega) (NM (m:=T+1) hR);omega
  ·simp only[hs];have h1:=Di (a:=q) (A:=q) (by omega) (h q x hq hx);have h2:=Di (a:=c (T+1)) (A:=((c (T+1)).natAbs:Int)) (by omega) (LK hx (T+1));have h3:=Is h1 h2;have e:(R*q)^(T+1)=R^(T+1)*q^(T+1):=Q' ..;rw[e] at h3;refine Eo h3 (HZ ?_);rw[A2 q T];grind
theorem Zh{x A:Int}(hx:(x.natAbs:Int)<=A)(hx1:((x+1).natAbs:Int)<=A):∀ n:Nat,(((x+1)^(n+1)-x^(n+1)).natAbs:Int)<=((n+1:Nat):Int)*A^n
 | 0=>by
  have e:(x+1)^(0+1)-x^(0+1)=1:=by rw[A2,Da,A2,Da];omega
  rw[e];simp
 | n+1=>by
  have ih:=Zh hx hx1 n;have e:(x+1)^(n+1+1)-x^(n+1+1)=(x+1)*((x+1)^(n+1)-x^(n+1))+x^(n+1):=by rw[A2 (x+1) (n+1),A2 x (n+1)];grind
  rw[e];have h:=Is (Di hx1 ih) (LK hx (n+1));refine Eo h (HZ ?_);rw[A2 A n,Ky,Ky,Ky];grind
theorem uY(c:Nat->Int)(R:Int)(hR:0<=R):∀ T:Nat,∃ K:Int,0<=K/\∀ q x:Int,0<q->(x.natAbs:Int)<=R*q->((x+1).natAbs:Int)<=R*q->((hs c (x+1) q (T+1)-hs c x q (T+1)).natAbs:Int)<=K*q^T
 | 0=>⟨((c 1).natAbs:Int),by omega,fun q x _ _ _=>by
   simp only[hs];have:q*c 0+c (0+1)*(x+1)^(0+1)-(q*c 0+c (0+1)*x^(0+1))=c 1:=by simp;grind
   rw[this];simp⟩
 | T+1=>by
  obtain⟨K,hK,h⟩:=uY c R hR T;refine⟨K+((c (T+2)).natAbs:Int)*(((T+1+1:Nat):Int)*R^(T+1)),?_,fun q x hq hx hx1 => ?_⟩
  ·have:=A6 (show (0:Int)<=((c (T+2)).natAbs:Int) by omega) (A6 (show (0:Int)<=((T+1+1:Nat):Int) by omega) (NM (m:=T+1) hR));omega
  ·have e:hs c (x+1) q (T+1+1)-hs c x q (T+1+1)=q*(hs c (x+1) q (T+1)-hs c x q (T+1))+c (T+2)*((x+1)^(T+1+1)-x^(T+1+1)):=by
    show (q*hs c (x+1) q (T+1)+c (T+1+1)*(x+1)^(T+1+1))-(q*hs c x q (T+1)+c (T+1+1)*x^(T+1+1))=_;grind
   rw[e];have h1:=Di (a:=q) (A:=q) (by omega) (h q x hq hx hx1);have h2:=Di (a:=c (T+2)) (A:=((c (T+2)).natAbs:Int)) (by omega) (Zh hx hx1 (T+1));have h3:=Is h1 h2;have e2:(R*q)^(T+1)=R^(T+1)*q^(T+1):=Q' ..;rw[e2] at h3;refine Eo h3 (HZ ?_);rw[A2 q T];grind
theorem iX{x A:Int}(hA:0<=A)(hx:(x.natAbs:Int)<=A)(hx1:((x+1).natAbs:Int)<=A):∀ n:Nat,(((x+1)^(n+2)-x^(n+2)-((n+2:Nat):Int)*x^(n+1)).natAbs:Int)<=(((n+1)*(n+2):Nat):Int)*A^n
 | 0=>by
  have e:(x+1)^(0+2)-x^(0+2)-((0+2:Nat):Int)*x^(0+1)=1:=by
   rw[show (x+1)^(0+2)=(x+1)*(x+1) by rw[A2,A2,Da,Dt],show x^(0+2)=x*x by rw[A2,A2,Da,Dt],show x^(0+1)=x by rw[A2,Da,Dt]];grind
  rw[e];simp
 | n+1=>by
  have ih:=iX hA hx hx1 n;have e:(x+1)^(n+1+2)-x^(n+1+2)-((n+1+2:Nat):Int)*x^(n+1+1)=(x+1)*((x+1)^(n+2)-x^(n+2)-((n+2:Nat):Int)*x^(n+1))+((n+2:Nat):Int)*x^(n+1):=by
   rw[show n+1+2=n+2+1 by omega,A2 (x+1) (n+2),A2 x (n+2),show n+1+1=n+2 by omega,show x^(n+2)=x^(n+1)*x from A2 ..];have:((n+2+1:Nat):Int)=((n+2:Nat):Int)+1:=by omega
   rw[this];grind
  rw[e];have h:=Is (Di hx1 ih) (Di (a:=((n+2:Nat):Int)) (A:=((n+2:Nat):Int)) (by omega) (LK hx (n+1)));refine Eo h ?_;rw[show A^(n+1)=A^n*A from A2 ..];have hAn:0<=A^n*A:=A6 (NM hA) hA;have e2:A*((((n+1)*(n+2):Nat):Int)*A^n)+((n+2:Nat):Int)*(A^n*A)=((((n+1)*(n+2)+(n+2):Nat)):Int)*(A^n*A):=by
   rw[Ky];grind
  rw[e2];apply Ae _ hAn;have:(n+1)*(n+2)+(n+2)<=(n+1+1)*(n+1+2):=by
   have:(n+1)*(n+2)+(n+2)=(n+2)*(n+2):=by rw[<- Ll]
   rw[this];exact B2 (by omega) (by omega)
  omega
def TZ(c:Nat->Int)(i:Nat):Int:=((i+1:Nat):Int)*c (i+1)
theorem uZ(c:Nat->Int)(R:Int)(hR:0<=R):∀ T:Nat,∃ K:Int,0<=K/\∀ q x:Int,0<q->(x.natAbs:Int)<=R*q->((x+1).natAbs:Int)<=R*q ->
  ((hs c (x+1) q (T+2)-hs c x q (T+2)-hs (TZ c) x q (T+1)).natAbs:Int)<=K*q^T
 | 0=>⟨((c 2).natAbs:Int),by omega,fun q x _ _ _=>by
   have e:hs c (x+1) q (0+2)-hs c x q (0+2)-hs (TZ c) x q (0+1)=c 2:=by
    have p1:∀ y:Int,y^(0+1)=y:=fun y=>by rw[A2,Da,Dt]
    have p2:∀ y:Int,y^(0+1+1)=y*y:=fun y=>by rw[A2,p1]
    show (q*(q*c 0+c (0+1)*(x+1)^(0+1))+c (0+1+1)*(x+1)^(0+1+1))-(q*(q*c 0+c (0+1)*x^(0+1))+c (0+1+1)*x^(0+1+1))-(q*(((0+1:Nat):Int)*c (0+1))+((0+1+1:Nat):Int)*c (0+1+1)*x^(0+1))=_;rw[p1,p1,p2,p2];have h1:((0+1:Nat):Int)=1:=rfl;have h2:((0+1+1:Nat):Int)=2:=rfl;rw[h1,h2];grind
   rw[e];simp⟩
 | T+1=>by
  obtain⟨K,hK,h⟩:=uZ c R hR T;refine⟨K+((c (T+3)).natAbs:Int)*((((T+2)*(T+3):Nat):Int)*R^(T+1)),?_,fun q x hq hx hx1 => ?_⟩
  ·have:=A6 (show (0:Int)<=((c (T+3)).natAbs:Int) by omega) (A6 (show (0:Int)<=(((T+2)*(T+3):Nat):Int) by omega) (NM (m:=T+1) hR));omega
  ·have e:hs c (x+1) q (T+1+2)-hs c x q (T+1+2)-hs (TZ c) x q (T+1+1)=q*(hs c (x+1) q (T+2)-hs c x q (T+2)-hs (TZ c) x q (T+1))+c (T+3)*((x+1)^(T+1+2)-x^(T+1+2)-((T+1+2:Nat):Int)*x^(T+1+1)):=by
    show (q*hs c (x+1) q (T+2)+c (T+3)*(x+1)^(T+1+2))-(q*hs c x q (T+2)+c (T+3)*x^(T+1+2))-(q*hs (TZ c) x q (T+1)+((T+1+1+1:Nat):Int)*c (T+3)*x^(T+1+1))=_;have:((T+1+1+1:Nat):Int)=((T+1+2:Nat):Int):=rfl;rw[this];grind
   rw[e];have hRq:0<=R*q:=A6 hR (by omega);have h1:=Di (a:=q) (A:=q) (by omega) (h q x hq hx hx1);have h2:=Di (a:=c (T+3)) (A:=((c (T+3)).natAbs:Int)) (by omega) (iX hRq hx hx1 (T+1));have h3:=Is h1 h2;have e2:(R*q)^(T+1)=R^(T+1)*q^(T+1):=Q' ..;rw[e2] at h3;refine Eo h3 (HZ ?_);rw[A2 q T];grind
def wv(last:Int):LI->Int
 | []=>0
 | s::ss=>if s=0 then wv last ss else (if last ≠ 0/\s ≠ last then 1 else 0)+wv s ss
inductive Mid:Int->List Int->List Int->Prop
 | nil (σ:Int):Mid σ [] []
 | st (σ s:Int) {ss tt:List Int}:(s=1\/s = -1)->Mid s ss tt->Mid σ (s::ss) (s::tt)
 | un (σ a b:Int) {ss tt:List Int}:(-1<=a/\a<=1)->(-1<=b/\b<=1)->Mid (-σ) ss tt->Mid σ (a :: -σ::ss) (b :: -σ::tt)
theorem iY{σ a:Int}(hσ:σ=1\/σ = -1)(ha : -1<=a/\a<=1)(ss:LI):wv σ (a :: -σ::ss)=1+wv (-σ) ss:=by
 simp only[wv];rcases hσ with rfl | rfl
 ·rcases show a = -1\/a=0\/a=1 by omega with rfl | rfl | rfl <;> simp
 ·rcases show a = -1\/a=0\/a=1 by omega with rfl | rfl | rfl <;> simp
theorem vA{σ:Int}{s t:LI}(h:Mid σ s t):(σ=1\/σ = -1)->wv σ s=wv σ t:=by
 induction h with
 | nil σ=>intro _;rfl
 | st σ s hs _ ih =>
  intro _;have h0:s ≠ 0:=by omega
  simp only[wv,if_neg h0];rw[ih hs]
 | un σ a b ha hb _ ih =>
  intro hσ;rw[iY hσ ha,iY hσ hb,ih (by omega)]
inductive Top:List Int->List Int->Int->Prop
 | st (s:Int) {ss tt:List Int}:(s=1\/s = -1)->Mid s ss tt->Top (s::ss) (s::tt) 0
 | un (σ a b:Int) {ss tt:List Int}:(σ=1\/σ = -1)->(a = -σ\/a=0)->(b=0\/b=σ)->Mid σ ss tt->Top (a::σ::ss) (b::σ::tt) (if a=0 then 0 else 1)
theorem aR{s t:LI}{d:Int}(h:Top s t d):wv 0 s=wv 0 t+d:=by
 cases h with
 | st s hs hm =>
  have h0:s ≠ 0:=by omega
  simp only[wv,if_neg h0];rw[vA hm hs];omega
 | un σ a b hσ ha hb hm =>
  have e:=vA hm hσ;simp only[wv];rcases hσ with rfl | rfl
  ·rcases ha with rfl | rfl <;> rcases hb with rfl | rfl <;> simp <;> omega
  ·rcases ha with rfl | rfl <;> rcases hb with rfl | rfl <;> simp <;> omega
theorem iZ(p:LI)(x:Int):Aa p x=(AQ p:Int)*Aa (prim p) x:=by
 rw[<- Az];exact Gu (fun i=>by rw[AK,Pq]) x
theorem Hn(k:Nat)(p:LI):(Dn k p).length=k+p.length:=by
 unfold Dn;simp
theorem rZ{r d:LI}(hd:BZ d)(hd0:d ≠ [])(hl:d.length<=r.length):∃ (c c':Int) (Q:LI),0<c/\0<c'/\∀ x,c*Aa r x=Aa Q x*Aa d x+c'*Aa (DH r d) x:=by
 have ht:X d ≠ 0:=E1 hd hd0;have he:=QK hl ((X d).natAbs:Int) (sg (X d)*X r);have hp:∀ x,Aa (CD r d ((X d).natAbs:Int) (sg (X d)*X r) r.length) x=(AQ (CD r d ((X d).natAbs:Int) (sg (X d)*X r) r.length):Int)*Aa (DH r d) x:=fun x=>iZ _ x;by_cases h0:AQ (CD r d ((X d).natAbs:Int) (sg (X d)*X r) r.length)=0
 ·have hz:DH r d=[]:=DG.2 (Ja.1 h0);refine⟨((X d).natAbs:Int),1,Dn (r.length-d.length) [sg (X d)*X r],by omega,by decide,fun x => ?_⟩;have h1:=he x;have h2:=hp x;rw[h0] at h2;rw[Ds,hz];simp only[Aa];have h3:(((0:Nat):Int))*Aa (DH r d) x=0:=by simp
  rw[h3] at h2;rw[h2] at h1;grind
 ·refine⟨((X d).natAbs:Int),(AQ (CD r d ((X d).natAbs:Int) (sg (X d)*X r) r.length):Int),Dn (r.length-d.length) [sg (X d)*X r],by omega,by omega,fun x => ?_⟩;have h1:=he x;have h2:=hp x;rw[Ds];simp only[Aa];rw[<- h2,h1];grind
theorem WW{d:LI}(hd:BZ d)(hd0:d ≠ []):∀ (f:Nat) (r:LI),∃ (c c':Int) (Q:LI),0<c/\0<c'/\∀ x,c*Aa r x=Aa Q x*Aa d x+c'*Aa (Ed f r d) x
 | 0,r=>⟨1,1,[],by decide,by decide,fun x=>by simp[Aa,Ed]⟩
 | f+1,r=>by
  simp only[Ed];split
  ·rename_i hl;obtain⟨c,c',Q,h1,h2,h3⟩:=rZ hd hd0 hl;obtain⟨e,e',S,g1,g2,g3⟩:=WW hd hd0 f (DH r d);refine⟨e*c,c'*e',DB (A0 e Q) (A0 c' S),Be g1 h1,Be h2 g2,fun x => ?_⟩;have a:=h3 x;have b:=g3 x;rw[BU,Az,Az,AF e c,a,CT,AA e (c'*_),AF c',AA _ e,b];grind
  ·exact⟨1,1,[],by decide,by decide,fun x=>by simp[Aa]⟩
theorem WX{a b:LI}(hb:BZ b)(hb0:b ≠ []):∃ (c c':Int) (Q:LI),0<c/\0<c'/\∀ x,c*Aa a x=Aa Q x*Aa b x+(-c')*Aa (Ci (BB a b)) x:=by
 obtain⟨c,c',Q,h1,h2,h3⟩:=WW hb hb0 a.length a;refine⟨c,c',Q,h1,h2,fun x => ?_⟩;rw[h3 x,J8];unfold BB;grind
theorem QP{a b:LI}(hb:BZ b)(hb0:b ≠ [])(h:Fk [1] a b):Fk [1] b (Ci (BB a b)):=by
 obtain⟨c,c',Q,h1,h2,h3⟩:=WX (a:=a) hb hb0;have h4:Fk [1] (Ci (BB a b)) b:=Fk.step (r:=Ci (BB a b)) (d:=b) (e:=a) (q:=Q) (a:=c') (m := -c) (by omega) (by omega) (fun x=>by
  have:=h3 x;grind) h.comm
 exact h4.comm
def t(p:LI)(x q:Int):Int:=hp p x q (p.length-1)
def Kz(p:LI)(x q:Int):Prop:=(0<t p x q/\0<t p (x+1) q)\/(t p x q<0/\t p (x+1) q<0)
def WY(R q x:Int):Prop:=0<q/\(x.natAbs:Int)<=R*q/\((x+1).natAbs:Int)<=R*q
theorem GE{q:Int}(h:0<q)(n:Nat):0<q^n:=EQ h
theorem small(p:LI)(R:Int)(hR:0<=R):∃ K:Int,0<=K/\∀ q x:Int,WY R q x->¬ Kz p x q->((t p x q).natAbs:Int)*q<=K*q^(p.length-1)/\((t p (x+1) q).natAbs:Int)*q<=K*q^(p.length-1):=by
 cases hn:p.length-1 with
 | zero =>
  refine⟨0,C' _,fun q x _ hst => ?_⟩;have e:∀ y,t p y q=p.getD 0 0:=fun y=>by unfold t hp;rw[hn];rfl
  unfold Kz at hst;rw[e,e] at hst |-;have:p.getD 0 0=0:=by omega
  rw[this];simp
 | succ T =>
  obtain⟨K,hK,h⟩:=uY (fun i=>p.getD i 0) R hR T;refine⟨K,hK,fun q x hr hst => ?_⟩;have h1:=h q x hr.1 hr.2.1 hr.2.2;have e:∀ y,t p y q=hs (fun i=>p.getD i 0) y q (T+1):=fun y=>by unfold t hp;rw[hn]
  unfold Kz at hst;rw[e,e] at hst;rw[e,e];generalize hs (fun i=>p.getD i 0) x q (T+1)=a at *
  generalize hs (fun i=>p.getD i 0) (x+1) q (T+1)=b at *
  have ha:(a.natAbs:Int)<=((b-a).natAbs:Int):=by omega
  have hb:(b.natAbs:Int)<=((b-a).natAbs:Int):=by omega
  have hq:=hr.1;rw[A2,<- AF];exact⟨Ae (Eo ha h1) (by omega),Ae (Eo hb h1) (by omega)⟩
theorem A4i(x q:Int)(T:Nat):hp [1] x q T=q^T:=by
 have:=RR (p:=[1]) (T:=0) (by simp) x q T;rw[Cs] at this;rw[this];show q^T*1=_;omega
theorem S_{f g:LI}(R:Int)(hR:0<=R)(h:Fk [1] f g):∃ L Q0:Int,0<L/\0<Q0/\∀ q x:Int,WY R q x->Q0<=q->¬ Kz f x q->q^(g.length-1)<=L*((t g x q).natAbs:Int):=by
 obtain⟨_,_,c,u,v,hc,hid⟩:=h;obtain⟨K,hK,hsm⟩:=small f R hR;obtain⟨Ku,hKu,hu⟩:=P1 (fun i=>u.getD i 0) R hR (max u.length v.length+(g.length-1));obtain⟨Kv,hKv,hv⟩:=P1 (fun i=>v.getD i 0) R hR (max u.length v.length+(f.length-1));refine⟨2*Kv+1,2*(Ku*K)+1,by omega,by have:=A6 hKu hK;omega,fun q x hr hq hst => ?_⟩;obtain⟨hq0,hx,hx1⟩:=hr;have h1:=(hsm q x ⟨hq0,hx,hx1⟩ hst).1;have h2:=hu q x hq0 hx;have h3:=hv q x hq0 hx;have e1:=Axg (r:=[1]) (d:=f) (e:=BC v g) (Q:=u) (c:=c) (c':=1) (fun y=>by rw[AX,hid y];omega) x q (tq:=max u.length v.length+(g.length-1)) (td:=f.length-1) (by omega) (by omega);have e2:=UA (r:=g) (tr:=g.length-1) (by omega) x q v (max u.length v.length+(f.length-1)) (by omega);have eT:max u.length v.length+(f.length-1)+(g.length-1)=max u.length v.length+(g.length-1)+(f.length-1):=by omega
 rw[eT] at e2;rw[e2,A4i,Dt] at e1;change c*q^(max u.length v.length+(g.length-1)+(f.length-1))=hs (fun i=>u.getD i 0) x q (max u.length v.length+(g.length-1))*t f x q+hs (fun i=>v.getD i 0) x q (max u.length v.length+(f.length-1))*t g x q at e1;have ep:q^(max u.length v.length+(g.length-1)+(f.length-1))=q^(max u.length v.length+(f.length-1))*q^(g.length-1):=by rw[<- BG,<- eT]
 have ep2:q^(max u.length v.length+(g.length-1))*q^(f.length-1)=q^(max u.length v.length+(f.length-1))*q^(g.length-1):=by rw[<- BG,<- ep]
 have pa:=GE hq0 (max u.length v.length+(f.length-1));have pb:=GE hq0 (max u.length v.length+(g.length-1));have pm:=GE hq0 (g.length-1);have pn:=GE hq0 (f.length-1);rw[ep] at e1;generalize hs (fun i=>u.getD i 0) x q (max u.length v.length+(g.length-1))=U at *
 generalize hs (fun i=>v.getD i 0) x q (max u.length v.length+(f.length-1))=V at *
 generalize q^(max u.length v.length+(f.length-1))=A at *
 generalize q^(max u.length v.length+(g.length-1))=B at *
 generalize q^(g.length-1)=M at *
 generalize q^(f.length-1)=N at *
 generalize t f x q=F at *
 generalize t g x q=G at *
 have n1:((c*(A*M)).natAbs:Int)<=(U.natAbs:Int)*(F.natAbs:Int)+(V.natAbs:Int)*(G.natAbs:Int):=by
  rw[e1];exact Is (Di (C' _) (C' _)) (Di (C' _) (C' _))
 have n2:A*M<=((c*(A*M)).natAbs:Int):=by
  rw[BT,Dj];have hAM:=Be pa pm;have:((A*M).natAbs:Int)=A*M:=Lk (by omega);rw[this];have:=Ae (show (1:Int)<=(c.natAbs:Int) by omega) (show 0<=A*M by omega);omega
 have n3:(U.natAbs:Int)*(F.natAbs:Int)*q<=A*(Ku*K*M):=by
  have h5:(U.natAbs:Int)*((F.natAbs:Int)*q)<=Ku*B*(K*N):=Eb h2 h1 (A6 (by omega) (by omega)) (A6 hKu (by omega));have e5:Ku*B*(K*N)=A*(Ku*K*M):=by
   have:Ku*B*(K*N)=Ku*K*(B*N):=by grind
   rw[this,ep2];grind
  rw[AF];omega
 have n4:(V.natAbs:Int)*(G.natAbs:Int)*q<=A*(Kv*((G.natAbs:Int)*q)):=by
  have h5:=Ae h3 (A6 (show (0:Int)<=(G.natAbs:Int) by omega) (show 0<=q by omega));rw[AF];refine Eo h5 (HZ ?_);grind
 have n5:A*(M*q)<=A*(Ku*K*M+Kv*((G.natAbs:Int)*q)):=by
  have h6:=Ae (Eo n2 n1) (show 0<=q by omega);rw[G4] at h6;rw[CT];have:A*M*q=A*(M*q):=AF ..;omega
 have n6:=ET n5 pa;have n7:2*(Ku*K*M)<=M*q:=by
  have h7:=Aj (show 2*(Ku*K)<=q by omega) (show 0<=M by omega);have:M*(2*(Ku*K))=2*(Ku*K*M):=by grind
  omega
 have n8:M*q<=2*Kv*(G.natAbs:Int)*q:=by
  have:2*Kv*(G.natAbs:Int)*q=2*(Kv*((G.natAbs:Int)*q)):=by grind
  omega
 have n9:M<=2*Kv*(G.natAbs:Int):=CM n8 hq0;have:(2*Kv+1)*(G.natAbs:Int)=2*Kv*(G.natAbs:Int)+(G.natAbs:Int):=by rw[G4,Dt]
 omega
theorem Axh(g:LI)(R L:Int)(hR:0<=R)(hL:0<L):∃ Q0:Int,0<Q0/\∀ q x:Int,WY R q x->Q0<=q->q^(g.length-1)<=L*((t g x q).natAbs:Int)->Kz g x q:=by
 obtain⟨K,hK,hsm⟩:=small g R hR;refine⟨L*K+1,by have:=A6 (show 0<=L by omega) hK;omega,fun q x hr hq hf => ?_⟩;apply A4;intro hst;have h1:=(hsm q x hr hst).1;have hq0:=hr.1;have pm:=GE hq0 (g.length-1);generalize q^(g.length-1)=M at *
 generalize ((t g x q).natAbs:Int)=G at *
 have h2:=Ae hf (show 0<=q by omega);have h3:=Aj h1 (show 0<=L by omega);have e1:L*(G*q)=L*G*q:=by grind
 have e2:L*(K*M)=M*(L*K):=by grind
 have h4:M*q<=M*(L*K):=by omega
 have h5:=ET h4 pm;omega
theorem P2{f g:LI}(R:Int)(hR:0<=R)(h:Fk [1] f g):∃ L Q0:Int,0<L/\0<Q0/\∀ q x:Int,WY R q x->Q0<=q->¬ Kz f x q->Kz g x q/\q^(g.length-1)<=L*((t g x q).natAbs:Int):=by
 obtain⟨L,Q1,hL,hQ1,h1⟩:=S_ R hR h;obtain⟨Q2,hQ2,h2⟩:=Axh g R L hR hL;refine⟨L,Q1+Q2,hL,by omega,fun q x hr hq hst => ?_⟩;have h3:=h1 q x hr (by omega) hst;exact⟨h2 q x hr (by omega) h3,h3⟩
theorem Agp{a b e Q:LI}{c c':Int}(R:Int)(hR:0<=R)(hc:0<c)(hc':0<c')(hid:∀ x,c*Aa a x=Aa Q x*Aa b x+(-c')*Aa e x)(h:Fk [1] b e) :
  ∃ Q0:Int,0<Q0/\∀ q x:Int,WY R q x->Q0<=q->¬ Kz b x q->(0<t e x q->t a x q<0)/\(t e x q<0->0<t a x q):=by
 obtain⟨K,hK,hsm⟩:=small b R hR;obtain⟨L,Q1,hL,hQ1,hf⟩:=S_ R hR h;obtain⟨KQ,hKQ,hq⟩:=P1 (fun i=>Q.getD i 0) R hR (Q.length+a.length+e.length);have hLK:=A6 (show 0<=L by omega) (A6 hKQ hK);refine⟨Q1+L*(KQ*K)+1,by omega,fun q x hr hqq hst => ?_⟩;have h1:=(hsm q x hr hst).1;have h2:=hf q x hr (by omega) hst;have hq0:=hr.1;have h3:=hq q x hq0 hr.2.1;have e1:=Axg hid x q (tq:=Q.length+a.length+e.length) (td:=b.length-1) (by omega) (by omega);have ea:=RR (p:=a) (T:=a.length-1) (by omega) x q (Q.length+a.length+e.length+(b.length-1)-(a.length-1));have ee:=RR (p:=e) (T:=e.length-1) (by omega) x q (Q.length+a.length+e.length+(b.length-1)-(e.length-1));rw[show a.length-1+(Q.length+a.length+e.length+(b.length-1)-(a.length-1))=Q.length+a.length+e.length+(b.length-1) by omega] at ea;rw[show e.length-1+(Q.length+a.length+e.length+(b.length-1)-(e.length-1))=Q.length+a.length+e.length+(b.length-1) by omega] at ee;rw[ea,ee] at e1;change c*(q^_*t a x q)=hs (fun i=>Q.getD i 0) x q (Q.length+a.length+e.length)*t b x q+(-c')*(q^_*t e x q) at e1;have pA:=GE hq0 (Q.length+a.length+e.length+(b.length-1)-(a.length-1));have pE:=GE hq0 (Q.length+a.length+e.length+(b.length-1)-(e.length-1));have pT:=GE hq0 (Q.length+a.length+e.length);have pB:=GE hq0 (b.length-1);have eP:q^(Q.length+a.length+e.length+(b.length-1)-(e.length-1))*q^(e.length-1)=q^(Q.length+a.length+e.length)*q^(b.length-1):=by
  rw[<- BG,<- BG];congr 1;omega
 generalize q^(Q.length+a.length+e.length+(b.length-1)-(a.length-1))=A at *
 generalize q^(Q.length+a.length+e.length+(b.length-1)-(e.length-1))=E at *
 generalize q^(Q.length+a.length+e.length)=T at *
 generalize q^(b.length-1)=B at *
 generalize q^(e.length-1)=M at *
 generalize hs (fun i=>Q.getD i 0) x q (Q.length+a.length+e.length)=U at *
 generalize t a x q=Ha at *
 generalize t b x q=Hb at *
 generalize t e x q=He at *
 have pP:=Be pT pB;have n1:((U*Hb).natAbs:Int)*q<=KQ*K*(T*B):=by
  have h5:(U.natAbs:Int)*((Hb.natAbs:Int)*q)<=KQ*T*(K*B):=Eb h3 h1 (A6 (by omega) (by omega)) (A6 hKQ (by omega));have e5:((U*Hb).natAbs:Int)*q=(U.natAbs:Int)*((Hb.natAbs:Int)*q):=by rw[BT,Dj];grind
  have e6:KQ*T*(K*B)=KQ*K*(T*B):=by grind
  omega
 have n2:T*B<=L*(E*(He.natAbs:Int)):=by
  have h6:=Aj h2 (show 0<=E by omega);have e7:E*(L*(He.natAbs:Int))=L*(E*(He.natAbs:Int)):=by grind
  omega
 have n3:((U*Hb).natAbs:Int)<E*(He.natAbs:Int):=by
  apply GN.1;intro hle;have h7:=Ae (Aj hle (show 0<=L by omega)) (show 0<=q by omega);have h8:=Ae n2 (show 0<=q by omega);have h9:=Aj n1 (show 0<=L by omega);have e8:L*((U*Hb).natAbs:Int)*q=L*(((U*Hb).natAbs:Int)*q):=AF ..;have e9:L*(KQ*K*(T*B))=T*B*(L*(KQ*K)):=by grind
  have h10:T*B*q<=T*B*(L*(KQ*K)):=by omega
  have h11:=ET h10 pP;omega
 have n4:E*(He.natAbs:Int)<=c'*(E*(He.natAbs:Int)):=by
  have:=Ae (show (1:Int)<=c' by omega) (A6 (show 0<=E by omega) (show (0:Int)<=(He.natAbs:Int) by omega));omega
 generalize U*Hb=W at *
 refine⟨fun hp => ?_,fun hn => ?_⟩
 ·have e10:(He.natAbs:Int)=He:=by omega
  rw[e10] at n3 n4;apply GN.1;intro hge;have h12:=A6 (show 0<=c by omega) (A6 (show 0<=A by omega) hge);rw[e1,NL] at h12;omega
 ·have e10:(He.natAbs:Int) = -He:=by omega
  rw[e10,E5] at n3;rw[e10,E5,E5] at n4;apply GN.1;intro hle;have h12:=A6 (show 0<=c by omega) (A6 (show 0<=A by omega) (show 0 <= -Ha by omega));rw[E5,E5,e1,NL] at h12;omega
theorem jA(f:LI)(x q:Int)(m:Nat):hs (TZ fun i=>f.getD i 0) x q m=(AQ (As f):Int)*hs (fun i=>(prim (As f)).getD i 0) x q m:=by
 have h:=LJ (AQ (As f):Int) 0 (fun i=>(prim (As f)).getD i 0) (fun i=>(prim (As f)).getD i 0) x q m;rw[CX,BE] at h;rw[<- h];apply Nz;intro i _;have h1:=Pq (As f) i;have h2:=Dm f i;unfold TZ;rw[h1,h2];grind
theorem T_{f:LI}(R:Int)(hR:0<=R)(hl:2<=f.length)(hl1:(prim (As f)).length=f.length-1)(h:Fk [1] f (prim (As f)))(hc:0<AQ (As f)) :
  ∃ Q0:Int,0<Q0/\∀ q x:Int,WY R q x->Q0<=q->¬ Kz f x q->(0<t (prim (As f)) x q->t f x q<t f (x+1) q)/\(t (prim (As f)) x q<0->t f (x+1) q<t f x q):=by
 obtain⟨L,Q1,hL,hQ1,hf⟩:=S_ R hR h;cases hm:f.length-2 with
 | zero =>
  refine⟨Q1,hQ1,fun q x hr hq hst => ?_⟩;have hd:=jA f x q 0;have e1:∀ y,t f y q=hs (fun i=>f.getD i 0) y q 1:=fun y=>by unfold t hp;rw[show f.length-1=1 by omega]
  have e2:t (prim (As f)) x q=hs (fun i=>(prim (As f)).getD i 0) x q 0:=by unfold t hp;rw[hl1,show f.length-1-1=0 by omega]
  have e3:hs (fun i=>f.getD i 0) (x+1) q 1-hs (fun i=>f.getD i 0) x q 1=hs (TZ fun i=>f.getD i 0) x q 0:=by
   show (q*f.getD 0 0+f.getD (0+1) 0*(x+1)^(0+1))-(q*f.getD 0 0+f.getD (0+1) 0*x^(0+1))=((0+1:Nat):Int)*f.getD (0+1) 0;have p1:∀ y:Int,y^(0+1)=y:=fun y=>by rw[A2,Da,Dt]
   rw[p1,p1];have h1:((0+1:Nat):Int)=1:=rfl;rw[h1];grind
  rw[e1,e1,e2];rw[hd] at e3;generalize hs (fun i=>(prim (As f)).getD i 0) x q 0=D at *
  refine⟨fun hp => ?_,fun hn => ?_⟩
  ·have:=Be (show (0:Int)<(AQ (As f):Int) by omega) hp;omega
  ·have:=Be (show (0:Int)<(AQ (As f):Int) by omega) (show 0 < -D by omega);rw[E5] at this;omega
 | succ T =>
  obtain⟨K,hK,hder⟩:=uZ (fun i=>f.getD i 0) R hR T;have hLK:=A6 (show 0<=L by omega) hK;refine⟨Q1+L*K+1,by omega,fun q x hr hq hst => ?_⟩;have hq0:=hr.1;have h2:=hf q x hr (by omega) hst;have h3:=hder q x hq0 hr.2.1 hr.2.2;have hd:=jA f x q (T+1);have e1:∀ y,t f y q=hs (fun i=>f.getD i 0) y q (T+2):=fun y=>by unfold t hp;rw[show f.length-1=T+2 by omega]
  have e2:t (prim (As f)) x q=hs (fun i=>(prim (As f)).getD i 0) x q (T+1):=by unfold t hp;rw[hl1,show f.length-1-1=T+1 by omega]
  rw[hl1,show f.length-1-1=T+1 by omega,A2,e2] at h2;rw[e1,e1,e2];rw[hd] at h3;have pT:=GE hq0 T;generalize q^T=M at *
  generalize hs (fun i=>f.getD i 0) (x+1) q (T+2)=b at *
  generalize hs (fun i=>f.getD i 0) x q (T+2)=a at *
  generalize hs (fun i=>(prim (As f)).getD i 0) x q (T+1)=D at *
  have n1:K*M<(D.natAbs:Int):=by
   apply GN.1;intro hle;have h5:=Aj hle (show 0<=L by omega);have e5:L*(K*M)=M*(L*K):=by grind
   have h6:M*q<=M*(L*K):=by omega
   have:=ET h6 pT;omega
  have n2:=Ae (show (1:Int)<=(AQ (As f):Int) by omega) (show (0:Int)<=(D.natAbs:Int) by omega);refine⟨fun hp => ?_,fun hn => ?_⟩
  ·have e6:(D.natAbs:Int)=D:=by omega
   rw[e6] at n1 n2;omega
  ·have e6:(D.natAbs:Int) = -D:=by omega
   rw[e6,Dt,E5] at n2;omega
def CG(n:Int):Int:=if n<0 then -1 else if 0<n then 1 else 0
theorem aS(n:Int) : -1<=CG n/\CG n<=1:=by unfold CG; (repeat' split) <;> omega
def H2:Nat->LI->LI->List (LI)
 | 0,_,_=>[]
 | f+1,a,b=>if b=[] then [] else b::H2 f b (Ci (BB a b))
def DI(l:List (LI))(x q:Int):LI:=l.map fun p=>CG (t p x q)
theorem KZ{p:LI}{x q:Int}(h:Kz p x q):CG (t p (x+1) q)=CG (t p x q)/\(CG (t p x q)=1\/CG (t p x q) = -1):=by
 unfold Kz at h;unfold CG;rcases h with ⟨h1,h2⟩ | ⟨h1,h2⟩
 ·rw[if_neg (by omega),if_pos h2,if_neg (by omega),if_pos h1];exact⟨rfl,.inl rfl⟩
 ·rw[if_pos h2,if_pos h1];exact⟨rfl,.inr rfl⟩
theorem A4j(x q:Int):t [] x q=0:=U9 x q _
theorem OP{a b:LI}(ha:BZ a):BZ (BB a b):=by
 unfold BB;generalize a.length=f;induction f generalizing a with
 | zero=>exact ha
 | succ f ih =>
  simp only[Ed];split
  ·exact ih (TQ a b)
  ·exact ha
theorem Agq{d:LI}(hd0:d ≠ []):∀ (f:Nat) (r:LI),r.length<=f->(Ed f r d).length<d.length:=by
 have hdl:=Am.2 hd0;intro f;induction f with
 | zero=>intro r h;simp only[Ed];omega
 | succ f ih =>
  intro r h;simp only[Ed];split
  ·rename_i hl;have:=Jt hd0 hl;exact ih _ (by omega)
  ·omega
theorem Ta{a b:LI}(hb0:b ≠ []):(BB a b).length<b.length:=Agq hb0 _ _ (Ap _)
theorem jB(R:Int)(hR:0<=R):∀ (n f:Nat),f<=n->∀ (a b:LI),b.length<=f->BZ a->BZ b->Fk [1] a b ->
  ∃ Q0:Int,0<Q0/\∀ q x:Int,WY R q x->Q0<=q->Kz a x q->Mid (CG (t a x q)) (DI (H2 f a b) x q) (DI (H2 f a b) (x+1) q):=by
 intro n;induction n with
 | zero =>
  intro f hf a b hb _ _ _;have:f=0:=by omega
  subst this;exact⟨1,by decide,fun q x _ _ _=>Mid.nil _⟩
 | succ n ih =>
  intro f hf a b hb ha lb h;by_cases hb0:b=[]
  ·have e:H2 f a b=[]:=by
    cases f with
    | zero=>rfl
    | succ f=>simp only[H2];rw[if_pos hb0]
   rw[e];exact⟨1,by decide,fun q x _ _ _=>Mid.nil _⟩
  ·have hbl:=Am.2 hb0;obtain⟨f,rfl⟩:∃ k,f=k+1:=⟨f-1,by omega⟩;have hpl:=Ta (a:=a) hb0;have he:=QP lb hb0 h;have le:BZ (Ci (BB a b)):=Ie (OP ha);obtain⟨Q1,hQ1,h1⟩:=ih f (by omega) b (Ci (BB a b)) (by rw[DR];omega) lb le he;obtain⟨L,Q2,hL,hQ2,h2⟩:=P2 R hR he;obtain⟨c,c',Q,hc,hc',hid⟩:=WX (a:=a) lb hb0;obtain⟨Q3,hQ3,h3⟩:=Agp R hR hc hc' hid he;have e1:H2 (f+1) a b=b::H2 f b (Ci (BB a b)):=by simp only[H2];rw[if_neg hb0]
   rw[e1];by_cases he0:Ci (BB a b)=[]
   ·refine⟨Q1+Q2,by omega,fun q x hr hq hst => ?_⟩;have hsb:Kz b x q:=by
     apply A4;intro hn;have:=(h2 q x hr (by omega) hn).2;rw[he0,A4j] at this;simp at this
    obtain⟨g1,g2⟩:=KZ hsb;have hm:=h1 q x hr (by omega) hsb;show Mid _ (CG (t b x q)::_) (CG (t b (x+1) q)::_);rw[g1];exact Mid.st _ _ g2 hm
   ·have hel:=Am.2 he0;rw[DR] at hel;obtain⟨f,rfl⟩:∃ k,f=k+1:=⟨f-1,by omega⟩;have he2:=QP le he0 he;have hpl2:=Ta (a:=b) he0;rw[DR] at hpl2;obtain⟨Q4,hQ4,h4⟩:=ih f (by omega) (Ci (BB a b)) (Ci (BB b (Ci (BB a b)))) (by rw[DR];omega) le (Ie (OP lb)) he2;refine⟨Q1+Q2+Q3+Q4,by omega,fun q x hr hq hst => ?_⟩;by_cases hsb:Kz b x q
    ·obtain⟨g1,g2⟩:=KZ hsb;have hm:=h1 q x hr (by omega) hsb;show Mid _ (CG (t b x q)::_) (CG (t b (x+1) q)::_);rw[g1];exact Mid.st _ _ g2 hm
    ·obtain⟨hse,_⟩:=h2 q x hr (by omega) hsb;obtain⟨r1,r2⟩:=h3 q x hr (by omega) hsb;obtain⟨g1,g2⟩:=KZ hse;have hm:=h4 q x hr (by omega) hse;have hsg:CG (t (Ci (BB a b)) x q) = -CG (t a x q):=by
      unfold Kz at hse;unfold CG;rcases hse with ⟨k1,_⟩ | ⟨k1,_⟩
      ·have:=r1 k1;rw[if_neg (by omega),if_pos k1,if_pos this];rfl
      ·have:=r2 k1;rw[if_pos k1,if_neg (by omega),if_pos this]
     have e2:H2 (f+1) b (Ci (BB a b))=Ci (BB a b)::H2 f (Ci (BB a b)) (Ci (BB b (Ci (BB a b)))):=by simp only[H2];rw[if_neg he0]
     rw[e2];show Mid _ (CG (t b x q)::CG (t (Ci (BB a b)) x q)::_) (CG (t b (x+1) q)::CG (t (Ci (BB a b)) (x+1) q)::_);rw[g1];rw[hsg] at hm |-;exact Mid.un _ _ _ (aS _) (aS _) hm
theorem A4k{a:Int}(h:a=1\/a = -1)(n:Int)(h2:CG n=a):(a=1/\0<n)\/(a = -1/\n<0):=by
 unfold CG at h2;split at h2
 ·right;omega
 ·split at h2
  ·left;omega
  ·omega
theorem Tb{f:LI}(R:Int)(hR:0<=R)(lf:BZ f)(hl:2<=f.length)(hl1:(prim (As f)).length=f.length-1)(h:Fk [1] f (prim (As f)))(hc:0<AQ (As f))(n:Nat)(hn:f.length-1<=n) :
  ∃ Q0:Int,0<Q0/\∀ q x:Int,WY R q x->Q0<=q->∃ d:Int,Top (DI (f::H2 n f (prim (As f))) x q) (DI (f::H2 n f (prim (As f))) (x+1) q) d/\(d=0\/d=1)/\(d=1->¬ Kz f x q/\t f x q ≠ 0)/\(d=0->Kz f x q\/t f x q=0):=by
 have l1:BZ (prim (As f)):=Cq _;have h10:prim (As f) ≠ []:=by intro h0;rw[h0] at hl1;simp at hl1;omega
 obtain⟨Q1,hQ1,m1⟩:=jB R hR n n (Ap _) f (prim (As f)) (by omega) lf l1 h;obtain⟨L,Q2,hL,hQ2,p2⟩:=P2 R hR h;obtain⟨Q3,hQ3,p3⟩:=T_ R hR hl hl1 h hc;obtain⟨n,rfl⟩:∃ k,n=k+1:=⟨n-1,by omega⟩;have e1:H2 (n+1) f (prim (As f))=prim (As f)::H2 n (prim (As f)) (Ci (BB f (prim (As f)))):=by simp only[H2];rw[if_neg h10]
 have he:=QP l1 h10 h;have hpl:=Ta (a:=f) h10;obtain⟨Q4,hQ4,m4⟩:=jB R hR n n (Ap _) (prim (As f)) (Ci (BB f (prim (As f)))) (by rw[DR];omega) l1 (Ie (OP lf)) he;refine⟨Q1+Q2+Q3+Q4,by omega,fun q x hr hq => ?_⟩;by_cases hst:Kz f x q
 ·obtain⟨g1,g2⟩:=KZ hst;have hm:=m1 q x hr (by omega) hst;refine⟨0,?_,.inl rfl,fun h=>absurd h (by decide),fun _ => .inl hst⟩;show Top (CG (t f x q)::_) (CG (t f (x+1) q)::_) 0;rw[g1];exact Top.st _ g2 hm
 ·obtain⟨hs1,_⟩:=p2 q x hr (by omega) hst;obtain⟨g1,g2⟩:=KZ hs1;obtain⟨r1,r2⟩:=p3 q x hr (by omega) hst;have hm:=m4 q x hr (by omega) hs1;rw[e1];refine⟨if CG (t f x q)=0 then 0 else 1,?_,by split;exact .inl rfl;exact .inr rfl,?_,?_⟩
  ·show Top (CG (t f x q)::CG (t (prim (As f)) x q)::_) (CG (t f (x+1) q)::CG (t (prim (As f)) (x+1) q)::_) _;rw[g1];unfold Kz at hst;rcases A4k g2 _ rfl with ⟨k1,k2⟩ | ⟨k1,k2⟩
   ·have hd:=r1 k2;refine Top.un _ _ _ g2 ?_ ?_ hm
    ·rw[k1];unfold CG; (repeat' split) <;> omega
    ·rw[k1];unfold CG; (repeat' split) <;> omega
   ·have hd:=r2 k2;refine Top.un _ _ _ g2 ?_ ?_ hm
    ·rw[k1];unfold CG; (repeat' split) <;> omega
    ·rw[k1];unfold CG; (repeat' split) <;> omega
  ·intro hd;refine⟨hst,fun h0 => ?_⟩;rw[h0] at hd;exact absurd hd (by decide)
  ·intro hd;right;apply A4;intro h0;rw[if_neg (by unfold CG; (repeat' split) <;> omega)] at hd
   exact absurd hd (by decide)
theorem jC{f:LI}(R:Int)(hR:0<=R)(lf:BZ f)(hl:2<=f.length)(hl1:(prim (As f)).length=f.length-1)(h:Fk [1] f (prim (As f)))(hc:0<AQ (As f))(n:Nat)(hn:f.length-1<=n) :
  ∃ Q0:Int,0<Q0/\∀ q u:Int,0<q->Q0<=q->∀ k:Nat,(u.natAbs:Int)<=R*q->((u+(k:Int)).natAbs:Int)<=R*q ->
   wv 0 (DI (f::H2 n f (prim (As f))) (u+(k:Int)) q)<=wv 0 (DI (f::H2 n f (prim (As f))) u q):=by
 obtain⟨Q0,hQ0,ht⟩:=Tb R hR lf hl hl1 h hc n hn;refine⟨Q0,hQ0,fun q u hq0 hq k => ?_⟩;induction k with
 | zero=>intro _ _;simp
 | succ k ih =>
  intro h1 h2;have h3:((u+(k:Int)).natAbs:Int)<=R*q:=by omega
  have h4:=ih h1 h3;have h6:((u+(k:Int)+1).natAbs:Int)<=R*q:=by omega
  obtain⟨d,hd,hd2,_,_⟩:=ht q (u+(k:Int)) ⟨hq0,h3,h6⟩ hq;have h5:=aR hd;have e:u+((k+1:Nat):Int)=u+(k:Int)+1:=by omega
  rw[e];omega
theorem Tc(p:LI)(x q c:Int)(hc:0<c):CG (t p (c*x) (c*q))=CG (t p x q):=by
 have e:∀ T,hs (fun i=>p.getD i 0) (c*x) (c*q) T=c^T*hs (fun i=>p.getD i 0) x q T:=by
  intro T;induction T with
  | zero=>simp[hs]
  | succ T ih =>
   simp only[hs];rw[ih,Q',A2 c T];grind
 have hp:0<c^(p.length-1):=EQ hc;unfold t Go.Ai.hp;rw[e];generalize hs (fun i=>p.getD i 0) x q (p.length-1)=H;generalize c^(p.length-1)=C at *
 unfold CG;by_cases h1:H<0
 ·have:=IE hp h1;rw[if_pos this,if_pos h1]
 ·by_cases h2:0<H
  ·have:=Be hp h2;rw[if_neg (by omega),if_neg h1,if_pos this,if_pos h2]
  ·have:H=0:=by omega
   rw[this];simp
theorem Ig(l:List (LI))(x q c:Int)(hc:0<c):DI l (c*x) (c*q)=DI l x q:=by
 unfold DI;exact Gh fun p _=>Tc p x q c hc
theorem aT{f:LI}(lf:BZ f)(hl:2<=f.length):(As f).length=f.length-1:=by
 have ht:=E1 lf (by intro h;rw[h] at hl;simp at hl);unfold As;have hL:BZ ((Aq (f.length-1)).map fun j=>f.getD (j+1) 0*((j+1:Nat):Int)):=by
  refine R8 (.inr ?_);rw[N,BI,Hg,if_pos (by omega),show f.length-1-1+1=f.length-1 by omega];exact Ba ht (by omega)
 rw[hL,N,BI]
theorem JB{p:LI}(hp:A9l p ≠ [])(hl:2<=(A9k p).length):BZ (A9k p)/\(prim (As (A9k p))).length=(A9k p).length-1/\Fk [1] (A9k p) (prim (As (A9k p)))/\0<AQ (As (A9k p)):=by
 obtain⟨lf,cf,tf,f0,_,_,_,h1⟩:=Cu hp;generalize A9k p=f at *
 have hd:=aT lf hl;have ld:BZ (As f):=GY _;have hd0:A9l (As f) ≠ []:=by rw[ld];intro h;rw[h] at hd;simp at hd;omega
 have hG:=Fw f (As f);obtain⟨c,hc⟩:=M1 h1;have tG:=KB (t:=As f) (C7 lf f0);rw[hc] at hG tG;have hc0:0<c:=tG;refine⟨lf,by rw[Ca,ld,hd],?_,Jb hd0⟩;have h2:Fk [1] f (As f):=hG.gscaled (m:=c) (n:=1) (by omega) (by decide) (fun x=>by simp[Aa]);obtain⟨m,hm,hm2⟩:=Ic (As f);exact h2.scaled (m:=1) (n:=1) (k:=m) (l:=1) (by decide) (by decide) hm (by decide) (fun x=>rfl) (fun x=>by rw[<- hm2 x];omega)
def CJ(p:LI):List (LI):=if A9k p=[] then [] else A9k p::H2 (A9k p).length (A9k p) (prim (As (A9k p)))
theorem LL(p:LI){x y q:Int}(hq:0<q)(hxy:x<=y):wv 0 (DI (CJ p) y q)<=wv 0 (DI (CJ p) x q):=by
 unfold CJ;by_cases h0:A9k p=[]
 ·rw[if_pos h0];exact C' _
 ·rw[if_neg h0];have hp:A9l p ≠ []:=by
   intro h;have hz:prim p=[]:=by rw[DG,<- Dd];exact h
   apply h0;unfold A9k;rw[hz];rfl
  have hpos:=Am.2 h0;by_cases hl:2<=(A9k p).length
  ·obtain⟨lf,hl1,hG,hc⟩:=JB hp hl;obtain⟨Q0,hQ0,hm⟩:=jC ((x.natAbs:Int)+(y.natAbs:Int)) (by omega) lf hl hl1 hG hc (A9k p).length (by omega);have h1:(0:Int)<Q0*q:=Be hQ0 hq;have hQq:Q0<=Q0*q:=by
    have:=Aj (show (1:Int)<=q by omega) (show 0<=Q0 by omega);omega
   have hb:∀ z:Int,(z.natAbs:Int)<=(x.natAbs:Int)+(y.natAbs:Int)->((Q0*z).natAbs:Int)<=((x.natAbs:Int)+(y.natAbs:Int))*(Q0*q):=by
    intro z hz;have h2:=Di (a:=Q0) (A:=Q0*q) (by omega) hz;have e:Q0*q*((x.natAbs:Int)+(y.natAbs:Int))=((x.natAbs:Int)+(y.natAbs:Int))*(Q0*q):=AA ..;omega
   have hd:0<=Q0*(y-x):=A6 (by omega) (by omega);have e1:Q0*x+((Q0*(y-x)).toNat:Int)=Q0*y:=by rw[kV hd,Fr];omega
   have h3:=hm (Q0*q) (Q0*x) h1 hQq (Q0*(y-x)).toNat (hb x (by omega)) (by rw[e1];exact hb y (by omega));rw[e1,Ig _ _ _ _ hQ0,Ig _ _ _ _ hQ0] at h3;exact h3
  ·have hl1:(A9k p).length=1:=by omega
   have hz:prim (As (A9k p))=[]:=by
    rw[DG];intro i;rw[Dm,B0 (by omega),CX]
   have e:H2 (A9k p).length (A9k p) (prim (As (A9k p)))=[]:=by rw[hl1,hz];rfl
   rw[e];have eh:∀ z,t (A9k p) z q=(A9k p).getD 0 0:=fun z=>by unfold t Go.Ai.hp;rw[hl1];rfl
   unfold DI;simp only[C8,FU];rw[eh,eh];exact C' _
theorem DT{n:Int}:CG n=0↔n=0:=by unfold CG; (repeat' split) <;> omega
theorem K_{n:Int}:CG n=1↔0<n:=by unfold CG; (repeat' split) <;> omega
theorem La{n:Int}:CG n = -1↔n<0:=by unfold CG; (repeat' split) <;> omega
def NF(f g:LI)(W:Int->Int)(q x:Int):Prop :=
 (CG (t f (x+1) q)=CG (t f x q)/\t f x q ≠ 0/\W x=W (x+1)) \/
 ((CG (t g x q)=1\/CG (t g x q) = -1)/\CG (t g (x+1) q)=CG (t g x q) /\
  ((t f x q=0/\CG (t f (x+1) q)=CG (t g x q)/\W x=W (x+1)) \/
  (CG (t f x q) = -CG (t g x q)/\(t f (x+1) q=0\/CG (t f (x+1) q)=CG (t g x q))/\W x=W (x+1)+1)))
theorem cell{f:LI}(R:Int)(hR:0<=R)(lf:BZ f)(hl:2<=f.length)(hl1:(prim (As f)).length=f.length-1)(h:Fk [1] f (prim (As f)))(hc:0<AQ (As f))(n:Nat)(hn:f.length-1<=n) :
  ∃ Q0:Int,0<Q0/\∀ q x:Int,WY R q x->Q0<=q->NF f (prim (As f)) (fun y=>wv 0 (DI (f::H2 n f (prim (As f))) y q)) q x:=by
 obtain⟨Q1,hQ1,t1⟩:=Tb R hR lf hl hl1 h hc n hn;obtain⟨L,Q2,hL,hQ2,p2⟩:=P2 R hR h;obtain⟨Q3,hQ3,p3⟩:=T_ R hR hl hl1 h hc;refine⟨Q1+Q2+Q3,by omega,fun q x hr hq => ?_⟩;obtain⟨d,hd,hd2,hd3,hd4⟩:=t1 q x hr (by omega);have hw:=aR hd;unfold NF;by_cases hst:Kz f x q
 ·left;obtain⟨g1,g2⟩:=KZ hst;have hd0:d=0:=by
   rcases hd2 with e | e
   ·exact e
   ·exact absurd hst (hd3 e).1
  refine⟨g1,fun h0 => ?_,by show wv 0 _=wv 0 _;omega⟩;rw[h0] at g2;exact absurd g2 (by decide)
 ·right;obtain⟨hs1,_⟩:=p2 q x hr (by omega) hst;obtain⟨g1,g2⟩:=KZ hs1;obtain⟨r1,r2⟩:=p3 q x hr (by omega) hst;refine⟨g2,g1,?_⟩;by_cases h0:t f x q=0
  ·left;have hd0:d=0:=by
    rcases hd2 with e | e
    ·exact e
    ·exact absurd h0 (hd3 e).2
   refine⟨h0,?_,by show wv 0 _=wv 0 _;omega⟩;rcases g2 with k | k
   ·have:=r1 (K_.1 k);rw[k,K_];omega
   ·have:=r2 (La.1 k);rw[k,La];omega
  ·right;have hd1:d=1:=by
    rcases hd2 with e | e
    ·rcases hd4 e with k | k
     ·exact absurd k hst
     ·exact absurd k h0
    ·exact e
   unfold Kz at hst;rcases g2 with k | k
   ·have:=r1 (K_.1 k);refine⟨by rw[k,La];omega,?_,by show wv 0 _=wv 0 _+1;omega⟩;by_cases hz:t f (x+1) q=0
    ·exact .inl hz
    ·right;rw[k,K_];omega
   ·have:=r2 (La.1 k);refine⟨by rw[k];show _=1;rw[K_];omega,?_,by show wv 0 _=wv 0 _+1;omega⟩;by_cases hz:t f (x+1) q=0
    ·exact .inl hz
    ·right;rw[k,La];omega
theorem NF.mono{f g:LI}{W:Int->Int}{q x:Int}(h:NF f g W q x):W (x+1)<=W x:=by
 rcases h with ⟨_,_,h⟩ | ⟨_,_,⟨_,_,h⟩ | ⟨_,_,h⟩⟩ <;> omega
theorem NF.root{f g:LI}{W:Int->Int}{q x:Int}(h:NF f g W q x)(h0:t f (x+1) q=0):W x=W (x+1)+1:=by
 have e:CG (t f (x+1) q)=0:=DT.2 h0;rcases h with ⟨h1,h2,_⟩ | ⟨h1,_,⟨_,h3,_⟩ | ⟨_,_,h⟩⟩
 ·rw[e] at h1;exact absurd (DT.1 h1.symm) h2
 ·omega
 ·exact h
def Par(f g:LI)(W:Int->Int)(q u v:Int):Prop :=
 (t f v q ≠ 0/\CG (t f v q)=(if (W u-W v) % 2=0 then 1 else -1)*CG (t f u q)) \/
 (t f v q=0/\CG (t g v q)=(if (W u-W v) % 2=0 then 1 else -1)*CG (t f u q))
theorem WZ{f g:LI}{W:Int->Int}{q u:Int}(h0:t f u q ≠ 0):∀ k:Nat,(∀ j:Nat,j<k->NF f g W q (u+(j:Int)))->Par f g W q u (u+(k:Int))
 | 0,_=>by
  left;rw[show u+((0:Nat):Int)=u by omega];exact⟨h0,by rw[if_pos (by omega),Dt]⟩
 | k+1,hc=>by
  have ih:=WZ h0 k (fun j hj=>hc j (by omega));have c:=hc k (by omega);have e:u+((k+1:Nat):Int)=u+(k:Int)+1:=by omega
  rw[e];have hu:CG (t f u q)=1\/CG (t f u q) = -1:=by
   have:=aS (t f u q);have:CG (t f u q) ≠ 0:=fun hh=>h0 (DT.1 hh);omega
  generalize u+(k:Int)=v at *
  unfold Par at ih |-;rcases c with ⟨c1,c2,c3⟩ | ⟨c1,c2,⟨c3,c4,c5⟩ | ⟨c3,c4,c5⟩⟩
  ·rw[<- c3];rcases ih with ⟨i1,i2⟩ | ⟨i1,_⟩
   ·left;refine⟨fun hz => ?_,by rw[c1];exact i2⟩;rw[hz] at c1;exact i1 (DT.1 c1.symm)
   ·exact absurd i1 c2
  ·rw[<- c5];rcases ih with ⟨i1,_⟩ | ⟨_,i2⟩
   ·exact absurd c3 i1
   ·left;refine⟨fun hz => ?_,by rw[c4];exact i2⟩;rw[hz] at c4;have:CG 0=0:=rfl;omega
  ·have i2:CG (t f v q)=(if (W u-W v) % 2=0 then 1 else -1)*CG (t f u q):=by
    rcases ih with ⟨_,i2⟩ | ⟨i1,_⟩
    ·exact i2
    ·rw[i1] at c3;have:CG 0=0:=rfl;omega
   have flip:CG (t g v q)=(if (W u-W (v+1)) % 2=0 then 1 else -1)*CG (t f u q):=by
    by_cases hp:(W u-W v) % 2=0
    ·rw[if_pos hp] at i2;rw[if_neg (by omega)];omega
    ·rw[if_neg hp] at i2;rw[if_pos (by omega)];omega
   rcases c4 with c4 | c4
   ·right;exact⟨c4,by rw[c2];exact flip⟩
   ·left;refine⟨fun hz => ?_,by rw[c4];exact flip⟩;rw[hz] at c4;have:CG 0=0:=rfl;omega
theorem OQ{f g:LI}{W:Int->Int}{q u:Int}:∀ k:Nat,(∀ j:Nat,j<k->NF f g W q (u+(j:Int)))->W (u+(k:Int))<=W u
 | 0,_=>by simp
 | k+1,hc=>by
  have ih:=OQ k (fun j hj=>hc j (by omega));have:=(hc k (by omega)).mono;have e:u+((k+1:Nat):Int)=u+(k:Int)+1:=by omega
  rw[e];omega
theorem A7k(p:LI)(hp:A9l p ≠ [])(hl:2<=(A9k p).length){x y q:Int}(hq:0<q):∃ c:Int,0<c/\∀ z:Int,c*x<=z->z<c*y->NF (A9k p) (prim (As (A9k p))) (fun z=>wv 0 (DI (CJ p) z (c*q))) (c*q) z:=by
 obtain⟨lf,hl1,hG,hc⟩:=JB hp hl;have h0:A9k p ≠ []:=by intro h;rw[h] at hl;simp at hl
 obtain⟨Q0,hQ0,hm⟩:=cell ((x.natAbs:Int)+(y.natAbs:Int)) (by omega) lf hl hl1 hG hc (A9k p).length (by omega);refine⟨Q0,hQ0,fun z h1 h2 => ?_⟩;have hQq:Q0<=Q0*q:=by
  have:=Aj (show (1:Int)<=q by omega) (show 0<=Q0 by omega);omega
 have hb:∀ z:Int,(z.natAbs:Int)<=(x.natAbs:Int)+(y.natAbs:Int)->((Q0*z).natAbs:Int)<=((x.natAbs:Int)+(y.natAbs:Int))*(Q0*q):=by
  intro z hz;have h2:=Di (a:=Q0) (A:=Q0*q) (by omega) hz;have e:Q0*q*((x.natAbs:Int)+(y.natAbs:Int))=((x.natAbs:Int)+(y.natAbs:Int))*(Q0*q):=AA ..;omega
 have bx:=hb x (by omega);have by':=hb y (by omega);have e:CJ p=A9k p::H2 (A9k p).length (A9k p) (prim (As (A9k p))):=by unfold CJ;rw[if_neg h0]
 rw[e];exact hm (Q0*q) z ⟨Be hQ0 hq,by omega,by omega⟩ hQq
theorem jD(p:LI)(hp:A9l p ≠ [])(hl:2<=(A9k p).length){x m y q:Int}(hq:0<q)(hxm:x<m)(hmy:m<y)(h1:wv 0 (DI (CJ p) x q)-wv 0 (DI (CJ p) y q)=1) :
  (t (A9k p) m q=0->wv 0 (DI (CJ p) m q)=wv 0 (DI (CJ p) y q)) /\
  (t (A9k p) m q ≠ 0->t (A9k p) y q=0->wv 0 (DI (CJ p) m q)=wv 0 (DI (CJ p) y q)+1) /\
  (t (A9k p) m q ≠ 0->t (A9k p) y q ≠ 0->(CG (t (A9k p) m q)=CG (t (A9k p) y q)↔wv 0 (DI (CJ p) m q)=wv 0 (DI (CJ p) y q))):=by
 obtain⟨c,hc,hg⟩:=A7k p hp hl (x:=x) (y:=y) hq;have m1:=LL p hq (Aw hxm);have m2:=LL p hq (Aw hmy);have sc:∀ z,wv 0 (DI (CJ p) (c*z) (c*q))=wv 0 (DI (CJ p) z q):=fun z=>by rw[Ig _ _ _ _ hc]
 have hs:∀ z,CG (t (A9k p) (c*z) (c*q))=CG (t (A9k p) z q):=fun z=>Tc _ _ _ _ hc;have d1:c*x+c<=c*m:=by
  have:=Aj (show x+1<=m by omega) (show 0<=c by omega);rw[CT,De] at this;exact this
 have d2:c*m+c<=c*y:=by
  have:=Aj (show m+1<=y by omega) (show 0<=c by omega);rw[CT,De] at this;exact this
 have back:∀ a b:Int,c*x<=a->a<b->b<=c*y->t (A9k p) b (c*q)=0->wv 0 (DI (CJ p) b (c*q))+1<=wv 0 (DI (CJ p) a (c*q)):=by
  intro a b ha hab hb hz;have hcell:=hg (b-1) (by omega) (by omega);have h2:=hcell.root (by rw[show b-1+1=b by omega];exact hz);simp only[show b-1+1=b by omega] at h2;have h3:=OQ (u:=a) (b-1-a).toNat (fun j hj=>hg (a+(j:Int)) (by omega) (by omega));simp only[show a+((b-1-a).toNat:Int)=b-1 by omega] at h3;omega
 refine⟨fun hz => ?_,fun _ hz => ?_,fun hm0 hy0 => ?_⟩
 ·have hz':t (A9k p) (c*m) (c*q)=0:=by rw[<- DT,hs,DT];exact hz
  have:=back (c*x) (c*m) (C' _) (by omega) (by omega) hz';rw[sc,sc] at this;omega
 ·have hz':t (A9k p) (c*y) (c*q)=0:=by rw[<- DT,hs,DT];exact hz
  have:=back (c*m) (c*y) (by omega) (by omega) (C' _) hz';rw[sc,sc] at this;omega
 ·have hm':t (A9k p) (c*m) (c*q) ≠ 0:=fun g=>hm0 (by rw[<- DT,<- hs,DT];exact g);have hy':t (A9k p) (c*y) (c*q) ≠ 0:=fun g=>hy0 (by rw[<- DT,<- hs,DT];exact g);have hpar:=WZ (g:=prim (As (A9k p))) (W:=fun z=>wv 0 (DI (CJ p) z (c*q))) hm' (c*y-c*m).toNat (fun j hj=>hg (c*m+(j:Int)) (by omega) (by omega));rw[show c*m+((c*y-c*m).toNat:Int)=c*y by omega] at hpar;rcases hpar with ⟨_,e⟩ | ⟨e,_⟩
  ·simp only[sc,hs] at e;have hb:CG (t (A9k p) m q) ≠ 0:=fun g=>hm0 (DT.1 g);constructor
   ·intro heq;apply A4;intro hne;rw[if_neg (by omega)] at e;omega
   ·intro heq;rw[if_pos (by omega)] at e;omega
  ·exact absurd e hy'
end Go.Ai
namespace Go.Proofs.YtajompaehjkgkaaGreat
open Go.Ai
set_option maxRecDepth 100000
open Classical renaming byContradiction->A4
open Decidable renaming decide->A9i
open Go.Ai.AV renaming bool->F,int->D,sl->H,tup->Ax
open Go.IntKind renaming i64->O,wrap->I
open Int renaming add_mul->G4,eq_of_mul_eq_mul_left->G8,le_of_eq->HZ,le_of_lt->Aw,le_refl->C',lt_of_mul_lt_mul_left->Fc,lt_of_mul_lt_mul_right->Do,mul_assoc->AF,mul_comm->AA,mul_ediv_cancel_left->BX,mul_lt_mul_of_pos_right->AU,mul_pos->Be,pow_add->BG,pow_pos->EQ,pow_succ->A2,toNat->A,toNat_natCast->R,zero_mul->CX
open List renaming any_eq_false->X1,drop_eq_getElem_cons->Df,drop_length->Kf,getD_eq_getElem?_getD->Z,getElem?_eq_getElem->Ah,getElem?_map->CL,getElem_mem->CY,length_append->Bf,length_map->N,length_pos_iff->Am,map_append->Ep,mem_append->Cc,mem_cons->D4,take_length->EE,take_succ_eq_append_getElem->tA
open Nat renaming add_comm->GF,le_refl->Ap,pow_add->CN,zero_le->By
theorem Ua:∀ (f:Nat) (a b:LI),DN f a b=H2 f a b
 | 0,_,_=>rfl
 | f+1,a,b=>by simp only[DN,H2];rw[Ua f]
theorem RS(p:LI):BW p=CJ p:=by unfold BW CJ;rw [Ua]
theorem A8q(l:List (LI))(N:Int)(e i:Nat):Iq l N e i=CG (t (l.getD i []) N (2^e)):=by
 unfold Iq t;rw[aQ];rfl
theorem Agr(l:List (LI))(N:Int)(e:Nat):∀ i,i<=l.length->(Ce l N e i).1+wv (Ce l N e i).2 (DI (l.drop i) N (2^e))=wv 0 (DI l N (2^e)):=by
 intro i;induction i with
 | zero=>intro _;simp[Ce]
 | succ i ih =>
  intro hi;rw[<- ih (by omega)];rw[Df (show i<l.length by omega)];have hg:l.getD i []=l[i]:=by rw[Z,Ah (by omega)];rfl
  have hs:=A8q l N e i;rw[hg] at hs;show (QO (Ce l N e i) (Iq l N e i)).1+wv (QO (Ce l N e i) (Iq l N e i)).2 _=(Ce l N e i).1+wv (Ce l N e i).2 (CG (t l[i] N (2^e))::_);rw[<- hs];generalize Ce l N e i=x;generalize Iq l N e i=s;obtain⟨n,last⟩:=x;simp only[QO,wv];by_cases h0:s=0
  ·rw[if_neg (fun h=>h.1 h0),if_neg (fun h=>h h0),if_pos h0];rfl
  ·rw[if_neg h0,if_pos h0];by_cases h1:last ≠ 0/\s ≠ last
   ·rw[if_pos ⟨h0,h1⟩,if_pos h1];show n+1+wv s (DI (l.drop (i+1)) N (2^e))=n+(1+wv s (DI (l.drop (i+1)) N (2^e)));omega
   ·rw[if_neg (fun h=>h1 h.2),if_neg h1];show n+wv s (DI (l.drop (i+1)) N (2^e))=n+(0+wv s (DI (l.drop (i+1)) N (2^e)));omega
def l(p:LI)(x:Int)(a:Nat):Int:=(Ce (BW p) x a (BW p).length).1
theorem Ho(p:LI)(x:Int)(a:Nat):l p x a=wv 0 (DI (CJ p) x (2^a)):=by
 have h:=Agr (BW p) x a (BW p).length (Ap _);rw[Kf,RS] at h;unfold l;rw[RS];have:wv (Ce (CJ p) x a (CJ p).length).2 (DI [] x (2^a))=0:=rfl;omega
theorem Bt(n:Nat):(0:Int)<2^n:=EQ (by decide)
theorem Fx(p:LI)(x:Int)(a c:Nat):l p (x*2^c) (a+c)=l p x a:=by
 rw[Ho,Ho,AA x,show (2:Int)^(a+c)=2^c*2^a by rw[BG,AA],Ig _ _ _ _ (Bt c)]
theorem Jh{p:LI}{x y:Int}{a b:Nat}(h:x*2^b<=y*2^a):l p y b<=l p x a:=by
 rw[<- Fx p x a b,<- Fx p y b a,GF b a,Ho,Ho];exact LL p (Bt _) h
theorem jE{p:LI}{x y:Int}{a b:Nat}(h:x*2^b=y*2^a):l p x a=l p y b :=
 Int.le_antisymm (Jh (HZ h.symm)) (Jh (HZ h))
theorem aU(p:LI)(x:Int)(a:Nat):Gd p x a=CG (t p x (2^a)):=by unfold Gd t;rw [aQ];rfl
theorem QQ(p:LI)(x:Int)(a c:Nat):Gd p (x*2^c) (a+c)=Gd p x a:=SZ (by rw [BG];grind)
theorem Td{p:LI}(h:(A9k p).length<2)(x y:Int)(a b:Nat):l p x a=l p y b:=by
 have e:∀ x a,l p x a=0:=by
  intro x a;rw[Ho];unfold CJ;by_cases h0:A9k p=[]
  ·rw[if_pos h0];rfl
  ·rw[if_neg h0];have hz:prim (As (A9k p))=[]:=by
    rw[DG];intro i;rw[Dm,B0 (by omega),CX]
   have hl1:(A9k p).length=1:=by have:=Am.2 h0;omega
   have e:H2 (A9k p).length (A9k p) (prim (As (A9k p)))=[]:=by rw[hl1,hz];rfl
   rw[e];show wv 0 [_]=0;simp only[wv];split
   ·rfl
   ·rw[if_neg (fun h=>h.1 rfl)];rfl
 rw[e,e]
theorem half{p:LI}{x m y:Int}{a c b:Nat}(h1:x*2^c<m*2^a)(h2:m*2^b<y*2^c)(hV:l p x a-l p y b=1) :
  (Gd (A9k p) m c=0->l p m c=l p y b)/\(Gd (A9k p) m c ≠ 0->Gd (A9k p) y b=0->l p m c=l p y b+1) /\
  (Gd (A9k p) m c ≠ 0->Gd (A9k p) y b ≠ 0->(Gd (A9k p) m c=Gd (A9k p) y b↔l p m c=l p y b)):=by
 have hl:2<=(A9k p).length:=by
  apply A4;intro g;have:=Td (p:=p) (by omega) x y a b;omega
 have hp:A9l p ≠ []:=by
  intro h;have hz:prim p=[]:=by rw[DG,<- Dd];exact h
  have h0:A9k p=[]:=by unfold A9k;rw[hz];rfl
  rw[h0] at hl;simp at hl
 have e1:=Fx p x a (c+b);have e2:=Fx p m c (a+b);have e3:=Fx p y b (a+c);have g2:=QQ (A9k p) m c (a+b);have g3:=QQ (A9k p) y b (a+c);rw[show a+(c+b)=a+b+c by omega,Ho] at e1;rw[show c+(a+b)=a+b+c by omega,Ho] at e2;rw[show b+(a+c)=a+b+c by omega,Ho] at e3;rw[show c+(a+b)=a+b+c by omega,aU] at g2;rw[show b+(a+c)=a+b+c by omega,aU] at g3;have i1:x*2^(c+b)<m*2^(a+b):=by
  have:=AU h1 (Bt b);rw[BG,BG,<- AF,<- AF];exact this
 have i2:m*2^(a+b)<y*2^(a+c):=by
  have:=AU h2 (Bt a);rw[BG,BG,AA (2^a) (2^b),AA (2^a) (2^c),<- AF,<- AF];exact this
 obtain⟨s1,s2,s3⟩:=jD p hp hl (Bt (a+b+c)) i1 i2 (by rw[e1,e3];exact hV);rw[e2,e3] at s1 s2 s3;rw[g2,g3] at s3;have z2:t (A9k p) (m*2^(a+b)) (2^(a+b+c))=0↔Gd (A9k p) m c=0:=by rw[<- g2,DT]
 have z3:t (A9k p) (y*2^(a+c)) (2^(a+b+c))=0↔Gd (A9k p) y b=0:=by rw[<- g3,DT]
 exact⟨fun h=>s1 (z2.2 h),fun h h'=>s2 (fun g=>h (z2.1 g)) (z3.2 h'),fun h h'=>s3 (fun g=>h (z2.1 g)) (fun g=>h' (z3.1 g))⟩
theorem IC{x y:Int}{a b:Nat}(h:x*2^b<y*2^a):x*2^ND x a y b<Qa x a y b*2^a/\Qa x a y b*2^b<y*2^ND x a y b:=by
 have hz:=OJ (max a b+1) (IA x a y b);obtain⟨N,hN⟩:=KD (max a b+1) (IA x a y b);have hS:IA x a y b=x*2^(max a b-a)+y*2^(max a b-b):=rfl;unfold Qa ND;generalize IA x a y b=S at *
 generalize DO S (max a b+1)=z at *
 have pz:=Bt z;have e:S / 2^z=N:=by rw[hN];exact BX _ (by omega)
 rw[e];obtain⟨k,hk⟩:∃ k,max a b+1=z+k:=⟨max a b+1-z,by omega⟩;rw[show max a b+1-z=k by omega];have hz2:(2:Int)^z*2^k=2*2^max a b:=by rw[<- BG,<- hk,A2,AA]
 have ea:(2:Int)^max a b=2^(max a b-a)*2^a:=by rw[<- BG];congr 1;omega
 have eb:(2:Int)^max a b=2^(max a b-b)*2^b:=by rw[<- BG];congr 1;omega
 have pa:=Bt (max a b-a);have pb:=Bt (max a b-b);have pA:=Bt a;have pB:=Bt b;have pk:=Bt k;generalize (2:Int)^max a b=M at *
 generalize (2:Int)^(max a b-a)=u at *
 generalize (2:Int)^(max a b-b)=v at *
 generalize (2:Int)^a=A at *
 generalize (2:Int)^b=B at *
 generalize (2:Int)^z=Z at *
 generalize (2:Int)^k=K at *
 have huv:x*u<y*v:=by
  have h3:x*B*(u*v)<y*A*(u*v):=AU h (Be pa pb);have e3:x*B*(u*v)=x*u*M:=by rw[eb];grind
  have e4:y*A*(u*v)=y*v*M:=by rw[ea];grind
  rw[e3,e4] at h3;exact Do h3 (by rw[ea];exact Aw (Be pa pA))
 constructor
 ·have h4:Z*(x*K)<Z*(N*A):=by
   have e5:Z*(x*K)=x*u*(2*A):=by
    have:Z*(x*K)=x*(Z*K):=by grind
    rw[this,hz2,ea];grind
   have e6:Z*(N*A)=(x*u+y*v)*A:=by rw[<- hS,hN];grind
   have h5:=AU (show x*u+x*u<x*u+y*v by omega) pA;rw[e5,e6];have:x*u*(2*A)=(x*u+x*u)*A:=by grind
   rw[this];exact h5
  exact Fc h4 (Aw pz)
 ·have h4:Z*(N*B)<Z*(y*K):=by
   have e5:Z*(y*K)=y*v*(2*B):=by
    have:Z*(y*K)=y*(Z*K):=by grind
    rw[this,hz2,eb];grind
   have e6:Z*(N*B)=(x*u+y*v)*B:=by rw[<- hS,hN];grind
   have h5:=AU (show x*u+y*v<y*v+y*v by omega) pB;rw[e5,e6];have:y*v*(2*B)=(y*v+y*v)*B:=by grind
   rw[this];exact h5
  exact Fc h4 (Aw pz)
theorem Em{x y:Int}{a b:Nat}:Bm x a y b = -1↔x*2^b<y*2^a:=by unfold Bm CR; (repeat' split) <;> omega
theorem JC{x y:Int}{a b:Nat}:Bm x a y b=1↔y*2^a<x*2^b:=by unfold Bm CR; (repeat' split) <;> omega
structure One (p:List Int) (x:Iv):Prop where
 lt:Q x.r*2^x.b<Q x.t*2^x.a
 v:l p (Q x.r) x.a-l p (Q x.t) x.b=1
theorem jF{p:LI}{x:Iv}(h:One p x){m:Int}{c:Nat}(h1:Q x.r*2^c<m*2^x.a)(h2:m*2^x.b<Q x.t*2^c) :
  (Fl (A9k p) (Q x.r) x.a (Q x.t) x.b m c<=0↔l p m c=l p (Q x.t) x.b)/\(¬ Fl (A9k p) (Q x.r) x.a (Q x.t) x.b m c<=0↔l p m c=l p (Q x.t) x.b+1):=by
 obtain⟨k1,k2,k3⟩:=half h1 h2 h.v;have m1:l p m c<=l p (Q x.r) x.a:=Jh (Aw h1);have m2:l p (Q x.t) x.b<=l p m c:=Jh (Aw h2);have hv:=h.v;have e1:¬ Bm m c (Q x.r) x.a<=0:=by
  rw[JC.2 h1];decide
 have e2:¬ Bm m c (Q x.t) x.b>0:=by
  rw[Em.2 h2];decide
 have key:Fl (A9k p) (Q x.r) x.a (Q x.t) x.b m c<=0↔l p m c=l p (Q x.t) x.b:=by
  unfold Fl;rw[if_neg e1,if_neg e2];by_cases c1:Gd (A9k p) m c=0
  ·rw[if_pos c1];exact⟨fun _=>k1 c1,fun _=>C' _⟩
  ·rw[if_neg c1];by_cases c2:Gd (A9k p) (Q x.t) x.b=0
   ·have:=k2 c1 c2;rw[if_neg (by rw[c2];exact c1)];constructor <;> intro g <;> omega
   ·have:=k3 c1 c2;by_cases c3:Gd (A9k p) m c=Gd (A9k p) (Q x.t) x.b
    ·rw[if_pos c3];exact⟨fun _=>this.1 c3,fun _=>by decide⟩
    ·rw[if_neg c3];exact⟨fun g=>absurd g (by decide),fun g=>absurd (this.2 g) c3⟩
 refine⟨key,?_⟩;rw[key];omega
theorem One.half{p:LI}{x:Iv}(h:One p x):One p (stp (A9k p) x):=by
 obtain⟨b1,b2⟩:=IC h.lt;have hne:Bm (Q x.r) x.a (Q x.t) x.b ≠ 0:=by rw[Em.2 h.lt];decide
 obtain⟨s1,s2⟩:=jF h b1 b2;have hv:=h.v;unfold stp;rw[if_neg hne];split
 ·rename_i g;have e:=s1.1 g;refine⟨?_,?_⟩
  ·show Q x.r*2^x.me<Q (V x.mn)*2^x.a;rw[A9y];exact b1
  ·show l p (Q x.r) x.a-l p (Q (V x.mn)) x.me=1;rw[A9y];have:l p x.mn x.me=l p (Q x.t) x.b:=e;omega
 ·rename_i g;have e:=s2.1 g;refine⟨?_,?_⟩
  ·show Q (V x.mn)*2^x.b<Q x.t*2^x.me;rw[A9y];exact b2
  ·show l p (Q (V x.mn)) x.me-l p (Q x.t) x.b=1;rw[A9y];have:l p x.mn x.me=l p (Q x.t) x.b+1:=e;omega
theorem One.halves{p:LI}{x:Iv}(h:One p x):∀ n,One p (stpN (A9k p) x n)
 | 0=>h
 | n+1=>(One.halves h n).half
def sc(x:Int)(a k:Nat):Int:=x*2^k / 2^a
def Iv.lo(x:Iv)(k:Nat):Int:=sc (Q x.r) x.a k
def Iv.hi(x:Iv)(k:Nat):Int:=sc (Q x.t) x.b k
section
variable {p:LI} (hp:Qc p) {C m:Nat} {x:Iv} (h:IvOk C m x) {k:Nat} (hk:k<=64)
include hp h hk
omit hp in
end
section
variable {p q:LI} (hp:Qc p) (hq:Qc q) {C m:Nat} {x y:Iv} (hx:IvOk C m x) (hy:IvOk C m y)
include hp hq hx hy
omit hp hq in
theorem OR(hm:m<=4096):RQ 55 [j x.t (x.b:Nat),j y.r (y.a:Nat)] (D O (Bm (Q x.t) x.b (Q y.r) y.a))/\RQ 55 [j y.t (y.b:Nat),j x.r (x.a:Nat)] (D O (Bm (Q y.t) y.b (Q x.r) x.a)):=by
 obtain⟨gr,gt,ha,hb,_,_⟩:=hx;obtain⟨gr',gt',ha',hb',_,_⟩:=hy;exact⟨Ir (gt.mono (by omega)) (gr'.mono (by omega)) (by omega) (by omega),Ir (gt'.mono (by omega)) (gr.mono (by omega)) (by omega) (by omega)⟩
end
structure Apart (p q:List Int) (x y:Iv) (n:Nat) (z:Int):Prop where
 no:∀ i,i<n->¬ Bm (Q (stpN p x i).t) (stpN p x i).b (Q (stpN q y i).r) (stpN q y i).a<=0/\¬ Bm (Q (stpN q y i).t) (stpN q y i).b (Q (stpN p x i).r) (stpN p x i).a<=0
 yes:(z = -1/\Bm (Q (stpN p x n).t) (stpN p x n).b (Q (stpN q y n).r) (stpN q y n).a<=0)\/(z=1/\¬ Bm (Q (stpN p x n).t) (stpN p x n).b (Q (stpN q y n).r) (stpN q y n).a<=0/\Bm (Q (stpN q y n).t) (stpN q y n).b (Q (stpN p x n).r) (stpN p x n).a<=0)
section
variable {p q:LI} (hp:Qc p) (hq:Qc q) {C m:Nat} {x y:Iv} (hx:IvOk C m x) (hy:IvOk C m y)
include hp hq hx hy
theorem Ags{n:Nat}{z:Int}(hC:C+m+n+1<3000)(h:Apart p q x y n z) :
  Ar (.loop Vg) (ON 0 (p.map V) x.r (x.a:Nat) x.t (x.b:Nat) (q.map V) y.r (y.a:Nat) y.t (y.b:Nat)) .ret
   (ON z (p.map V) (stpN p x n).r ((stpN p x n).a:Nat) (stpN p x n).t ((stpN p x n).b:Nat) (q.map V) (stpN q y n).r ((stpN q y n).a:Nat) (stpN q y n).t ((stpN q y n).b:Nat)):=by
 refine Gk (prog:=AZ) (c:=Vg) (ex := .ret) (fun i=>ON 0 (p.map V) (stpN p x i).r ((stpN p x i).a:Nat) (stpN p x i).t ((stpN p x i).b:Nat) (q.map V) (stpN q y i).r ((stpN q y i).a:Nat) (stpN q y i).t ((stpN q y i).b:Nat)) n (by nofun) ?_ 0 (By _) ?_
 ·obtain⟨c1,c2⟩:=OR (IB (p:=p) hx n (by omega)) (IB (p:=q) hy n (by omega)) (by omega);rcases h.yes with ⟨rfl,y1⟩ | ⟨rfl,y1,y2⟩
  ·exact A3y 0 _ _ _ _ _ _ _ _ _ _ _ (decide_eq_true y1) c1
  ·exact A3z 0 _ _ _ _ _ _ _ _ _ _ _ _ (decide_eq_false y1) (decide_eq_true y2) c1 c2
 ·intro t _ ht;obtain⟨c1,c2⟩:=OR (IB (p:=p) hx t (by omega)) (IB (p:=q) hy t (by omega)) (by omega);obtain⟨n1,n2⟩:=h.no t ht;exact A4a 0 _ _ _ _ _ _ _ _ _ _ _ _ _ _ _ _ _ _ _ _ _ _ (decide_eq_false n1) (decide_eq_false n2) c1 c2 (Ze hp (IB (p:=p) hx t (by omega)) (by omega)) (Ze hq (IB (p:=q) hy t (by omega)) (by omega))
theorem jG{n:Nat}{z:Int}(hC:C+m+n+1<3000)(h1:¬ Bm (Q x.t) x.b (Q y.r) y.a<0)(h2:¬ Bm (Q y.t) y.b (Q x.r) x.a<0)(he:RQ 124 [x.av p,y.av q] (F false))(h:Apart p q x y n z):RQ 74 [x.av p,y.av q] (D O z):=by
 obtain⟨c1,c2⟩:=OR hx hy (by omega);exact Aft _ x.r x.t _ _ _ y.r y.t _ _ _ _ _ false _ _ _ _ _ _ _ _ _ _ (decide_eq_false h1) (decide_eq_false h2) rfl c1 c2 he (Ags hp hq hx hy hC h)
omit hp hq in
theorem Axi(hm:m<=4096)(h1:¬ Bm (Q x.t) x.b (Q y.r) y.a<0)(h2:¬ Bm (Q y.t) y.b (Q x.r) x.a<0)(he:RQ 124 [x.av p,y.av q] (F true)):RQ 74 [x.av p,y.av q] (D O 0):=by
 obtain⟨c1,c2⟩:=OR hx hy hm;exact Afs _ x.r x.t _ _ _ y.r y.t _ _ _ _ true (decide_eq_false h1) (decide_eq_false h2) rfl c1 c2 he
end
theorem W_{rs:List Rn}(hg:∀ r∈rs,AO 5 r)(hn:rs.length<=9){r t:Rn}(hr:AO 100 r)(ht:AO 100 t){a b:Nat}(ha:a<=4096)(hb:b<=4096) :
  RQ 136 [Y pc rs,j r (a:Nat),j t (b:Nat)] (D O (RO (P rs) (Q r) a (Q t) b)):=by
 have hch:=OH hg hn;have hnice:=Kx hg hn;have hlen:=Ip hg hn;have x1:=G0 hnice hr a (by omega) (by omega);have x2:=G0 hnice ht b (by omega) (by omega);have k:=Aws rs _ r t (a:Nat) (b:Nat) _ _ hch x1 x2;rw[OL (by omega)] at k;exact k
def Zi(r:Rn)(e:Int):Bool:=decide (e>=0)&&decide (e<=64)&&decide (DD (Q r).natAbs<=128)
theorem jH{r:Rn}{e:Int}(hr:AO 100 r):RQ 54 [j r e] (F (Zi r e)):=by
 have hb:=Ni (neg:=r.1) hr.1 (by have:=hr.2;omega);unfold Zi;by_cases c1:e>=0
 ·by_cases c2:e<=64
  ·have k:=Afl r e _ (decide_eq_true c1) (decide_eq_true c2) hb;have ez:decide (((DD (Q r).natAbs:Nat):Int)<=128)=decide (DD (Q r).natAbs<=128):=decide_eq_decide.2 (by omega);rw[decide_eq_true c1,decide_eq_true c2];show Bg _ _ _ (F (A9i (DD (Q r).natAbs<=128)));rw[<- ez];exact k
  ·rw[decide_eq_true c1,decide_eq_false c2];exact Afm r e (decide_eq_true c1) (decide_eq_false c2)
 ·rw[decide_eq_false c1];exact Afn r e (decide_eq_false c1)
def Iv.d(p:LI)(x:Iv):Int:=l p (Q x.r) x.a-l p (Q x.t) x.b
def Iv.lf(x:Iv):Iv:=⟨x.r,x.a,V x.mn,x.me⟩
def Iv.rg(x:Iv):Iv:=⟨V x.mn,x.me,x.t,x.b⟩
def ID(p:LI):Nat->Iv->List Iv
 | 0,x=>if x.d p=0 then [] else [x]
 | n+1,x=>if x.d p=0 then [] else if x.d p=1 then [x] else ID p n x.lf++ID p n x.rg
def Deep(p:LI)(E:Nat):Nat->Iv->Prop
 | 0,x=>x.d p=0\/x.d p=1
 | n+1,x=>x.d p=0\/x.d p=1\/(x.me<=E/\Deep p E n x.lf/\Deep p E n x.rg)
def G1(p:LI)(x:Iv):Rt:=⟨p.map V,x.r,(x.a:Nat),x.t,(x.b:Nat)⟩
theorem Axj{C m:Nat}{x:Iv}(h:IvOk C m x)(hC:C+m+1<3000):IvOk C (m+1) x.lf/\IvOk C (m+1) x.rg/\AO 100 (V x.mn)/\x.me<=m+1:=by
 obtain⟨gr,gt,ha,hb,vr,vt⟩:=h;have e2:x.me<=max x.a x.b+1:=Py;have e3:x.mn.natAbs<=2^C*2^x.me:=U8 vr vt;have hf:AO 100 (V x.mn):=BL (Gl (k:=C+x.me) (by rw[CN];exact e3) (by omega));refine⟨⟨gr,hf,by show x.a<=_;omega,by show x.me<=_;omega,vr,by show (Q (V x.mn)).natAbs<=_;rw[A9y];exact e3⟩,⟨hf,gt,by show x.me<=_;omega,by show x.b<=_;omega,by show (Q (V x.mn)).natAbs<=_;rw[A9y];exact e3,vt⟩,hf,by omega⟩
theorem OS{p:LI}(hl:(BW p).length<=10)(x:Int)(a:Nat):0<=l p x a/\l p x a<=10:=by
 have:=KC (BW p) x a (BW p).length;unfold l;omega
section
variable {p:LI} (hnice:∀ q∈BW p,uS q) (hlen:(BW p).length<=10) (h1:0<(BW p).length) (hfr:(BW p).getD 0 []=A9k p) {E:Nat} (hE:E<=1000000)
include hnice hlen h1 hfr hE
theorem sA:∀ (n:Nat) (x:Iv) (C m:Nat),IvOk C m x->C+m+n+1<3000->Deep p E n x->(ID p n x).length<=1000*1000 ->
  RQ 105 [H (DK (BW p)).length (z (DK (BW p))),j x.r (x.a:Nat),j x.t (x.b:Nat),D O (l p (Q x.r) x.a),D O (l p (Q x.t) x.b),D O (E:Nat)]
   (.frs (.tp true) 7 (ID p n x).length (Fu ((ID p n x).map (G1 (A9k p))))):=by
 intro n;induction n with
 | zero =>
  intro x C m hx hC hd _;have b1:=OS hlen (Q x.r) x.a;have b2:=OS hlen (Q x.t) x.b;have ew:I O (l p (Q x.r) x.a-l p (Q x.t) x.b)=Iv.d p x:=Bl (by omega) (by omega);simp only[ID];rcases hd with hd | hd
  ·rw[if_pos hd];exact WU _ x.r x.t _ _ _ _ _ (by rw[ew,hd];rfl)
  ·rw[if_neg (by omega)];have k:=WV (DK (BW p)) x.r x.t (x.a:Nat) (x.b:Nat) _ _ (E:Nat) (by rw[ew,hd];rfl) (by rw[ew,hd];rfl) (by rw[M2];omega);rw[show A 0=0 from rfl,Pw h1,hfr] at k;exact k
 | succ n ih =>
  intro x C m hx hC hd hL;have b1:=OS hlen (Q x.r) x.a;have b2:=OS hlen (Q x.t) x.b;have ew:I O (l p (Q x.r) x.a-l p (Q x.t) x.b)=Iv.d p x:=Bl (by omega) (by omega);simp only[ID] at hL |-;by_cases c0:x.d p=0
  ·rw[if_pos c0];exact WU _ x.r x.t _ _ _ _ _ (by rw[ew,c0];rfl)
  ·rw[if_neg c0] at hL |-;by_cases c1:x.d p=1
   ·rw[if_pos c1];have k:=WV (DK (BW p)) x.r x.t (x.a:Nat) (x.b:Nat) _ _ (E:Nat) (by rw[ew,c1];rfl) (by rw[ew,c1];rfl) (by rw[M2];omega);rw[show A 0=0 from rfl,Pw h1,hfr] at k;exact k
   ·rw[if_neg c1] at hL |-;rcases hd with hd | hd | ⟨d1,d2,d3⟩
    ·exact absurd hd c0
    ·exact absurd hd c1
    ·obtain⟨S,o2,o3,o4⟩:=Axj hx (by omega);obtain⟨gr,gt,ha,hb,vr,vt⟩:=hx;rw[Bf] at hL;have k1:=ih x.lf C (m+1) S (by omega) d2 (by omega);have k2:=ih x.rg C (m+1) o2 (by omega) d3 (by omega);have hm:=RM (gr.mono (show 100<=200 by omega)) (gt.mono (show 100<=200 by omega)) (a:=x.a) (b:=x.b) (by omega) (by omega);have hv:=G0 hnice o3 x.me (by omega) (by omega);rw[A9y] at hv;have e1:l p (Q (V x.mn)) x.me=l p x.mn x.me:=by rw[A9y]
     have f1:(x.lf).t=V x.mn:=rfl;have f2:(x.rg).r=V x.mn:=rfl;rw[f1,show x.lf.b=x.me from rfl,show x.lf.r=x.r from rfl,show x.lf.a=x.a from rfl,e1] at k1;rw[f2,show x.rg.a=x.me from rfl,show x.rg.t=x.t from rfl,show x.rg.b=x.b from rfl,e1] at k2;have k:=rV (DK (BW p)) x.r x.t (x.a:Nat) (x.b:Nat) _ _ (E:Nat) x.mn (x.me:Nat) _ true true _ _ _ _ (by rw[ew,beq_eq_false_iff_ne];exact c0) (by rw[ew,beq_eq_false_iff_ne];exact c1) (by rw[decide_eq_false_iff_not];omega) rfl (by rw[TY,N]) (by omega) hm hv k1 k2;rw[Bf,Ep,OM];exact k
end
theorem jI{p:LI}{C:Nat}:∀ (n:Nat) (x:Iv) (m:Nat),IvOk C m x->C+m+n+1<3000->∀ y∈ID p n x,IvOk C (m+n) y:=by
 intro n;induction n with
 | zero =>
  intro x m hx _ y hy;simp only[ID] at hy;split at hy
  ·cases hy
  ·rcases D4.1 hy with rfl | hy
   ·exact hx
   ·cases hy
 | succ n ih =>
  intro x m hx hC y hy;have up:IvOk C (m+(n+1)) x:=⟨hx.gr,hx.gt,by have:=hx.a;omega,by have:=hx.b;omega,hx.vr,hx.vt⟩;simp only[ID] at hy;split at hy
  ·cases hy
  ·split at hy
   ·rcases D4.1 hy with rfl | hy
    ·exact up
    ·cases hy
   ·obtain⟨S,o2,_,_⟩:=Axj hx (by omega);rcases Cc.1 hy with hy | hy
    ·have:=ih x.lf (m+1) S (by omega) y hy;rwa [show m+1+n=m+(n+1) by omega] at this
    ·have:=ih x.rg (m+1) o2 (by omega) y hy;rwa [show m+1+n=m+(n+1) by omega] at this
theorem QR{p:LI}{K:Nat}(h:u K p)(hK:K<=256)(hl:p.length<=17):D_ p=false:=by
 have ht:=Bp p;unfold D_;rw[decide_eq_false (by omega),Bool.false_or,X1];intro x hx;have:=(h.trim.mem x hx).len;unfold Zb;simp only[decide_eq_true_eq];omega
def Kj(p:LI)(n:Nat)(x:Iv):List Iv:=if (BW p).length<2 then [] else ID p n x
def Iv.out(p:LI)(x:Iv):Rt:=⟨p.map V,V (Q x.r),(x.a:Nat),V (Q x.t),(x.b:Nat)⟩
theorem aV{p:LI}(h:0<(BW p).length):(BW p).getD 0 []=A9k p:=by
 unfold BW at h |-;split at h
 ·simp at h
 ·rename_i g;rw[if_neg g];rfl
section
variable {rs:List Rn} (hg:∀ r∈rs,AO 5 r) (hn:rs.length<=9)
include hg hn
theorem Agt{n:Nat}{x:Iv}{C m:Nat}(hx:IvOk C m x)(hC:C+m+n+1<3000){E:Nat}(hE:E<=1000000)(hd:Deep (P rs) E n x)(hL:(ID (P rs) n x).length<=1000*1000) :
  RQ 56 [Y pc rs,j x.r (x.a:Nat),j x.t (x.b:Nat),D O (E:Nat)] (.frs (.tp true) 7 ((Kj (P rs) n x).map (G1 (A9k (P rs)))).length (Fu ((Kj (P rs) n x).map (G1 (A9k (P rs)))))) \/
  RQ 56 [Y pc rs,j x.r (x.a:Nat),j x.t (x.b:Nat),D O (E:Nat)] (Ax [H ((Kj (P rs) n x).map (G1 (A9k (P rs)))).length (Fu ((Kj (P rs) n x).map (G1 (A9k (P rs))))),F true]):=by
 have hch:=OH hg hn;have hnice:=Kx hg hn;have hlen:=Ip hg hn;unfold Kj;by_cases c:(BW (P rs)).length<2
 ·rw[if_pos c];exact .inl (Afo rs _ x.r x.t _ _ _ (by rw[decide_eq_true_eq,M2];omega) hch)
 ·rw[if_neg c];have x1:=G0 hnice hx.gr x.a (by have:=hx.a;omega) (by omega);have x2:=G0 hnice hx.gt x.b (by have:=hx.b;omega) (by omega);have sp:=sA hnice hlen (by omega) (aV (by omega)) hE n x C m hx hC hd hL;rw[N];exact .inr (Afp rs _ x.r x.t _ _ _ _ _ true _ _ (by rw[decide_eq_false_iff_not,M2];omega) hch x1 x2 sp)
theorem Axk(h0:A9l (P rs) ≠ [])(hl:D_ (P rs)=false){n:Nat}{x:Iv}{C m:Nat}(hx:IvOk C m x)(hC:C+m+n+1<3000)(hd:Deep (P rs) 896 n x)(hL:(ID (P rs) n x).length<=1000*1000)
  (e1:Zi x.r (x.a:Nat)=true) (e2:Zi x.t (x.b:Nat)=true) (hle:¬ Bm (Q x.r) x.a (Q x.t) x.b>0) :
  RQ 15 [Y pc rs,j x.r (x.a:Nat),j x.t (x.b:Nat)] (Ax [H (Kj (P rs) n x).length (Fu ((Kj (P rs) n x).map (Iv.out (A9k (P rs))))),D O 0]):=by
 have s1:=OK hg (by omega) (by omega);rw[hl] at s1;have dg:=Hf (fun r h=>(hg r h).mono (by omega)) (show rs.length<=1048576 by omega);have htl:=F9 (P rs);rw[A9z] at htl;have hpos:=Am.2 h0;have y1:=jH (e:=(x.a:Nat)) hx.gr;have y2:=jH (e:=(x.b:Nat)) hx.gt;rw[e1] at y1;rw[e2] at y2;have cm:=Ir (hx.gr.mono (show 100<=200 by omega)) (hx.gt.mono (show 100<=200 by omega)) (a:=x.a) (b:=x.b) (by have:=hx.a;omega) (by have:=hx.b;omega);have ri:=Agt hg hn hx hC (E:=896) (by omega) hd hL;obtain⟨k1,k2⟩:=Y_ h0 (by rw[A9z];exact hn) (Jd (CP hg));have lf:=(Cu h0).1;have htl2:=Bp (P rs);rw[A9z] at htl2;have hsm:=OK (rs:=(A9k (P rs)).map V) (K:=8) (AR k1) (by omega) (by rw[N];omega);rw[AJ,QR k1 (by omega) (by omega)] at hsm;have htr:=I_ (rs:=(A9k (P rs)).map V) (fun r h=>(AR k1 r h).mono (show 8<=1048576 by omega)) (by rw[N];omega);rw[AJ,lf] at htr;have hok:∀ y∈Kj (P rs) n x,IvOk C (m+n) y:=by
  unfold Kj;split
  ·intro y hy;cases hy
  ·exact jI n x m hx hC
 have hlen:(Kj (P rs) n x).length<=1000*1000:=by unfold Kj;split <;> simp <;> omega
 generalize Kj (P rs) n x=L at *
 generalize hq:A9k (P rs)=q at *
 have step:∀ i,i<L.length->Ar Va (NE rs (L.map (G1 q)) i (Fu ((L.take i).map (Iv.out q))) ((L.map (G1 q)).length:Nat) (i:Nat)) .norm (NE rs (L.map (G1 q)) (i+1) (Fu ((L.take (i+1)).map (Iv.out q))) ((L.map (G1 q)).length:Nat) ((i+1:Nat):Int)):=by
  intro i hi;have ei:I O ((i:Int)+1)=((i+1:Nat):Int):=by rw[Bl (by omega) (by omega)];omega
  have hy:=hok L[i] (CY hi);have eg:(L.map (G1 q)).getD (A (i:Int)) s=G1 q L[i]:=by
   rw[R,Z,CL,Ah hi];rfl
  have gr:=hy.gr;have gt:=hy.gt;have c1:=iM L[i].r (L[i].a:Nat) _ (Nf (neg:=L[i].r.1) gr.1 (by have:=gr.2;omega));have c2:=iM L[i].t (L[i].b:Nat) _ (Nf (neg:=L[i].t.1) gt.1 (by have:=gt.2;omega));have ro:=A3o (q.map V) L[i].r L[i].t (L[i].a:Nat) (L[i].b:Nat) _ _ _ _ _ (E3 htr) c1 c2;have k:=A3w rs (L.map (G1 q)) i (Fu ((L.take i).map (Iv.out q))) ((L.map (G1 q)).length:Nat) (i:Nat) (q.map V) (Q L[i].r) (L[i].a:Nat) (Q L[i].t) (L[i].b:Nat) true (by rw[decide_eq_true_eq,N];omega) rfl (by rw[N];omega) (by omega) (by rw[eg];exact hsm) (by rw[eg];exact ro);have et:Fu ((L.take (i+1)).map (Iv.out q))=Fu ((L.take i).map (Iv.out q))++([H (q.map V).length (pc (q.map V)),F ((V (Q L[i].r)).1),H ((V (Q L[i].r)).2.length) (W (V (Q L[i].r)).2),D O (L[i].a:Nat),F ((V (Q L[i].t)).1),H ((V (Q L[i].t)).2.length) (W (V (Q L[i].t)).2),D O (L[i].b:Nat)]:List AV):=by
   rw[tA hi,Ep,OM];rfl
  rw[ei] at k;rw[et];exact k
 have lp:=C1.up (prog:=AZ) (c:=Va) (ex := .exit 1) (fin:=NE rs (L.map (G1 q)) L.length (Fu ((L.take L.length).map (Iv.out q))) ((L.map (G1 q)).length:Nat) (L.length:Int))
  (fun i=>NE rs (L.map (G1 q)) i (Fu ((L.take i).map (Iv.out q))) ((L.map (G1 q)).length:Nat) (i:Nat)) L.length (by nofun) step (A3x _ _ _ _ _ _ (by rw[decide_eq_false_iff_not,N];omega)) 0 (By _)
 rw[EE] at lp;rcases ri with ri | ri
 ·exact iR rs x.r x.t _ _ _ _ _ true true true true (L.map (G1 q)) _ _ rfl (by rw[decide_eq_false_iff_not];omega) rfl rfl (decide_eq_false hle) rfl s1 dg y1 y2 cm ri lp
 ·exact iS rs x.r x.t _ _ _ _ _ true true true true (L.map (G1 q)) _ _ rfl (by rw[decide_eq_false_iff_not];omega) rfl rfl (decide_eq_false hle) rfl s1 dg y1 y2 cm ri lp
end
section
variable {rs ss:List Rn} (hg:∀ r∈rs,AO 5 r) (hn:rs.length<=9) {x y:Iv} {C m:Nat} (hx:IvOk C m x)
include hg hn hx
theorem Agu(hg2:∀ r∈ss,AO 5 r)(hn2:ss.length<=9)(hy:IvOk C m y)(v1:Px rs x.r (x.a:Nat) x.t (x.b:Nat)=true)(v2:Px ss y.r (y.a:Nat) y.t (y.b:Nat)=true){z:Int}
  (h:RQ 74 [x.av (A9k (P rs)),y.av (A9k (P ss))] (D O z)) :
  RQ 23 [B7 rs x.r (x.a:Nat) x.t (x.b:Nat),B7 ss y.r (y.a:Nat) y.t (y.b:Nat)] (Ax [D O z,D O 0]):=by
 have g1:=WS hg hn hx.gr hx.gt (x.a:Nat) (x.b:Nat);have g2:=WS hg2 hn2 hy.gr hy.gt (y.a:Nat) (y.b:Nat);rw[v1] at g1;rw[v2] at g2;exact Afu rs x.r x.t _ _ ss y.r y.t _ _ _ _ z true true rfl rfl g1 g2 (Zg hg hn x.r x.t _ _) (Zg hg2 hn2 y.r y.t _ _) h
end
theorem Axl(x:Int)(a:Nat)(y:Int)(b:Nat):Qa x a y b*(2*(2^a*2^b))=(x*2^b+y*2^a)*2^ND x a y b:=by
 have hz:=OJ (max a b+1) (IA x a y b);obtain⟨N,hN⟩:=KD (max a b+1) (IA x a y b);have hS:IA x a y b=x*2^(max a b-a)+y*2^(max a b-b):=rfl;unfold Qa ND;generalize IA x a y b=S at *
 generalize DO S (max a b+1)=z at *
 have pz:=Bt z;have e:S / 2^z=N:=by rw[hN];exact BX _ (by omega)
 rw[e];obtain⟨k,hk⟩:∃ k,max a b+1=z+k:=⟨max a b+1-z,by omega⟩;rw[show max a b+1-z=k by omega];have hz2:(2:Int)^z*2^k=2*2^max a b:=by rw[<- BG,<- hk,A2,AA]
 have ea:(2:Int)^max a b=2^(max a b-a)*2^a:=by rw[<- BG];congr 1;omega
 have eb:(2:Int)^max a b=2^(max a b-b)*2^b:=by rw[<- BG];congr 1;omega
 generalize (2:Int)^max a b=M at *
 generalize (2:Int)^(max a b-a)=u at *
 generalize (2:Int)^(max a b-b)=v at *
 generalize (2:Int)^a=A at *
 generalize (2:Int)^b=B at *
 generalize (2:Int)^z=Z at *
 generalize (2:Int)^k=K at *
 apply G8 (show Z ≠ 0 by omega);have e1:Z*(N*(2*(A*B)))=(x*u+y*v)*(2*(A*B)):=by rw[<- hS,hN];grind
 have e2:Z*((x*B+y*A)*K)=(x*B+y*A)*(2*M):=by rw[<- hz2];grind
 have e3:x*B*(2*M)=x*u*(2*(A*B)):=by rw[ea];grind
 have e4:y*A*(2*M)=y*v*(2*(A*B)):=by rw[eb];grind
 rw[e1,e2,G4,G4,e3,e4]
end Go.Proofs.YtajompaehjkgkaaGreat
namespace Go.Ai
open Classical renaming byContradiction->A4
open Decidable renaming decide->A9i
open Int renaming add_mul->G4,add_zero->BE,le_of_eq->HZ,le_of_lt->Aw,le_of_mul_le_mul_left->ET,le_refl->C',le_trans->Eo,lt_of_lt_of_le->SK,lt_trichotomy->IH,mul_add->CT,mul_assoc->AF,mul_comm->AA,mul_le_mul->Eb,mul_le_mul_of_nonneg_left->Aj,mul_le_mul_of_nonneg_right->Ae,mul_ne_zero->Ba,mul_neg_of_neg_of_pos->II,mul_neg_of_pos_of_neg->IE,mul_nonneg->A6,mul_one->De,mul_pos->Be,mul_pow->Q',mul_sub->Fr,mul_zero->AI,natAbs->E,natAbs_mul->BT,natAbs_natCast->BO,natCast_add->Ky,natCast_mul->Dj,natCast_nonneg->HH,natCast_pow->CH,ofNat_le->sN,ofNat_lt->A7v,one_mul->Dt,pow_pos->EQ,pow_succ->A2,pow_zero->Da,sub_mul->Aym,sub_self->P9,zero_mul->CX
open List renaming cons_append->Ii,countP_eq_length_filter->HI,eq_nil_of_length_eq_zero->A7,getD_eq_getElem?_getD->Z,getElem?_eq_getElem->Ah,length_cons->Bz,length_eq_countP_add_countP->tB,length_map->N,length_pos_iff->Am,length_range->BI,length_tail->Tf,length_take->AB,map_append->Ep,map_cons->C8,map_nil->FU,mem_cons->D4,mem_cons_of_mem->Bh,mem_cons_self->B4,mem_filter->IQ,mem_iff_getElem->JK,mem_of_mem_take->C5,range->Aq,range_succ->H3,take_sublist->A9f
open Nat renaming add_assoc->DE,add_sub_cancel->IJ,div_add_mod->kS,div_div_eq_div_mul->jK,div_lt_of_lt_mul->sB,eq_zero_or_pos->FJ,le_mul_of_pos_left->X_,le_mul_of_pos_right->Cf,le_of_not_lt->N7,le_refl->Ap,le_trans->Bx,mod_eq_of_lt->F1,mod_lt->HR,mul_add->A9e,mul_add_mod->Ayu,mul_assoc->EL,mul_comm->CZ,mul_le_mul->B2,mul_le_mul_left->AAd,mul_le_mul_right->AE,mul_one->GI,mul_pos->E9,mul_zero->bH,not_lt_zero->QW,pow_le_pow_right->B8,pow_pos->C9,pow_succ->FL,succ_mul->Ll,zero_le->By
open Rat renaming div_def->Ayn,intCast_add->K1,intCast_le_intCast->BK,intCast_mul->CW,intCast_natCast->DC,intCast_neg->Ahr,intCast_sub->kT,inv_pos->Ayp,le_of_lt->Hr,mul_le_mul_of_nonneg_left->UB,mul_le_mul_of_nonneg_right->Jz,mul_lt_mul_of_pos_right->KG,mul_nonneg->Fb,mul_pos->HG,natCast_add->QY,natCast_le_natCast->jR,natCast_mul->GO,one_mul->Ayo,pow_succ->A8r
theorem aW:∀ (M N:Nat) (φ:Nat->Nat),(∀ i,i<N->φ i<M)->M<N->∃ i j,i<j/\j<N/\φ i=φ j
 | 0,N,φ,h,hN=>absurd (h 0 hN) (QW _)
 | M+1,N,φ,h,hN=>by
  by_cases h0:∃ i,i<N/\φ i=M
  ·obtain⟨i,hi,ei⟩:=h0;by_cases h1:∃ j,j<N/\j ≠ i/\φ j=M
   ·obtain⟨j,hj,hne,ej⟩:=h1;rcases Nat.lt_or_gt_of_ne hne with g | g
    ·exact⟨j,i,g,hi,by omega⟩
    ·exact⟨i,j,g,hj,by omega⟩
   ·have other:∀ j,j<N->j ≠ i->φ j<M:=fun j hj hne=>by
     have:=h j hj;have:φ j ≠ M:=fun e=>h1 ⟨j,hj,hne,e⟩;omega
    obtain⟨a,b,hab,hb,e⟩:=aW M (N-1) (fun k=>φ (if k<i then k else k+1)) (fun k hk=>other _ (by split <;> omega) (by split <;> omega)) (by omega);refine⟨if a<i then a else a+1,if b<i then b else b+1,by split <;> split <;> omega,by split <;> omega,e⟩
  ·obtain⟨a,b,hab,hb,e⟩:=aW M N φ (fun i hi=>by
    have:=h i hi;have:φ i ≠ M:=fun e=>h0 ⟨i,hi,e⟩;omega) (by omega)
   exact⟨a,b,hab,hb,e⟩
def K0(B v i:Nat):Nat:=v / (B+1)^i % (B+1)
theorem aX(B v i:Nat):K0 B v i<=B:=by
 have:=HR (v / (B+1)^i) (show 0<B+1 by omega);unfold K0;omega
theorem jJ(B:Nat):∀ (k v w:Nat),v<(B+1)^k->w<(B+1)^k->(∀ i,i<k->K0 B v i=K0 B w i)->v=w
 | 0,v,w,hv,hw,_=>by simp at hv hw;omega
 | k+1,v,w,hv,hw,h=>by
  have h0:=h 0 (by omega);simp only[K0,Nat.pow_zero,Nat.div_one] at h0;have hd:v / (B+1)=w / (B+1):=by
   apply jJ B k
   ·rw[FL] at hv;exact sB (by rw[CZ];exact hv)
   ·rw[FL] at hw;exact sB (by rw[CZ];exact hw)
   ·intro i hi;have:=h (i+1) (by omega);simp only[K0] at this |-;rw[jK,jK,CZ (B+1),<- FL];exact this
  have e1:=kS v (B+1);have e2:=kS w (B+1);rw[hd] at e1;omega
def En(f:Nat->Int):Nat->Int
 | 0=>0
 | n+1=>En f n+f n
theorem Zj(f g:Nat->Int):∀ n,En (fun i=>f i-g i) n=En f n-En g n
 | 0=>rfl
 | n+1=>by simp only[En];rw[Zj f g n];omega
theorem KF{f g:Nat->Int}:∀ {n},(∀ i,i<n->f i=g i)->En f n=En g n
 | 0,_=>rfl
 | n+1,h=>by simp only[En];rw[KF fun i hi=>h i (by omega),h n (by omega)]
theorem Zk{f:Nat->Int}{A:Nat}:∀ n,(∀ i,i<n->(f i).natAbs<=A)->(En f n).natAbs<=n*A
 | 0,_=>by simp[En]
 | n+1,h=>by
  have h1:=Zk n fun i hi=>h i (by omega);have h2:=h n (by omega);simp only[En,Ll];omega
def J2(t:Nat->Nat)(Q:Nat):Nat->Nat
 | 0=>0
 | m+1=>J2 t Q m*Q+t m
theorem jL{t:Nat->Nat}{Q:Nat}:∀ m,(∀ j,j<m->t j<Q)->J2 t Q m<Q^m
 | 0,_=>by simp[J2]
 | m+1,h=>by
  have h1:=jL m fun j hj=>h j (by omega);have h2:=h m (by omega);simp only[J2,FL];have:(J2 t Q m+1)*Q<=Q^m*Q:=AE _ h1;rw[Ll] at this;omega
theorem Zl{t u:Nat->Nat}{Q:Nat}:∀ m,(∀ j,j<m->t j<Q)->(∀ j,j<m->u j<Q)->J2 t Q m=J2 u Q m->∀ j,j<m->t j=u j
 | 0,_,_,_,j,hj=>absurd hj (QW _)
 | m+1,ht,hu,h,j,hj=>by
  have h1:=ht m (by omega);have h2:=hu m (by omega);simp only[J2] at h;have e1:(J2 t Q m*Q+t m) % Q=(J2 u Q m*Q+u m) % Q:=by rw[h]
  rw[CZ,Ayu,F1 h1,CZ,Ayu,F1 h2] at e1;have e2:J2 t Q m=J2 u Q m:=Nat.eq_of_mul_eq_mul_right (show 0<Q by omega) (by omega);by_cases hjm:j=m
  ·rw[hjm];exact e1
  ·exact Zl m (fun j hj=>ht j (by omega)) (fun j hj=>hu j (by omega)) e2 j (by omega)
theorem A4l(k C:Nat)(a:Nat->Nat->Int)(ha:∀ j i,(a j i).natAbs<=C)(hC:0<C)(hk:1<=k) :
  ∃ d:Nat->Int,(∀ i,(d i).natAbs<=(2*(k*C))^(k-1))/\(∃ i,i<k/\d i ≠ 0)/\∀ j,j<k-1->En (fun i=>a j i*d i) k=0:=by
 have hS:0<k*C:=E9 hk hC;generalize hB:(2*(k*C))^(k-1)=B;have hval:∀ v j,(En (fun i=>a j i*(K0 B v i:Int)) k).natAbs<=k*C*B:=by
  intro v j;have:=Zk (f:=fun i=>a j i*(K0 B v i:Int)) (A:=C*B) k (fun i _=>by
   rw[BT,BO];exact B2 (ha j i) (aX B v i))
  rwa [<- EL] at this
 have ht:∀ v j,(En (fun i=>a j i*(K0 B v i:Int)) k+(k*C*B:Nat)).toNat<2*(k*C*B)+1:=by
  intro v j;have:=hval v j;omega
 have hlt:(2*(k*C*B)+1)^(k-1)<(B+1)^k:=by
  have h1:(2*(k*C*B)+1)^(k-1)<=(2*(k*C)*(B+1))^(k-1):=by
   apply Nat.pow_le_pow_left;have:2*(k*C)*(B+1)=2*(k*C*B)+2*(k*C):=by rw[A9e,GI,EL 2]
   omega
  rw[Nat.mul_pow,hB] at h1;have h2:(B+1)^k=(B+1)^(k-1)*(B+1):=by rw[<- FL];congr 1;omega
  have h3:0<(B+1)^(k-1):=C9 (by omega);have h4:(B+1)^(k-1)*B=B*(B+1)^(k-1):=CZ ..;rw[h2,A9e,GI];omega
 obtain⟨v,w,hvw,hw,e⟩:=aW _ _ (fun v=>J2 (fun j=>(En (fun i=>a j i*(K0 B v i:Int)) k+(k*C*B:Nat)).toNat) (2*(k*C*B)+1) (k-1)) (fun v _=>jL _ (fun j _=>ht v j)) hlt;have he:=Zl (k-1) (fun j _=>ht v j) (fun j _=>ht w j) e;refine⟨fun i=>(K0 B w i:Int)-(K0 B v i:Int),fun i => ?_,?_,fun j hj => ?_⟩
 ·have h1:=aX B v i;have h2:=aX B w i;show ((K0 B w i:Int)-(K0 B v i:Int)).natAbs<=B;omega
 ·apply A4;intro hn;have:=jJ B k v w (by omega) hw (fun i hi=>by
   apply A4;intro g;exact hn ⟨i,hi,by show (K0 B w i:Int)-(K0 B v i:Int) ≠ 0;omega⟩)
  omega
 ·have h1:(En (fun i=>a j i*(K0 B v i:Int)) k+(k*C*B:Nat)).toNat=(En (fun i=>a j i*(K0 B w i:Int)) k+(k*C*B:Nat)).toNat:=he j hj;have h2:=hval v j;have h3:=hval w j;have h4:=Zj (fun i=>a j i*(K0 B w i:Int)) (fun i=>a j i*(K0 B v i:Int)) k;have h5:En (fun i=>a j i*((K0 B w i:Int)-(K0 B v i:Int))) k=En (fun i=>a j i*(K0 B w i:Int)-a j i*(K0 B v i:Int)) k:=KF fun i _=>Fr ..;rw[h5,h4];omega
def comb(d:Nat->Int)(b:Nat->LI):Nat->LI
 | 0=>[]
 | n+1=>DB (comb d b n) (A0 (d n) (b n))
theorem Xa(d:Nat->Int)(b:Nat->LI)(j:Nat):∀ n,(comb d b n).getD j 0=En (fun i=>(b i).getD j 0*d i) n
 | 0=>by simp[comb,En]
 | n+1=>by
  simp only[comb,En];rw[Dl,AK,Xa d b j n,AA (d n)]
theorem Ub(d:Nat->Int)(b:Nat->LI)(x:Int):∀ n,Aa (comb d b n) x=En (fun i=>d i*Aa (b i) x) n
 | 0=>by simp[comb,En,Aa]
 | n+1=>by
  simp only[comb,En];rw[BU,Az,Ub d b x n]
theorem Xb{f:Nat->Int}:∀ {n},(∀ i,i<n->f i=0)->En f n=0
 | 0,_=>rfl
 | n+1,h=>by simp only[En];rw[Xb fun i hi=>h i (by omega),h n (by omega)];rfl
theorem Uc(b:Nat->LI)(k C:Nat)(hb:∀ i j,((b i).getD j 0).natAbs<=C)(hC:0<C)(hk:1<=k)(hl:∀ i,i<k->(b i).length<=k) :
  ∃ (d:Nat->Int) (R:Int),(∀ i,(d i).natAbs<=(2*(k*C))^(k-1))/\(∃ i,i<k/\d i ≠ 0)/\∀ x,En (fun i=>d i*Aa (b i) x) k=R:=by
 obtain⟨d,h1,h2,h3⟩:=A4l k C (fun j i=>(b i).getD (j+1) 0) (fun j i=>hb i (j+1)) hC hk;refine⟨d,(comb d b k).getD 0 0,h1,h2,fun x => ?_⟩;rw[<- Ub];have hz:∀ j,(comb d b k).getD j 0=[(comb d b k).getD 0 0].getD j 0:=by
  intro j;cases j with
  | zero=>rfl
  | succ j =>
   show _=0;rw[Xa];by_cases hj:j<k-1
   ·exact h3 j hj
   ·exact Xb fun i hi=>by rw[B0 (by have:=hl i hi;omega),CX]
 have e:A9l (comb d b k)=A9l [(comb d b k).getD 0 0]:=E' hz;rw[<- Ei (comb d b k),e,Ei];simp[Aa]
def Sj(f:LI):LI:=DB (A0 ((f.length-1:Nat):Int) f) (A0 (-1) (Dn 1 (As f)))
theorem sC(f:LI)(x:Int):Aa (Sj f) x=((f.length-1:Nat):Int)*Aa f x-x*Aa (As f) x:=by
 unfold Sj;rw[BU,Az,Az,Ds,A2,Da,Dt];omega
theorem Zm(f:LI)(i:Nat):(Sj f).getD i 0=(((f.length-1:Nat):Int)-(i:Int))*f.getD i 0:=by
 unfold Sj;rw[Dl,AK,AK,Cm];cases i with
 | zero=>simp
 | succ i =>
  rw[if_pos (by omega),Dm,IJ];rw[Aym];have:f.getD (i+1) 0*((i+1:Nat):Int)=((i+1:Nat):Int)*f.getD (i+1) 0:=AA ..;omega
theorem jM(f:LI):(Sj f).length<=f.length-1:=by
 have h:∀ i,f.length-1<=i->(Sj f).getD i 0=0:=by
  intro i hi;rw[Zm];by_cases e:i=f.length-1
  ·rw[e,P9,CX]
  ·rw[B0 (show f.length<=i by omega),AI]
 apply A4;intro hn;have hl:BZ (Sj f):=by
  show A9l _=_;unfold Sj DB;rw[GY]
 exact E1 hl (fun e=>by rw[e] at hn;simp at hn) (h _ (by omega))
def sD(f:LI)(m i:Nat):LI:=if i<m then Dn i (Sj f) else Dn (i-m) (As f)
theorem Te(f:Nat->Int)(m:Nat):∀ k,En f (m+k)=En f m+En (fun i=>f (m+i)) k
 | 0=>by simp[En]
 | k+1=>by
  rw[<- DE];simp only[En];rw[Te f m k];omega
theorem JD(d:Nat->Int)(x:Int):∀ m,En (fun i=>d i*x^i) m=Aa ((Aq m).map d) x
 | 0=>rfl
 | m+1=>by
  simp only[En];rw[JD d x m,H3,Ep];have:∀ (l:LI) (a:Int),Aa (l++[a]) x=Aa l x+a*x^l.length:=by
   intro l a;induction l with
   | nil=>simp[Aa]
   | cons b l ih =>
    simp only[Ii,Aa,Bz];rw[ih,A2];grind
  rw[C8,FU,this,N,BI]
theorem M7(f:Nat->Int)(c:Int):∀ m,En (fun i=>f i*c) m=En f m*c
 | 0=>by simp[En]
 | m+1=>by simp only[En];rw[M7 f c m,G4]
theorem Axm{f:LI}{n:Nat}(hn:f.length=n+1)(h2:2<=n)(hp:(As f).length=n){i:Nat}(hi:i<(n-1)+(n-1)):(sD f (n-1) i).length<=(n-1)+(n-1):=by
 have:=jM f;unfold sD;split
 ·rw[Hn];omega
 ·rw[Hn];omega
theorem sE{f:LI}{n A:Nat}(hn:f.length=n+1)(hA:∀ i,(f.getD i 0).natAbs<=A)(i j:Nat):((sD f (n-1) i).getD j 0).natAbs<=n*A:=by
 have hh:∀ j,((Sj f).getD j 0).natAbs<=n*A:=by
  intro j;rw[Zm,hn,BT];by_cases hj:j<=n
  ·exact B2 (by omega) (hA j)
  ·rw[B0 (by omega)];simp
 have hd:∀ j,((As f).getD j 0).natAbs<=n*A:=by
  intro j;rw[Dm,BT,CZ];by_cases hj:j<n
  ·exact B2 (by omega) (hA (j+1))
  ·rw[B0 (by omega)];simp
 unfold sD;split
 ·rw[Cm];split
  ·exact hh _
  ·simp
 ·rw[Cm];split
  ·exact hd _
  ·simp
theorem jN{f:LI}{n A:Nat}(hn:f.length=n+1)(h2:2<=n)(hp:(As f).length=n)(hA:∀ i,(f.getD i 0).natAbs<=A)(hA0:0<A) :
  ∃ (d:Nat->Int) (R:Int),(∀ i,(d i).natAbs<=(2*(((n-1)+(n-1))*(n*A)))^((n-1)+(n-1)-1))/\(∃ i,i<(n-1)+(n-1)/\d i ≠ 0) /\
   ∀ x,Aa ((Aq (n-1)).map d) x*Aa (Sj f) x+Aa ((Aq (n-1)).map fun i=>d (n-1+i)) x*Aa (As f) x=R:=by
 obtain⟨d,R,h1,h3,h4⟩:=Uc (sD f (n-1)) ((n-1)+(n-1)) (n*A) (sE hn hA) (E9 (by omega) hA0) (by omega) (fun i hi=>Axm hn h2 hp hi);refine⟨d,R,h1,h3,fun x => ?_⟩;rw[<- h4 x,Te,<- JD,<- JD,<- M7,<- M7];congr 1
 ·apply KF;intro i hi;unfold sD;rw[if_pos hi,Ds,AF]
 ·apply KF;intro i hi;unfold sD;rw[if_neg (by omega),Ds,show n-1+i-(n-1)=i by omega,AF]
def pq:LI->Rat->Rat
 | [],_=>0
 | a::p,x=>(a:Rat)+x*pq p x
def pd:LI->Rat->Rat
 | [],_=>0
 | _::p,x=>pq p x+x*pd p x
def dD:LI->Rat->Rat->Rat
 | [],_,_=>0
 | _::p,a,b=>pq p a+b*dD p a b
def dE:LI->Rat->Rat->Rat
 | [],_,_=>0
 | _::p,a,b=>dD p a b+b*dE p a b+pd p a
def dT:LI->Rat->Rat->Rat
 | [],_,_=>0
 | _::p,a,b=>b*dT p a b+pd p a
def dS:LI->Rat->Rat->Rat
 | [],_,_=>0
 | _::p,a,b=>a*dS p a b-dT p a b+dE p a b
theorem Lb(a b:Rat):∀ f,pq f b=pq f a+(b-a)*dD f a b
 | []=>by simp[pq,dD];grind
 | c::p=>by
  have:=Lb a b p;simp only[pq,dD];grind
theorem jO(a b:Rat):∀ f,pd f b=pd f a+(b-a)*dE f a b
 | []=>by simp[pd,dE];grind
 | c::p=>by
  have h1:=jO a b p;have h2:=Lb a b p;simp only[pd,dE];grind
theorem aY(a b:Rat):∀ f,pq f b=pq f a+(b-a)*pd f a+(b-a)*(b-a)*dT f a b
 | []=>by simp[pq,pd,dT];grind
 | c::p=>by
  have:=aY a b p;simp only[pq,pd,dT];grind
theorem jP(a b:Rat):∀ f,dT f b a=dT f a b+(b-a)*dS f a b
 | []=>by simp[dT,dS];grind
 | c::p=>by
  have h1:=jP a b p;have h2:=jO a b p;simp only[dT,dS];grind
def Bd(x c:Rat):Prop := -c<=x/\x<=c
theorem Bd.add{x y c d:Rat}(h:Bd x c)(g:Bd y d):Bd (x+y) (c+d):=by
 unfold Bd at *
 constructor <;> grind
theorem Bd.sub{x y c d:Rat}(h:Bd x c)(g:Bd y d):Bd (x-y) (c+d):=by
 unfold Bd at *
 constructor <;> grind
theorem Bd.mul{x y c d:Rat}(h:Bd x c)(g:Bd y d):Bd (x*y) (c*d):=by
 unfold Bd at *
 have h1:=Fb (show 0<=c-x by grind) (show 0<=d+y by grind);have h2:=Fb (show 0<=c+x by grind) (show 0<=d-y by grind);have h3:=Fb (show 0<=c-x by grind) (show 0<=d-y by grind);have h4:=Fb (show 0<=c+x by grind) (show 0<=d+y by grind);constructor <;> grind
theorem Bd.pos{x c:Rat}(h:Bd x c):0<=c:=by unfold Bd at h;grind
theorem Bd.zero:Bd 0 0:=by unfold Bd;constructor <;> grind
theorem Bd.mono{x c d:Rat}(h:Bd x c)(g:c<=d):Bd x d:=by unfold Bd at *;constructor <;> grind
theorem A4m{n:Int}{A:Nat}(h:n.natAbs<=A):Bd (n:Rat) (A:Rat):=by
 have h1:((-(A:Int):Int):Rat)<=(n:Rat):=BK.2 (by omega);have h2:(n:Rat)<=((A:Int):Rat):=BK.2 (by omega);unfold Bd;constructor
 ·rwa [Ahr,DC] at h1
 ·rwa [DC] at h2
def zV(X:Nat):Nat->Nat
 | 0=>0
 | n+1=>1+X*zV X n
def zD(X:Nat):Nat->Nat
 | 0=>0
 | n+1=>zV X n+X*zD X n
def zE(X:Nat):Nat->Nat
 | 0=>0
 | n+1=>zD X n+X*zE X n+zD X n
def zT(X:Nat):Nat->Nat
 | 0=>0
 | n+1=>X*zT X n+zD X n
def zS(X:Nat):Nat->Nat
 | 0=>0
 | n+1=>X*zS X n+zT X n+zE X n
section
variable {A X:Nat} {a b:Rat} (ha:Bd a X) (hb:Bd b X)
include ha
theorem N0:∀ f:LI,(∀ c∈f,c.natAbs<=A)->Bd (pq f a) (A*zV X f.length)
 | [],_=>by simpa [pq,zV] using Bd.zero
 | c::p,h=>by
  have ih:=N0 p fun c hc=>h c (Bh _ hc);have h1:=A4m (h c (B4 ..));have:=h1.add (ha.mul ih);simp only[pq,zV,Bz];refine this.mono ?_;simp;grind
theorem sF:∀ f:LI,(∀ c∈f,c.natAbs<=A)->Bd (pd f a) (A*zD X f.length)
 | [],_=>by simpa [pd,zD] using Bd.zero
 | c::p,h=>by
  have hp:∀ c∈p,c.natAbs<=A:=fun c hc=>h c (Bh _ hc);have:=(N0 ha p hp).add (ha.mul (sF p hp));simp only[pd,zD,Bz];refine this.mono ?_;simp;grind
include hb
theorem QS:∀ f:LI,(∀ c∈f,c.natAbs<=A)->Bd (dD f a b) (A*zD X f.length)
 | [],_=>by simpa [dD,zD] using Bd.zero
 | c::p,h=>by
  have hp:∀ c∈p,c.natAbs<=A:=fun c hc=>h c (Bh _ hc);have:=(N0 ha p hp).add (hb.mul (QS p hp));simp only[dD,zD,Bz];refine this.mono ?_;simp;grind
theorem Axn:∀ f:LI,(∀ c∈f,c.natAbs<=A)->Bd (dE f a b) (A*zE X f.length)
 | [],_=>by simpa [dE,zE] using Bd.zero
 | c::p,h=>by
  have hp:∀ c∈p,c.natAbs<=A:=fun c hc=>h c (Bh _ hc);have:=((QS ha hb p hp).add (hb.mul (Axn p hp))).add (sF ha p hp);simp only[dE,zE,Bz];refine this.mono ?_;simp;grind
theorem sG:∀ f:LI,(∀ c∈f,c.natAbs<=A)->Bd (dT f a b) (A*zT X f.length)
 | [],_=>by simpa [dT,zT] using Bd.zero
 | c::p,h=>by
  have hp:∀ c∈p,c.natAbs<=A:=fun c hc=>h c (Bh _ hc);have:=(hb.mul (sG p hp)).add (sF ha p hp);simp only[dT,zT,Bz];refine this.mono ?_;simp;grind
theorem Axo:∀ f:LI,(∀ c∈f,c.natAbs<=A)->Bd (dS f a b) (A*zS X f.length)
 | [],_=>by simpa [dS,zS] using Bd.zero
 | c::p,h=>by
  have hp:∀ c∈p,c.natAbs<=A:=fun c hc=>h c (Bh _ hc);have:=((ha.mul (Axo p hp)).sub (sG ha hb p hp)).add (Axn ha hb p hp);simp only[dS,zS,Bz];refine this.mono ?_;simp;grind
end
theorem far{f U W:LI}{R:Int}{A B X:Nat}{a b e u:Rat}(hR:R ≠ 0)(hid:∀ x,pq U x*pq f x+pq W x*pd f x=(R:Rat))
  (hA:∀ c∈f,c.natAbs<=A) (hB:∀ c∈W,c.natAbs<=B) (ha:Bd a X) (hb:Bd b X) (hab:a<b)
  (hfa:Bd (pq f a) e) (hfb:Bd (pq f b) e) (hUa:Bd (pq U a) u) (hUb:Bd (pq U b) u)
  (he:(b-a)*(u*e+u*e)+(B*zV X W.length+B*zV X W.length)*(e+e)<=b-a) :
  1<=(b-a)*(b-a)*((B*zD X W.length)*(A*zT X f.length)+(B*zV X W.length)*(A*zS X f.length)):=by
 have i1:=hid a;have i2:=hid b;have t1:=aY a b f;have t2:=aY b a f;have t3:=jP a b f;have t4:=Lb a b W;have hd:0<b-a:=by grind
 generalize hD:b-a=d at *
 have hba:a-b = -d:=by grind
 rw[hba] at t2;have key:2*(R:Rat)*d=d*(pq U a*pq f a+pq U b*pq f b)+(pq W a+pq W b)*(pq f b-pq f a)+d*(d*d*(dD W a b*dT f b a+pq W a*dS f a b)):=by
  have s1:d*pd f a=pq f b-pq f a-d*d*dT f a b:=by grind
  have s2:d*pd f b=pq f b-pq f a+d*d*dT f b a:=by grind
  have e1:2*(R:Rat)*d=d*(pq U a*pq f a+pq U b*pq f b)+pq W a*(d*pd f a)+pq W b*(d*pd f b):=by grind
  rw[e1,s1,s2];have e2:pq W b=pq W a+d*dD W a b:=t4;have e3:pq W b*dT f b a-pq W a*dT f a b=d*(dD W a b*dT f b a+pq W a*dS f a b):=by rw[e2,t3];grind
  grind
 have b1:=QS ha hb W hB;have b2:=sG hb ha f hA;have b3:=N0 ha W hB;have b4:=Axo ha hb f hA;have b5:=N0 hb W hB;have bM:=(b1.mul b2).add (b3.mul b4);have bd1:Bd d d:=by unfold Bd;constructor <;> grind
 have berr:=(bd1.mul ((hUa.mul hfa).add (hUb.mul hfb))).add ((b3.add b5).mul (hfb.sub hfa));generalize hM:(B:Rat)*zD X W.length*(A*zT X f.length)+B*zV X W.length*(A*zS X f.length)=M at *
 generalize dD W a b*dT f b a+pq W a*dS f a b=m at *
 generalize d*(pq U a*pq f a+pq U b*pq f b)+(pq W a+pq W b)*(pq f b-pq f a)=err at *
 have berr2:=berr.mono he;have bdd:Bd (d*(d*d*m)) (d*(d*d*M)):=bd1.mul ((bd1.mul bd1).mul bM);apply A4;intro hn;have hlt:d*(d*d*M)<d:=by
  have h1:d*d*M<1:=by grind
  have h2:=Rat.mul_lt_mul_of_pos_left h1 hd;grind
 unfold Bd at berr2 bdd;rcases IH R 0 with g | g | g
 ·have h1:(R:Rat)<=((-1:Int):Rat):=BK.2 (by omega);have h2:(R:Rat) <= -1:=by simpa using h1
  have h3:=UB h2 (Hr hd);grind
 ·exact hR g
 ·have h1:((1:Int):Rat)<=(R:Rat):=BK.2 (by omega);have h2:1<=(R:Rat):=by simpa using h1
  have h3:=UB h2 (Hr hd);grind
theorem Xc(p:LI)(x:Rat):pq p x=(p.getD 0 0:Int)+x*pq p.tail x:=by
 cases p with
 | nil=>simp[pq];grind
 | cons a p=>simp[pq]
theorem QT(p:LI)(i:Nat):p.tail.getD i 0=p.getD (i+1) 0:=by
 cases p <;> simp
theorem vB(c d:Int)(x:Rat):∀ (n:Nat) (p q r:LI),p.length<=n->q.length<=n->r.length<=n->(∀ i,r.getD i 0=c*p.getD i 0+d*q.getD i 0)->pq r x=(c:Rat)*pq p x+(d:Rat)*pq q x
 | 0,p,q,r,hp,hq,hr,_=>by
  have e1:=A7 (show p.length=0 by omega);have e2:=A7 (show q.length=0 by omega);have e3:=A7 (show r.length=0 by omega);subst e1 e2 e3;simp[pq];grind
 | n+1,p,q,r,hp,hq,hr,h=>by
  have ih:=vB c d x n p.tail q.tail r.tail (by rw[Tf];omega) (by rw[Tf];omega) (by rw[Tf];omega) (fun i=>by rw[QT,QT,QT];exact h (i+1));rw[Xc p,Xc q,Xc r,ih,h 0,K1,CW,CW];grind
theorem RT(c d:Int)(x:Rat){p q r:LI}(h:∀ i,r.getD i 0=c*p.getD i 0+d*q.getD i 0):pq r x=(c:Rat)*pq p x+(d:Rat)*pq q x :=
 vB c d x (p.length+q.length+r.length) p q r (by omega) (by omega) (by omega) h
theorem A4n{p q:LI}(h:∀ i,p.getD i 0=q.getD i 0)(x:Rat):pq p x=pq q x:=by
 have:=RT 1 0 x (p:=q) (q:=q) (r:=p) (fun i=>by rw[h i];omega);rw[this];simp;grind
theorem Axp(p q:LI)(x:Rat):pq (DB p q) x=pq p x+pq q x:=by
 have:=RT 1 1 x (p:=p) (q:=q) (r:=DB p q) (fun i=>by rw[Dl];omega);rw[this];simp
theorem Xd(q:LI)(x:Rat):∀ p,pq (BC p q) x=pq p x*pq q x
 | []=>by simp[BC,pq]
 | a::p=>by
  have ih:=Xd q x p;have:=RT a 1 x (p:=q) (q:=0::BC p q) (r:=BC (a::p) q) (fun i=>by simp only[BC];rw[Dl,AK];omega);rw[this];simp only[pq,ih];simp;grind
theorem Axq{p q:LI}(h:∀ x,Aa p x=Aa q x)(x:Rat):pq p x=pq q x:=A4n (Dg h) x
theorem jQ(x:Rat):∀ p,pq (As p) x=pd p x
 | []=>rfl
 | a::p=>by
  have ih:=jQ x p;have:=RT 1 1 x (p:=p) (q:=0::As p) (r:=As (a::p)) (fun i=>by
   rw[Dm];cases i with
   | zero=>simp
   | succ i =>
    show p.getD (i+1) 0*_=1*p.getD (i+1) 0+1*(As p).getD i 0;rw[Dm];have:p.getD (i+1) 0*((i+1+1:Nat):Int)=p.getD (i+1) 0*((i+1:Nat):Int)+p.getD (i+1) 0:=by rw[show ((i+1+1:Nat):Int)=((i+1:Nat):Int)+1 by omega,CT,De]
    omega)
  rw[this];simp only[pq,pd,ih];simp;grind
theorem RU{U f W g:LI}{R:Int}(h:∀ x,Aa U x*Aa f x+Aa W x*Aa g x=R)(x:Rat):pq U x*pq f x+pq W x*pq g x=(R:Rat):=by
 have e:=Axq (p:=DB (BC U f) (BC W g)) (q:=[R]) (fun x=>by rw[BU,AX,AX,h x];simp[Aa]) x;rw[Axp,Xd,Xd] at e;rw[e];simp[pq];grind
theorem P3{l:LI}{c:Int}(h:c∈l):∃ i,c=l.getD i 0:=by
 obtain⟨i,hi,rfl⟩:=JK.1 h;exact⟨i,by rw[Z,Ah hi];rfl⟩
theorem HX(d:Nat->Int)(n i:Nat):((Aq n).map d).getD i 0=if i<n then d i else 0:=Hg d n i
def sH(n A:Nat):Nat:=(2*(((n-1)+(n-1))*(n*A)))^((n-1)+(n-1)-1)
theorem A4o{f:LI}{n A:Nat}(hn:f.length=n+1)(h2:2<=n)(hp:(As f).length=n)(hG:Fk [1] f (As f))(hA:∀ i,(f.getD i 0).natAbs<=A)(hA0:0<A) :
  ∃ (U W:LI) (R:Int),R ≠ 0/\(∀ x,pq U x*pq f x+pq W x*pd f x=(R:Rat))/\W.length<=n/\∀ c∈W,c.natAbs<=2*sH n A:=by
 obtain⟨d,R,hd,⟨i0,hi0,hne⟩,hid⟩:=jN hn h2 hp hA hA0;generalize hUd:(Aq (n-1)).map d=Ud at *
 generalize hVd:((Aq (n-1)).map fun i=>d (n-1+i))=l at *
 have gU:∀ i,Ud.getD i 0=if i<n-1 then d i else 0:=fun i=>by rw[<- hUd];exact HX d (n-1) i
 have gV:∀ i,l.getD i 0=if i<n-1 then d (n-1+i) else 0:=fun i=>by rw[<- hVd];exact HX (fun i=>d (n-1+i)) (n-1) i
 have lU:Ud.length=n-1:=by rw[<- hUd];simp
 have lV:l.length=n-1:=by rw[<- hVd];simp
 have hB:∀ i,(d i).natAbs<=sH n A:=hd;have hid2:∀ x,Aa (A0 (n:Nat) Ud) x*Aa f x+Aa (DB l (A0 (-1) (Dn 1 Ud))) x*Aa (As f) x=R:=by
  intro x;rw[Az,BU,Az,Ds,<- hid x,sC,hn,IJ,A2,Da];grind
 refine⟨A0 (n:Nat) Ud,DB l (A0 (-1) (Dn 1 Ud)),R,?_,fun x => ?_,?_,?_⟩
 ·intro hR;rw[hR] at hid hid2;obtain⟨_,_,c,u,v,hc,huv⟩:=hG;have hlead:A9l (As f)=As f:=by unfold As;rw[GY]
  have hD:Dv (As f) Ud:=by
   refine⟨c*(n:Nat),DB (BC v (A0 (n:Nat) Ud)) (A0 (-1) (BC u (DB l (A0 (-1) (Dn 1 Ud))))),Ba hc (by omega),fun x => ?_⟩;have h1:=huv x;have h3:=hid2 x;rw[Az] at h3;rw[BU,AX,Az,Az,AX];have e1:Aa [1] x=1:=by simp[Aa]
   rw[e1,De] at h1;rw[h1];generalize Aa u x=a at *
   generalize Aa v x=b at *
   generalize Aa (DB l (A0 (-1) (Dn 1 Ud))) x=w at *
   generalize Aa Ud x=y at *
   generalize Aa f x=z at *
   generalize Aa (As f) x=t at *
   have e2:(n:Nat)*y*z = -(w*t):=by omega
   have e3:(a*z+b*t)*(n:Nat)*y=a*((n:Nat)*y*z)+b*t*((n:Nat)*y):=by grind
   rw[e3,e2];grind
  have hU0:A9l Ud=[]:=by
   apply A4;intro hz;have:=(hD.length hz).1;rw[hlead,hp] at this;have:=Bp Ud;omega
  have hUz:=Dd.1 hU0;have hUe:∀ x,Aa Ud x=0:=fun x=>by rw[<- Ei,hU0];rfl
  have hVe:=No (p:=As f) (q:=l) (by rw[hlead];intro e;rw[e] at hp;simp at hp;omega) (fun x=>by
   have:=hid x;rw[hUe x] at this;rw[AA];omega)
  have hVz:∀ i,l.getD i 0=0:=fun i=>by
   have:=Dg (p:=l) (q:=[]) (fun x=>by rw[hVe x];rfl) i;rw[this];rfl
  by_cases hlt:i0<n-1
  ·have:=gU i0;rw[hUz i0,if_pos hlt] at this;exact hne this.symm
  ·have:=gV (i0-(n-1));rw[hVz,if_pos (by omega),show n-1+(i0-(n-1))=i0 by omega] at this;exact hne this.symm
 ·rw[<- jQ];exact RU hid2 x
 ·have h1:=YA l (A0 (-1) (Dn 1 Ud));have h3:(A0 (-1) (Dn 1 Ud)).length=1+Ud.length:=by rw[<- Hn];simp[A0]
  omega
 ·intro c hc;obtain⟨i,rfl⟩:=P3 hc;rw[Dl,AK,Cm,gV];have b1:(if i<n-1 then d (n-1+i) else 0).natAbs<=sH n A:=by
   split
   ·exact hB _
   ·simp
  have b2:(if 1<=i then Ud.getD (i-1) 0 else 0).natAbs<=sH n A:=by
   split
   ·rw[gU];split
    ·exact hB _
    ·simp
   ·simp
  omega
theorem sI(x d:Int)(hd:0<d):∀ p:LI,pq p ((x:Rat) / (d:Rat))*(d:Rat)^p.length=((hv p x d:Int):Rat)*(d:Rat)
 | []=>by simp[pq,hv]
 | t::ts=>by
  have ih:=sI x d hd ts;have h0:(d:Rat) ≠ 0:=by
   intro h;have:=Rat.intCast_inj.1 (show (d:Rat)=((0:Int):Rat) by simpa using h);omega
  simp only[pq,hv,Bz];rw[K1,CW,CW,Rat.intCast_pow,A8r];have e:(x:Rat) / (d:Rat)*(d:Rat)=(x:Rat):=by grind
  generalize pq ts ((x:Rat) / (d:Rat))=y at *
  generalize (d:Rat)^ts.length=z at *
  generalize ((hv ts x d:Int):Rat)=w at *
  generalize (x:Rat) / (d:Rat)=r at *
  grind
theorem A8s(p:LI)(x q:Int):hv p x q=t p x q:=by unfold t;rw [aQ]
theorem RV{d:Rat}(h:0<d):∀ n:Nat,0<d^n
 | 0=>by simp;decide
 | n+1=>by rw[A8r];exact HG (RV h n) h
theorem Lc{d:Int}(h:0<d):0<(d:Rat):=by
 have:=Rat.intCast_lt_intCast.2 h;simpa using this
theorem Tg{u v h:Rat}(hu:u*v<=0)(hd:Bd (v-u) h):Bd u h:=by
 have h0:=hd.pos;unfold Bd at *
 apply A4;intro hn;have:h<u\/u < -h:=by grind
 rcases this with g | g
 ·have hu0:0<u:=by grind
  have hv0:0<v:=by grind
  have:=HG hu0 hv0;grind
 ·have hu0:0 < -u:=by grind
  have hv0:0 < -v:=by grind
  have:=HG hu0 hv0;grind
theorem N1{f:LI}{z d:Int}(hd:0<d)(h:t f z d*t f (z+1) d<=0):pq f ((z:Rat) / (d:Rat))*pq f (((z+1:Int):Rat) / (d:Rat))<=0:=by
 have e1:=sI z d hd f;have e2:=sI (z+1) d hd f;rw[A8s] at e1 e2;have hd0:=Lc hd;have hp:=RV hd0 f.length;have hR:((t f z d:Int):Rat)*((t f (z+1) d:Int):Rat)<=0:=by
  have:=BK.2 h;rw[CW] at this;simpa using this
 generalize pq f ((z:Rat) / (d:Rat))=u at *
 generalize pq f (((z+1:Int):Rat) / (d:Rat))=v at *
 generalize (d:Rat)^f.length=P at *
 generalize ((t f z d:Int):Rat)=a at *
 generalize ((t f (z+1) d:Int):Rat)=b at *
 generalize (d:Rat)=D at *
 apply A4;intro hn;have huv:0<u*v:=by grind
 have h1:=HG huv (HG hp hp);have e3:u*v*(P*P)=a*b*(D*D):=by
  have:u*v*(P*P)=(u*P)*(v*P):=by grind
  rw[this,e1,e2];grind
 have h2:=Fb (show 0 <= -(a*b) by grind) (Hr (HG hd0 hd0));grind
theorem A8t(p:LI)(hp:A9l p ≠ [])(hl:2<=(A9k p).length){x y q:Int}(hq:0<q):∃ c0:Int,0<c0/\∀ c:Int,c0<=c->∀ z:Int,c*x<=z->z<c*y->NF (A9k p) (prim (As (A9k p))) (fun z=>wv 0 (DI (CJ p) z (c*q))) (c*q) z:=by
 obtain⟨lf,hl1,hG,hc⟩:=JB hp hl;have h0:A9k p ≠ []:=by intro h;rw[h] at hl;simp at hl
 obtain⟨Q0,hQ0,hm⟩:=cell ((x.natAbs:Int)+(y.natAbs:Int)) (by omega) lf hl hl1 hG hc (A9k p).length (by omega);refine⟨Q0,hQ0,fun c hcc z h1 h2 => ?_⟩;have hc0:0<c:=by omega
 have hQq:Q0<=c*q:=by
  have:=Aj (show (1:Int)<=q by omega) (show 0<=c by omega);omega
 have hb:∀ z:Int,(z.natAbs:Int)<=(x.natAbs:Int)+(y.natAbs:Int)->((c*z).natAbs:Int)<=((x.natAbs:Int)+(y.natAbs:Int))*(c*q):=by
  intro z hz;have hcq:c<=c*q:=by
   have:=Aj (show (1:Int)<=q by omega) (show 0<=c by omega);omega
  have h2:=Di (a:=c) (A:=c*q) (by omega) hz;have e:c*q*((x.natAbs:Int)+(y.natAbs:Int))=((x.natAbs:Int)+(y.natAbs:Int))*(c*q):=AA ..;omega
 have bx:=hb x (by omega);have by':=hb y (by omega);have e:CJ p=A9k p::H2 (A9k p).length (A9k p) (prim (As (A9k p))):=by unfold CJ;rw[if_neg h0]
 rw[e];exact hm (c*q) z ⟨Be hc0 hq,by omega,by omega⟩ hQq
theorem QU{f g:LI}{W:Int->Int}{q u:Int}(n:Nat)(hc:∀ j:Nat,j<n->NF f g W q (u+(j:Int)))(h:W (u+(n:Int))<W u):∃ j:Nat,j<n/\W (u+(j:Int)+1)<W (u+(j:Int))/\W (u+(j:Int))=W u:=by
 rcases Ik (fun j=>decide (W (u+(j:Int)+1)<W (u+(j:Int)))) n n 0 (by omega) with g1 | ⟨j,_,h2,h3,h4⟩
 ·exfalso;have key:∀ m:Nat,m<=n->W (u+(m:Int))=W u:=by
   intro m;induction m with
   | zero=>intro _;simp
   | succ m ih =>
    intro hm;have i1:=ih (by omega);have i2:=of_decide_eq_false (g1 m (by omega) (by omega));have i3:=(hc m (by omega)).mono;have e:u+((m+1:Nat):Int)=u+(m:Int)+1:=by omega
    rw[e];omega
  have:=key n (Ap _);omega
 ·refine⟨j,h2,of_decide_eq_true h3,?_⟩;have key:∀ m:Nat,m<=j->W (u+(m:Int))=W u:=by
   intro m;induction m with
   | zero=>intro _;simp
   | succ m ih =>
    intro hm;have i1:=ih (by omega);have i2:=of_decide_eq_false (h4 m (by omega) (by omega));have i3:=(hc m (by omega)).mono;have e:u+((m+1:Nat):Int)=u+(m:Int)+1:=by omega
    rw[e];omega
  exact key j (Ap _)
theorem NF.drop{f g:LI}{W:Int->Int}{q x:Int}(h:NF f g W q x)(hd:W (x+1)<W x) :
  W x=W (x+1)+1/\(CG (t g x q)=1\/CG (t g x q) = -1)/\CG (t g (x+1) q)=CG (t g x q)/\CG (t f x q) = -CG (t g x q)/\(t f (x+1) q=0\/CG (t f (x+1) q)=CG (t g x q)):=by
 rcases h with ⟨_,_,h⟩ | ⟨h1,h2,⟨_,_,h⟩ | ⟨h3,h4,h5⟩⟩
 ·omega
 ·omega
 ·exact⟨h5,h1,h2,h3,h4⟩
theorem NF.change{f g:LI}{W:Int->Int}{q x:Int}(h:NF f g W q x)(hd:W (x+1)<W x):t f x q*t f (x+1) q<=0:=by
 obtain⟨_,h1,_,h3,h4⟩:=h.drop hd;rcases h4 with h4 | h4
 ·rw[h4];simp
 ·rcases h1 with e | e
  ·rw[e] at h3 h4;have a:=La.1 h3;have b:=K_.1 h4;have:=II a b;omega
  ·rw[e] at h3 h4;have a:=K_.1 (show CG (t f x q)=1 by omega);have b:=La.1 h4;have:=IE a b;omega
theorem sJ(p:LI)(hp:A9l p ≠ [])(hl:2<=(A9k p).length){x y q:Int}(hq:0<q)(hxy:x<=y)(hV:2<=wv 0 (DI (CJ p) x q)-wv 0 (DI (CJ p) y q)) :
  ∃ c:Int,0<c/\∀ k:Int,0<k->∃ z w:Int,k*c*x<=z/\z+1<=k*c*y/\k*c*x<=w/\w+1<=k*c*y/\z+k<=w /\
   t (A9k p) z (k*c*q)*t (A9k p) (z+1) (k*c*q)<=0/\t (A9k p) w (k*c*q)*t (A9k p) (w+1) (k*c*q)<=0:=by
 obtain⟨c,hc,hg⟩:=A8t p hp hl (x:=x) (y:=y) hq;have sc:∀ c:Int,0<c->∀ z Q,wv 0 (DI (CJ p) (c*z) (c*Q))=wv 0 (DI (CJ p) z Q):=fun c hc z Q=>by rw[Ig _ _ _ _ hc]
 have g1:=hg c (C' _);have hcx:=Aj hxy (Aw hc);have V1:=sc c hc x q;have V2:=sc c hc y q;obtain⟨j1,hj1,d1,e1⟩:=QU (W:=fun z=>wv 0 (DI (CJ p) z (c*q))) (u:=c*x) (c*y-c*x).toNat (fun j hj=>g1 (c*x+(j:Int)) (by omega) (by omega)) (by
  show wv 0 (DI (CJ p) (c*x+((c*y-c*x).toNat:Int)) (c*q))<wv 0 (DI (CJ p) (c*x) (c*q));rw[show c*x+((c*y-c*x).toNat:Int)=c*y by omega];omega)
 obtain⟨D1,_,D3,_,D5⟩:=(g1 (c*x+(j1:Int)) (by omega) (by omega)).drop d1;generalize hz1:c*x+(j1:Int)=z1 at *
 obtain⟨j2,hj2,d2,e2⟩:=QU (W:=fun z=>wv 0 (DI (CJ p) z (c*q))) (u:=z1+1) (c*y-(z1+1)).toNat (fun j hj=>g1 (z1+1+(j:Int)) (by omega) (by omega)) (by
  show wv 0 (DI (CJ p) (z1+1+((c*y-(z1+1)).toNat:Int)) (c*q))<wv 0 (DI (CJ p) (z1+1) (c*q));rw[show z1+1+((c*y-(z1+1)).toNat:Int)=c*y by omega];omega)
 obtain⟨_,E2,_,E4,_⟩:=(g1 (z1+1+(j2:Int)) (by omega) (by omega)).drop d2;have hj20:0<j2:=by
  apply A4;intro hn;have:j2=0:=by omega
  subst this;simp only[Int.natCast_zero,BE] at E2 E4 hz1;have:((0:Nat):Int)=0:=rfl;rcases D5 with k | k
  ·rw[show z1+1+((0:Nat):Int)=z1+1 by omega] at *
   rw[k] at E4;have:CG 0=0:=rfl;omega
  ·rw[show z1+1+((0:Nat):Int)=z1+1 by omega] at *
   omega
 generalize hz2:z1+1+(j2:Int)=z2 at *
 refine⟨c,hc,fun k hk => ?_⟩;have hkc:=Be hk hc;have gk:=hg (k*c) (by
  have:=Ae (show (1:Int)<=k by omega) (Aw hc);omega)
 have scz:∀ z,wv 0 (DI (CJ p) (k*z) (k*c*q))=wv 0 (DI (CJ p) z (c*q)):=fun z=>by rw[AF];exact sc k hk z (c*q)
 have one:∀ z0,c*x<=z0->z0+1<=c*y->wv 0 (DI (CJ p) (z0+1) (c*q))<wv 0 (DI (CJ p) z0 (c*q))->∃ z,k*z0<=z/\z+1<=k*z0+k/\t (A9k p) z (k*c*q)*t (A9k p) (z+1) (k*c*q)<=0:=by
  intro z0 h1 h2 h3;have b1:=Aj h1 (Aw hk);have b2:=Aj h2 (Aw hk);rw[<- AF] at b1 b2;rw[CT,De] at b2;have hcell:∀ j:Nat,j<k.toNat->NF (A9k p) (prim (As (A9k p))) (fun z=>wv 0 (DI (CJ p) z (k*c*q))) (k*c*q) (k*z0+(j:Int)):=fun j hj=>gk _ (by omega) (by omega);obtain⟨j,hj,d,_⟩:=QU (W:=fun z=>wv 0 (DI (CJ p) z (k*c*q))) (u:=k*z0) k.toNat hcell (by
   show wv 0 (DI (CJ p) (k*z0+(k.toNat:Int)) (k*c*q))<wv 0 (DI (CJ p) (k*z0) (k*c*q));rw[show k*z0+(k.toNat:Int)=k*(z0+1) by rw[CT,De];omega,scz,scz];exact h3)
  exact⟨k*z0+(j:Int),by omega,by omega,(hcell j hj).change d⟩
 obtain⟨z,a1,a2,a3⟩:=one z1 (by omega) (by omega) d1;obtain⟨w,b1,b2,b3⟩:=one z2 (by omega) (by omega) d2;have c1:=Aj (show c*x<=z1 by omega) (Aw hk);have c2:=Aj (show z2+1<=c*y by omega) (Aw hk);have c3:=Aj (show z1+2<=z2 by omega) (Aw hk);rw[<- AF] at c1 c2;rw[CT] at c2 c3;exact⟨z,w,by omega,by omega,by omega,by omega,by omega,a3,b3⟩
theorem sK:∀ l:LI,∃ A:Nat,∀ c∈l,c.natAbs<=A
 | []=>⟨0,fun c hc=>by cases hc⟩
 | a::l=>by
  obtain⟨A,h⟩:=sK l;refine⟨A+a.natAbs,fun c hc => ?_⟩;rcases D4.1 hc with rfl | hc
  ·omega
  ·have:=h c hc;omega
theorem Axr{X:Nat}(hX:1<=X):∀ {m n:Nat},m<=n->zV X m<=zV X n/\zD X m<=zD X n:=by
 intro m n h;induction h with
 | refl=>exact⟨Ap _,Ap _⟩
 | step _ ih =>
  rename_i n _;have h1:=AE (zV X n) hX;have h2:=AE (zD X n) hX;simp only[zV,zD];omega
theorem JE{z D:Int}{X:Nat}(hD:0<D)(h1 : -(X*D)<=z)(h2:z<=X*D):Bd ((z:Rat) / (D:Rat)) X:=by
 have hD0:=Lc hD;have g1:=BK.2 h1;have g2:=BK.2 h2;rw[Ahr,CW,DC] at g1;rw[CW,DC] at g2;have e:(z:Rat) / (D:Rat)*(D:Rat)=(z:Rat):=by grind
 generalize (z:Rat) / (D:Rat)=r at *
 rw[<- e] at g1 g2;generalize (D:Rat)=d at *
 unfold Bd;constructor
 ·apply A4;intro hn;have:=KG (show r < -(X:Rat) by grind) hD0;grind
 ·apply A4;intro hn;have:=KG (show (X:Rat)<r by grind) hD0;grind
def Mz(n A X:Nat):Nat:=(2*sH n A*zD X n)*(A*zT X (n+1))+(2*sH n A*zV X n)*(A*zS X (n+1))
theorem sM{p:LI}(hp:A9l p ≠ []){n A X:Nat}(hn:(A9k p).length=n+1)(h2:2<=n)(hA:∀ i,((A9k p).getD i 0).natAbs<=A)(hA0:0<A)(hX:1<=X)
  {x y q:Int} (hq:0<q) (hxy:x<=y) (hx : -(X*q)<=x) (hy:y<=X*q) (hV:2<=wv 0 (DI (CJ p) x q)-wv 0 (DI (CJ p) y q)):q*q<=(y-x)*(y-x)*(Mz n A X:Nat):=by
 have hl:2<=(A9k p).length:=by omega
 obtain⟨_,hl1,hG,_⟩:=JB hp hl;obtain⟨c,hc,hk⟩:=sJ p hp hl hq hxy hV;generalize A9k p=f at *
 have hlead:A9l (As f)=As f:=by unfold As;rw[GY]
 have hpl:(As f).length=n:=by rw[Ca,hlead] at hl1;omega
 obtain⟨m,hm,hme⟩:=Ic (As f);have hG2:Fk [1] f (As f):=Fk.scaled (m:=1) (n:=1) (k:=1) (l:=m) (by decide) (by decide) (by decide) hm (fun _=>rfl) (fun x=>by rw[hme x];omega) hG;obtain⟨U,W,R,hR,hid,hWl,hW⟩:=A4o hn h2 hpl hG2 hA hA0;obtain⟨Au,hAu⟩:=sK U;have hAf:∀ c∈f,c.natAbs<=A:=fun c hc=>by
  obtain⟨i,rfl⟩:=P3 hc;exact hA i
 have mono:=Axr hX hWl;generalize hS:2*sH n A=B at *
 generalize hE:A*zD X f.length=E0;generalize hC:4*X*(Au*zV X U.length)+4*(B*zV X W.length)=C0;obtain⟨z,w,z1,z2,w1,w2,hzw,fz,fw⟩:=hk ((E0*C0+1:Nat):Int) (by omega);generalize hkk:((E0*C0+1:Nat):Int)=k at *
 have hk0:0<k:=by omega
 have hkc:=Be hk0 hc;have hD:0<k*c*q:=Be hkc hq;have sx:=Aj hx (Aw hkc);have sy:=Aj hy (Aw hkc);have ex:k*c * -(X*q) = -(X*(k*c*q)):=by grind
 have ey:k*c*(X*q)=X*(k*c*q):=by grind
 rw[ex] at sx;rw[ey] at sy;have hsub:(w-z)<=k*c*(y-x):=by rw[Fr];omega
 have eD:k*c*q=k*(c*q):=AF ..;generalize hDD:k*c*q=D at *
 have ba:=JE (X:=X) hD (z:=z) (by omega) (by omega);have bb:=JE (X:=X) hD (z:=w) (by omega) (by omega);have ba1:=JE (X:=X) hD (z:=z+1) (by omega) (by omega);have bb1:=JE (X:=X) hD (z:=w+1) (by omega) (by omega);have ca:=N1 hD fz;have r:=N1 hD fw;have hD0:=Lc hD;have d1:=Lb ((z:Rat) / (D:Rat)) (((z+1:Int):Rat) / (D:Rat)) f;have d2:=Lb ((w:Rat) / (D:Rat)) (((w+1:Int):Rat) / (D:Rat)) f;have b1:=QS ba ba1 f hAf;have b2:=QS bb bb1 f hAf;have bUa:=N0 ba U hAu;have bUb:=N0 bb U hAu;have eN:(A:Rat)*(zD X f.length:Nat)=(E0:Nat):=by rw[<- hE];simp
 rw[eN] at b1 b2;have step:∀ s:Int,((s+1:Int):Rat) / (D:Rat)-(s:Rat) / (D:Rat)=1 / (D:Rat):=by
  intro s;rw[K1];simp;grind
 have bone:Bd (1 / (D:Rat)) (1 / (D:Rat)):=by
  have:0<1 / (D:Rat):=by
   rw[Ayn,Ayo];exact Ayp.2 hD0
  unfold Bd;constructor <;> grind
 have hfa:Bd (pq f ((z:Rat) / (D:Rat))) (1 / (D:Rat)*(E0:Nat)):=Tg ca (by
  have e:pq f (((z+1:Int):Rat) / (D:Rat))-pq f ((z:Rat) / (D:Rat))=1 / (D:Rat)*dD f ((z:Rat) / (D:Rat)) (((z+1:Int):Rat) / (D:Rat)):=by rw[d1,step];grind
  rw[e];exact bone.mul b1)
 have hfb:Bd (pq f ((w:Rat) / (D:Rat))) (1 / (D:Rat)*(E0:Nat)):=Tg r (by
  have e:pq f (((w+1:Int):Rat) / (D:Rat))-pq f ((w:Rat) / (D:Rat))=1 / (D:Rat)*dD f ((w:Rat) / (D:Rat)) (((w+1:Int):Rat) / (D:Rat)):=by rw[d2,step];grind
  rw[e];exact bone.mul b2)
 have hzw':=BK.2 hzw;rw[K1] at hzw';have hkR:(k:Rat)=(E0:Nat)*(C0:Nat)+1:=by rw[<- hkk,DC,QY,GO];simp
 have hk1:(0:Rat)<(k:Rat):=Lc hk0;have eC:(C0:Rat)=4*(X:Nat)*((Au:Nat)*(zV X U.length:Nat))+4*((B:Nat)*(zV X W.length:Nat)):=by rw[<- hC];simp
 have ea:(z:Rat) / (D:Rat)*(D:Rat)=(z:Rat):=by grind
 have eb:(w:Rat) / (D:Rat)*(D:Rat)=(w:Rat):=by grind
 have eo:1 / (D:Rat)*(D:Rat)=1:=by grind
 have ho:0<1 / (D:Rat):=by
  rw[Ayn,Ayo];exact Ayp.2 hD0
 have key:1<=((w:Rat) / (D:Rat)-(z:Rat) / (D:Rat))*((w:Rat) / (D:Rat)-(z:Rat) / (D:Rat))*(((B:Nat)*(zD X W.length:Nat))*((A:Nat)*(zT X f.length:Nat))+((B:Nat)*(zV X W.length:Nat))*((A:Nat)*(zS X f.length:Nat))):=by
  refine far hR hid hAf hW ba bb ?_ hfa hfb bUa bUb ?_
  ·have h1:=KG (show (z:Rat)<(w:Rat) by grind) ho;have e1:(z:Rat)*(1 / (D:Rat))=(z:Rat) / (D:Rat):=by grind
   have e2:(w:Rat)*(1 / (D:Rat))=(w:Rat) / (D:Rat):=by grind
   rw[e1,e2] at h1;exact h1
  ·-- the error
   have hkb:(k:Rat)*(1 / (D:Rat))<=(w:Rat) / (D:Rat)-(z:Rat) / (D:Rat):=by
    have h1:=Jz (show (k:Rat)<=(w:Rat)-(z:Rat) by grind) (Hr ho);grind
   have hle2:(w:Rat) / (D:Rat)-(z:Rat) / (D:Rat)<=2*(X:Nat):=by
    unfold Bd at ba bb;grind
   generalize (w:Rat) / (D:Rat)-(z:Rat) / (D:Rat)=t at *
   generalize 1 / (D:Rat)=o at *
   have hE0:(0:Rat)<=(E0:Nat):=by
    have h:=(jR (a:=0) (b:=E0)).2 (By _);simpa using h
   have hu0:=bUa.pos;have hv0:(0:Rat)<=(B:Nat)*(zV X W.length:Nat):=by
    have:=By (B*zV X W.length);have h:=(jR (a:=0) (b:=B*zV X W.length)).2 this;simpa using h
   generalize (Au:Rat)*(zV X U.length:Nat)=u at *
   generalize (B:Rat)*(zV X W.length:Nat)=v at *
   have hoE:=Fb (Hr ho) hE0;have h1:=Jz hle2 (Fb hu0 hoE);rw[hkR,eC] at hkb;generalize (E0:Rat)=e0 at *
   generalize (X:Rat)=xx at *
   grind
 have hDR:(D:Rat)*(D:Rat)<=((w:Rat)-(z:Rat))*((w:Rat)-(z:Rat))*(((B:Nat)*(zD X W.length:Nat))*((A:Nat)*(zT X f.length:Nat))+((B:Nat)*(zV X W.length:Nat))*((A:Nat)*(zS X f.length:Nat))):=by
  have h1:=Jz key (Hr (HG hD0 hD0));have e:(w:Rat)-(z:Rat)=((w:Rat) / (D:Rat)-(z:Rat) / (D:Rat))*(D:Rat):=by grind
  rw[e];grind
 have hInt:D*D<=(w-z)*(w-z)*(((B*zD X W.length)*(A*zT X f.length)+(B*zV X W.length)*(A*zS X f.length):Nat):Int):=by
  apply BK.1;rw[CW,CW,CW,kT,DC];simp only[QY,GO];exact hDR
 have hM:(B*zD X W.length)*(A*zT X f.length)+(B*zV X W.length)*(A*zS X f.length)<=Mz n A X:=by
  unfold Mz;rw[hS,hn];exact Nat.add_le_add (B2 (B2 (Ap _) mono.2) (Ap _)) (B2 (B2 (Ap _) mono.1) (Ap _))
 have hwz:0<=w-z:=by omega
 have s1:=Eb hsub hsub hwz (Eo hwz hsub);have s2:=Ae s1 (HH (Mz n A X));have s3:=Aj (sN.2 hM) (A6 hwz hwz);apply ET (a:=k*c*(k*c)) _ (Be hkc hkc);have e1:k*c*(k*c)*(q*q)=D*D:=by rw[<- hDD];grind
 have e2:k*c*(k*c)*((y-x)*(y-x)*(Mz n A X:Nat))=k*c*(y-x)*(k*c*(y-x))*(Mz n A X:Nat):=by grind
 rw[e1,e2];omega
theorem sO{t:LI}(ht:A9l t ≠ [])(hl:t.length<=9):∃ l:LI,l.Nodup/\l.length=7/\∀ x∈l,x.natAbs<=7/\Aa t x ≠ 0:=by
 obtain⟨L,hnd,hmem,hlen⟩:∃ L:LI,L.Nodup/\(∀ x∈L,x.natAbs<=7)/\L.length=15:=⟨[-7,-6,-5,-4,-3,-2,-1,0,1,2,3,4,5,6,7],by decide,by decide,rfl⟩;have hsum:=tB (fun x=>decide (Aa t x=0)) (l:=L);rw[HI,HI] at hsum;have hA:(L.filter fun x=>decide (Aa t x=0)).length<=8:=by
  apply N7;intro h;apply ht;rw[Dd];exact W9 9 t (L.filter fun x=>decide (Aa t x=0)) hl (hnd.filter _) (fun x hx=>by simpa using (IQ.1 hx).2) (by omega)
 refine⟨(L.filter fun x=>decide ¬ (A9i (Aa t x=0))=true).take 7,(hnd.filter _).sublist (A9f _ _),?_,?_⟩
 ·rw[AB];omega
 ·intro x hx;obtain⟨h1,h2⟩:=IQ.1 (C5 hx);exact⟨hmem x h1,by simpa using h2⟩
theorem aZ{t g k:LI}{P:Nat}(ht:A9l t ≠ [])(hl:t.length<=9)(hg:g.length<=7)(hP:∀ i,(t.getD i 0).natAbs<=P)(h:∀ x,Aa t x=Aa g x*Aa k x):∀ i,(g.getD i 0).natAbs<=P*8^9*17^6:=by
 obtain⟨l,l1,l2,l3⟩:=sO ht hl;exact TS (R:=7) 6 g l (P*8^9) hg l1 l2 (fun x hx=>by
  obtain⟨a,b⟩:=l3 x hx;refine⟨a,?_⟩;have h2:=SS (R:=7) t x hP a;have h3:=congrArg E (h x);rw[BT] at h3;have h4:1<=(Aa k x).natAbs:=by
   rcases FJ (Aa k x).natAbs with g | g
   ·rw[g,bH] at h3;omega
   ·exact g
  have h5:=Cf (Aa g x).natAbs h4;have h6:P*8^t.length<=P*8^9:=AAd _ (B8 (by decide) hl);exact Bx (Bx h5 (Nat.le_of_eq h3.symm)) (Bx h2 h6)) (fun x _ y _ hne=>by omega)
theorem Th{u a b P Q:Int}{v:Int}(hu:u ≠ 0)(hv:v.natAbs<=u.natAbs)(h:u*a=b-v*P)(hb:(b.natAbs:Int)<=Q):(a.natAbs:Int)<=Q+(P.natAbs:Int):=by
 have h1:(u.natAbs:Int)*(a.natAbs:Int)<=(b.natAbs:Int)+(v.natAbs:Int)*(P.natAbs:Int):=by
  have e1:(u.natAbs:Int)*(a.natAbs:Int)=((u*a).natAbs:Int):=by rw[BT];rfl
  have e2:(v.natAbs:Int)*(P.natAbs:Int)=((v*P).natAbs:Int):=by rw[BT];rfl
  rw[e1,e2,h];omega
 have hu1:(1:Int)<=(u.natAbs:Int):=by omega
 have h2:(v.natAbs:Int)*(P.natAbs:Int)<=(u.natAbs:Int)*(P.natAbs:Int):=Ae (by omega) (by omega);have h3:(b.natAbs:Int)<=(u.natAbs:Int)*(b.natAbs:Int):=by
  have:=Ae hu1 (show (0:Int)<=(b.natAbs:Int) by omega);omega
 have h4:(u.natAbs:Int)*(a.natAbs:Int)<=(u.natAbs:Int)*((b.natAbs:Int)+(P.natAbs:Int)):=by rw[CT];omega
 have:=ET h4 (by omega);omega
theorem sP{t f:LI}{v u:Int}{P N:Nat}(hu:u ≠ 0)(hN:f.length<=N)(hP:∀ i,(t.getD i 0).natAbs<=P)(h:∀ x,Aa t x=Aa f x*Aa [v,u] x):∀ i,(f.getD i 0).natAbs<=(N+1)*P:=by
 have hc:=Dg (p:=t) (q:=DB (A0 v f) (A0 u (Dn 1 f))) (fun x=>by
  rw[h x,BU,Az,Az,Ds,A2,Da];simp only[Aa];grind)
 have hi:∀ i,t.getD i 0=v*f.getD i 0+u*(if 1<=i then f.getD (i-1) 0 else 0):=by
  intro i;rw[hc i,Dl,AK,AK,Cm]
 by_cases hvu:v.natAbs<=u.natAbs
 ·-- from the X
  have key:∀ j i:Nat,i+j=N->((f.getD i 0).natAbs:Int)<=(j:Int)*P:=by
   intro j;induction j with
   | zero=>intro i e;rw[B0 (by omega)];simp
   | succ j ih =>
    intro i e;have h1:=ih (i+1) (by omega);have h2:=hi (i+1);rw[if_pos (by omega),IJ] at h2;have h3:=Th (a:=f.getD i 0) (b:=t.getD (i+1) 0) (P:=f.getD (i+1) 0) (Q:=P) hu hvu (by omega) (by have:=hP (i+1);omega);have:((j+1:Nat):Int)*(P:Int)=(j:Int)*P+P:=by rw[Ky];grind
    omega
  intro i;by_cases hiN:i<=N
  ·have:=key (N-i) i (by omega);have h2:((N-i:Nat):Int)*(P:Int)<=((N+1:Nat):Int)*(P:Int):=Ae (by omega) (by omega);have h3:(((N+1)*P:Nat):Int)=((N+1:Nat):Int)*(P:Int):=by simp
   omega
  ·rw[B0 (by omega)];simp
 ·have hv:v ≠ 0:=by omega
  have key:∀ i:Nat,((f.getD i 0).natAbs:Int)<=((i+1:Nat):Int)*P:=by
   intro i;induction i with
   | zero =>
    have h2:=hi 0;rw[if_neg (by omega),AI] at h2;have h3:=Th (u:=v) (v:=0) (a:=f.getD 0 0) (b:=t.getD 0 0) (P:=0) (Q:=P) hv (by simp) (by omega) (by have:=hP 0;omega);simp at h3 |-;omega
   | succ i ih =>
    have h2:=hi (i+1);rw[if_pos (by omega),IJ] at h2;have h3:=Th (u:=v) (v:=u) (a:=f.getD (i+1) 0) (b:=t.getD (i+1) 0) (P:=f.getD i 0) (Q:=P) hv (by omega) (by omega) (by have:=hP (i+1);omega);have:((i+1+1:Nat):Int)*(P:Int)=((i+1:Nat):Int)*P+P:=by
     rw[show ((i+1+1:Nat):Int)=((i+1:Nat):Int)+1 by omega,G4,Dt]
    omega
  intro i;by_cases hiN:i<N
  ·have:=key i;have h2:((i+1:Nat):Int)*(P:Int)<=((N+1:Nat):Int)*(P:Int):=Ae (by omega) (by omega);have h3:(((N+1)*P:Nat):Int)=((N+1:Nat):Int)*(P:Int):=by simp
   omega
  ·rw[B0 (by omega)];simp
def Ue(n P:Nat):Nat:=if 7<=n then 10*P else P*8^9*17^6
theorem Uf{p:LI}(hp:A9l p ≠ [])(hl:p.length<=9){P:Nat}(hP:∀ i,(p.getD i 0).natAbs<=P){n:Nat}(hn:(A9k p).length=n+1):∀ i,((A9k p).getD i 0).natAbs<=if n=8 then P else Ue n P:=by
 obtain⟨lf,cf,tf,f0,⟨c,k,hc,hk⟩,_,_,_⟩:=Cu hp;generalize A9k p=f at *
 obtain⟨k',hk'⟩:=LD hc cf hk;have hft:A9l f ≠ []:=by rw[lf];exact f0
 have hk0:A9l k' ≠ []:=by
  intro z;have:A9l p=[]:=by
   rw[Dd];have:=Dg (p:=p) (q:=[]) (fun x=>by rw[hk' x,<- Ei k',z];simp[Aa]);intro i;rw[this i];rfl
  exact hp this
 have hlen:=KY hft hk0;have e:=Gv (p:=p) (q:=BC f k') (fun x=>by rw[hk' x,AX]);rw[<- e,lf] at hlen;have htl:=Bp p;have hkp:=Am.2 hk0;have hk2:∀ x,Aa p x=Aa f x*Aa (A9l k') x:=fun x=>by rw[hk' x,Ei]
 have hP0:P<=P*8^9*17^6:=by
  rw[EL];exact Cf _ (by decide)
 by_cases h1:(A9l k').length=1
 ·obtain⟨d,hd⟩:=M1 h1;have hd0:d ≠ 0:=by
   intro z;have:=E1 (H_ k') hk0;rw[hd,z] at this;exact this rfl
  have hc2:=Dg (p:=p) (q:=A0 d f) (fun x=>by rw[hk2 x,hd,Az];simp only[Aa];grind);have key:∀ i,(f.getD i 0).natAbs<=P:=by
   intro i;have h3:=hP i;rw[hc2 i,AK,BT] at h3;exact Bx (X_ _ (by omega)) h3
  intro i;have:=key i;unfold Ue;split
  ·exact this
  ·split <;> omega
 ·have hn8:n ≠ 8:=by omega
  rw[if_neg hn8];unfold Ue;by_cases h7:7<=n
  ·rw[if_pos h7];have h2:(A9l k').length=2:=by omega
   obtain⟨v,u,hvu⟩:∃ v u,A9l k'=[v,u]:=by
    match hm:A9l k',h2 with
    | [v,u],_=>exact⟨v,u,rfl⟩
   have hu:u ≠ 0:=by
    have:=E1 (H_ k') hk0;rw[hvu] at this;exact this
   have:=sP (f:=f) (t:=p) (N:=8) hu (by omega) hP (fun x=>by rw[hk2 x,hvu]);intro i;have:=this i;omega
  ·rw[if_neg h7];exact aZ hp hl (by omega) hP hk'
theorem A4p:∀ e,e=895->∀ n,2<=n->n<=8->6400*Mz n (if n=8 then 2^100 else Ue n (2^100)) 40<4^e:=by
 intro e he n h2 h8;subst he;match n,h2,h8 with
 | 2,_,_=>exact of_decide_eq_true (by kernel_rfl)
 | 3,_,_=>exact of_decide_eq_true (by kernel_rfl)
 | 4,_,_=>exact of_decide_eq_true (by kernel_rfl)
 | 5,_,_=>exact of_decide_eq_true (by kernel_rfl)
 | 6,_,_=>exact of_decide_eq_true (by kernel_rfl)
 | 7,_,_=>exact of_decide_eq_true (by kernel_rfl)
 | 8,_,_=>exact of_decide_eq_true (by kernel_rfl)
theorem Agv{n k:Nat}(h:n<=k):(4:Int)^n<=2^k*2^k:=by
 have e:(4:Int)^n=2^n*2^n:=by
  rw[<- Q'];rfl
 rw[e];have hp:(2:Int)^n<=2^k:=by
  have:=B8 (n:=2) (by decide) h;have h:=sN.2 this;rwa [CH,CH] at h
 exact Eb hp hp (Aw (EQ (by decide))) (Aw (EQ (by decide)))
theorem Zn{p:LI}(hp:A9l p ≠ [])(hl:p.length<=9)(hP:∀ i,(p.getD i 0).natAbs<=2^100)(h2:3<=(A9k p).length){x y q:Int}(hq:0<q)(hxy:x<=y)(hx : -(40*q)<=x)(hy:y<=40*q)
  {k:Nat} (hk:895<=k) (hw:(y-x)*2^k<=80*q):wv 0 (DI (CJ p) x q)-wv 0 (DI (CJ p) y q)<=1:=by
 apply A4;intro hn;obtain⟨n,hn1⟩:∃ n,(A9k p).length=n+1:=⟨(A9k p).length-1,by omega⟩;have hpl:(A9k p).length<=9:=by
  obtain⟨lf,cf,_,_,hd,_⟩:=Cu hp;have h:=(hd.length hp).1;rw[lf] at h;have:=Bp p;omega
 have hb:=Uf hp hl hP hn1;have hs:=sM hp hn1 (by omega) hb (by
  split
  ·exact C9 (by decide)
  ·unfold Ue;split
   ·exact E9 (by decide) (C9 (by decide))
   ·exact E9 (E9 (C9 (by decide)) (C9 (by decide))) (C9 (by decide))) (X:=40) (by decide) hq hxy hx hy (by omega)
 obtain⟨e,he,hm⟩:∃ e,e<=k/\6400*Mz n (if n=8 then 2^100 else Ue n (2^100)) 40<4^e:=⟨895,hk,A4p _ rfl n (by omega) (by omega)⟩;generalize Mz n (if n=8 then 2^100 else Ue n (2^100)) 40=M at *
 have hK:(0:Int)<2^k:=EQ (by decide);have h1:=Ae hs (Aw (Be hK hK));have e1:(y-x)*(y-x)*(M:Int)*(2^k*2^k)=((y-x)*2^k)*((y-x)*2^k)*(M:Int):=by grind
 have hD0:0<=(y-x)*2^k:=A6 (by omega) (Aw hK);have hsq:=Eb hw hw hD0 (show 0<=80*q by omega);have h1:=Eo h1 (HZ e1);have h1:=Eo h1 (Ae hsq (show (0:Int)<=(M:Nat) by omega));have e2:80*q*(80*q)*(M:Int)=q*q*(6400*(M:Int)):=by grind
 rw[e2] at h1;have h3:=ET h1 (Be hq hq);have h4:=Agv he;have h5:=A7v.2 hm;rw[Dj,CH] at h5;have:((4:Nat):Int)=4:=rfl;rw[this] at h5;have:((6400:Nat):Int)=6400:=rfl;rw[this] at h5;exact absurd (SK h5 (Eo h4 h3)) (Int.lt_irrefl _)
theorem sQ(p:LI)(hp:A9l p ≠ [])(hl:2<=(A9k p).length){x y q:Int}(hq:0<q)(hxy:x<y)(hz:t (A9k p) y q=0):wv 0 (DI (CJ p) y q)+1<=wv 0 (DI (CJ p) x q):=by
 obtain⟨c,hc,hg⟩:=A7k p hp hl (x:=x) (y:=y) hq;have sc:∀ z,wv 0 (DI (CJ p) (c*z) (c*q))=wv 0 (DI (CJ p) z q):=fun z=>by rw[Ig _ _ _ _ hc]
 have hs:CG (t (A9k p) (c*y) (c*q))=CG (t (A9k p) y q):=Tc _ _ _ _ hc;have d1:c*x+c<=c*y:=by
  have:=Aj (show x+1<=y by omega) (show 0<=c by omega);rw[CT,De] at this;exact this
 have hz':t (A9k p) (c*y) (c*q)=0:=by rw[<- DT,hs,DT];exact hz
 have hcell:=hg (c*y-1) (by omega) (by omega);have h2:=hcell.root (by rw[show c*y-1+1=c*y by omega];exact hz');simp only[show c*y-1+1=c*y by omega] at h2;have h3:=OQ (u:=c*x) (c*y-1-c*x).toNat (fun j hj=>hg (c*x+(j:Int)) (by omega) (by omega));simp only[show c*x+((c*y-1-c*x).toNat:Int)=c*y-1 by omega] at h3;rw[sc] at h2 h3;omega
theorem UC:∀ (l:LI) (last:Int),wv last l<=(l.length:Int)
 | [],_=>by simp[wv]
 | s::ss,last=>by
  simp only[wv,Bz];have h1:=UC ss last;have h2:=UC ss s;split
  ·omega
  ·split <;> omega
theorem jS(s:Int)(ss:LI):wv 0 (s::ss)<=(ss.length:Int):=by
 simp only[wv];have h1:=UC ss 0;have h2:=UC ss s;split
 ·omega
 ·rw[if_neg (fun h=>h.1 rfl)];omega
theorem Ld:∀ (l:LI) (last:Int),0<=wv last l
 | [],_=>by simp[wv]
 | s::ss,last=>by
  simp only[wv];have h1:=Ld ss last;have h2:=Ld ss s;split
  ·exact h1
  ·split <;> omega
theorem Zo{p:LI}(h:(A9k p).length<=2)(x q:Int):wv 0 (DI (CJ p) x q)<=1:=by
 unfold CJ;split
 ·simp[DI,wv]
 ·rename_i h0;have hpos:=Am.2 h0;have hb:(prim (As (A9k p))).length<=1:=by
   rw[Ca];have:=Bp (As (A9k p));have:=SU (A9k p);omega
  have hc:(H2 (A9k p).length (A9k p) (prim (As (A9k p)))).length<=1:=by
   generalize prim (As (A9k p))=g at *
   obtain⟨n,hn⟩:∃ n,(A9k p).length=n+1:=⟨(A9k p).length-1,by omega⟩;rw[hn];simp only[H2];split
   ·simp
   ·rename_i hg;have hgp:=Am.2 hg;have hn1:n<=1:=by omega
    have:(H2 n g (Ci (BB (A9k p) g))).length=0:=by
     match n,hn1 with
     | 0,_=>rfl
     | 1,_ =>
      simp only[H2];split
      ·rfl
      ·rename_i hz;exfalso;apply hz;have e:BB (A9k p) g=[]:=by
        apply A4;intro he;have hle:(BB (A9k p) g).length<g.length:=by
         have:=(gQ (x:=A9k p) (y:=g) ?_ hg).2
         ·exact this
         ·have h0':A9l p ≠ []:=by
           intro h;apply h0;have hz:prim p=[]:=by rw[DG,<- Dd];exact h
           unfold A9k;rw[hz];rfl
          exact (Cu h0').1
        have:=Am.2 he;omega
       rw[e];rfl
    simp only[Bz];omega
  unfold DI;rw[C8];have:=jS (CG (t (A9k p) x q)) ((H2 (A9k p).length (A9k p) (prim (As (A9k p)))).map fun p=>CG (t p x q));(first|rw[N] at this|(unfold Y at this;rw[N] at this));omega
end Go.Ai
namespace Go.Proofs.YtajompaehjkgkaaGreat
open Go.Ai
set_option maxRecDepth 100000
open Bool renaming and_eq_true->Af
open Classical renaming byContradiction->A4
open Go.Ai.AV renaming bool->F,sl->H,tup->Ax
open Int renaming eq_of_mul_eq_mul_right->XY,le_of_eq->HZ,le_of_lt->Aw,le_of_mul_le_mul_right->CM,lt_of_mul_lt_mul_right->Do,mul_comm->AA,mul_le_mul_of_nonneg_right->Ae,mul_lt_mul_of_pos_right->AU,mul_pos->Be,mul_right_comm->AAf,natCast_add->Ky,not_le->GN,pow_add->BG,pow_succ->A2,toNat_natCast->R
open List renaming all_eq_true->BY,getD_eq_getElem?_getD->Z,getElem?_eq_getElem->Ah,getElem?_map->CL,getElem_mem->CY,length_append->Bf,length_map->N,length_pos_iff->Am,mem_append->Cc,mem_cons->D4
open Nat renaming add_comm->GF,le_of_lt->nB,le_refl->Ap,le_trans->Bx,log2_lt->PD,lt_of_le_of_lt->Dz,mul_le_mul->B2,mul_le_mul_left->AAd,mul_le_mul_right->AE,pow_add->CN,pow_le_pow_right->B8,pow_lt_pow_right->QH,zero_le->By
structure Wd (k:Nat) (x:Iv):Prop where
 w:(Q x.t*2^x.a-Q x.r*2^x.b)*2^k=80*(2^x.a*2^x.b)
 lo : -(40*2^x.a)<=Q x.r
 hi:Q x.t<=40*2^x.b
 a:x.a<=k
 b:x.b<=k
theorem Wd.lt{k x}(h:Wd k x):Q x.r*2^x.b<Q x.t*2^x.a:=by
 have hA:=Bt x.a;have hB:=Bt x.b;have hK:=Bt k;have h1:=h.w;have h2:=Be hA hB;have:0<(Q x.t*2^x.a-Q x.r*2^x.b)*2^k:=by omega
 have:=Int.pos_of_mul_pos_left this hK;omega
theorem Wd.halves{k x}(h:Wd k x):Wd (k+1) x.lf/\Wd (k+1) x.rg:=by
 have hA:=Bt x.a;have hB:=Bt x.b;have hK:=Bt k;have hE:=Bt x.me;have hw:=h.w;have hlo:=h.lo;have hhi:=h.hi;have ha:=h.a;have hb:=h.b;obtain⟨m1,m2⟩:=IC h.lt;have m1:Q x.r*2^x.me<x.mn*2^x.a:=m1;have m2:x.mn*2^x.b<Q x.t*2^x.me:=m2;have hv:x.mn*(2*(2^x.a*2^x.b))=(Q x.r*2^x.b+Q x.t*2^x.a)*2^x.me:=Axl (Q x.r) x.a (Q x.t) x.b;have hme:x.me<=max x.a x.b+1:=Py;have eK:(2:Int)^(k+1)=2*2^k:=by rw[A2,AA]
 constructor
 ·refine⟨?_,hlo,?_,by show x.a<=_;omega,by show x.me<=_;omega⟩
  ·show (Q (V x.mn)*2^x.a-Q x.r*2^x.me)*2^(k+1)=80*(2^x.a*2^x.me);rw[A9y,eK];generalize (2:Int)^k=K at *
   generalize (2:Int)^x.a=A at *
   generalize (2:Int)^x.b=B at *
   generalize (2:Int)^x.me=E at *
   apply XY (show B ≠ 0 by omega);have e1:(x.mn*A-Q x.r*E)*(2*K)*B=(x.mn*(2*(A*B))-2*(Q x.r*B*E))*K:=by grind
   rw[e1,hv];have e2:((Q x.r*B+Q x.t*A)*E-2*(Q x.r*B*E))*K=(Q x.t*A-Q x.r*B)*K*E:=by grind
   rw[e2,hw];grind
  ·show Q (V x.mn)<=40*2^x.me;rw[A9y];apply CM (a:=2^x.b) _ hB;have e1:=Ae hhi (Aw hE);have e2:(40:Int)*2^x.b*2^x.me=40*2^x.me*2^x.b:=by grind
   omega
 ·refine⟨?_,?_,hhi,by show x.me<=_;omega,by show x.b<=_;omega⟩
  ·show (Q x.t*2^x.me-Q (V x.mn)*2^x.b)*2^(k+1)=80*(2^x.me*2^x.b);rw[A9y,eK];generalize (2:Int)^k=K at *
   generalize (2:Int)^x.a=A at *
   generalize (2:Int)^x.b=B at *
   generalize (2:Int)^x.me=E at *
   apply XY (show A ≠ 0 by omega);have e1:(Q x.t*E-x.mn*B)*(2*K)*A=(2*(Q x.t*A*E)-x.mn*(2*(A*B)))*K:=by grind
   rw[e1,hv];have e2:(2*(Q x.t*A*E)-(Q x.r*B+Q x.t*A)*E)*K=(Q x.t*A-Q x.r*B)*K*E:=by grind
   rw[e2,hw];grind
  ·show -(40*2^x.me)<=Q (V x.mn);rw[A9y];apply CM (a:=2^x.a) _ hA;have e1:=Ae hlo (Aw hE);have e2 : -((40:Int)*2^x.a)*2^x.me = -(40*2^x.me)*2^x.a:=by grind
   omega
structure Fewp (p:List Int):Prop where
 ne:A9l p ≠ []
 len:p.length<=9
 co:∀ i,(p.getD i 0).natAbs<=2^100
theorem Fewp.d1{p}(hp:Fewp p){k x}(h:Wd k x)(hk:895<=k):x.d p=0\/x.d p=1:=by
 have hA:=Bt x.a;have hB:=Bt x.b;have h0:0<=x.d p:=by
  have:=Jh (p:=p) (Aw h.lt);unfold Iv.d;omega
 have h1:x.d p<=1:=by
  unfold Iv.d;by_cases hl:3<=(A9k p).length
  ·have e1:=Fx p (Q x.r) x.a x.b;have e2:=Fx p (Q x.t) x.b x.a;rw[GF x.b x.a] at e2;rw[<- e1,<- e2,Ho,Ho];have hq:(2:Int)^(x.a+x.b)=2^x.a*2^x.b:=BG ..;refine Zn hp.ne hp.len hp.co hl (Bt _) (Aw h.lt) ?_ ?_ hk ?_
   ·rw[hq];have:=Ae h.lo (Aw hB);have e : -((40:Int)*2^x.a)*2^x.b = -(40*(2^x.a*2^x.b)):=by grind
    omega
   ·rw[hq];have:=Ae h.hi (Aw hA);have e:(40:Int)*2^x.b*2^x.a=40*(2^x.a*2^x.b):=by grind
    omega
   ·rw[hq];exact HZ h.w
  ·rw[Ho,Ho];have a1:=Zo (p:=p) (by omega) (Q x.r) (2^x.a);have a2:=Ld (DI (CJ p) (Q x.t) (2^x.b)) 0;omega
 omega
theorem Fewp.deep{p}(hp:Fewp p):∀ (n k:Nat) (x:Iv),k+n=895->Wd k x->Deep p 896 n x:=by
 intro n;induction n with
 | zero=>intro k x hk h;exact hp.d1 h (by omega)
 | succ n ih =>
  intro k x hk h;obtain⟨h1,h2⟩:=h.halves;have hme:x.me<=max x.a x.b+1:=Py;have ha:=h.a;have hb:=h.b;exact .inr (.inr ⟨by omega,ih (k+1) x.lf (by omega) h1,ih (k+1) x.rg (by omega) h2⟩)
theorem Agw{p:LI}{E:Nat}:∀ (n k:Nat) (x:Iv),Wd k x->Deep p E n x->∀ y∈ID p n x,y.d p=1/\∃ j,k<=j/\j<=k+n/\Wd j y:=by
 intro n;induction n with
 | zero =>
  intro k x h hd y hy;simp only[ID] at hy;rcases hd with hd | hd
  ·rw[if_pos hd] at hy;cases hy
  ·rw[if_neg (by omega)] at hy;rcases D4.1 hy with rfl | hy
   ·exact⟨hd,k,Ap _,Ap _,h⟩
   ·cases hy
 | succ n ih =>
  intro k x h hd y hy;simp only[ID] at hy;by_cases c0:x.d p=0
  ·rw[if_pos c0] at hy;cases hy
  ·rw[if_neg c0] at hy;by_cases c1:x.d p=1
   ·rw[if_pos c1] at hy;rcases D4.1 hy with rfl | hy
    ·exact⟨c1,k,Ap _,by omega,h⟩
    ·cases hy
   ·rw[if_neg c1] at hy;rcases hd with hd | hd | ⟨_,d1,d2⟩
    ·exact absurd hd c0
    ·exact absurd hd c1
    ·obtain⟨h1,h2⟩:=h.halves;rcases Cc.1 hy with hy | hy
     ·obtain⟨a,j,b,c,d⟩:=ih (k+1) x.lf h1 d1 y hy;exact⟨a,j,by omega,by omega,d⟩
     ·obtain⟨a,j,b,c,d⟩:=ih (k+1) x.rg h2 d2 y hy;exact⟨a,j,by omega,by omega,d⟩
theorem RW{p:LI}{E:Nat}:∀ (n k:Nat) (x:Iv),Wd k x->Deep p E n x->((ID p n x).length:Int)=x.d p:=by
 intro n;induction n with
 | zero =>
  intro k x h hd;simp only[ID];rcases hd with hd | hd
  ·rw[if_pos hd,hd];rfl
  ·rw[if_neg (by omega),hd];rfl
 | succ n ih =>
  intro k x h hd;simp only[ID];by_cases c0:x.d p=0
  ·rw[if_pos c0,c0];rfl
  ·rw[if_neg c0];by_cases c1:x.d p=1
   ·rw[if_pos c1,c1];rfl
   ·rw[if_neg c1];rcases hd with hd | hd | ⟨_,d1,d2⟩
    ·exact absurd hd c0
    ·exact absurd hd c1
    ·obtain⟨h1,h2⟩:=h.halves;have i1:=ih (k+1) x.lf h1 d1;have i2:=ih (k+1) x.rg h2 d2;rw[Bf,Ky,i1,i2];show (l p (Q x.r) x.a-l p (Q (V x.mn)) x.me)+(l p (Q (V x.mn)) x.me-l p (Q x.t) x.b)=l p (Q x.r) x.a-l p (Q x.t) x.b;omega
def M8:Iv:=⟨V (-40),0,V 40,0⟩
theorem vC:IvOk 6 0 M8:=⟨BL (Gl (k:=6) (by decide) (by decide)),BL (Gl (k:=6) (by decide) (by decide)),Ap _,Ap _,by show (Q (V (-40))).natAbs<=_;rw [A9y];decide,by show (Q (V 40)).natAbs<=_;rw [A9y];decide⟩
theorem P4:Wd 0 M8:=by
 refine⟨?_,?_,?_,Ap _,Ap _⟩
 ·show (Q (V 40)*2^0-Q (V (-40))*2^0)*2^0=_;rw[A9y,A9y];decide
 ·show _<=Q (V (-40));rw[A9y];decide
 ·show Q (V 40)<=_;rw[A9y];decide
def OT(p:LI):List Iv:=Kj p 895 M8
theorem Zp{p:LI}(hp:Fewp p):∀ y∈OT p,One p y/\∃ j,j<=895/\Wd j y:=by
 intro y hy;unfold OT Kj at hy;split at hy
 ·cases hy
 ·obtain⟨a,j,_,b,c⟩:=Agw 895 0 M8 P4 (hp.deep 895 0 M8 rfl P4) y hy;exact⟨⟨c.lt,a⟩,j,by omega,c⟩
theorem jT{p:LI}:∀ y∈OT p,IvOk 6 895 y:=by
 intro y hy;unfold OT Kj at hy;split at hy
 ·cases hy
 ·exact jI 895 M8 0 vC (by decide) y hy
theorem jU{rs:List Rn}(h:M6 rs=true)(h0:A9l (P rs) ≠ []):Fewp (P rs):=by
 unfold M6 at h;simp only[Af,decide_eq_true_eq,BY] at h;refine⟨h0,by rw[A9z];exact h.1,fun i => ?_⟩;by_cases hi:i<rs.length
 ·have e:(P rs).getD i 0=Q (rs[i]):=by
   rw[Z,P,CL,Ah hi];rfl
  rw[e];have hb:=(h.2 _ (CY hi)).1;unfold DD at hb;split at hb
  ·rename_i g;rw[g];exact By _
  ·rename_i g;exact nB ((PD g).1 (by omega))
 ·rw[B0 (by rw[A9z];omega)];exact By _
theorem Fewp.kb{p}(hp:Fewp p):u 5 (A9k p)/\(A9k p).length<=9:=by
 obtain⟨lf,_,_,f0,hd,_⟩:=Cu hp.ne;have h:=(hd.length hp.ne).1;rw[lf] at h;have h2:=Bp p;have h3:=hp.len;obtain⟨n,hn⟩:∃ n,(A9k p).length=n+1:=⟨(A9k p).length-1,by have:=Am.2 f0;omega⟩;have hb:=Uf hp.ne hp.len hp.co hn;refine⟨fun i => ?_,by omega⟩;refine Gl (k:=152) (Bx (hb i) ?_) (by decide);split
 ·exact B8 (by decide) (by decide)
 ·unfold Ue;split
  ·exact Bx (AE _ (show 10<=2^4 by decide)) (by rw[<- CN];exact B8 (by decide) (by decide))
  ·have e1:(8:Nat)^9<=2^27:=by decide
   have e2:(17:Nat)^6<=2^25:=by decide
   refine Bx (B2 (AAd _ e1) e2) ?_;rw[<- CN,<- CN];exact B8 (by decide) (by decide)
theorem Fewp.fine{p}(hp:Fewp p):Qc (A9k p):=⟨hp.kb.1.mono (by decide),hp.kb.2⟩
theorem Fewp.good{p}(hp:Fewp p):∀ r∈(A9k p).map V,AO 5 r:=AR hp.kb.1
theorem Fewp.l9{p}(hp:Fewp p):((A9k p).map V).length<=9:=by rw [N];exact hp.kb.2
theorem jV{rs:List Rn}(hg:∀ r∈rs,AO 5 r)(hn:rs.length<=9)(hp:Fewp (P rs)) :
  RQ 22 [Y pc rs] (Ax [H ((OT (P rs)).map (Iv.out (A9k (P rs)))).length (Fu ((OT (P rs)).map (Iv.out (A9k (P rs))))),F true]):=by
 have hd:=hp.deep 895 0 M8 rfl P4;have hlen:=Ip hg hn;have hL:=RW (p:=P rs) 895 0 M8 P4 hd;have b1:=OS hlen (Q M8.r) M8.a;have b2:=OS hlen (Q M8.t) M8.b;have hdd:M8.d (P rs)<=10:=by unfold Iv.d;omega
 have nl:D_ (P rs)=false:=QR (K:=5) (Jd (CP hg)) (by decide) (by rw[A9z];omega);have k:=Axk hg hn hp.ne nl (n:=895) vC (by decide) hd (by omega) (by show Zi (V (-40)) 0=true;decide) (by show Zi (V 40) 0=true;decide) (by show ¬ Bm (Q (V (-40))) 0 (Q (V 40)) 0>0;rw[A9y,A9y];decide);have n0:=uX (-40) 0 (U3 (n := -40) (by decide));have n1:=uX 40 0 (U3 (n:=40) (by decide));refine A4b rs ((OT (P rs)).map (Iv.out (A9k (P rs)))) 0 n0 n1 ?_;rw[N];exact k
def d(p:LI)(y:Iv)(m:Int)(c:Nat):Int:=Fl (A9k p) (Q y.r) y.a (Q y.t) y.b m c
theorem Axs{p:LI}(hp:A9l p ≠ [])(hl:2<=(A9k p).length){x y:Int}{a b:Nat}(h:x*2^b<y*2^a)(hz:Gd (A9k p) y b=0):l p y b+1<=l p x a:=by
 have e1:=Fx p x a b;have e2:=Fx p y b a;have g:=QQ (A9k p) y b a;rw[GF b a] at e2 g;rw[<- e1,<- e2,Ho,Ho];refine sQ p hp hl (Bt _) h ?_;rw[hz,aU] at g;exact DT.1 g
theorem One.len{p:LI}{y:Iv}(h:One p y):2<=(A9k p).length:=by
 apply A4;intro g;have:=Td (p:=p) (by omega) (Q y.r) (Q y.t) y.a y.b;have:=h.v;omega
theorem One.ne{p:LI}{y:Iv}(h:One p y):A9l p ≠ []:=by
 intro g;have hz:prim p=[]:=by rw[DG,<- Dd];exact g
 have h0:A9k p=[]:=by unfold A9k;rw[hz];rfl
 have:=h.len;rw[h0] at this;simp at this
theorem P5(p:LI)(lo:Int)(a:Nat)(hi:Int)(b:Nat)(x:Int)(c:Nat) : -1<=Fl p lo a hi b x c/\Fl p lo a hi b x c<=1:=by unfold Fl; (repeat' split) <;> omega
theorem OU{p:LI}{y:Iv}{m:Int}{c:Nat}(h:m*2^y.a<=Q y.r*2^c):d p y m c=1:=by
 unfold d Fl;rw[if_pos];have hb:=I9 (m*2^y.a) (Q y.r*2^c);have:Bm m c (Q y.r) y.a ≠ 1:=fun g=>by have:=JC.1 g;omega
 unfold Bm at this |-;omega
theorem Xe{p:LI}{y:Iv}{m:Int}{c:Nat}(hlt:Q y.r*2^y.b<Q y.t*2^y.a)(h:Q y.t*2^c<m*2^y.b):d p y m c = -1:=by
 have h1:Q y.r*2^c<m*2^y.a:=by
  have hA:=Bt y.a;have hB:=Bt y.b;have hC:=Bt c;apply Do (a:=2^y.b) _ (Aw hB);have e1:=AU hlt hC;have e2:=AU h hA;have e3:Q y.r*2^c*2^y.b=Q y.r*2^y.b*2^c:=AAf ..;have e4:Q y.t*2^y.a*2^c=Q y.t*2^c*2^y.a:=AAf ..;have e5:m*2^y.b*2^y.a=m*2^y.a*2^y.b:=AAf ..;omega
 unfold d Fl;rw[if_neg (by rw[JC.2 h1];decide),if_pos (by rw[JC.2 h];decide)]
theorem N2{p:LI}{y:Iv}(h:One p y){m:Int}{c:Nat}(h1:Q y.r*2^c<m*2^y.a)(h2:m*2^y.b<=Q y.t*2^c) :
  (d p y m c<=0↔l p m c=l p (Q y.t) y.b)/\(d p y m c=0↔Gd (A9k p) m c=0):=by
 have d1:¬ Bm m c (Q y.r) y.a<=0:=by rw[JC.2 h1];decide
 have d2:¬ Bm m c (Q y.t) y.b>0:=by
  intro g;have hb:=I9 (m*2^y.b) (Q y.t*2^c);have:Bm m c (Q y.t) y.b=1:=by unfold Bm at g |-;omega
  have:=JC.1 this;omega
 have e:d p y m c=if Gd (A9k p) m c=0 then 0 else if Gd (A9k p) m c=Gd (A9k p) (Q y.t) y.b then -1 else 1:=by
  unfold d Fl;rw[if_neg d1,if_neg d2]
 constructor
 ·by_cases hlt:m*2^y.b<Q y.t*2^c
  ·exact (jF h h1 hlt).1
  ·have heq:m*2^y.b=Q y.t*2^c:=by omega
   rw[e,SZ heq,jE heq];split
   ·simp
   ·simp
 ·rw[e];split
  ·rename_i g;simp[g]
  ·rename_i g;constructor
   ·intro hh;split at hh <;> omega
   ·intro hh;exact absurd hh g
theorem Zq{p:LI}{y:Iv}(h:One p y){m:Int}{c:Nat}(hm:d p y m c<=0){m':Int}{c':Nat}(hmm:m*2^c'<m'*2^c):d p y m' c' = -1:=by
 have hC:=Bt c;have hC':=Bt c';have hA:=Bt y.a;have hB:=Bt y.b;by_cases g1:m'*2^y.b<=Q y.t*2^c'
 ·have g2:Q y.r*2^c<m*2^y.a:=by
   apply GN.1;intro g;rw[OU g] at hm;exact absurd hm (by decide)
  have g3:Q y.r*2^c'<m'*2^y.a:=by
   apply Do (a:=2^c) _ (Aw hC);have e1:=AU g2 hC';have e2:=AU hmm hA;have e3:Q y.r*2^c'*2^c=Q y.r*2^c*2^c':=AAf ..;have e4:m*2^y.a*2^c'=m*2^c'*2^y.a:=AAf ..;have e5:m'*2^c*2^y.a=m'*2^y.a*2^c:=AAf ..;omega
  have g4:m*2^y.b<=Q y.t*2^c:=by
   apply CM (a:=2^c') _ hC';have e1:=AU hmm hB;have e2:=Ae g1 (Aw hC);have e3:m*2^y.b*2^c'=m*2^c'*2^y.b:=AAf ..;have e4:m'*2^c*2^y.b=m'*2^y.b*2^c:=AAf ..;have e5:Q y.t*2^c*2^c'=Q y.t*2^c'*2^c:=AAf ..;omega
  have v1:=(N2 h g2 g4).1.1 hm;have v2:l p m' c'<=l p m c:=Jh (Aw hmm);have v3:l p (Q y.t) y.b<=l p m' c':=Jh g1;obtain⟨s1,s2⟩:=N2 h g3 g1;have s3:=s1.2 (by omega);have s4:d p y m' c' ≠ 0:=by
   intro z;have:=Axs h.ne h.len hmm (s2.1 z);omega
  have hb:=(P5 (A9k p) (Q y.r) y.a (Q y.t) y.b m' c').1;unfold d at s3 s4 |-;omega
 ·exact Xe h.lt (by omega)
theorem A4q{p:LI}{y:Iv}(h:One p y)(m:Int)(c:Nat):d p (stp (A9k p) y) m c=d p y m c:=by
 obtain⟨b1,b2⟩:=IC h.lt;have b1:Q y.r*2^y.me<y.mn*2^y.a:=b1;have b2:y.mn*2^y.b<Q y.t*2^y.me:=b2;have hne:Bm (Q y.r) y.a (Q y.t) y.b ≠ 0:=by rw[Em.2 h.lt];decide
 have hh:=h.half;have hmid:=N2 h b1 (Aw b2);have bd:=P5 (A9k p) (Q y.r) y.a (Q y.t) y.b m c;unfold stp at hh |-;rw[if_neg hne] at hh |-;by_cases g:Fl (A9k p) (Q y.r) y.a (Q y.t) y.b y.mn y.me<=0
 ·rw[if_pos g] at hh |-;have gv:l p y.mn y.me=l p (Q y.t) y.b:=hmid.1.1 g;have bd':=P5 (A9k p) (Q y.r) y.a (Q (V y.mn)) y.me m c;by_cases c1:m*2^y.a<=Q y.r*2^c
  ·have q1:d p ⟨y.r,y.a,V y.mn,y.me⟩ m c=1:=OU c1;rw[q1,OU c1]
  ·by_cases c2:m*2^y.me<=y.mn*2^c
   ·obtain⟨s1,s2⟩:=N2 hh (m:=m) (c:=c) (by show Q y.r*2^c<m*2^y.a;omega) (by show m*2^y.me<=Q (V y.mn)*2^c;rw[A9y];exact c2);have c3:m*2^y.b<=Q y.t*2^c:=by
     have hE:=Bt y.me;have hB:=Bt y.b;have hC:=Bt c;apply CM (a:=2^y.me) _ hE;have e1:=Ae c2 (Aw hB);have e2:=AU b2 hC;have e3:m*2^y.b*2^y.me=m*2^y.me*2^y.b:=AAf ..;have e4:y.mn*2^c*2^y.b=y.mn*2^y.b*2^c:=AAf ..;have e5:Q y.t*2^c*2^y.me=Q y.t*2^y.me*2^c:=AAf ..;omega
    obtain⟨t1,t2⟩:=N2 h (m:=m) (c:=c) (by omega) c3;have s1:d p ⟨y.r,y.a,V y.mn,y.me⟩ m c<=0↔l p m c=l p (Q (V y.mn)) y.me:=s1;rw[A9y,gv] at s1;unfold d at s1 s2 t1 t2 |-;have q1:=s1.trans t1.symm;have q2:=s2.trans t2.symm;simp only at q1 q2 |-;generalize Fl (A9k p) (Q y.r) y.a (Q (V y.mn)) y.me m c=u at *
    generalize Fl (A9k p) (Q y.r) y.a (Q y.t) y.b m c=w at *
    by_cases z1:u<=0
    ·have:=q1.1 z1;by_cases z2:u=0
     ·have:=q2.1 z2;omega
     ·have:w ≠ 0:=fun z=>z2 (q2.2 z);omega
    ·have:¬ w<=0:=fun z=>z1 (q1.2 z);omega
   ·have e1:d p ⟨y.r,y.a,V y.mn,y.me⟩ m c = -1:=Xe hh.lt (by show Q (V y.mn)*2^c<m*2^y.me;rw[A9y];omega);rw[e1];exact (Zq h g (by omega)).symm
 ·rw[if_neg g] at hh |-;have bd':=P5 (A9k p) (Q (V y.mn)) y.me (Q y.t) y.b m c;by_cases c1:m*2^y.me<=y.mn*2^c
  ·have e1:d p ⟨V y.mn,y.me,y.t,y.b⟩ m c=1:=OU (by show m*2^y.me<=Q (V y.mn)*2^c;rw[A9y];exact c1);rw[e1];have:¬ d p y m c<=0:=by
    intro z;by_cases c2:m*2^y.me<y.mn*2^c
    ·have:=Zq h z c2;unfold d at this;rw[this] at g;exact g (by decide)
    ·have heq:m*2^y.me=y.mn*2^c:=by omega
     have hE:=Bt y.me;have hA:=Bt y.a;have hB:=Bt y.b;have hC:=Bt c;have i1:Q y.r*2^c<m*2^y.a:=by
      apply Do (a:=2^y.me) _ (Aw hE);have e1:=AU b1 hC;have e3:Q y.r*2^c*2^y.me=Q y.r*2^y.me*2^c:=AAf ..;have e4:m*2^y.a*2^y.me=y.mn*2^y.a*2^c:=by rw[AAf,heq,AAf]
      omega
     have i2:m*2^y.b<=Q y.t*2^c:=by
      apply CM (a:=2^y.me) _ hE;have e1:=AU b2 hC;have e3:Q y.t*2^c*2^y.me=Q y.t*2^y.me*2^c:=AAf ..;have e4:m*2^y.b*2^y.me=y.mn*2^y.b*2^c:=by rw[AAf,heq,AAf]
      omega
     have:=(N2 h i1 i2).1.1 z;rw[jE heq] at this;exact g (hmid.1.2 this)
   unfold d at this |-;omega
  ·by_cases c3:m*2^y.b<=Q y.t*2^c
   ·obtain⟨s1,s2⟩:=N2 hh (m:=m) (c:=c) (by show Q (V y.mn)*2^c<m*2^y.me;rw[A9y];omega) c3;have c4:Q y.r*2^c<m*2^y.a:=by
     have hE:=Bt y.me;have hA:=Bt y.a;have hC:=Bt c;apply Do (a:=2^y.me) _ (Aw hE);have e1:=AU (show y.mn*2^c<m*2^y.me by omega) hA;have e2:=AU b1 hC;have e3:Q y.r*2^c*2^y.me=Q y.r*2^y.me*2^c:=AAf ..;have e4:y.mn*2^c*2^y.a=y.mn*2^y.a*2^c:=AAf ..;have e5:m*2^y.me*2^y.a=m*2^y.a*2^y.me:=AAf ..;omega
    obtain⟨t1,t2⟩:=N2 h (m:=m) (c:=c) c4 c3;unfold d at s1 s2 t1 t2 |-;have q1:=s1.trans t1.symm;have q2:=s2.trans t2.symm;simp only at q1 q2 |-;generalize Fl (A9k p) (Q (V y.mn)) y.me (Q y.t) y.b m c=u at *
    generalize Fl (A9k p) (Q y.r) y.a (Q y.t) y.b m c=w at *
    by_cases z1:u<=0
    ·have:=q1.1 z1;by_cases z2:u=0
     ·have:=q2.1 z2;omega
     ·have:w ≠ 0:=fun z=>z2 (q2.2 z);omega
    ·have:¬ w<=0:=fun z=>z1 (q1.2 z);omega
   ·rw[Xe h.lt (by omega),Xe hh.lt (show Q y.t*2^c<m*2^y.b by omega)]
theorem Xf{p:LI}{y:Iv}(h:One p y)(m:Int)(c:Nat):∀ n,d p (stpN (A9k p) y n) m c=d p y m c
 | 0=>rfl
 | n+1=>by
  show d p (stp (A9k p) (stpN (A9k p) y n)) m c=_;rw[A4q (h.halves n),Xf h m c n]
theorem Wd.stp{k y}(h:Wd k y)(p:LI):Wd (k+1) (stp p y):=by
 have hne:Bm (Q y.r) y.a (Q y.t) y.b ≠ 0:=by rw[Em.2 h.lt];decide
 unfold Go.Proofs.YtajompaehjkgkaaGreat.stp;rw[if_neg hne];split
 ·exact h.halves.1
 ·exact h.halves.2
theorem Wd.stpN{k y}(h:Wd k y)(p:LI):∀ n,Wd (k+n) (stpN p y n)
 | 0=>h
 | n+1=>(Wd.stpN h p n).stp p
def Iv.yo(y:Iv):Iv:=⟨V (Q y.r),y.a,V (Q y.t),y.b⟩
theorem One.yo{p y}(h:One p y):One p y.yo:=⟨by show Q (V _)*_<Q (V _)*_;rw [A9y,A9y];exact h.lt,by show l p (Q (V _)) _-l p (Q (V _)) _=1;rw [A9y,A9y];exact h.v⟩
theorem Wd.yo{k y}(h:Wd k y):Wd k y.yo:=⟨by show (Q (V _)*_-Q (V _)*_)*_=_;rw [A9y,A9y];exact h.w,by show _<=Q (V _);rw [A9y];exact h.lo,by show Q (V _)<=_;rw [A9y];exact h.hi,h.a,h.b⟩
theorem Axt{C m:Nat}{y}(h:IvOk C m y):IvOk C m y.yo:=⟨BL h.gr.fits,BL h.gt.fits,h.a,h.b,by show (Q (V _)).natAbs<=_;rw [A9y];exact h.vr,by show (Q (V _)).natAbs<=_;rw [A9y];exact h.vt⟩
theorem Axu{n k:Nat}(h:n<=2^k):DD n<=k+1:=by
 unfold DD;split
 ·omega
 ·rename_i h0;have:n.log2<k+1:=(PD h0).2 (Dz h (QH (by decide) (by omega)));omega
theorem Ti{p:LI}(hp:A9l p ≠ [])(x:Int)(a:Nat):l (A9k p) x a=l p x a:=by
 have e:BW (A9k p)=BW p:=by
  unfold BW;rw[H1 hp]
 unfold l;rw[e]
theorem Xg{p:LI}(hp:Fewp p){y:Iv}(h:One p y)(hx:IvOk 6 895 y):Px ((A9k p).map V) y.r (y.a:Nat) y.t (y.b:Nat)=true:=by
 have lf:=(Cu hp.ne).1;have bn:∀ (r:Rn) (a:Nat),a<=895->(Q r).natAbs<=2^6*2^a->Qb r (a:Nat)=true:=by
  intro r a ha hr;unfold Qb;rw[<- CN] at hr;have:=Axu hr;rw[decide_eq_true (show (a:Int)>=0 by omega),decide_eq_true (show (a:Int)<=1024 by omega),decide_eq_true (show DD (Q r).natAbs<=1024 by omega)];rfl
 unfold Px;rw[AJ,QR hp.kb.1 (by decide) (by have:=hp.kb.2;omega),lf,decide_eq_true h.len,bn _ _ hx.a hx.vr,bn _ _ hx.b hx.vt,R,R];rw[if_neg (by rw[Em.2 h.lt];decide)];have hc:RO (A9k p) (Q y.r) y.a (Q y.t) y.b=1:=by
  have e:RO (A9k p) (Q y.r) y.a (Q y.t) y.b=l (A9k p) (Q y.r) y.a-l (A9k p) (Q y.t) y.b:=rfl;rw[e,Ti hp.ne,Ti hp.ne];exact h.v
 rw[decide_eq_true (show Bm (Q y.r) y.a (Q y.t) y.b = -1/\RO (A9k p) (Q y.r) y.a (Q y.t) y.b=1 from ⟨Em.2 h.lt,hc⟩)];rfl
section
variable {p:LI} (hp:Fewp p) {y:Iv} (h:One p y) (hx:IvOk 6 895 y)
include hp
theorem Xh:RQ 20 [B7 ((A9k p).map V) y.r (y.a:Nat) y.t (y.b:Nat)] (B7 ((A9k p).map V) y.r (y.a:Nat) y.t (y.b:Nat)):=by
 have k:=rY hp.good hp.l9 y.r y.t (y.a:Nat) (y.b:Nat);rw[AJ,H1 hp.ne] at k;exact k
end
end Go.Proofs.YtajompaehjkgkaaGreat
namespace Go.Ai
open Classical renaming byContradiction->A4
open Int renaming le_of_lt->Aw,le_refl->C',lt_or_gt_of_ne->F2,lt_trichotomy->IH,mul_assoc->AF,mul_comm->AA,mul_eq_zero->Hs,mul_le_mul_of_nonneg_left->Aj,mul_le_mul_of_nonneg_right->Ae,mul_lt_mul_of_pos_left->H6,mul_ne_zero->Ba,mul_neg->E5,mul_nonneg->A6,mul_one->De,mul_pos->Be,mul_right_comm->AAf,mul_sub->Fr,mul_zero->AI,natCast_mul->Dj,natCast_pow->CH,neg_mul->NL,not_le->GN,not_lt->J0,ofNat_le->sN,ofNat_lt->A7v,pow_pos->EQ,toNat_of_nonneg->kV,zero_mul->CX
open List renaming all_eq_true->BY,eq_nil_of_length_eq_zero->A7,length_pos_iff->Am,map_cons->C8,map_nil->FU,mem_map->Ec,mem_range->LO,range->Aq
open Nat renaming blt->Fm,lt_of_lt_of_le->EW,pow_le_pow_right->B8
open Or renaming inl->vL,inr->PR
open Rat renaming div_def->Ayn,intCast_add->K1,intCast_le_intCast->BK,intCast_mul->CW,intCast_natCast->DC,intCast_neg->Ahr,intCast_sub->kT,inv_pos->Ayp,le_of_lt->Hr,mul_nonneg->Fb,mul_pos->HG,natCast_add->QY,natCast_mul->GO,one_mul->Ayo
def lin(s:Int):LI:=[-s,2]
theorem HY{c:Int}(hc:c ≠ 0)(p:LI):(A9l (A0 c p)).length=(A9l p).length:=by
 rw[JA hc,Bc]
theorem P6{a b:Int}:((0<a/\0<b)\/(a<0/\b<0))↔0<a*b:=by
 constructor
 ·rintro (⟨h1,h2⟩ | ⟨h1,h2⟩)
  ·exact Be h1 h2
  ·have:=Be (show 0 < -a by omega) (show 0 < -b by omega);rwa [Int.neg_mul_neg] at this
 ·intro h;rcases IH a 0 with g | g | g
  ·rcases IH b 0 with k | k | k
   ·exact .inr ⟨g,k⟩
   ·subst k;simp at h
   ·have:=Be (show 0 < -a by omega) k;rw[NL] at this;omega
  ·subst g;simp at h
  ·rcases IH b 0 with k | k | k
   ·have:=Be g (show 0 < -b by omega);rw[E5] at this;omega
   ·subst k;simp at h
   ·exact .inl ⟨g,k⟩
theorem jW(p:LI)(x q:Int):Kz p x q↔0<t p x q*t p (x+1) q:=P6
theorem sR{c d a b:Int}(hc:c ≠ 0)(hd:d ≠ 0)(h:c*a=d*b):a=0↔b=0:=by
 constructor
 ·intro e;rw[e,AI] at h;rcases Hs.1 h.symm with g | g
  ·exact absurd g hd
  ·exact g
 ·intro e;rw[e,AI] at h;rcases Hs.1 h with g | g
  ·exact absurd g hc
  ·exact g
theorem vD{c:Int}(hc:c ≠ 0):0<c*c:=P6.1 (by omega)
theorem Agx{c d a b a' b':Int}(hc:c ≠ 0)(hd:d ≠ 0)(h:c*a=d*b)(h':c*a'=d*b'):0<a*a'↔0<b*b':=by
 have e:(c*c)*(a*a')=(d*d)*(b*b'):=by
  have:(c*c)*(a*a')=(c*a)*(c*a'):=by grind
  rw[this,h,h'];grind
 have p1:=vD hc;have p2:=vD hd;constructor
 ·intro k;have:=Be p1 k;rw[e] at this;have:=P6.2 this;omega
 ·intro k;have:=Be p2 k;rw[<- e] at this;have:=P6.2 this;omega
def wq(p:LI)(x q:Int):Int:=wv 0 (DI (CJ p) x q)
def y(p:LI)(x q:Int):Prop:=¬ Kz (A9k p) x q/\t (A9k p) x q ≠ 0
theorem N3(p:LI)(hp:A9l p ≠ [])(R:Int)(hR:0<=R):∃ Q0:Int,0<Q0/\∀ q x:Int,WY R q x->Q0<=q->(y p x q->wq p x q=wq p (x+1) q+1)/\(¬ y p x q->wq p x q=wq p (x+1) q):=by
 obtain⟨_,_,_,f0,_⟩:=Cu hp;have e1:CJ p=A9k p::H2 (A9k p).length (A9k p) (prim (As (A9k p))):=by unfold CJ;rw[if_neg f0]
 unfold wq y;by_cases hl:2<=(A9k p).length
 ·obtain⟨lf,hl1,hG,hcn⟩:=JB hp hl;obtain⟨Q0,hQ0,ht⟩:=Tb R hR lf hl hl1 hG hcn (A9k p).length (by omega);refine⟨Q0,hQ0,fun q x hr hq => ?_⟩;rw[e1];obtain⟨d,htop,hd2,hd3,hd4⟩:=ht q x hr hq;have h5:=aR htop;constructor
  ·intro ⟨g1,g2⟩;rcases hd2 with z | z
   ·rcases hd4 z with g | g
    ·exact absurd g g1
    ·exact absurd g g2
   ·omega
  ·intro g;rcases hd2 with z | z
   ·omega
   ·exact absurd (hd3 z) g
 ·refine⟨1,by decide,fun q x _ _ => ?_⟩;have hpos:=Am.2 f0;have hl1:(A9k p).length=1:=by omega
  have hz:prim (As (A9k p))=[]:=by
   rw[DG];intro i;rw[Dm,B0 (by omega),CX]
  have e:H2 (A9k p).length (A9k p) (prim (As (A9k p)))=[]:=by rw[hl1,hz];rfl
  have eh:∀ z,t (A9k p) z q=(A9k p).getD 0 0:=fun z=>by unfold t Go.Ai.hp;rw[hl1];rfl
  rw[e1,e];unfold DI;simp only[C8,FU];unfold Kz;rw[eh,eh];constructor
  ·intro ⟨g1,g2⟩;exfalso;omega
  ·intro _;rfl
theorem jX{f a b:LI}{c d:Int}(hc:c ≠ 0)(hd:d ≠ 0)(lf:BZ f)(la:BZ a)(lb:BZ b)(ha:a ≠ [])(hb:b ≠ [])(h:∀ x,c*Aa f x=d*(Aa a x*Aa b x))(x q:Int):c*t f x q=d*(t a x q*t b x q):=by
 have la':=Am.2 ha;have lb':=Am.2 hb;have hi:=Dg (p:=A0 c f) (q:=A0 d (BC a b)) (fun x=>by rw[Az,Az,AX];exact h x);have hlen:f.length=a.length+b.length-1:=by
  have h1:=HY hc f;have h2:=HY hd (BC a b);have h3:A9l (A0 c f)=A9l (A0 d (BC a b)):=E' hi;have h4:=KY (C7 la ha) (C7 lb hb);rw[lf] at h1;rw[h4,la,lb] at h2;rw[<- h1,h3,h2]
 have hm:=UA (r:=b) (tr:=b.length-1) (by omega) x q a (a.length-1) (by omega);unfold t;rw[show f.length-1=a.length-1+(b.length-1) by omega,<- hm];unfold hp;have h1:=LJ c 0 (fun i=>f.getD i 0) (fun i=>f.getD i 0) x q (a.length-1+(b.length-1));have h2:=LJ d 0 (fun i=>(BC a b).getD i 0) (fun i=>(BC a b).getD i 0) x q (a.length-1+(b.length-1));have h3:hs (fun i=>c*f.getD i 0+0*f.getD i 0) x q (a.length-1+(b.length-1))=hs (fun i=>d*(BC a b).getD i 0+0*(BC a b).getD i 0) x q (a.length-1+(b.length-1)):=Nz fun i _=>by
  have:=hi i;rw[AK,AK] at this;omega
 omega
theorem Ug{s t a b:Int}(h:0<a*b):0<s*a*(t*b)↔0<s*t:=by
 have e:s*a*(t*b)=s*t*(a*b):=by grind
 rw[e];constructor
 ·intro g;apply GN.1;intro z;have:=Ae z (Aw h);omega
 ·intro g;exact Be g h
theorem sS{P A B:LI}{c d:Int}(hc:c ≠ 0)(hd:d ≠ 0)(hP:A9l P ≠ [])(hA:A9l A ≠ [])(hB:A9l B ≠ [])(h:∀ x,c*Aa (A9k P) x=d*(Aa (A9k A) x*Aa (A9k B) x))(hG:Fk [1] (A9k A) (A9k B))(R:Int)(hR:0<=R) :
  ∃ Q0:Int,0<Q0/\∀ q x:Int,WY R q x->Q0<=q->wq P x q-wq P (x+1) q=(wq A x q-wq A (x+1) q)+(wq B x q-wq B (x+1) q):=by
 obtain⟨Q1,h1,k1⟩:=N3 P hP R hR;obtain⟨Q2,h2,k2⟩:=N3 A hA R hR;obtain⟨Q3,h3,k3⟩:=N3 B hB R hR;obtain⟨L4,Q4,_,h4,k4⟩:=P2 R hR hG;obtain⟨lf,_,_,f0,_⟩:=Cu hP;obtain⟨la,_,_,a0,_⟩:=Cu hA;obtain⟨lb,_,_,b0,_⟩:=Cu hB;refine⟨Q1+Q2+Q3+Q4,by omega,fun q x hr hq => ?_⟩;have v1:=jX hc hd lf la lb a0 b0 h x q;have v2:=jX hc hd lf la lb a0 b0 h (x+1) q;obtain⟨p1,p2⟩:=k1 q x hr (by omega);obtain⟨a1,a2⟩:=k2 q x hr (by omega);obtain⟨b1,b2⟩:=k3 q x hr (by omega);have g4:=fun g=>(k4 q x hr (by omega) g).1;have z1:=sR hc hd v1;have s1:=Agx hc hd v1 v2;unfold y at *
 simp only[jW] at p1 p2 a1 a2 b1 b2 g4;generalize t (A9k P) x q=F at *
 generalize t (A9k P) (x+1) q=F' at *
 generalize t (A9k A) x q=u at *
 generalize t (A9k A) (x+1) q=u' at *
 generalize t (A9k B) x q=v at *
 generalize t (A9k B) (x+1) q=v' at *
 have key:(¬ 0<F*F'/\F ≠ 0->(¬ 0<u*u'/\u ≠ 0)\/(¬ 0<v*v'/\v ≠ 0))/\(¬ 0<u*u'/\u ≠ 0->(¬ 0<F*F'/\F ≠ 0)/\¬ (¬ 0<v*v'/\v ≠ 0))/\(¬ 0<v*v'/\v ≠ 0->(¬ 0<F*F'/\F ≠ 0)/\¬ (¬ 0<u*u'/\u ≠ 0)):=by
  have hF:F ≠ 0↔u ≠ 0/\v ≠ 0:=by
   constructor
   ·intro g;refine⟨fun z=>g (z1.2 (by rw[z,CX])),fun z=>g (z1.2 (by rw[z,AI]))⟩
   ·intro ⟨g1,g2⟩ z;exact Ba g1 g2 (z1.1 z)
  by_cases su:0<u*u'
  ·have e:u*v*(u'*v')=v*u*(v'*u'):=by grind
   rw[e,Ug su] at s1;have u0:u ≠ 0:=by intro z;rw[z,CX] at su;omega
   refine⟨fun g=>PR ⟨fun z=>g.1 (s1.2 z),(hF.1 g.2).2⟩,fun g=>absurd su g.1,fun g=>⟨⟨fun z=>g.1 (s1.1 z),hF.2 ⟨u0,g.2⟩⟩,fun z=>z.1 su⟩⟩
  ·have sv:=g4 su;rw[Ug sv] at s1;have v0:v ≠ 0:=by intro z;rw[z,CX] at sv;omega
   refine⟨fun g=>vL ⟨fun z=>g.1 (s1.2 z),(hF.1 g.2).1⟩,fun g=>⟨⟨fun z=>g.1 (s1.1 z),hF.2 ⟨g.2,v0⟩⟩,fun z=>z.1 sv⟩,fun g=>absurd sv g.1⟩
 obtain⟨kA,kB,kC⟩:=key;by_cases lA:¬ 0<u*u'/\u ≠ 0
 ·obtain⟨q1,q2⟩:=kB lA;have:=p1 q1;have:=a1 lA;have:=b2 q2;omega
 ·by_cases lB:¬ 0<v*v'/\v ≠ 0
  ·obtain⟨q1,q2⟩:=kC lB;have:=p1 q1;have:=a2 q2;have:=b1 lB;omega
  ·have q1:¬ (¬ 0<F*F'/\F ≠ 0):=fun z=>by
    rcases kA z with g | g
    ·exact lA g
    ·exact lB g
   have:=p2 q1;have:=a2 lA;have:=b2 lB;omega
theorem Tj(p:LI)(x q c:Int)(hc:0<c):wq p (c*x) (c*q)=wq p x q:=by unfold wq;rw [Ig _ _ _ _ hc]
theorem Zr{P A B:LI}{c d:Int}(hc:c ≠ 0)(hd:d ≠ 0)(hP:A9l P ≠ [])(hA:A9l A ≠ [])(hB:A9l B ≠ [])(h:∀ x,c*Aa (A9k P) x=d*(Aa (A9k A) x*Aa (A9k B) x))(hG:Fk [1] (A9k A) (A9k B)){x y q:Int}(hq:0<q)(hxy:x<=y) :
  wq P x q-wq P y q=(wq A x q-wq A y q)+(wq B x q-wq B y q):=by
 obtain⟨Q0,hQ0,hm⟩:=sS hc hd hP hA hB h hG ((x.natAbs:Int)+(y.natAbs:Int)) (by omega);have h1:(0:Int)<Q0*q:=Be hQ0 hq;have hQq:Q0<=Q0*q:=by
  have:=Aj (show (1:Int)<=q by omega) (show 0<=Q0 by omega);omega
 have hb:∀ z:Int,(z.natAbs:Int)<=(x.natAbs:Int)+(y.natAbs:Int)->((Q0*z).natAbs:Int)<=((x.natAbs:Int)+(y.natAbs:Int))*(Q0*q):=by
  intro z hz;have h2:=Di (a:=Q0) (A:=Q0*q) (by omega) hz;have e:Q0*q*((x.natAbs:Int)+(y.natAbs:Int))=((x.natAbs:Int)+(y.natAbs:Int))*(Q0*q):=AA ..;omega
 have bx:=hb x (by omega);have by':=hb y (by omega);have hd:0<=Q0*(y-x):=A6 (by omega) (by omega);have e1:Q0*x+((Q0*(y-x)).toNat:Int)=Q0*y:=by rw[kV hd,Fr];omega
 have key:∀ k:Nat,Q0*x+(k:Int)<=Q0*y->wq P (Q0*x) (Q0*q)-wq P (Q0*x+k) (Q0*q)=(wq A (Q0*x) (Q0*q)-wq A (Q0*x+k) (Q0*q))+(wq B (Q0*x) (Q0*q)-wq B (Q0*x+k) (Q0*q)):=by
  intro k;induction k with
  | zero=>intro _;simp
  | succ k ih =>
   intro hk;have i1:=ih (by omega);have i2:=hm (Q0*q) (Q0*x+(k:Int)) ⟨h1,by omega,by omega⟩ hQq;rw[show Q0*x+((k+1:Nat):Int)=Q0*x+(k:Int)+1 by omega];omega
 have h3:=key (Q0*(y-x)).toNat (by omega);rw[e1] at h3;simp only[Tj _ _ _ _ hQ0] at h3;exact h3
theorem Zs(p:LI)(hp:A9l p ≠ []){x y q:Int}(hq:0<q)(hxy:x<=y)(hV:1<=wq p x q-wq p y q) :
  ∃ c0:Int,0<c0/\∀ c:Int,c0<=c->∃ z:Int,c*x<=z/\z+1<=c*y/\t (A9k p) z (c*q)*t (A9k p) (z+1) (c*q)<=0:=by
 obtain⟨Q0,hQ0,hm⟩:=N3 p hp ((x.natAbs:Int)+(y.natAbs:Int)) (by omega);refine⟨Q0,hQ0,fun c hcc => ?_⟩;have hc0:0<c:=by omega
 have hcq:c<=c*q:=by
  have:=Aj (show (1:Int)<=q by omega) (show 0<=c by omega);omega
 have hb:∀ z:Int,(z.natAbs:Int)<=(x.natAbs:Int)+(y.natAbs:Int)->((c*z).natAbs:Int)<=((x.natAbs:Int)+(y.natAbs:Int))*(c*q):=by
  intro z hz;have h2:=Di (a:=c) (A:=c*q) (by omega) hz;have e:c*q*((x.natAbs:Int)+(y.natAbs:Int))=((x.natAbs:Int)+(y.natAbs:Int))*(c*q):=AA ..;omega
 have bx:=hb x (by omega);have by':=hb y (by omega);apply A4;intro hn;have key:∀ k:Nat,c*x+(k:Int)<=c*y->wq p (c*x) (c*q)=wq p (c*x+k) (c*q):=by
  intro k;induction k with
  | zero=>intro _;simp
  | succ k ih =>
   intro hk;have i1:=ih (by omega);have i2:=(hm (c*q) (c*x+(k:Int)) ⟨by omega,by omega,by omega⟩ (by omega)).2 (fun g=>hn ⟨c*x+(k:Int),by omega,by omega,by
    have:=g.1;rw[jW] at this;omega⟩)
   rw[show c*x+((k+1:Nat):Int)=c*x+(k:Int)+1 by omega];omega
 have hd:0<=c*(y-x):=A6 (by omega) (by omega);have e1:c*x+((c*(y-x)).toNat:Int)=c*y:=by rw[kV hd,Fr];omega
 have h3:=key (c*(y-x)).toNat (by omega);rw[e1,Tj _ _ _ _ hc0,Tj _ _ _ _ hc0] at h3;omega
def jY(s t:LI)(n i:Nat):LI:=if i<n then Dn i s else Dn (i-n) t
def vE(m n A:Nat):Nat:=(2*((n+m)*A))^(n+m-1)
theorem Axv{s t:LI}{m n A:Nat}(hs:s.length=m+1)(ht:t.length=n+1)(hm:1<=m)(lt:BZ t)(hG:Fk [1] s t)(hA:∀ i,(s.getD i 0).natAbs<=A)(hB:∀ i,(t.getD i 0).natAbs<=A)(hA0:0<A) :
  ∃ (U V:LI) (R:Int),R ≠ 0/\(∀ x,pq U x*pq s x+pq V x*pq t x=(R:Rat))/\V.length=m/\∀ c∈V,c.natAbs<=vE m n A:=by
 obtain⟨d,R,hd,⟨i0,hi0,hne⟩,hid⟩:=Uc (jY s t n) (n+m) A (fun i j=>by
  unfold jY;split
  ·rw[Cm];split
   ·exact hA _
   ·simp
  ·rw[Cm];split
   ·exact hB _
   ·simp) hA0 (by omega) (fun i hi=>by
  unfold jY;split
  ·rw[Hn];omega
  ·rw[Hn];omega)
 have hid2:∀ x,Aa ((Aq n).map d) x*Aa s x+Aa ((Aq m).map fun i=>d (n+i)) x*Aa t x=R:=by
  intro x;rw[<- hid x,Te,<- JD,<- JD,<- M7,<- M7];congr 1
  ·apply KF;intro i hi;unfold jY;rw[if_pos hi,Ds,AF]
  ·apply KF;intro i hi;unfold jY;rw[if_neg (by omega),Ds,show n+i-n=i by omega,AF]
 refine⟨(Aq n).map d,(Aq m).map fun i=>d (n+i),R,?_,fun x=>RU hid2 x,by simp,?_⟩
 ·intro hR;rw[hR] at hid2;have gU:∀ i,((Aq n).map d).getD i 0=if i<n then d i else 0:=fun i=>HX d n i;have gV:∀ i,((Aq m).map fun i=>d (n+i)).getD i 0=if i<m then d (n+i) else 0:=fun i=>HX (fun i=>d (n+i)) m i;have lU:((Aq n).map d).length=n:=by simp
  generalize (Aq n).map d=U at *
  generalize ((Aq m).map fun i=>d (n+i))=V at *
  obtain⟨_,_,c,u,v,hc,huv⟩:=hG;have hD:Dv t U:=by
   refine⟨c,DB (BC v U) (A0 (-1) (BC u V)),hc,fun x => ?_⟩;have h1:=huv x;have h3:=hid2 x;rw[BU,AX,Az,AX];have e1:Aa [1] x=1:=by simp[Aa]
   rw[e1,De] at h1;rw[h1];generalize Aa u x=a at *
   generalize Aa v x=b at *
   generalize Aa U x=y at *
   generalize Aa V x=w at *
   generalize Aa s x=z at *
   generalize Aa t x=r at *
   have e2:y*z = -(w*r):=by omega
   have e3:(a*z+b*r)*y=a*(y*z)+b*r*y:=by grind
   rw[e3,e2];grind
  have hU0:A9l U=[]:=by
   apply A4;intro hz;have:=(hD.length hz).1;rw[lt,ht] at this;have:=Bp U;omega
  have hUz:=Dd.1 hU0;have hUe:∀ x,Aa U x=0:=fun x=>by rw[<- Ei,hU0];rfl
  have hVe:=No (p:=t) (q:=V) (by rw[lt];intro e;rw[e] at ht;simp at ht) (fun x=>by
   have:=hid2 x;rw[hUe x] at this;rw[AA];omega)
  have hVz:∀ i,V.getD i 0=0:=fun i=>by
   have:=Dg (p:=V) (q:=[]) (fun x=>by rw[hVe x];rfl) i;rw[this];rfl
  by_cases hlt:i0<n
  ·have:=gU i0;rw[hUz i0,if_pos hlt] at this;exact hne this.symm
  ·have:=gV (i0-n);rw[hVz,if_pos (by omega),show n+(i0-n)=i0 by omega] at this;exact hne this.symm
 ·intro c hc;obtain⟨i,_,rfl⟩:=Ec.1 hc;exact hd _
def Tk(m n A X:Nat):Nat:=vE m n A*zV X m*(A*zD X (n+1))
theorem A8u{s t U V:LI}{R:Int}{A B X:Nat}{a b e u w:Rat}(hR:R ≠ 0)(hid:∀ x,pq U x*pq s x+pq V x*pq t x=(R:Rat))(hA:∀ c∈t,c.natAbs<=A)(hB:∀ c∈V,c.natAbs<=B)
  (ha:Bd a X) (hb:Bd b X) (hsa:Bd (pq s a) e) (htb:Bd (pq t b) e) (hU:Bd (pq U a) u) (hw:Bd (b-a) w):1<=u*e+(B*zV X V.length)*(e+w*(A*zD X t.length)):=by
 have h1:=hid a;have d1:=Lb a b t;have b1:=QS ha hb t hA;have bV:=N0 ha V hB;have bta:Bd (pq t a) (e+w*(A*zD X t.length)):=by
  have:=htb.sub (hw.mul b1);have e1:pq t a=pq t b-(b-a)*dD t a b:=by grind
  rw[e1];exact this
 have hb:=(hU.mul hsa).add (bV.mul bta);rw[h1] at hb;unfold Bd at hb;have hR1:(1:Rat)<=(R:Rat)\/(R:Rat) <= -1:=by
  rcases F2 hR with g | g
  ·right;have:=BK.2 (show R <= -1 by omega);simpa using this
  ·left;have:=BK.2 (show (1:Int)<=R by omega);simpa using this
 grind
theorem sT(D:Int)(s:Int):((s+1:Int):Rat) / (D:Rat)-(s:Rat) / (D:Rat)=1 / (D:Rat):=by
 rw[K1];simp;grind
theorem A4r(D:Int)(hD:0<D):Bd (1 / (D:Rat)) (1 / (D:Rat)):=by
 have hD0:=Lc hD;have:0<1 / (D:Rat):=by
  rw[Ayn,Ayo];exact Ayp.2 hD0
 unfold Bd;constructor <;> grind
theorem Uh{f:LI}{A X:Nat}{z D:Int}(hD:0<D)(hA:∀ c∈f,c.natAbs<=A)(h1 : -(X*D)<=z)(h2:z+1<=X*D)(h:t f z D*t f (z+1) D<=0){E:Nat}(hE:A*zD X f.length<=E):Bd (pq f ((z:Rat) / (D:Rat))) (1 / (D:Rat)*(E:Nat)):=by
 have ba:=JE (X:=X) hD (z:=z) h1 (by omega);have ba1:=JE (X:=X) hD (z:=z+1) (by omega) h2;have d1:=Lb ((z:Rat) / (D:Rat)) (((z+1:Int):Rat) / (D:Rat)) f;have b1:=QS ba ba1 f hA;have b1':Bd (dD f ((z:Rat) / (D:Rat)) (((z+1:Int):Rat) / (D:Rat))) (E:Nat):=b1.mono (by
  rw[<- GO];have:=BK.2 (sN.2 hE);rw[DC,DC] at this;exact this)
 refine Tg (N1 hD h) ?_;have e:pq f (((z+1:Int):Rat) / (D:Rat))-pq f ((z:Rat) / (D:Rat))=1 / (D:Rat)*dD f ((z:Rat) / (D:Rat)) (((z+1:Int):Rat) / (D:Rat)):=by rw[d1,sT D];grind
 rw[e];exact (A4r D hD).mul b1'
theorem Axw{i D q c K w M:Rat}(hi:i*D=1)(hD:D=c*q)(hq:0<q)(hc:K+1<=c)(hK:0<=K)(hw:w*M*q+1<=q)(h:1<=K*i+w*M):False:=by
 have hc0:0<c:=by grind
 have e1:(i*q)*c=1:=by rw[<- hi,hD];grind
 have hj:0<i*q:=by
  apply A4;intro hn;have:=Fb (show 0 <= -(i*q) by grind) (Hr hc0);grind
 have h1:=Fb (show 0<=K*i+w*M-1 by grind) (Hr hq);have h2:1<=K*(i*q):=by grind
 have h3:=Fb (show 0<=K*(i*q)-1 by grind) (Hr hc0);have h4:c<=K:=by
  have e:(K*(i*q)-1)*c=K*((i*q)*c)-c:=by grind
  rw[e,e1] at h3;grind
 grind
theorem jZ{p1 p2:LI}(h1:A9l p1 ≠ [])(h2:A9l p2 ≠ [])(hG:Fk [1] (A9k p1) (A9k p2)){m n A X:Nat}(hm:(A9k p1).length=m+1)(hn:(A9k p2).length=n+1)(m1:1<=m)(hA:∀ i,((A9k p1).getD i 0).natAbs<=A)(hB:∀ i,((A9k p2).getD i 0).natAbs<=A)(hA0:0<A)
  {x y q:Int} (hq:0<q) (hxy:x<=y) (hx : -(X*q)<=x) (hy:y<=X*q) (hV1:1<=wq p1 x q-wq p1 y q) (hV2:1<=wq p2 x q-wq p2 y q):q<=(y-x)*(Tk m n A X:Nat):=by
 obtain⟨c1,hc1,k1⟩:=Zs p1 h1 hq hxy hV1;obtain⟨c2,hc2,k2⟩:=Zs p2 h2 hq hxy hV2;obtain⟨lt,_⟩:=Cu h2;obtain⟨U,V,R,hR,hid,hVl,hVb⟩:=Axv hm hn m1 lt hG hA hB hA0;generalize A9k p1=s at *
 generalize A9k p2=t at *
 obtain⟨Au,hAu⟩:=sK U;have hAs:∀ c∈s,c.natAbs<=A:=fun c hc=>by obtain⟨i,rfl⟩:=P3 hc;exact hA i
 have hAt:∀ c∈t,c.natAbs<=A:=fun c hc=>by obtain⟨i,rfl⟩:=P3 hc;exact hB i
 generalize hE:A*zD X s.length+A*zD X t.length=E;generalize hv:vE m n A*zV X V.length=v;generalize hu:Au*zV X U.length=u;generalize hK:(u+v)*E=K;have hk0:(0:Int)<((K+1:Nat):Int):=by omega
 have hcc:(0:Int)<c1+c2:=by omega
 have g1:(c1+c2)<=(c1+c2)*((K+1:Nat):Int):=by
  have:=Aj (show (1:Int)<=((K+1:Nat):Int) by omega) (Aw hcc);omega
 have g2:((K+1:Nat):Int)<=(c1+c2)*((K+1:Nat):Int):=by
  have:=Ae (show (1:Int)<=c1+c2 by omega) (Aw hk0);omega
 generalize (c1+c2)*((K+1:Nat):Int)=c at *
 have hc0:0<c:=by omega
 obtain⟨z,z1,z2,fz⟩:=k1 c (by omega);obtain⟨w,w1,w2,fw⟩:=k2 c (by omega);have hD:0<c*q:=Be hc0 hq;have sx:=Aj hx (Aw hc0);have sy:=Aj hy (Aw hc0);have ex:c * -(X*q) = -(X*(c*q)):=by grind
 have ey:c*(X*q)=X*(c*q):=by grind
 rw[ex] at sx;rw[ey] at sy;have hDq:(c*q:Int)=c*q:=rfl;have d1:w-z<=c*(y-x):=by rw[Fr];omega
 have d2 : -(c*(y-x))<=w-z:=by rw[Fr];omega
 generalize hDD:c*q=D at *
 have ba:=JE (X:=X) hD (z:=z) (by omega) (by omega);have bb:=JE (X:=X) hD (z:=w) (by omega) (by omega);have sa:=Uh (X:=X) hD hAs (by omega) (by omega) fz (E:=E) (by omega);have tb:=Uh (X:=X) hD hAt (by omega) (by omega) fw (E:=E) (by omega);have bU:=N0 ba U hAu;have hD0:=Lc hD;have hq0:=Lc hq;have hwd:Bd ((w:Rat) / (D:Rat)-(z:Rat) / (D:Rat)) (((y-x:Int):Rat) / (q:Rat)):=by
  have r1:=BK.2 d1;have r2:=BK.2 d2;have eD:(D:Rat)=(c:Rat)*(q:Rat):=by rw[<- hDD,CW]
  rw[Ahr,CW,kT w z] at r2;rw[CW,kT w z] at r1;have e1:((w:Rat) / (D:Rat)-(z:Rat) / (D:Rat))*(D:Rat)=(w:Rat)-(z:Rat):=by grind
  have e2:((y-x:Int):Rat) / (q:Rat)*(D:Rat)=(c:Rat)*((y-x:Int):Rat):=by rw[eD];grind
  generalize (w:Rat) / (D:Rat)-(z:Rat) / (D:Rat)=g at *
  generalize ((y-x:Int):Rat) / (q:Rat)=r at *
  rw[<- e1,<- e2] at r1 r2;generalize (D:Rat)=D' at *
  unfold Bd;constructor
  ·apply A4;intro hn;have:=HG (show 0 < -r-g by grind) hD0;grind
  ·apply A4;intro hn;have:=HG (show 0<g-r by grind) hD0;grind
 have hh:=A8u hR hid hAt hVb ba bb sa tb bU hwd;apply J0.1;intro hlt;have hlt':=BK.2 (show (y-x)*(Tk m n A X:Nat)+1<=q by omega);rw[K1,CW] at hlt';have eM:((Tk m n A X:Nat):Rat)=(v:Rat)*((A:Rat)*(zD X t.length:Nat)):=by
  unfold Tk;rw[<- hv,hVl,hn];simp only[GO]
 have ev:(v:Rat)=(vE m n A:Nat)*(zV X V.length:Nat):=by rw[<- hv,GO]
 have eu:(u:Rat)=(Au:Rat)*(zV X U.length:Nat):=by rw[<- hu,GO]
 have eK:(K:Rat)=((u:Rat)+(v:Rat))*(E:Rat):=by rw[<- hK,GO,QY]
 rw[<- ev,<- eu] at hh;have e1:((y-x:Int):Rat) / (q:Rat)*(q:Rat)=((y-x:Int):Rat):=by grind
 have hcK:=BK.2 g2;refine Axw (i:=1 / (D:Rat)) (D:=(D:Rat)) (q:=(q:Rat)) (c:=(c:Rat)) (K:=(K:Rat)) (w:=((y-x:Int):Rat) / (q:Rat)) (M:=((Tk m n A X:Nat):Rat)) (by grind) (by rw[<- hDD,CW]) hq0 ?_ ?_ ?_ ?_
 ·rw[DC,QY] at hcK;simpa using hcK
 ·exact Rat.natCast_nonneg
 ·have e2:((y-x:Int):Rat) / (q:Rat)*((Tk m n A X:Nat):Rat)*(q:Rat)=((y-x:Int):Rat)*((Tk m n A X:Nat):Rat):=by
   generalize ((y-x:Int):Rat) / (q:Rat)=r at *
   rw[<- e1];grind
  rw[e2];have e3:((((Tk m n A X:Nat):Int)):Rat)=((Tk m n A X:Nat):Rat):=DC _;rw[e3] at hlt';simpa using hlt'
 ·rw[eK,eM];generalize ((y-x:Int):Rat) / (q:Rat)=r at *
  generalize 1 / (D:Rat)=i at *
  grind
theorem kD{s t:LI}(hs:A9l s ≠ [])(h:(B3 s t).length<2):Fk [1] s t:=by
 have h0:=G7 (t:=t) hs;have h1:=Am.2 h0;obtain⟨c,hc⟩:=M1 (g:=B3 s t) (by omega);have ht:=KB (t:=t) hs;have hG:=Fw s t;rw[hc] at hG ht;have hc0:c ≠ 0:=by
  intro z;rw[z] at ht;exact absurd ht (by decide)
 exact Fk.gscaled (m:=c) (n:=1) hc0 (by decide) (fun x=>by simp[Aa]) hG
theorem Agy{p:LI}(hp:A9l p ≠ []):Fk [1] (A9k p) (As (A9k p)):=by
 obtain⟨lf,_,_,f0,_,_,_,h⟩:=Cu hp;exact kD (C7 lf f0) (by omega)
theorem Axx{f g k:LI}{c:Int}(hc:c ≠ 0)(h:∀ x,c*Aa f x=Aa g x*Aa k x)(hf:Fk [1] f (As f)):Fk [1] g k/\Fk [1] g (As g)/\Fk [1] k (As k):=by
 obtain⟨_,_,c0,u,v,hc0,e⟩:=hf;have hd:∀ x,c*Aa (As f) x=Aa (As g) x*Aa k x+Aa g x*Aa (As k) x:=fun x=>by
  rw[<- Hk];exact Nu (fun x=>by rw[Az];exact h x) x
 have o:∀ x,Aa [1] x=1:=fun x=>by simp[Aa]
 refine⟨⟨LH _,LH _,c0*c,DB (BC u k) (BC v (As k)),BC v (As g),Ba hc0 hc,fun x => ?_⟩,⟨LH _,LH _,c0*c,DB (BC u k) (BC v (As k)),BC v k,Ba hc0 hc,fun x => ?_⟩,⟨LH _,LH _,c0*c,DB (BC u g) (BC v (As g)),BC v g,Ba hc0 hc,fun x => ?_⟩⟩;all_goals
  have e1:=e x;have e2:=h x;have e3:=hd x;rw[o,De] at e1;simp only[o,De,BU,AX];generalize Aa u x=U at *
  generalize Aa v x=V at *
  generalize Aa f x=F at *
  generalize Aa (As f) x=F' at *
  generalize Aa g x=G at *
  generalize Aa (As g) x=G' at *
  generalize Aa k x=K at *
  generalize Aa (As k) x=K' at *
  rw[e1];have e4:(U*F+V*F')*c=U*(c*F)+V*(c*F'):=by grind
  rw[e4,e2,e3];grind
theorem kF{k:LI}(hk:A9l k ≠ [])(h:Fk [1] k (As k)):∃ m n:Int,m ≠ 0/\n ≠ 0/\∀ x,m*Aa (A9k k) x=n*Aa k x:=by
 obtain⟨la,a0,_,_,_,m,hm,n,hn,hpa⟩:=RI hk;have hG:Fk [1] (AAc (prim k)) (As (AAc (prim k))):=Fk.scaled (m:=m) (n:=n) (k:=m) (l:=n) hm hn hm hn (fun x=>(hpa x).symm) (fun x=>(RH hpa x).symm) h;have hl:=(Fw (AAc (prim k)) (As (AAc (prim k)))).length hG (by rw[show A9l (B3 (AAc (prim k)) (As (AAc (prim k))))=_ from Ee _ _];exact G7 (C7 la a0));rw[show A9l (B3 (AAc (prim k)) (As (AAc (prim k))))=_ from Ee _ _] at hl;have hl1:(A9l [1]).length=1:=rfl;have e:A9k k=AAc (prim k):=by
  unfold A9k;rw[if_pos (PR (by omega))]
 exact⟨m,n,hm,hn,fun x=>by rw[e];exact (hpa x).symm⟩
theorem kG{f g k:LI}{c:Int}(hc:c ≠ 0)(h:∀ x,c*Aa f x=Aa g x*Aa k x)(hf:A9l f ≠ []):A9l k ≠ []:=by
 intro h1;apply hf;have e:A9l (A0 c f)=A9l []:=Gv fun x=>by rw[Az,h x,DM h1,AI];rfl
 have h2:=HY hc f;rw[e] at h2;exact A7 h2.symm
structure Cof (p q k:List Int):Prop where
 nz:A9l k ≠ []
 gz:A9l (B3 (A9k p) q) ≠ []
 mul:∃ c d:Int,c ≠ 0/\d ≠ 0/\∀ x,c*Aa (A9k p) x=d*(Aa (A9k (B3 (A9k p) q)) x*Aa (A9k k) x)
 one:Fk [1] (A9k (B3 (A9k p) q)) (A9k k)
 two:Fk [1] (A9k k) (A9k q)
 dv:Dv (A9k k) (A9k p)
theorem Zt{p q:LI}(hp:A9l p ≠ [])(hq:A9l q ≠ []):∃ k,Cof p q k:=by
 obtain⟨lf,_,_,f0,_⟩:=Cu hp;have hf0:=C7 lf f0;have hF:=Agy hp;have hG:=Fw (A9k p) q;have hg0:A9l (B3 (A9k p) q) ≠ []:=by rw[show A9l (B3 (A9k p) q)=_ from Ee _ _];exact G7 hf0
 generalize hgg:B3 (A9k p) q=G at *
 obtain⟨⟨c,k,hc,hk⟩,_,c2,u,v,hc2,e2⟩:=hG;obtain⟨g1,g2,g3⟩:=Axx hc hk hF;have hk0:=kG hc hk hf0;obtain⟨m1,n1,hm1,hn1,f1⟩:=kF hg0 g2;obtain⟨m2,n2,hm2,hn2,f2⟩:=kF hk0 g3;obtain⟨_,_,_,_,⟨c5,j,hc5,e5⟩,_⟩:=Cu hq;refine⟨k,⟨hk0,by rw[hgg];exact hg0,⟨n1*n2*c,m1*m2,Ba (Ba hn1 hn2) hc,Ba hm1 hm2,fun x => ?_⟩,?_,?_,?_⟩⟩
 ·rw[hgg];have a1:=f1 x;have a2:=f2 x;have a3:=hk x;generalize Aa (A9k p) x=F at *
  generalize Aa (A9k G) x=A at *
  generalize Aa (A9k k) x=B at *
  generalize Aa G x=A' at *
  generalize Aa k x=B' at *
  have b1:m1*m2*(A*B)=(m1*A)*(m2*B):=by grind
  have b2:n1*n2*c*F=n1*n2*(c*F):=by grind
  rw[b1,a1,a2,b2,a3];grind
 ·rw[hgg];exact Fk.scaled hm1 hn1 hm2 hn2 f1 f2 g1
 ·obtain⟨_,_,c3,u',v',hc3,e3⟩:=g1;have hkq:Fk [1] k (A9k q):=by
   refine⟨LH _,LH _,c5*(c*c2*c3),A0 c5 (DB (BC (BC u' u) G) (A0 (c*c2) v')),A0 c (BC (BC u' v) j),Ba hc5 (Ba (Ba hc hc2) hc3),fun x => ?_⟩;have a1:=hk x;have a2:=e2 x;have a3:=e3 x;have a5:=e5 x;simp only[Az,BU,AX];have o:Aa [1] x=1:=by simp[Aa]
   rw[o,De] at a3 |-;generalize Aa (A9k p) x=F at *
   generalize Aa (A9k q) x=Q at *
   generalize Aa G x=A at *
   generalize Aa k x=B at *
   generalize Aa q x=Z at *
   generalize Aa u x=U at *
   generalize Aa v x=V at *
   generalize Aa u' x=U' at *
   generalize Aa v' x=V' at *
   generalize Aa j x=J at *
   have b1:c5*(c*c2*c3)=c5*(U'*(c*(c2*A))+c*c2*(V'*B)):=by rw[a3];grind
   have b2:c*(U*F+V*Z)=U*(c*F)+c*(V*Z):=by grind
   have b3:c5*(U'*(U*(A*B)+c*(V*Z))+c*c2*(V'*B))=c5*(U'*U*A+c*c2*V')*B+c*(U'*V)*(c5*Z):=by grind
   rw[b1,a2,b2,a1,b3,a5];grind
  exact Fk.scaled hm2 hn2 (by decide:(1:Int) ≠ 0) (by decide:(1:Int) ≠ 0) f2 (fun _=>rfl) hkq
 ·refine⟨n2*c,A0 m2 G,Ba hn2 hc,fun x => ?_⟩;have a2:=f2 x;have a3:=hk x;rw[Az];generalize Aa (A9k p) x=F at *
  generalize Aa (A9k k) x=B at *
  generalize Aa G x=A' at *
  generalize Aa k x=B' at *
  have b1:B*(m2*A')=(m2*B)*A':=by grind
  have b2:n2*c*F=n2*(c*F):=by grind
  rw[b1,a2,b2,a3];grind
theorem Ui{p g:LI}(hp:A9l p ≠ [])(hg:A9l g ≠ [])(hl:p.length<=7){P:Nat}(hP:∀ i,(p.getD i 0).natAbs<=P)(hD:Dv (A9k g) p):(∀ i,((A9k g).getD i 0).natAbs<=P*8^9*17^6)/\(A9k g).length<=p.length:=by
 obtain⟨lf,cf,_,f0,_⟩:=Cu hg;have h1:=(hD.length hp).1;rw[lf] at h1;have h2:=Bp p;obtain⟨c,k,hc,hk⟩:=hD;obtain⟨k',hk'⟩:=LD hc cf hk;exact⟨aZ hp (by omega) (by omega) hP hk',by omega⟩
def Xi:Nat:=2^100*8^9*17^6
theorem Axy:∀ e,e=1610->∀ m,m<=5->∀ n,n<=5->160*Tk m n Xi 40<2^e:=by
 intro e he m hm n hn;have key:((Aq 6).all fun m=>(Aq 6).all fun n=>Fm (160*Tk m n Xi 40) (2^e))=true:=by
  subst he;kernel_rfl
 rw[BY] at key;have k1:=key m (LO.2 (by omega));rw[BY] at k1;have k2:=k1 n (LO.2 (by omega));simpa using k2
theorem kH{r:LI}{x y Q:Int}(h:1<=wq r x Q-wq r y Q):2<=(A9k r).length:=by
 apply A4;intro g;have e:∀ z,wq r z Q<=0:=by
  intro z;unfold wq CJ;by_cases h0:A9k r=[]
  ·rw[if_pos h0];exact C' _
  ·rw[if_neg h0];have hz:prim (As (A9k r))=[]:=by
    rw[DG];intro i;rw[Dm,B0 (by omega),CX]
   have hl1:(A9k r).length=1:=by have:=Am.2 h0;omega
   have e:H2 (A9k r).length (A9k r) (prim (As (A9k r)))=[]:=by rw[hl1,hz];rfl
   rw[e];exact jS (CG (t (A9k r) z Q)) []
 have e2:0<=wq r y Q:=Ld _ _;have:=e x;omega
theorem vF{p q:LI}(hp:A9l p ≠ [])(hq:A9l q ≠ []){x y Q:Int}(hQ:0<Q)(hxy:x<=y):wq (B3 (A9k p) q) x Q-wq (B3 (A9k p) q) y Q<=wq p x Q-wq p y Q:=by
 obtain⟨s,hs⟩:=Zt hp hq;obtain⟨c,d,hc,hd,hcd⟩:=hs.mul;have hm:=Zr hc hd hp hs.gz hs.nz hcd hs.one hQ hxy;have:wq s y Q<=wq s x Q:=LL s hQ hxy;omega
structure Shortp (p:List Int):Prop where
 ne:A9l p ≠ []
 len:p.length<=6
 co:∀ i,(p.getD i 0).natAbs<=2^100
theorem Agz{p q:LI}(hp:Shortp p)(hq:A9l q ≠ [])(hb:∀ i,((A9k q).getD i 0).natAbs<=Xi)(hl:(A9k q).length<=6){x y Q:Int}(hQ:0<Q)(hxy:x<=y)(hx : -(40*Q)<=x)(hy:y<=40*Q){k:Nat}(hk:1610<=k)(hw:(y-x)*2^k<=160*Q)(h1:1<=wq p x Q-wq p y Q)(h2:1<=wq q x Q-wq q y Q) :
  1<=wq (B3 (A9k p) q) x Q-wq (B3 (A9k p) q) y Q:=by
 obtain⟨s,hs⟩:=Zt hp.ne hq;obtain⟨c,d,hc,hd,hcd⟩:=hs.mul;have hm:=Zr hc hd hp.ne hs.gz hs.nz hcd hs.one hQ hxy;apply A4;intro hn;have hs1:1<=wq s x Q-wq s y Q:=by omega
 obtain⟨_,_,_,_,dp,_⟩:=Cu hp.ne;obtain⟨b1,l1⟩:=Ui hp.ne hs.nz (by have:=hp.len;omega) hp.co (hs.dv.trans dp);have l3:=kH hs1;have l4:=kH h2;have hpl:=hp.len;have ap:=jZ (X:=40) hs.nz hq hs.two (m:=(A9k s).length-1) (n:=(A9k q).length-1) (A:=Xi) (by omega) (by omega) (by omega) b1 hb (by decide) hQ hxy hx hy hs1 h2;obtain⟨e,he,num⟩:∃ e,e<=k/\160*Tk ((A9k s).length-1) ((A9k q).length-1) Xi 40<2^e:=⟨1610,hk,Axy _ rfl _ (by omega) _ (by omega)⟩;generalize Tk ((A9k s).length-1) ((A9k q).length-1) Xi 40=M at *
 have hK:(0:Int)<2^k:=EQ (by decide);have num2:(160:Int)*(M:Nat)<2^k:=by
  have h3:160*M<2^k:=EW num (B8 (by decide) he);have h4:=A7v.2 h3;rw[Dj,CH] at h4;exact h4
 have e1:=Ae ap (Aw hK);have e2:=Ae hw (show (0:Int)<=(M:Nat) by omega);have e3:=H6 num2 hQ;have e4:(y-x)*(M:Nat)*2^k=(y-x)*2^k*(M:Nat):=AAf ..;have e5:Q*(160*(M:Nat))=160*Q*(M:Nat):=by grind
 omega
theorem Shortp.small{q:LI}(hq:Shortp q):(∀ i,((A9k q).getD i 0).natAbs<=Xi)/\(A9k q).length<=6:=by
 obtain⟨_,_,_,_,dq,_⟩:=Cu hq.ne;obtain⟨b2,l2⟩:=Ui hq.ne hq.ne (by have:=hq.len;omega) hq.co dq;exact⟨b2,by have:=hq.len;omega⟩
end Go.Ai
namespace Go.Proofs.YtajompaehjkgkaaGreat
open Go.Ai
set_option maxRecDepth 100000
open Bool renaming and_eq_true->Af,not_eq_true->Ahq,or_eq_false_iff->GT,or_eq_true->HL,true_and->LX
open Decidable renaming decide->A9i
open Go.Ai.AV renaming agg->o,bool->F,fresh->L,int->D,sl->H,tup->Ax
open Go.IntKind renaming i64->O,u32->Ad,wrap->I
open Int renaming add_mul->G4,eq_of_mul_eq_mul_left->G8,le_of_lt->Aw,le_of_mul_le_mul_right->CM,le_refl->C',le_trans->Eo,lt_or_gt_of_ne->F2,mul_comm->AA,mul_le_mul_of_nonneg_left->Aj,mul_le_mul_of_nonneg_right->Ae,mul_neg_of_neg_of_pos->II,mul_neg_of_pos_of_neg->IE,mul_pos->Be,mul_right_comm->AAf,natCast_pow->CH,not_le->GN,ofNat_le->sN,pow_add->BG,pow_succ->A2,sub_mul->Aym,sub_self->P9,toNat->A,toNat_natCast->R
open List renaming getD_eq_getElem?_getD->Z,getElem?_eq_getElem->Ah,getElem?_map->CL,getElem_mem->CY,length_map->N,length_pos_iff->Am
open Nat renaming add_comm->GF,le_refl->Ap,le_trans->Bx,lt_or_ge->Cn,lt_trichotomy->tD,mul_le_mul->B2,mul_le_mul_left->AAd,mul_one->GI,pow_add->CN,pow_le_pow_right->B8,zero_le->By
theorem Axz(p:LI)(y:Iv):y.d p=wq p (Q y.r*2^y.b) (2^(y.a+y.b))-wq p (Q y.t*2^y.a) (2^(y.a+y.b)):=by
 have e1:=Fx p (Q y.r) y.a y.b;have e2:=Fx p (Q y.t) y.b y.a;rw[GF y.b y.a] at e2;show l p _ _-l p _ _=_;rw[<- e1,<- e2,Ho,Ho];rfl
theorem Fewp.short{p:LI}(h:Fewp p)(hl:p.length<=6):Shortp p:=⟨h.ne,hl,h.co⟩
theorem Aha(p:LI){y:Iv}(h:Q y.r*2^y.b<Q y.t*2^y.a):0<=y.d p:=by
 have:=Jh (p:=p) (Aw h);unfold Iv.d;omega
theorem One.d{p:LI}{y:Iv}(h:One p y):y.d p=1:=h.v
theorem A8v(s:LI){p:LI}{y:Iv}(h:Q y.r*2^y.b<Q y.t*2^y.a):(stp p y).d s<=y.d s:=by
 obtain⟨b1,b2⟩:=IC h;have v1:=Jh (p:=s) (Aw b1);have v2:=Jh (p:=s) (Aw b2);have hne:Bm (Q y.r) y.a (Q y.t) y.b ≠ 0:=by rw[Em.2 h];decide
 unfold stp;rw[if_neg hne];unfold Iv.d;split
 ·show l s (Q y.r) y.a-l s (Q (V y.mn)) y.me<=_;rw[A9y];have:l s (Q y.t) y.b<=l s y.mn y.me:=v2;omega
 ·show l s (Q (V y.mn)) y.me-l s (Q y.t) y.b<=_;rw[A9y];have:l s y.mn y.me<=l s (Q y.r) y.a:=v1;omega
theorem A4s{p q:LI}(hp:A9l p ≠ [])(hq:A9l q ≠ []){y:Iv}(h:One p y):0<=y.d (B3 (A9k p) q)/\y.d (B3 (A9k p) q)<=1:=by
 have h1:=vF hp hq (Bt (y.a+y.b)) (Aw (show Q y.r*2^y.b<Q y.t*2^y.a from h.lt));rw[<- Axz,<- Axz,h.d] at h1;exact⟨Aha _ h.lt,h1⟩
theorem Xj{p:LI}(hp:Shortp p)(q:LI):u 5 (B3 (A9k p) q)/\(B3 (A9k p) q).length<=6:=by
 obtain⟨lf,_,_,f0,dp,_⟩:=Cu hp.ne;have hf0:=C7 lf f0;have hD:=(Fw (A9k p) q).1.trans dp;have h1:=(hD.length hp.ne).1;rw[show A9l (B3 (A9k p) q)=_ from Ee _ _] at h1;have h2:=Bp p;have h3:=hp.len;obtain⟨c,k,hc,hk⟩:=hD;obtain⟨k',hk'⟩:=LD hc (Nq hf0) hk;have hb:=aZ hp.ne (by omega) (by omega) hp.co hk';refine⟨fun i=>Gl (k:=152) (Bx (hb i) ?_) (by decide),by omega⟩;have e1:(8:Nat)^9<=2^27:=by decide
 have e2:(17:Nat)^6<=2^25:=by decide
 refine Bx (B2 (AAd _ e1) e2) ?_;rw[<- CN,<- CN];exact B8 (by decide) (by decide)
theorem sU{rs:List Rn}(hg:∀ r∈rs,AO 5 r)(hn:rs.length<=9){r t:Rn}(hr:AO 100 r)(ht:AO 100 t){a b:Nat}(ha:a<=4096)(hb:b<=4096) :
  RQ 63 [Y pc rs,j r (a:Nat),j t (b:Nat)] (D O (RO (P rs) (Q r) a (Q t) b)):=by
 have hch:=iC hg hn;have hnice:=Kx hg hn;have hlen:=Ip hg hn;have x1:=Za hnice hr a (by omega) (by omega);have x2:=Za hnice ht b (by omega) (by omega);have k:=A3p rs _ r t (a:Nat) (b:Nat) _ _ hch x1 x2;rw[OL (by omega)] at k;exact k
section
variable {p:LI} (hp:Fewp p) {qs:List Rn} (hg:∀ r∈qs,AO 5 r) (hn:qs.length<=6)
include hp hg hn
end
theorem Ahb{p:LI}(hk:u 5 p)(hl:p.length<=9){y:Iv}{C m:Nat}(hx:IvOk C m y)(hm:m<=4096):RQ 136 [H (p.map V).length (pc (p.map V)),j y.r (y.a:Nat),j y.t (y.b:Nat)] (D O (y.d p)) /\
  RQ 63 [H (p.map V).length (pc (p.map V)),j y.r (y.a:Nat),j y.t (y.b:Nat)] (D O (y.d p)):=by
 have h1:=W_ (AR hk) (by rw[N];exact hl) hx.gr hx.gt (a:=y.a) (b:=y.b) (by have:=hx.a;omega) (by have:=hx.b;omega);have h2:=sU (AR hk) (by rw[N];exact hl) hx.gr hx.gt (a:=y.a) (b:=y.b) (by have:=hx.a;omega) (by have:=hx.b;omega);rw[AJ] at h1 h2;exact⟨h1,h2⟩
theorem kI{f g:LI}(hk:u 5 g)(hl:g.length<=9){y:Iv}{C m:Nat}(hx:IvOk C m y)(hm:m<=4096)(hlt:Bm (Q y.r) y.a (Q y.t) y.b = -1):RQ 69 [B7 (f.map V) y.r (y.a:Nat) y.t (y.b:Nat),H (g.map V).length (pc (g.map V))] (F (!decide (g.length<2)&&(y.d g==1))):=by
 by_cases c:g.length<2
 ·rw[decide_eq_true c];exact Afv _ y.r y.t _ _ _ (by rw[decide_eq_true_eq,N];omega)
 ·rw[decide_eq_false c];have h1:=GD (hx.gr.mono (show 100<=200 by omega)) (hx.gt.mono (show 100<=200 by omega)) (a:=y.a) (b:=y.b) (by have:=hx.a;omega) (by have:=hx.b;omega);rw[hlt] at h1;exact Afw _ y.r y.t _ _ _ (-1) _ (by rw[decide_eq_false_iff_not,N];omega) rfl h1 (Ahb hk hl hx hm).2
abbrev Dy:=Int × Nat
def dl(u v:Dy):Prop:=u.1*2^v.2<=v.1*2^u.2
def VD(p:LI)(u:Dy):Int:=l p u.1 u.2
theorem Fy{u v w:Dy}(h1:dl u v)(h2:dl v w):dl u w:=by
 unfold dl at *
 apply CM (a:=2^v.2) _ (Bt v.2);have e1:=Ae h1 (Aw (Bt w.2));have e2:=Ae h2 (Aw (Bt u.2));have a1:u.1*2^w.2*2^v.2=u.1*2^v.2*2^w.2:=AAf ..;have a2:w.1*2^u.2*2^v.2=w.1*2^v.2*2^u.2:=AAf ..;have a3:v.1*2^u.2*2^w.2=v.1*2^w.2*2^u.2:=AAf ..;omega
theorem KH(u v:Dy):dl u v\/dl v u:=by unfold dl;omega
theorem JF(u:Dy):dl u u:=C' _
theorem Hp(p:LI){u v:Dy}(h:dl u v):VD p v<=VD p u:=Jh h
def Iv.lo'(y:Iv):Dy:=(Q y.r,y.a)
def Iv.hi'(y:Iv):Dy:=(Q y.t,y.b)
theorem One.dlt{p:LI}{y:Iv}(h:One p y):dl y.lo' y.hi'/\¬ dl y.hi' y.lo':=⟨Aw h.lt,GN.2 h.lt⟩
theorem RX{p:LI}{y:Iv}(h:One p y)(m:Int)(c:Nat):d p y m c<=0↔¬ dl (m,c) y.lo'/\VD p (m,c)<=VD p y.hi':=by
 unfold dl VD Iv.lo' Iv.hi';by_cases h1:m*2^y.a<=Q y.r*2^c
 ·rw[OU h1];exact⟨fun g=>absurd g (by decide),fun g=>absurd h1 g.1⟩
 ·by_cases h2:m*2^y.b<=Q y.t*2^c
  ·rw[(N2 h (by omega) h2).1];have:=Jh (p:=p) h2;simp only;constructor
   ·intro g;exact⟨h1,by omega⟩
   ·intro g;omega
  ·have:=Jh (p:=p) (x:=Q y.t) (a:=y.b) (y:=m) (b:=c) (by omega);rw[Xe h.lt (by omega)];exact⟨fun _=>⟨h1,this⟩,fun _=>by decide⟩
def Xk(g p:LI):Prop:=∀ u v:Dy,dl u v->VD g u-VD g v<=VD p u-VD p v
theorem Xl(p:LI)(u:Dy)(c:Nat):VD p u=wq p (u.1*2^c) (2^(u.2+c)):=by
 have:=Fx p u.1 u.2 c;unfold VD;rw[<- this,Ho];rfl
theorem RY{p q:LI}(hp:A9l p ≠ [])(hq:A9l q ≠ []):Xk (B3 (A9k p) q) p:=by
 intro u v h;have k:=vF hp hq (Bt (u.2+v.2)) (show u.1*2^v.2<=v.1*2^u.2 from h);rw[Xl _ u v.2,Xl _ u v.2,Xl _ v u.2,Xl _ v u.2,GF v.2 u.2];exact k
theorem sV{g:LI}(lg:BZ g)(cg:AQ g=1)(tg:0<X g){s:LI}(ls:BZ s)(cs:AQ s=1)(ts:0<X s)(h1:Dv g s)(h2:Dv s g)(hs:A9l s ≠ [])(hg:A9l g ≠ []):g=s:=by
 obtain⟨c,k,hc,hk⟩:=h1;have n1:=(Dv.length ⟨c,k,hc,hk⟩ hs).1;have n2:=(h2.length hg).1;rw[lg,ls] at n1 n2;have hk0:=kG hc hk hs;have e:A9l (A0 c s)=A9l (BC g k):=Gv fun x=>by rw[Az,hk x,AX]
 have e1:=HY hc s;have e2:=KY hg hk0;rw[<- e,e1,ls,lg] at e2;have g0:=Am.2 hg;rw[lg] at g0;obtain⟨d,hd⟩:=M1 (g:=A9l k) (by omega);have hd':∀ i,c*s.getD i 0=d*g.getD i 0:=by
  intro i;have k1:=Dg (p:=A0 c s) (q:=A0 d g) (fun x=>by
   rw[Az,Az,hk x,<- Ei k,hd,AA];simp[Aa]) i
  rw[AK,AK] at k1;exact k1
 have hd0:d ≠ 0:=by
  intro z;have:=E1 (show BZ (A9l k) from GY k) hk0;rw[hd,z] at this;exact this rfl
 have t1:=hd' (g.length-1);have hcd:0<c*d:=by
  have tg':0<g.getD (g.length-1) 0:=tg;have ts':0<s.getD (g.length-1) 0:=by rw[show g.length=s.length by omega];exact ts
  rcases F2 hc with gc | gc
  ·have:=II gc ts';rw[t1] at this;rcases F2 hd0 with gd | gd
   ·exact Int.mul_pos_of_neg_of_neg gc gd
   ·have:=Be gd tg';omega
  ·have:=Be gc ts';rw[t1] at this;rcases F2 hd0 with gd | gd
   ·have:=II gd tg';omega
   ·exact Be gc gd
 have hcc:=Pp (xs:=A0 c s) (ys:=A0 d g) (fun i=>by rw[AK,AK];exact hd' i);rw[In,In,cs,cg,GI,GI] at hcc;have hcd2:c=d:=by
  rcases F2 hc with gc | gc
  ·rcases F2 hd0 with gd | gd
   ·omega
   ·have:=II gc gd;omega
  ·rcases F2 hd0 with gd | gd
   ·have:=IE gc gd;omega
   ·omega
 have hsame:∀ i,g.getD i 0=s.getD i 0:=fun i=>by
  have:=hd' i;rw[hcd2] at this;exact (G8 hd0 this).symm
 have:=E' hsame;rw[lg,ls] at this;exact this
theorem Xm{s t:LI}(hs:A9l s ≠ [])(ht:A9l t ≠ []):B3 s t=B3 t s:=by
 have g1:=Fw s t;have g2:=Fw t s;refine sV (Ee _ _) (Nq hs) (KB hs) (Ee _ _) (Nq ht) (KB ht) (g2.dv g1.2.1 g1.1) (g1.dv g2.2.1 g2.1) ?_ ?_
 ·rw[show A9l (B3 t s)=_ from Ee _ _];exact G7 ht
 ·rw[show A9l (B3 s t)=_ from Ee _ _];exact G7 hs
theorem vG{p g:LI}{y:Iv}(h:One p y)(hd:Xk g p){l u:Dy}(h1:dl y.lo' l)(h2:dl u y.hi')(h3:1<=VD g l-VD g u)(m:Int)(c:Nat):d p y m c<=0↔¬ dl (m,c) l/\VD g (m,c)<=VD g u:=by
 rw[RX h];have hv:VD p y.lo'-VD p y.hi'=1:=h.v;have hlu:dl l u:=by
  rcases KH l u with g1 | g1
  ·exact g1
  ·have:=Hp g g1;omega
 have v1:=Hp p h1;have v2:=Hp p h2;have v3:=hd l u hlu;generalize (m,c)=w;constructor
 ·intro ⟨a1,a2⟩;have a3:¬ dl w l:=fun z=>by have:=Hp p z;omega
  refine⟨a3,?_⟩;have a4:dl l w:=(KH l w).resolve_right a3;rcases KH u w with z | z
  ·exact Hp g z
  ·have:=hd w u z;have:=hd l w a4;omega
 ·intro ⟨a1,a2⟩;refine⟨fun z=>a1 (Fy z h1),?_⟩;have a4:dl l w:=(KH l w).resolve_right a1;rcases KH u w with z | z
  ·have:=Hp p z;omega
  ·have:=hd l w a4;omega
def JG(p:LI)(y:Iv)(q:LI)(x:Iv)(z:Int):Prop :=
 (z = -1/\∃ m c,d p y m c<=0/\0<d q x m c)\/(z=1/\∃ m c,d q x m c<=0/\0<d p y m c)\/(z=0/\∀ m c,d p y m c<=0↔d q x m c<=0)
theorem JG.swap{p q:LI}{y x:Iv}{z:Int}(h:JG p y q x z):JG q x p y (-z):=by
 rcases h with ⟨rfl,h⟩ | ⟨rfl,h⟩ | ⟨rfl,h⟩
 ·exact .inr (.inl ⟨rfl,h⟩)
 ·exact .inl ⟨rfl,h⟩
 ·exact .inr (.inr ⟨rfl,fun m c=>(h m c).symm⟩)
theorem kJ{p:LI}{y:Iv}(h:One p y){m m':Int}{c c':Nat}(h1:d p y m c<=0)(h2:0<d p y m' c'):¬ dl (m,c) (m',c'):=by
 intro g;rw[RX h] at h1;have h2:¬ d p y m' c'<=0:=by omega
 rw[RX h] at h2;refine h2 ⟨fun z=>h1.1 (Fy g z),?_⟩;have:=Hp p g;omega
theorem JG.unique{p q:LI}{y x:Iv}(hp:One p y)(hq:One q x){z w:Int}(h1:JG p y q x z)(h2:JG p y q x w):z=w:=by
 have key:∀ m c m' c',d p y m c<=0->0<d q x m c->d q x m' c'<=0->0<d p y m' c'->False:=by
  intro m c m' c' a1 a2 a3 a4;rcases KH (m,c) (m',c') with g | g
  ·exact kJ hp a1 a4 g
  ·exact kJ hq a3 a2 g
 rcases h1 with ⟨rfl,m,c,a1,a2⟩ | ⟨rfl,m,c,a1,a2⟩ | ⟨rfl,h1⟩ <;> rcases h2 with ⟨rfl,m',c',b1,b2⟩ | ⟨rfl,m',c',b1,b2⟩ | ⟨rfl,h2⟩
 ·rfl
 ·exact (key _ _ _ _ a1 a2 b1 b2).elim
 ·have:=(h2 m c).1 a1;omega
 ·exact (key _ _ _ _ b1 b2 a1 a2).elim
 ·rfl
 ·have:=(h2 m c).2 a1;omega
 ·have:=(h1 m' c').1 b1;omega
 ·have:=(h1 m' c').2 b1;omega
 ·rfl
theorem bA{p:LI}{y:Iv}(h:One p y):d p y (Q y.t) y.b<=0:=by
 rw[RX h];exact⟨h.dlt.2,C' _⟩
theorem RZ{p q:LI}{y x:Iv}(hp:One p y)(h:dl y.hi' x.lo'):JG p y q x (-1) := .inl ⟨rfl,Q y.t,y.b,bA hp,by have:=OU (p:=q) h;show 0<d q x y.hi'.1 y.hi'.2;rw [this];decide⟩
theorem R'{p q:LI}{y x:Iv}(hq:One q x)(h:dl x.hi' y.lo'):JG p y q x 1 := .inr (.inl ⟨rfl,Q x.t,x.b,bA hq,by have:=OU (p:=p) h;show 0<d p y x.hi'.1 x.hi'.2;rw [this];decide⟩)
theorem A4t{p q g:LI}{y x:Iv}(hp:One p y)(hq:One q x)(d1:Xk g p)(d2:Xk g q){l u:Dy}(a1:dl y.lo' l)(a2:dl u y.hi')(b1:dl x.lo' l)(b2:dl u x.hi')(h:1<=VD g l-VD g u):JG p y q x 0 :=
 .inr (.inr ⟨rfl,fun m c=>by rw[vG hp d1 a1 a2 h,vG hq d2 b1 b2 h]⟩)
def HP(u v:Dy):Dy:=if u.1*2^v.2<v.1*2^u.2 then v else u
def Hq(u v:Dy):Dy:=if v.1*2^u.2<u.1*2^v.2 then v else u
theorem Lf(u v:Dy):dl u (HP u v)/\dl v (HP u v)/\(HP u v=u\/HP u v=v):=by
 unfold HP;split
 ·rename_i g;exact⟨Aw g,JF _,.inr rfl⟩
 ·rename_i g;exact⟨JF _,by unfold dl;omega,.inl rfl⟩
theorem Lg(u v:Dy):dl (Hq u v) u/\dl (Hq u v) v/\(Hq u v=u\/Hq u v=v):=by
 unfold Hq;split
 ·rename_i g;exact⟨Aw g,JF _,.inr rfl⟩
 ·rename_i g;exact⟨JF _,by unfold dl;omega,.inl rfl⟩
def Xn(g:LI)(y x:Iv):Int:=VD g (HP y.lo' x.lo')-VD g (Hq y.hi' x.hi')
theorem Xo{p q g:LI}{y x:Iv}(hp:One p y)(hq:One q x)(d1:Xk g p)(d2:Xk g q)(h:1<=Xn g y x):JG p y q x 0:=by
 obtain⟨a1,a2,_⟩:=Lf y.lo' x.lo';obtain⟨b1,b2,_⟩:=Lg y.hi' x.hi';exact A4t hp hq d1 d2 a1 b1 a2 b2 h
theorem kK{p q g:LI}{y x:Iv}(hp:One p y)(hq:One q x)(d1:Xk g p)(d2:Xk g q)(h:y.d g=1)(h1:0<d p y (Q x.r) x.a)(h2:d p y (Q x.t) x.b<=0):JG p y q x 0:=by
 refine Xo hp hq d1 d2 ?_;have h1:¬ d p y (Q x.r) x.a<=0:=by omega
 rw[RX hp] at h1 h2;have hv:VD p y.lo'-VD p y.hi'=1:=hp.v;have hg:VD g y.lo'-VD g y.hi'=1:=h;obtain⟨a1,_,a3⟩:=Lf y.lo' x.lo';obtain⟨b1,_,b3⟩:=Lg y.hi' x.hi';unfold Xn;have k1:VD g y.lo'-VD g (HP y.lo' x.lo')<=0:=by
  rcases a3 with e | e
  ·rw[e];omega
  ·rw[e] at a1 |-;have k:=d1 _ _ a1;by_cases z:dl x.lo' y.lo'
   ·have:=Hp g z;omega
   ·have:¬ VD p x.lo'<=VD p y.hi':=fun w=>h1 ⟨z,w⟩;omega
 have k2:VD g (Hq y.hi' x.hi')-VD g y.hi'<=0:=by
  rcases b3 with e | e
  ·rw[e];omega
  ·rw[e] at b1 |-;have k:=d1 _ _ b1;have:VD p x.hi'<=VD p y.hi':=h2.2;omega
 omega
theorem JH{p q:LI}{y x:Iv}(hp:One p y)(hq:One q x)(n m:Nat){z:Int}:JG p (stpN (A9k p) y n) q (stpN (A9k q) x m) z↔JG p y q x z:=by
 unfold JG;simp only[Xf hp,Xf hq]
theorem Qe(p:LI){u:Dy}{E:Nat}(h:u.2<=E):VD p u=wq p (u.1*2^(E-u.2)) (2^E):=by
 rw[Xl p u (E-u.2),show u.2+(E-u.2)=E by omega]
theorem kL{u v:Dy}{E:Nat}(hu:u.2<=E)(hv:v.2<=E):dl u v↔u.1*2^(E-u.2)<=v.1*2^(E-v.2):=by
 have e1:(2:Int)^E=2^(E-u.2)*2^u.2:=by rw[<- BG];congr 1;omega
 have e2:(2:Int)^E=2^(E-v.2)*2^v.2:=by rw[<- BG];congr 1;omega
 have h1:=Bt u.2;have h2:=Bt v.2;have h3:=Bt E;have a1:u.1*2^v.2*2^E=u.1*2^(E-u.2)*(2^u.2*2^v.2):=by rw[e1];grind
 have a2:v.1*2^u.2*2^E=v.1*2^(E-v.2)*(2^u.2*2^v.2):=by rw[e2];grind
 unfold dl;constructor
 ·intro g;have:=Ae g (Aw h3);rw[a1,a2] at this;exact CM this (Be h1 h2)
 ·intro g;have:=Ae g (Aw (Be h1 h2));rw[<- a1,<- a2] at this;exact CM this h3
theorem Wd.scaled{k:Nat}{y:Iv}(h:Wd k y){E N:Nat}(ha:y.a<=E)(hb:y.b<=E)(hN:N<=k) :
  (Q y.t*2^(E-y.b)-Q y.r*2^(E-y.a))*2^N<=80*2^E /\ -(40*2^E)<=Q y.r*2^(E-y.a)/\Q y.t*2^(E-y.b)<=40*2^E:=by
 have e1:(2:Int)^E=2^(E-y.a)*2^y.a:=by rw[<- BG];congr 1;omega
 have e2:(2:Int)^E=2^(E-y.b)*2^y.b:=by rw[<- BG];congr 1;omega
 have pA:=Bt y.a;have pB:=Bt y.b;have pE:=Bt E;have qA:=Bt (E-y.a);have qB:=Bt (E-y.b);have hw:=h.w;have lo:=h.lo;have hi:=h.hi;have hlt:=h.lt;have pN:=Bt N;have hk:(2:Int)^N<=2^k:=by
  have:=B8 (n:=2) (by decide) hN;have h:=sN.2 this;rwa [CH,CH] at h
 have key:(Q y.t*2^(E-y.b)-Q y.r*2^(E-y.a))*(2^y.a*2^y.b)=(Q y.t*2^y.a-Q y.r*2^y.b)*2^E:=by
  have c1:Q y.t*2^(E-y.b)*(2^y.a*2^y.b)=Q y.t*2^y.a*2^E:=by rw[e2];grind
  have c2:Q y.r*2^(E-y.a)*(2^y.a*2^y.b)=Q y.r*2^y.b*2^E:=by rw[e1];grind
  rw[Aym,Aym,c1,c2]
 refine⟨?_,?_,?_⟩
 ·generalize (2:Int)^k=K at *
  generalize (2:Int)^N=M at *
  generalize Q y.t*2^(E-y.b)-Q y.r*2^(E-y.a)=W at *
  generalize hV:Q y.t*2^y.a-Q y.r*2^y.b=V at *
  generalize (2:Int)^E=F at *
  generalize hAB:(2:Int)^y.a*2^y.b=P at *
  have pP:0<P:=by rw[<- hAB];exact Be pA pB
  apply CM (a:=P) _ pP;have c1:W*M*P=V*M*F:=by
   have:W*M*P=W*P*M:=AAf ..;rw[this,key];exact AAf ..
  have c2:80*F*P=V*K*F:=by rw[hw];grind
  rw[c1,c2];exact Ae (Aj hk (by omega)) (Aw pE)
 ·have:=Ae lo (Aw qA);have c : -((40:Int)*2^y.a)*2^(E-y.a) = -(40*2^E):=by rw[e1];grind
  omega
 ·have:=Ae hi (Aw qB);have c:(40:Int)*2^y.b*2^(E-y.b)=40*2^E:=by rw[e2];grind
  omega
theorem Fewp.one{p:LI}(hp:Fewp p){x y Q:Int}(hQ:0<Q)(hxy:x<=y)(hx : -(40*Q)<=x)(hy:y<=40*Q){k:Nat}(hk:895<=k)(hw:(y-x)*2^k<=80*Q):wq p x Q-wq p y Q<=1:=by
 unfold wq;by_cases hl:3<=(A9k p).length
 ·exact Zn hp.ne hp.len hp.co hl hQ hxy hx hy hk hw
 ·have a1:=Zo (p:=p) (by omega) x Q;have a2:=Ld (DI (CJ p) y Q) 0;omega
theorem Xp{p q:LI}(hp:Fewp p)(lp:p.length<=6)(hq:Fewp q)(lq:q.length<=6){y x:Iv}(h1:One p y)(h2:One q x){k1 k2:Nat}(w1:Wd k1 y)(w2:Wd k2 x)(hk1:1610<=k1)(hk2:1610<=k2)(n1:¬ dl y.hi' x.lo')(n2:¬ dl x.hi' y.lo') :
  1<=Xn (B3 (A9k p) (A9k q)) y x:=by
 obtain⟨E,hE⟩:∃ E,E=y.a+y.b+x.a+x.b:=⟨_,rfl⟩;have ey1:y.lo'.2<=E:=by show y.a<=E;omega
 have ey2:y.hi'.2<=E:=by show y.b<=E;omega
 have ex1:x.lo'.2<=E:=by show x.a<=E;omega
 have ex2:x.hi'.2<=E:=by show x.b<=E;omega
 obtain⟨s1,s2,s3⟩:=w1.scaled (E:=E) (N:=1610) ey1 ey2 hk1;obtain⟨s4,s5,s6⟩:=w2.scaled (E:=E) (N:=1610) ex1 ex2 hk2;have d1:=h1.dlt.1;have d2:=h2.dlt.1;have hvp:VD p y.lo'-VD p y.hi'=1:=h1.v;have hvq:VD q x.lo'-VD q x.hi'=1:=h2.v;obtain⟨a1,a2,a3⟩:=Lg y.lo' x.lo';obtain⟨b1,b2,b3⟩:=Lf y.hi' x.hi';obtain⟨a4,a5,a6⟩:=Lf y.lo' x.lo';obtain⟨b4,b5,b6⟩:=Lg y.hi' x.hi';have eL:(Hq y.lo' x.lo').2<=E:=by rcases a3 with e | e <;> rw[e] <;> assumption
 have eU:(HP y.hi' x.hi').2<=E:=by rcases b3 with e | e <;> rw[e] <;> assumption
 have hLU:dl (Hq y.lo' x.lo') (HP y.hi' x.hi'):=Fy a1 (Fy d1 b1);have q0:=Bt E;have hf:=Cu hq.ne;have hq0:=C7 hf.1 hf.2.2.2.1;have dG:=RY hp.ne hq0;have dG2:Xk (B3 (A9k p) (A9k q)) q:=by
  have hfp:=Cu hp.ne;rw[Xm (C7 hfp.1 hfp.2.2.2.1) hq0];exact RY hq.ne (C7 hfp.1 hfp.2.2.2.1)
 have hl:=hLU;rw[kL eL eU] at hl;rw[kL ey2 ex1] at n1;rw[kL ex2 ey1] at n2;have rg : -(40*2^E)<=(Hq y.lo' x.lo').1*2^(E-(Hq y.lo' x.lo').2)/\(HP y.hi' x.hi').1*2^(E-(HP y.hi' x.hi').2)<=40*2^E/\((HP y.hi' x.hi').1*2^(E-(HP y.hi' x.hi').2)-(Hq y.lo' x.lo').1*2^(E-(Hq y.lo' x.lo').2))*2^1610<=160*2^E:=by
  have p16:=Bt 1610;have yl:y.lo'.1*2^(E-y.lo'.2)=Q y.r*2^(E-y.a):=rfl;have yh:y.hi'.1*2^(E-y.hi'.2)=Q y.t*2^(E-y.b):=rfl;have xl:x.lo'.1*2^(E-x.lo'.2)=Q x.r*2^(E-x.a):=rfl;have xh:x.hi'.1*2^(E-x.hi'.2)=Q x.t*2^(E-x.b):=rfl;have sum:∀ v:Int,v<=(Q y.t*2^(E-y.b)-Q y.r*2^(E-y.a))+(Q x.t*2^(E-x.b)-Q x.r*2^(E-x.a))->v*2^1610<=160*2^E:=by
   intro v hv;have:=Ae hv (Aw p16);rw[G4] at this;omega
  have dy:=h1.dlt.1;have dx:=h2.dlt.1;rw[kL ey1 ey2] at dy;rw[kL ex1 ex2] at dx;rcases a3 with e | e <;> rcases b3 with g | g <;> rw[e,g]
  ·exact⟨by omega,by omega,sum _ (by omega)⟩
  ·exact⟨by omega,by omega,sum _ (by omega)⟩
  ·exact⟨by omega,by omega,sum _ (by omega)⟩
  ·exact⟨by omega,by omega,sum _ (by omega)⟩
 obtain⟨r1,r2,r3⟩:=rg;have r4:((HP y.hi' x.hi').1*2^(E-(HP y.hi' x.hi').2)-(Hq y.lo' x.lo').1*2^(E-(Hq y.lo' x.lo').2))*2^1609<=80*2^E:=by
  have e:(2:Int)^1610=2*2^1609:=by rw[AA];exact A2 2 1609
  rw[e] at r3;generalize (2:Int)^1609=M at *
  have e2:∀ v:Int,v*(2*M)=2*(v*M):=fun v=>by grind
  rw[e2] at r3;omega
 have up:=hp.one q0 hl r1 r2 (show 895<=1609 by decide) r4;have uq:=hq.one q0 hl r1 r2 (show 895<=1609 by decide) r4;rw[<- Qe p eL,<- Qe p eU] at up;rw[<- Qe q eL,<- Qe q eU] at uq;have v1:=Hp p a1;have v2:=Hp p b1;have v3:=Hp q a2;have v4:=Hp q b2;have fr:∀ u,VD (A9k q) u=VD q u:=fun u=>Ti hq.ne u.1 u.2;have mt:=Agz (hp.short lp) (q:=A9k q) hq0 (by rw[H1 hq.ne];exact (hq.short lq).small.1) (by rw[H1 hq.ne];exact (hq.short lq).small.2) q0 hl r1 r2 (Ap 1610) r3 (by rw[<- Qe p eL,<- Qe p eU];omega) (by rw[<- Qe _ eL,<- Qe _ eU,fr,fr];omega);rw[<- Qe _ eL,<- Qe _ eU] at mt;unfold Xn;generalize B3 (A9k p) (A9k q)=g at *
 have k1:VD g (Hq y.lo' x.lo')-VD g (HP y.lo' x.lo')<=0:=by
  rcases a6 with e | e
  ·rw[e];have:=dG _ _ a1;omega
  ·rw[e];have:=dG2 _ _ a2;omega
 have k2:VD g (Hq y.hi' x.hi')-VD g (HP y.hi' x.hi')<=0:=by
  rcases b6 with e | e
  ·rw[e];have:=dG _ _ b1;omega
  ·rw[e];have:=dG2 _ _ b2;omega
 omega
theorem Fz{u v:Dy}:Bm u.1 u.2 v.1 v.2<=0↔dl u v:=by unfold dl Bm CR; (repeat' split) <;> omega
theorem R_(s:LI){p:LI}{y:Iv}(h:One p y){m:Nat}:∀ k,(stpN (A9k p) y (m+k)).d s<=(stpN (A9k p) y m).d s
 | 0=>C' _
 | k+1=>Eo (A8v s (h.halves (m+k)).lt) (R_ s h k)
theorem Aya{p:LI}{y:Iv}(h:One p y):dl y.lo' (stp (A9k p) y).lo'/\dl (stp (A9k p) y).hi' y.hi':=by
 obtain⟨b1,b2⟩:=IC h.lt;have hne:Bm (Q y.r) y.a (Q y.t) y.b ≠ 0:=by rw[Em.2 h.lt];decide
 unfold stp;rw[if_neg hne];split
 ·refine⟨JF _,?_⟩;show dl (Q (V y.mn),y.me) _;rw[A9y];exact Aw b2
 ·refine⟨?_,JF _⟩;show dl _ (Q (V y.mn),y.me);rw[A9y];exact Aw b1
theorem Tl{p:LI}{y:Iv}(h:One p y):∀ n,dl y.lo' (stpN (A9k p) y n).lo'/\dl (stpN (A9k p) y n).hi' y.hi'
 | 0=>⟨JF _,JF _⟩
 | n+1=>by
  obtain⟨a,b⟩:=Tl h n;obtain⟨c,d⟩:=Aya (h.halves n);exact⟨Fy a c,Fy d b⟩
theorem Ahc(g:LI){y x y' x':Iv}(a:dl y.lo' y'.lo')(b:dl y'.hi' y.hi')(c:dl x.lo' x'.lo')(d:dl x'.hi' x.hi'):Xn g y' x'<=Xn g y x:=by
 obtain⟨a1,a2,_⟩:=Lf y'.lo' x'.lo';obtain⟨_,_,a3⟩:=Lf y.lo' x.lo';obtain⟨b1,b2,_⟩:=Lg y'.hi' x'.hi';obtain⟨_,_,b3⟩:=Lg y.hi' x.hi';have k1:dl (HP y.lo' x.lo') (HP y'.lo' x'.lo'):=by
  rcases a3 with e | e <;> rw[e]
  ·exact Fy a a1
  ·exact Fy c a2
 have k2:dl (Hq y'.hi' x'.hi') (Hq y.hi' x.hi'):=by
  rcases b3 with e | e <;> rw[e]
  ·exact Fy b1 b
  ·exact Fy b2 d
 have:=Hp g k1;have:=Hp g k2;unfold Xn;omega
def Sa(f g:LI)(y x:Iv)(i:Nat):Bool:=decide (Bm (Q (stpN f y i).t) (stpN f y i).b (Q (stpN g x i).r) (stpN g x i).a<=0) || decide (Bm (Q (stpN g x i).t) (stpN g x i).b (Q (stpN f y i).r) (stpN f y i).a<=0)
theorem OV{f g:LI}{y x:Iv}{i:Nat}(h:Sa f g y x i=false):¬ dl (stpN f y i).hi' (stpN g x i).lo'/\¬ dl (stpN g x i).hi' (stpN f y i).lo':=by
 unfold Sa at h;generalize stpN f y i=u at *
 generalize stpN g x i=w at *
 rw[GT,decide_eq_false_iff_not,decide_eq_false_iff_not] at h;exact⟨fun z=>h.1 (Fz.2 z),fun z=>h.2 (Fz.2 z)⟩
theorem M9{p:LI}(hp:A9l p ≠ []):A9l (A9k p) ≠ []:=by
 have h:=Cu hp;exact C7 h.1 h.2.2.2.1
theorem Xq{p q:LI}(hp:A9l p ≠ [])(h:(B3 (A9k p) q).length<2)(u v:Dy):VD (B3 (A9k p) q) u=VD (B3 (A9k p) q) v:=by
 have gn:A9l (B3 (A9k p) q) ≠ []:=by rw[show A9l (B3 (A9k p) q)=_ from Ee _ _];exact G7 (M9 hp)
 obtain⟨lG,_,_,_,dG,_⟩:=Cu gn;have h4:=(dG.length gn).1;rw[lG,show A9l (B3 (A9k p) q)=_ from Ee _ _] at h4;exact Td (by omega) _ _ _ _
theorem vH{p q:LI}(hp:Fewp p)(hq:Fewp q):Nt 135 [H ((A9k p).map V).length (pc ((A9k p).map V)),H ((A9k q).map V).length (pc ((A9k q).map V))] (B3 (A9k p) (A9k q))/\Nt 70 [H ((A9k p).map V).length (pc ((A9k p).map V)),H ((A9k q).map V).length (pc ((A9k q).map V))] (B3 (A9k p) (A9k q)):=by
 have h:=RG (K:=5) (c:=9) hp.good hq.good hp.l9 hq.l9 (by decide) (by decide);have k:=RK (K:=5) (c:=9) hp.good hq.good hp.l9 hq.l9 (by decide) (by decide);rw[AJ,AJ] at h k;exact⟨h,k⟩
theorem kM{p q:LI}(hp:Fewp p)(hq:Fewp q):Xk (B3 (A9k p) (A9k q)) p/\Xk (B3 (A9k p) (A9k q)) q:=by
 refine⟨RY hp.ne (M9 hq.ne),?_⟩;rw[Xm (M9 hp.ne) (M9 hq.ne)];exact RY hq.ne (M9 hp.ne)
section
variable {p q:LI} (hp:Fewp p) (lp:p.length<=6) (hq:Fewp q) {y x:Iv} (h1:One p y) (h2:One q x) (S:IvOk 6 895 y) (o2:IvOk 6 895 x)
include hp hq lp h1 h2 S o2
theorem sW:RQ 124 [y.av (A9k p),x.av (A9k q)] (F (A9i (0<Xn (B3 (A9k p) (A9k q)) y x))):=by
 obtain⟨hg,_⟩:=vH hp hq;obtain⟨gk,gl⟩:=Xj (hp.short lp) (A9k q);have gf:=Xq (q:=A9k q) hp.ne;generalize B3 (A9k p) (A9k q)=g at *
 have lg:(g.map V).length=g.length:=N ..;have e1:=Ny (p:=A9k p) S.gr S.gt (a:=y.a) (b:=y.b) (by have:=S.a;omega) (by have:=S.b;omega);have e2:=Ny (p:=A9k q) o2.gr o2.gt (a:=x.a) (b:=x.b) (by have:=o2.a;omega) (by have:=o2.b;omega);rw[Em.2 h1.lt,show ((-1:Int)==0)=false by decide] at e1;rw[Em.2 h2.lt,show ((-1:Int)==0)=false by decide] at e2;have cm:∀ {r t:Rn} {a b:Nat},AO 100 r->AO 100 t->a<=895->b<=895->RQ 55 [j r (a:Nat),j t (b:Nat)] (D O (Bm (Q r) a (Q t) b)):=fun hr ht ha hb=>Ir (hr.mono (show 100<=200 by omega)) (ht.mono (show 100<=200 by omega)) (by omega) (by omega);have tl:∀ {u w:Rn} {a b:Nat} (_:AO 100 u) (_:AO 100 w) (_:a<=895) (_:b<=895),Ar I0 (EJ false ((A9k p).map V) y.r (y.a:Nat) y.t (y.b:Nat) ((A9k q).map V) x.r (x.a:Nat) x.t (x.b:Nat) u (a:Nat) w (b:Nat)) .ret
   (EJ (A9i (0<VD g (Q u,a)-VD g (Q w,b))) ((A9k p).map V) y.r (y.a:Nat) y.t (y.b:Nat) ((A9k q).map V) x.r (x.a:Nat) x.t (x.b:Nat) u (a:Nat) w (b:Nat)):=by
  intro u w a b hu hw ha hb;have c:=cm hu hw ha hb;by_cases c0:Bm (Q u) a (Q w) b>=0
  ·have v:VD g (Q u,a)<=VD g (Q w,b):=Hp g (by
    have hbd:=I9 (Q u*2^b) (Q w*2^a);have:¬ Q u*2^b<Q w*2^a:=fun z=>by rw[Em.2 z] at c0;exact absurd c0 (by decide)
    show Q w*2^a<=Q u*2^b;omega)
   rw[decide_eq_false (show ¬ 0<VD g (Q u,a)-VD g (Q w,b) by omega)];exact Agh _ _ _ _ _ _ _ _ _ _ _ _ _ _ _ _ (decide_eq_true c0) c
  ·by_cases c1:g.length<2
   ·rw[gf c1 (Q u,a) (Q w,b),P9];rcases hg with hg | hg
    ·exact rX _ _ _ _ _ _ _ _ _ _ _ _ _ _ _ _ _ (decide_eq_false c0) (by rw[decide_eq_false_iff_not,lg];omega) c hg
    ·exact Agj _ _ _ _ _ _ _ _ _ _ _ _ _ _ _ _ _ (decide_eq_false c0) (by rw[decide_eq_false_iff_not,lg];omega) c hg
   ·have k:=W_ (AR gk) (by rw[lg];omega) hu hw (a:=a) (b:=b) (by omega) (by omega);rw[AJ] at k;rcases hg with hg | hg
    ·exact rW _ _ _ _ _ _ _ _ _ _ _ _ _ _ _ _ _ _ (decide_eq_false c0) (by rw[decide_eq_true_eq,lg];omega) c hg k
    ·exact Agi _ _ _ _ _ _ _ _ _ _ _ _ _ _ _ _ _ _ (decide_eq_false c0) (by rw[decide_eq_true_eq,lg];omega) c hg k
 have c1:=cm o2.gr S.gr o2.a S.a;have c2:=cm o2.gt S.gt o2.b S.b;have n1:¬ Q y.r*2^x.a<Q x.r*2^y.a->decide (Bm (Q x.r) x.a (Q y.r) y.a>0)=false:=fun g1=>by
  rw[decide_eq_false_iff_not];intro z;have hb:=I9 (Q x.r*2^y.a) (Q y.r*2^x.a);exact g1 (JC.1 (by unfold Bm at z |-;omega))
 have n2:¬ Q x.t*2^y.b<Q y.t*2^x.b->decide (Bm (Q x.t) x.b (Q y.t) y.b<0)=false:=fun g2=>by
  rw[decide_eq_false_iff_not];intro z;have hb:=I9 (Q x.t*2^y.b) (Q y.t*2^x.b);exact g2 (Em.1 (by unfold Bm at z |-;omega))
 unfold Xn;by_cases g1:Q y.r*2^x.a<Q x.r*2^y.a
 ·rw[show HP y.lo' x.lo'=x.lo' from if_pos g1];have m1:decide (Bm (Q x.r) x.a (Q y.r) y.a>0)=true:=by rw[JC.2 g1];rfl
  by_cases g2:Q x.t*2^y.b<Q y.t*2^x.b
  ·rw[show Hq y.hi' x.hi'=x.hi' from if_pos g2];exact Pz _ y.r y.t _ _ _ x.r x.t _ _ _ false false _ _ _ _ rfl rfl e1 e2 (Agk _ _ _ _ _ _ _ _ _ _ _ _ _ _ _ _ _ _ m1 (by rw[Em.2 g2];rfl) c1 c2 (tl o2.gr o2.gt o2.a o2.b))
  ·rw[show Hq y.hi' x.hi'=y.hi' from if_neg g2];exact Pz _ y.r y.t _ _ _ x.r x.t _ _ _ false false _ _ _ _ rfl rfl e1 e2 (Agl _ _ _ _ _ _ _ _ _ _ _ _ _ _ _ _ _ _ m1 (n2 g2) c1 c2 (tl o2.gr S.gt o2.a S.b))
 ·rw[show HP y.lo' x.lo'=y.lo' from if_neg g1];by_cases g2:Q x.t*2^y.b<Q y.t*2^x.b
  ·rw[show Hq y.hi' x.hi'=x.hi' from if_pos g2];exact Pz _ y.r y.t _ _ _ x.r x.t _ _ _ false false _ _ _ _ rfl rfl e1 e2 (Agm _ _ _ _ _ _ _ _ _ _ _ _ _ _ _ _ _ _ (n1 g1) (by rw[Em.2 g2];rfl) c1 c2 (tl S.gr o2.gt S.a o2.b))
  ·rw[show Hq y.hi' x.hi'=y.hi' from if_neg g2];exact Pz _ y.r y.t _ _ _ x.r x.t _ _ _ false false _ _ _ _ rfl rfl e1 e2 (Agn _ _ _ _ _ _ _ _ _ _ _ _ _ _ _ _ _ _ (n1 g1) (n2 g2) c1 c2 (tl S.gr S.gt S.a S.b))
theorem Zu(lq:q.length<=6){j1 j2:Nat}(w1:Wd j1 y)(w2:Wd j2 x):∃ z,JG p y q x z/\RQ 74 [y.av (A9k p),x.av (A9k q)] (D O z):=by
 obtain⟨c1,c2⟩:=OR S o2 (by decide);obtain⟨d1,d2⟩:=kM hp hq;have hb1:=I9 (Q y.t*2^x.a) (Q x.r*2^y.b);have hb2:=I9 (Q x.t*2^y.a) (Q y.r*2^x.b);by_cases a1:Bm (Q y.t) y.b (Q x.r) x.a<0
 ·exact⟨-1,RZ h1 (Fz.1 (Aw a1)),Afq _ y.r y.t _ _ _ x.r x.t _ _ _ (decide_eq_true a1) c1⟩
 by_cases a2:Bm (Q x.t) x.b (Q y.r) y.a<0
 ·exact⟨1,R' h2 (Fz.1 (Aw a2)),Afr _ y.r y.t _ _ _ x.r x.t _ _ _ _ (decide_eq_false a1) (decide_eq_true a2) c1 c2⟩
 have he:=sW hp lp hq h1 h2 S o2;by_cases ce:0<Xn (B3 (A9k p) (A9k q)) y x
 ·rw[decide_eq_true ce] at he;exact⟨0,Xo h1 h2 d1 d2 ce,Axi S o2 (by decide) a1 a2 he⟩
 rw[decide_eq_false ce] at he;have last:∀ N,1610<=N->¬ (¬ dl (stpN (A9k p) y N).hi' (stpN (A9k q) x N).lo'/\¬ dl (stpN (A9k q) x N).hi' (stpN (A9k p) y N).lo'):=by
  intro N hN g;have:=Xp hp lp hq lq (h1.halves N) (h2.halves N) (w1.stpN (A9k p) N) (w2.stpN (A9k q) N) (by omega) (by omega) g.1 g.2;obtain⟨s1,s2⟩:=Tl h1 N;obtain⟨s3,s4⟩:=Tl h2 N;have:=Ahc (B3 (A9k p) (A9k q)) s1 s2 s3 s4;omega
 obtain⟨n,hn,n1,n2⟩:∃ n,n<=1610/\(∀ i,i<n->Sa (A9k p) (A9k q) y x i=false)/\Sa (A9k p) (A9k q) y x n=true:=by
  rcases Ik (Sa (A9k p) (A9k q) y x) 1611 1611 0 rfl with g | ⟨n,_,g2,g3,g4⟩
  ·have:=g 1610 (by omega) (by omega);exfalso;generalize hN:1610=N at this last;have:=OV this;exact last N (Ap _) this
  ·exact⟨n,by omega,fun i hi=>g4 i (by omega) hi,g3⟩
 have no:∀ i,i<n->¬ Bm (Q (stpN (A9k p) y i).t) (stpN (A9k p) y i).b (Q (stpN (A9k q) x i).r) (stpN (A9k q) x i).a<=0/\¬ Bm (Q (stpN (A9k q) x i).t) (stpN (A9k q) x i).b (Q (stpN (A9k p) y i).r) (stpN (A9k p) y i).a<=0:=fun i hi=>by
  obtain⟨u,v⟩:=OV (n1 i hi);exact⟨fun z=>u (Fz.1 z),fun z=>v (Fz.1 z)⟩
 unfold Sa at n2;rw[HL,decide_eq_true_eq,decide_eq_true_eq] at n2;by_cases s:Bm (Q (stpN (A9k p) y n).t) (stpN (A9k p) y n).b (Q (stpN (A9k q) x n).r) (stpN (A9k q) x n).a<=0
 ·exact⟨-1,(JH h1 h2 n n).1 (RZ (h1.halves n) (Fz.1 s)),jG hp.fine hq.fine S o2 (n:=n) (by omega) a1 a2 he ⟨no,.inl ⟨rfl,s⟩⟩⟩
 ·have s2:=n2.resolve_left s;exact⟨1,(JH h1 h2 n n).1 (R' (h2.halves n) (Fz.1 s2)),jG hp.fine hq.fine S o2 (n:=n) (by omega) a1 a2 he ⟨no,.inr ⟨rfl,s,s2⟩⟩⟩
end
section
variable {p q:LI} (hp:Fewp p) (lp:p.length<=6) (hq:Fewp q) {y x:Iv} (h1:One p y) (h2:One q x) {m:Nat} (hm:m+6<2990) (S:IvOk 6 m y) (o2:IvOk 6 m x)
include hp hq h1 h2 hm S o2
theorem UD:RQ 33 [j y.t (y.b:Nat),j x.r (x.a:Nat)] (D O (Bm (Q y.t) y.b (Q x.r) x.a))/\RQ 33 [j x.t (x.b:Nat),j y.r (y.a:Nat)] (D O (Bm (Q x.t) x.b (Q y.r) y.a)) /\
  RQ 33 [j y.r (y.a:Nat),j y.t (y.b:Nat)] (D O (-1))/\RQ 33 [j x.r (x.a:Nat),j x.t (x.b:Nat)] (D O (-1))/\RQ 33 [j y.r (y.a:Nat),j x.r (x.a:Nat)] (D O (Bm (Q y.r) y.a (Q x.r) x.a)) /\
  RQ 71 [y.av (A9k p),x.av (A9k q)] (F (A9i (Bm (Q y.t) y.b (Q x.r) x.a<=0) || decide (Bm (Q x.t) x.b (Q y.r) y.a<=0))) /\
  RQ 72 [y.av (A9k p)] ((stp (A9k p) y).av (A9k p))/\RQ 72 [x.av (A9k q)] ((stp (A9k q) x).av (A9k q)):=by
 have cm:∀ {r t:Rn} {a b:Nat},AO 100 r->AO 100 t->a<=m->b<=m->RQ 33 [j r (a:Nat),j t (b:Nat)] (D O (Bm (Q r) a (Q t) b)):=fun hr ht ha hb=>GD (hr.mono (show 100<=200 by omega)) (ht.mono (show 100<=200 by omega)) (by omega) (by omega);have c1:=cm S.gt o2.gr S.b o2.a;have c2:=cm o2.gt S.gr o2.b S.a;have c3:=cm S.gr S.gt S.a S.b;have c4:=cm o2.gr o2.gt o2.a o2.b;have c5:=cm S.gr o2.gr S.a o2.a;rw[Em.2 h1.lt] at c3;rw[Em.2 h2.lt] at c4;refine⟨c1,c2,c3,c4,c5,?_,WT hp.fine S (by omega) (Cu hp.ne).1,WT hq.fine o2 (by omega) (Cu hq.ne).1⟩;by_cases g:Bm (Q y.t) y.b (Q x.r) x.a<=0
 ·rw[decide_eq_true g];exact Afx _ y.r y.t _ _ _ x.r x.t _ _ _ (decide_eq_true g) c1
 ·rw[decide_eq_false g];exact Afy _ y.r y.t _ _ _ x.r x.t _ _ _ _ (decide_eq_false g) c1 c2
abbrev Ih(p q:LI)(z:Int)(y x:Iv)(i:Nat):Al:=M5 z (p.map V) y.r (y.a:Nat) y.t (y.b:Nat) (q.map V) x.r (x.a:Nat) x.t (x.b:Nat) (i:Nat)
theorem vI(i:Nat)(z:Int)(hz:(z = -1/\Bm (Q y.t) y.b (Q x.r) x.a<0)\/(z=1/\¬ Bm (Q y.t) y.b (Q x.r) x.a<0/\Bm (Q x.t) x.b (Q y.r) y.a<0)):Ar GV (Ih (A9k p) (A9k q) 0 y x i) .ret (Ih (A9k p) (A9k q) z y x i):=by
 obtain⟨c1,c2,_⟩:=UD hp hq h1 h2 hm S o2;rcases hz with ⟨rfl,a⟩ | ⟨rfl,a,b⟩
 ·exact A4c _ _ _ _ _ _ _ _ _ _ _ _ _ (decide_eq_true a) c1
 ·exact A4d _ _ _ _ _ _ _ _ _ _ _ _ _ _ (decide_eq_false a) (decide_eq_true b) c1 c2
abbrev bS(p q:LI)(z:Int)(y x:Iv)(i:Nat):Al:=EP z (p.map V) y.r (y.a:Nat) y.t (y.b:Nat) (q.map V) x.r (x.a:Nat) x.t (x.b:Nat) (i:Nat)
abbrev cS(p q:LI)(z:Int)(y x:Iv)(i:Nat):Al:=Jg z (p.map V) y.r (y.a:Nat) y.t (y.b:Nat) (q.map V) x.r (x.a:Nat) x.t (x.b:Nat) (i:Nat)
theorem Xr{i:Nat}(hi:i<=2000)(a1:¬ Bm (Q y.t) y.b (Q x.r) x.a<0)(a2:¬ Bm (Q x.t) x.b (Q y.r) y.a<0)(hB:Ar GU (bS (A9k p) (A9k q) 0 y x i) .norm (bS (A9k p) (A9k q) 0 y x i))(hC:Ar KO (cS (A9k p) (A9k q) 0 y x i) .norm (cS (A9k p) (A9k q) 0 y x i)) :
  Ar GV (Ih (A9k p) (A9k q) 0 y x i) .norm (Ih (A9k p) (A9k q) 0 (stp (A9k p) y) (stp (A9k q) x) (i+1)):=by
 obtain⟨c1,c2,c3,c4,_,_,c7,c8⟩:=UD hp hq h1 h2 hm S o2;have ei:I O ((i:Int)+1)=((i+1:Nat):Int):=by rw[Bl (by omega) (by omega)];omega
 have k:=Awy 0 _ _ _ _ _ _ _ _ _ _ (i:Nat) _ _ (-1) (-1) _ _ _ _ _ _ _ _ _ _ rfl rfl (decide_eq_false a1) (decide_eq_false a2) c1 c2 c3 c4 hB hC c7 c8;rw[ei] at k;exact k
theorem bB{i:Nat}{z:Int}(a1:¬ Bm (Q y.t) y.b (Q x.r) x.a<0)(a2:¬ Bm (Q x.t) x.b (Q y.r) y.a<0)(h:Ar GU (bS (A9k p) (A9k q) 0 y x i) .ret (bS (A9k p) (A9k q) z y x i)\/Ar GU (bS (A9k p) (A9k q) 0 y x i) .norm (bS (A9k p) (A9k q) 0 y x i)/\Ar KO (cS (A9k p) (A9k q) 0 y x i) .ret (cS (A9k p) (A9k q) z y x i)) :
  Ar GV (Ih (A9k p) (A9k q) 0 y x i) .ret (Ih (A9k p) (A9k q) z y x i):=by
 obtain⟨c1,c2,c3,c4,_⟩:=UD hp hq h1 h2 hm S o2;rcases h with h | ⟨hB,hC⟩
 ·exact A4e 0 _ _ _ _ _ _ _ _ _ _ (i:Nat) _ _ _ (-1) (-1) rfl rfl (decide_eq_false a1) (decide_eq_false a2) c1 c2 c3 c4 h
 ·exact Awx 0 _ _ _ _ _ _ _ _ _ _ (i:Nat) _ _ _ (-1) (-1) rfl rfl (decide_eq_false a1) (decide_eq_false a2) c1 c2 c3 c4 hB hC
theorem Zv{i:Nat}(hi:i<8)(a1:¬ Bm (Q y.t) y.b (Q x.r) x.a<0)(a2:¬ Bm (Q x.t) x.b (Q y.r) y.a<0):Ar GV (Ih (A9k p) (A9k q) 0 y x i) .norm (Ih (A9k p) (A9k q) 0 (stp (A9k p) y) (stp (A9k q) x) (i+1)) :=
 Xr hp hq h1 h2 hm S o2 (by omega) a1 a2 (iT _ _ _ _ _ _ _ _ _ _ _ _ (by rw[beq_eq_false_iff_ne];omega)) (Aww _ _ _ _ _ _ _ _ _ _ _ _ (by rw[decide_eq_false_iff_not];omega))
def apZ(y x:Iv):Int:=if Bm (Q y.r) y.a (Q x.r) x.a<0 then -1 else 1
def bC(y x:Iv):Bool:=decide (Bm (Q y.t) y.b (Q x.r) x.a<=0) || decide (Bm (Q x.t) x.b (Q y.r) y.a<=0)
theorem A7l{i:Nat}(hi:8<=i):(bC y x=true->Ar KO (cS (A9k p) (A9k q) 0 y x i) .ret (cS (A9k p) (A9k q) (apZ y x) y x i))/\(bC y x=false->Ar KO (cS (A9k p) (A9k q) 0 y x i) .norm (cS (A9k p) (A9k q) 0 y x i)):=by
 obtain⟨_,_,_,_,c5,c6,_,_⟩:=UD hp hq h1 h2 hm S o2;have c6:RQ 71 [y.av (A9k p),x.av (A9k q)] (F (bC y x)):=c6;have i9:decide ((i:Int)>=8)=true:=by rw[decide_eq_true_eq];omega
 constructor
 ·intro hb;rw[hb] at c6;unfold apZ;by_cases g:Bm (Q y.r) y.a (Q x.r) x.a<0
  ·rw[if_pos g];exact Awt _ _ _ _ _ _ _ _ _ _ _ (i:Nat) true _ i9 rfl (decide_eq_true g) c6 c5
  ·rw[if_neg g];exact Awu _ _ _ _ _ _ _ _ _ _ _ (i:Nat) true _ i9 rfl (decide_eq_false g) c6 c5
 ·intro hb;rw[hb] at c6;exact Awv _ _ _ _ _ _ _ _ _ _ _ (i:Nat) false i9 rfl c6
theorem kN{i:Nat}(hi:8<i)(hi2:i<=2000)(a1:¬ Bm (Q y.t) y.b (Q x.r) x.a<0)(a2:¬ Bm (Q x.t) x.b (Q y.r) y.a<0) :
  (bC y x=true->Ar GV (Ih (A9k p) (A9k q) 0 y x i) .ret (Ih (A9k p) (A9k q) (apZ y x) y x i)) /\
  (bC y x=false->Ar GV (Ih (A9k p) (A9k q) 0 y x i) .norm (Ih (A9k p) (A9k q) 0 (stp (A9k p) y) (stp (A9k q) x) (i+1))):=by
 obtain⟨k1,k2⟩:=A7l hp hq h1 h2 hm S o2 (i:=i) (by omega);have hB:=iT 0 ((A9k p).map V) y.r (y.a:Nat) y.t (y.b:Nat) ((A9k q).map V) x.r (x.a:Nat) x.t (x.b:Nat) (i:Nat) (by rw[beq_eq_false_iff_ne];omega);exact⟨fun h=>bB hp hq h1 h2 hm S o2 a1 a2 (.inr ⟨hB,k1 h⟩),fun h=>Xr hp hq h1 h2 hm S o2 hi2 a1 a2 hB (k2 h)⟩
include lp
theorem Tm(a1:¬ Bm (Q y.t) y.b (Q x.r) x.a<0)(a2:¬ Bm (Q x.t) x.b (Q y.r) y.a<0) :
  (y.d (B3 (A9k p) (A9k q))=1/\0<d p y (Q x.r) x.a/\d p y (Q x.t) x.b<=0->Ar GV (Ih (A9k p) (A9k q) 0 y x 8) .ret (Ih (A9k p) (A9k q) 0 y x 8)) /\
  (¬ (y.d (B3 (A9k p) (A9k q))=1/\0<d p y (Q x.r) x.a/\d p y (Q x.t) x.b<=0) -> 
  (bC y x=true->Ar GV (Ih (A9k p) (A9k q) 0 y x 8) .ret (Ih (A9k p) (A9k q) (apZ y x) y x 8)) /\
  (bC y x=false->Ar GV (Ih (A9k p) (A9k q) 0 y x 8) .norm (Ih (A9k p) (A9k q) 0 (stp (A9k p) y) (stp (A9k q) x) 9))):=by
 obtain⟨_,hg⟩:=vH hp hq;obtain⟨gk,gl⟩:=Xj (hp.short lp) (A9k q);have wi:=kI (f:=A9k p) gk (by omega) S (by omega) (Em.2 h1.lt);have lf:=(Cu hp.ne).1;have hne:Bm (Q y.r) y.a (Q y.t) y.b ≠ 0:=by rw[Em.2 h1.lt];decide
 have wp:RQ 27 [y.av (A9k p),j x.r (x.a:Nat)] (D O (d p y (Q x.r) x.a)):=S' hp.fine S.gr S.gt o2.gr (by have:=S.a;omega) (by have:=S.b;omega) (by have:=o2.a;omega) lf hne;have wq:RQ 27 [y.av (A9k p),j x.t (x.b:Nat)] (D O (d p y (Q x.t) x.b)):=S' hp.fine S.gr S.gt o2.gt (by have:=S.a;omega) (by have:=S.b;omega) (by have:=o2.b;omega) lf hne;have gf:=Xq (q:=A9k q) hp.ne;have e1:(!decide ((B3 (A9k p) (A9k q)).length<2)&&(y.d (B3 (A9k p) (A9k q))==1))=decide (y.d (B3 (A9k p) (A9k q))=1):=by
  by_cases c:(B3 (A9k p) (A9k q)).length<2
  ·have:y.d (B3 (A9k p) (A9k q))=0:=by
    have:=gf c y.lo' y.hi';show VD _ y.lo'-VD _ y.hi'=0;omega
   rw[decide_eq_true c,this];rfl
  ·rw[decide_eq_false c];by_cases e:y.d (B3 (A9k p) (A9k q))=1
   ·rw[e];rfl
   ·rw[decide_eq_false e,beq_eq_false_iff_ne.2 e];rfl
 rw[e1] at wi;generalize B3 (A9k p) (A9k q)=g at *
 constructor
 ·intro ⟨b1,b2,b3⟩;rw[decide_eq_true b1] at wi;refine bB hp hq h1 h2 hm S o2 a1 a2 (.inl ?_);rcases hg with hg | hg
  ·exact Agd _ _ _ _ _ _ _ _ _ _ _ 8 _ true _ _ rfl rfl (decide_eq_true b2) (decide_eq_true b3) hg wi wp wq
  ·exact Afz _ _ _ _ _ _ _ _ _ _ _ 8 _ true _ _ rfl rfl (decide_eq_true b2) (decide_eq_true b3) hg wi wp wq
 ·intro hn;have hB:Ar GU (bS (A9k p) (A9k q) 0 y x 8) .norm (bS (A9k p) (A9k q) 0 y x 8):=by
   by_cases b1:y.d g=1
   ·rw[decide_eq_true b1] at wi;by_cases b2:0<d p y (Q x.r) x.a
    ·have b3:¬ d p y (Q x.t) x.b<=0:=fun z=>hn ⟨b1,b2,z⟩;rcases hg with hg | hg
     ·exact Age _ _ _ _ _ _ _ _ _ _ _ 8 _ true _ _ rfl rfl (decide_eq_true b2) (decide_eq_false b3) hg wi wp wq
     ·exact Aga _ _ _ _ _ _ _ _ _ _ _ 8 _ true _ _ rfl rfl (decide_eq_true b2) (decide_eq_false b3) hg wi wp wq
    ·rcases hg with hg | hg
     ·exact Agf _ _ _ _ _ _ _ _ _ _ _ 8 _ true _ rfl rfl (decide_eq_false b2) hg wi wp
     ·exact Agb _ _ _ _ _ _ _ _ _ _ _ 8 _ true _ rfl rfl (decide_eq_false b2) hg wi wp
   ·rw[decide_eq_false b1] at wi;rcases hg with hg | hg
    ·exact Agg _ _ _ _ _ _ _ _ _ _ _ 8 _ false rfl rfl hg wi
    ·exact Agc _ _ _ _ _ _ _ _ _ _ _ 8 _ false rfl rfl hg wi
  obtain⟨k1,k2⟩:=A7l hp hq h1 h2 hm S o2 (i:=8) (Ap _);exact⟨fun h=>bB hp hq h1 h2 hm S o2 a1 a2 (.inr ⟨hB,k1 h⟩),fun h=>Xr hp hq h1 h2 hm S o2 (by decide) a1 a2 hB (k2 h)⟩
end
def sX(f g:LI)(y x:Iv)(i:Nat):Bool:=decide (Bm (Q (stpN f y i).t) (stpN f y i).b (Q (stpN g x i).r) (stpN g x i).a<0) || decide (Bm (Q (stpN g x i).t) (stpN g x i).b (Q (stpN f y i).r) (stpN f y i).a<0) || decide (8<=i)&&Sa f g y x i
theorem Xs{f g:LI}{y x:Iv}{i:Nat}(h:sX f g y x i=false):¬ Bm (Q (stpN f y i).t) (stpN f y i).b (Q (stpN g x i).r) (stpN g x i).a<0/\¬ Bm (Q (stpN g x i).t) (stpN g x i).b (Q (stpN f y i).r) (stpN f y i).a<0/\(8<=i->Sa f g y x i=false):=by
 unfold sX at h;rw[GT,GT,decide_eq_false_iff_not,decide_eq_false_iff_not] at h;refine⟨h.1.1,h.1.2,fun k => ?_⟩;have:=h.2;rw[decide_eq_true k,LX] at this;exact this
theorem Ahd{f g:LI}{y x:Iv}{i:Nat}(h:sX f g y x i=true):(Bm (Q (stpN f y i).t) (stpN f y i).b (Q (stpN g x i).r) (stpN g x i).a<0\/Bm (Q (stpN g x i).t) (stpN g x i).b (Q (stpN f y i).r) (stpN f y i).a<0)\/8<=i/\Sa f g y x i=true:=by
 unfold sX at h;rw[HL,HL,Af,decide_eq_true_eq,decide_eq_true_eq,decide_eq_true_eq] at h;exact h
theorem A4u{p q:LI}{y x:Iv}(h1:One p y)(h2:One q x){z:Int}(hz:JG p y q x z)(hz0:z=0)(n:Nat):¬ dl (stpN (A9k p) y n).hi' (stpN (A9k q) x n).lo'/\¬ dl (stpN (A9k q) x n).hi' (stpN (A9k p) y n).lo':=by
 constructor
 ·intro g;have:=hz.unique h1 h2 ((JH h1 h2 n n).1 (RZ (h1.halves n) g));omega
 ·intro g;have:=hz.unique h1 h2 ((JH h1 h2 n n).1 (R' (h2.halves n) g));omega
section
variable {p q:LI} (hp:Fewp p) (lp:p.length<=6) (hq:Fewp q) (lq:q.length<=6) {y x:Iv} (h1:One p y) (h2:One q x) (S:IvOk 6 895 y) (o2:IvOk 6 895 x) {j1 j2:Nat} (w1:Wd j1 y) (w2:Wd j2 x) {z:Int} (hz:JG p y q x z)
include hp hq h1 h2 hz lp lq S o2 w1 w2
theorem bD:RQ 19 [y.av (A9k p),x.av (A9k q)] (D O z):=by
 obtain⟨d1,d2⟩:=kM hp hq;have ok1:=fun i (hi:i<=1610)=>IB (p:=A9k p) S i (by omega);have ok2:=fun i (hi:i<=1610)=>IB (p:=A9k q) o2 i (by omega);suffices h:∃ n y' x',Ar (.loop GV) (Ih (A9k p) (A9k q) 0 y x 0) .ret (Ih (A9k p) (A9k q) z y' x' n) by
  obtain⟨n,y',x',h⟩:=h;exact A4f _ y.r y.t _ _ _ x.r x.t _ _ z (n:Nat) _ _ _ _ _ _ _ _ _ _ h
 have lt0:∀ {u v:Dy},Bm u.1 u.2 v.1 v.2<0->dl u v:=fun h=>Fz.1 (Aw h);have go:∀ n v,n<=1610->(∀ t,t<n->Ar GV (Ih (A9k p) (A9k q) 0 (stpN (A9k p) y t) (stpN (A9k q) x t) t) .norm (Ih (A9k p) (A9k q) 0 (stpN (A9k p) y (t+1)) (stpN (A9k q) x (t+1)) (t+1))) ->
   Ar GV (Ih (A9k p) (A9k q) 0 (stpN (A9k p) y n) (stpN (A9k q) x n) n) .ret (Ih (A9k p) (A9k q) v (stpN (A9k p) y n) (stpN (A9k q) x n) n) ->
   Ar (.loop GV) (Ih (A9k p) (A9k q) 0 y x 0) .ret (Ih (A9k p) (A9k q) v (stpN (A9k p) y n) (stpN (A9k q) x n) n):=fun n v _ st out =>
  Gk (prog:=AZ) (c:=GV) (ex := .ret) (fun i=>Ih (A9k p) (A9k q) 0 (stpN (A9k p) y i) (stpN (A9k q) x i) i) n (by nofun) out 0 (By _) (fun t _ ht=>st t ht)
 by_cases hz0:z=0
 ·-- equal
  have no:=A4u h1 h2 hz hz0;have nl:∀ i,¬ Bm (Q (stpN (A9k p) y i).t) (stpN (A9k p) y i).b (Q (stpN (A9k q) x i).r) (stpN (A9k q) x i).a<0:=fun i g=>(no i).1 (lt0 (u:=(stpN (A9k p) y i).hi') (v:=(stpN (A9k q) x i).lo') g);have nr:∀ i,¬ Bm (Q (stpN (A9k q) x i).t) (stpN (A9k q) x i).b (Q (stpN (A9k p) y i).r) (stpN (A9k p) y i).a<0:=fun i g=>(no i).2 (lt0 (u:=(stpN (A9k q) x i).hi') (v:=(stpN (A9k p) y i).lo') g);refine⟨8,stpN (A9k p) y 8,stpN (A9k q) x 8,?_⟩;rw[hz0];refine go 8 0 (by decide) (fun t ht=>Zv hp hq (h1.halves t) (h2.halves t) (by omega) (ok1 t (by omega)) (ok2 t (by omega)) ht (nl t) (nr t)) ?_;refine (Tm hp lp hq (h1.halves 8) (h2.halves 8) (by omega) (ok1 8 (by omega)) (ok2 8 (by omega)) (nl 8) (nr 8)).1 ?_;have hs:=(JH h1 h2 8 8).2 hz;have hs:∀ m c,d p (stpN (A9k p) y 8) m c<=0↔d q (stpN (A9k q) x 8) m c<=0:=by
   rcases hs with ⟨e,_⟩ | ⟨e,_⟩ | ⟨_,g⟩
   ·omega
   ·omega
   ·exact g
  refine⟨?_,?_,(hs _ _).2 (bA (h2.halves 8))⟩
  ·obtain⟨N,hN⟩:∃ N,N=1602:=⟨_,rfl⟩;have hne:=Xp hp lp hq lq (h1.halves (8+N)) (h2.halves (8+N)) (w1.stpN (A9k p) (8+N)) (w2.stpN (A9k q) (8+N)) (by omega) (by omega) (no (8+N)).1 (no (8+N)).2;have g1:=A4s hp.ne (M9 hq.ne) (h1.halves 8);have g2:=R_ (B3 (A9k p) (A9k q)) h1 (m:=8) N;obtain⟨a1,_,_⟩:=Lf (stpN (A9k p) y (8+N)).lo' (stpN (A9k q) x (8+N)).lo';obtain⟨b1,_,_⟩:=Lg (stpN (A9k p) y (8+N)).hi' (stpN (A9k q) x (8+N)).hi';have v1:=Hp (B3 (A9k p) (A9k q)) a1;have v2:=Hp (B3 (A9k p) (A9k q)) b1;unfold Xn at hne;have g3:(stpN (A9k p) y (8+N)).d (B3 (A9k p) (A9k q))=VD (B3 (A9k p) (A9k q)) (stpN (A9k p) y (8+N)).lo'-VD (B3 (A9k p) (A9k q)) (stpN (A9k p) y (8+N)).hi':=rfl;omega
  ·have:¬ d p (stpN (A9k p) y 8) (Q (stpN (A9k q) x 8).r) (stpN (A9k q) x 8).a<=0:=fun g=>by
    have g:=(hs _ _).1 g;rw[OU (C' _)] at g;omega
   omega
 ·-- not equal
  have stop:∃ n,n<=1610/\(∀ i,i<n->sX (A9k p) (A9k q) y x i=false)/\sX (A9k p) (A9k q) y x n=true:=by
   rcases Ik (sX (A9k p) (A9k q) y x) 1611 1611 0 rfl with g | ⟨n,_,g2,g3,g4⟩
   ·exfalso;have last:=g 1610 (by omega) (by omega);obtain⟨N,hN⟩:∃ N,N=1610:=⟨_,rfl⟩;rw[<- hN] at last;have l:=OV ((Xs last).2.2 (by omega));have:=Xp hp lp hq lq (h1.halves N) (h2.halves N) (w1.stpN (A9k p) N) (w2.stpN (A9k q) N) (by omega) (by omega) l.1 l.2;exact hz0 (hz.unique h1 h2 ((JH h1 h2 N N).1 (Xo (h1.halves N) (h2.halves N) d1 d2 this)))
   ·exact⟨n,by omega,fun i hi=>g4 i (by omega) hi,g3⟩
  obtain⟨n,hn,n1,n2⟩:=stop;have no8:¬ ((stpN (A9k p) y 8).d (B3 (A9k p) (A9k q))=1/\0<d p (stpN (A9k p) y 8) (Q (stpN (A9k q) x 8).r) (stpN (A9k q) x 8).a/\d p (stpN (A9k p) y 8) (Q (stpN (A9k q) x 8).t) (stpN (A9k q) x 8).b<=0):=fun ⟨e1,e2,e3⟩ =>
   hz0 (hz.unique h1 h2 ((JH h1 h2 8 8).1 (kK (h1.halves 8) (h2.halves 8) d1 d2 e1 e2 e3)))
  have step:∀ t,t<n->Ar GV (Ih (A9k p) (A9k q) 0 (stpN (A9k p) y t) (stpN (A9k q) x t) t) .norm (Ih (A9k p) (A9k q) 0 (stpN (A9k p) y (t+1)) (stpN (A9k q) x (t+1)) (t+1)):=by
   intro t ht;obtain⟨s1,s2,s3⟩:=Xs (n1 t ht);rcases tD t 8 with c | c | c
   ·exact Zv hp hq (h1.halves t) (h2.halves t) (by omega) (ok1 t (by omega)) (ok2 t (by omega)) c s1 s2
   ·subst c;exact ((Tm hp lp hq (h1.halves 8) (h2.halves 8) (by omega) (ok1 8 (by omega)) (ok2 8 (by omega)) s1 s2).2 no8).2 (s3 (Ap _))
   ·exact (kN hp hq (h1.halves t) (h2.halves t) (by omega) (ok1 t (by omega)) (ok2 t (by omega)) c (by omega) s1 s2).2 (s3 (by omega))
  suffices h:∃ v,JG p (stpN (A9k p) y n) q (stpN (A9k q) x n) v/\Ar GV (Ih (A9k p) (A9k q) 0 (stpN (A9k p) y n) (stpN (A9k q) x n) n) .ret (Ih (A9k p) (A9k q) v (stpN (A9k p) y n) (stpN (A9k q) x n) n) by
   obtain⟨v,hv,h⟩:=h;have e:=hz.unique h1 h2 ((JH h1 h2 n n).1 hv);rw[<- e] at h;exact⟨n,_,_,go n z hn step h⟩
  have hh1:=h1.halves n;have hh2:=h2.halves n;have o3:=ok1 n hn;have o4:=ok2 n hn;have n2':(Bm (Q (stpN (A9k p) y n).t) (stpN (A9k p) y n).b (Q (stpN (A9k q) x n).r) (stpN (A9k q) x n).a<0\/Bm (Q (stpN (A9k q) x n).t) (stpN (A9k q) x n).b (Q (stpN (A9k p) y n).r) (stpN (A9k p) y n).a<0)\/8<=n/\bC (stpN (A9k p) y n) (stpN (A9k q) x n)=true:=Ahd n2;have no8':n=8->¬ ((stpN (A9k p) y n).d (B3 (A9k p) (A9k q))=1/\0<d p (stpN (A9k p) y n) (Q (stpN (A9k q) x n).r) (stpN (A9k q) x n).a/\d p (stpN (A9k p) y n) (Q (stpN (A9k q) x n).t) (stpN (A9k q) x n).b<=0):=fun e=>by rw[e];exact no8
  generalize stpN (A9k p) y n=y' at *
  generalize stpN (A9k q) x n=x' at *
  by_cases a1:Bm (Q y'.t) y'.b (Q x'.r) x'.a<0
  ·exact⟨-1,RZ hh1 (lt0 (u:=y'.hi') (v:=x'.lo') a1),vI hp hq hh1 hh2 (by omega) o3 o4 n (-1) (.inl ⟨rfl,a1⟩)⟩
  by_cases a2:Bm (Q x'.t) x'.b (Q y'.r) y'.a<0
  ·exact⟨1,R' hh2 (lt0 (u:=x'.hi') (v:=y'.lo') a2),vI hp hq hh1 hh2 (by omega) o3 o4 n 1 (.inr ⟨rfl,a1,a2⟩)⟩
  obtain⟨h8,hb⟩:=n2'.resolve_left (fun g=>by rcases g with g | g;exact a1 g;exact a2 g);refine⟨apZ y' x',?_,?_⟩
  ·have hb':=hb;unfold bC at hb';rw[HL,decide_eq_true_eq,decide_eq_true_eq] at hb';unfold apZ;rcases hb' with g | g
   ·have g1:=(Fz (u:=y'.hi') (v:=x'.lo')).1 g;have g2:Bm (Q y'.r) y'.a (Q x'.r) x'.a<0:=by
     have hlt:Q y'.r*2^x'.a<Q x'.r*2^y'.a:=by
      apply GN.1;intro k;exact hh1.dlt.2 (Fy g1 k)
     rw[Em.2 hlt];decide
    rw[if_pos g2];exact RZ hh1 g1
   ·have g1:=(Fz (u:=x'.hi') (v:=y'.lo')).1 g;have g2:¬ Bm (Q y'.r) y'.a (Q x'.r) x'.a<0:=fun k=>by
     have k:=(Fz (u:=y'.lo') (v:=x'.lo')).1 (Aw k);exact hh2.dlt.2 (Fy g1 k)
    rw[if_neg g2];exact R' hh2 g1
  ·rcases Cn 8 n with c | c
   ·exact (kN hp hq hh1 hh2 (by omega) o3 o4 c (by omega) a1 a2).1 hb
   ·have e:n=8:=by omega
    have no8:=no8' e;subst e;exact ((Tm hp lp hq hh1 hh2 (by omega) o3 o4 a1 a2).2 no8).1 hb
end
section
variable {p:LI} (hp:Fewp p) (hl:p.length<=6) {qs:List Rn} (hg:∀ r∈qs,AO 5 r) (hn:qs.length<=6) (hq:A9l (P qs) ≠ []->Shortp (P qs)) {y:Iv} (h:One p y) (hx:IvOk 6 895 y) {j:Nat} (hw:Wd j y)
include hp hl hg hn hq h hx hw
end
theorem Uj{rs:List Rn}(h5:∀ r∈rs,AO 5 r)(h9:rs.length<=9)(hp:Fewp (P rs)):(OT (P rs)).length<=1000:=by
 have hd:=hp.deep 895 0 M8 rfl P4;have hlen:=Ip h5 h9;have hL:=RW (p:=P rs) 895 0 M8 P4 hd;have b1:=OS hlen (Q M8.r) M8.a;have b2:=OS hlen (Q M8.t) M8.b;have hdd:M8.d (P rs)<=10:=by unfold Iv.d;omega
 unfold OT Kj;split
 ·simp
 ·omega
theorem JG.bd{p q:LI}{y x:Iv}{z:Int}(h:JG p y q x z) : -1<=z/\z<=1:=by
 rcases h with ⟨rfl,_⟩ | ⟨rfl,_⟩ | ⟨rfl,_⟩ <;> decide
theorem kO{p q:LI}(hp:Fewp p)(hq:Fewp q){y x:Iv}(h1:One p y)(h2:One q x)(S:IvOk 6 895 y)(o2:IvOk 6 895 x){z:Int}(h:RQ 74 [y.av (A9k p),x.av (A9k q)] (D O z)) :
  RQ 23 [B7 ((A9k p).map V) y.r (y.a:Nat) y.t (y.b:Nat),B7 ((A9k q).map V) x.r (x.a:Nat) x.t (x.b:Nat)] (Ax [D O z,D O 0]):=by
 refine Agu hp.good hp.l9 S hq.good hq.l9 o2 (Xg hp h1 S) (Xg hq h2 o2) ?_;rw[AJ,AJ,H1 hp.ne,H1 hq.ne];exact h
theorem Xt(haw:RQ 12 [] (F true)){rs qs:List Rn}(hg:∀ r∈rs,AO 35184372088832 r)(hgq:∀ r∈qs,AO 35184372088832 r) :
  RQ 4 [Y pc rs,Y pc qs] (F true):=by
 by_cases l1:rs.length>6
 ·exact Awz rs qs (by rw[decide_eq_true_eq];omega) haw
 have d1:decide ((rs.length:Int)>6)=false:=by rw[decide_eq_false_iff_not];omega
 by_cases l2:qs.length>6
 ·exact Axa rs qs d1 (by rw[decide_eq_true_eq];omega) haw
 have d2:decide ((qs.length:Int)>6)=false:=by rw[decide_eq_false_iff_not];omega
 have hf1:=iU hg;have hf2:=iU hgq;by_cases c0:M6 rs=true
 case neg =>
  rw[Ahq] at c0;rw[c0] at hf1;exact Axf rs qs false d1 d2 rfl haw hf1
 obtain⟨h5,h9⟩:=iV hg c0;rw[c0] at hf1;by_cases c1:M6 qs=true
 case neg =>
  rw[Ahq] at c1;rw[c1] at hf2;exact Axe rs qs true false d1 d2 rfl rfl haw hf1 hf2
 obtain⟨q5,q9⟩:=iV hgq c1;rw[c1] at hf2;have hdeg:=PZ (fun r h=>(h5 r h).mono (by omega)) (show rs.length<=1048576 by omega);have qdeg:=PZ (fun r h=>(q5 r h).mono (by omega)) (show qs.length<=1048576 by omega);by_cases c2:(A9l (P rs)).length<2
 ·exact Axb rs qs _ true true d1 d2 rfl rfl (by rw[decide_eq_true_eq];omega) haw hf1 hf2 hdeg
 have d3:decide ((((A9l (P rs)).length:Nat):Int)-1<1)=false:=by rw[decide_eq_false_iff_not];omega
 by_cases c3:(A9l (P qs)).length<2
 ·exact Axc rs qs _ _ true true d1 d2 rfl rfl d3 (by rw[decide_eq_true_eq];omega) haw hf1 hf2 hdeg qdeg
 have d4:decide ((((A9l (P qs)).length:Nat):Int)-1<1)=false:=by rw[decide_eq_false_iff_not];omega
 have hp:=jU c0 (by intro e;rw[e] at c2;simp at c2);have hq:=jU c1 (by intro e;rw[e] at c3;simp at c3);have lp:(P rs).length<=6:=by rw[A9z];omega
 have lq:(P qs).length<=6:=by rw[A9z];omega
 have hall:=jV h5 h9 hp;have qall:=jV q5 q9 hq;have hone:=fun y hy=>Zp hp y hy;have qone:=fun y hy=>Zp hq y hy;have hok:=fun y hy=>jT (p:=P rs) y hy;have qok:=fun y hy=>jT (p:=P qs) y hy;have hLl:=Uj h5 h9 hp;have hMl:=Uj q5 q9 hq;generalize OT (P rs)=L at *
 generalize OT (P qs)=M at *
 have eg:∀ (p:LI) (L:List Iv) (i:Nat) (hi:i<L.length),(L.map (Iv.out (A9k p))).getD (A (i:Int)) s=⟨(A9k p).map V,(L[i].yo).r,((L[i].yo).a:Nat),(L[i].yo).t,((L[i].yo).b:Nat)⟩:=by
  intro p L i hi;rw[R,Z,CL,Ah hi];rfl
 have inner:∀ i j,i<L.length->j<M.length->Ar Yk (Qd false (L.map (Iv.out (A9k (P rs)))) (M.map (Iv.out (A9k (P qs)))) (i:Nat) (j:Nat)) .norm (Qd false (L.map (Iv.out (A9k (P rs)))) (M.map (Iv.out (A9k (P qs)))) (i:Nat) ((j+1:Nat):Int)):=by
  intro i j hi hj;have ej:I O ((j:Int)+1)=((j+1:Nat):Int):=by rw[Bl (by omega) (by omega)];omega
  obtain⟨on1,j1,_,wd1⟩:=hone L[i] (CY hi);obtain⟨on2,j2,_,wd2⟩:=qone M[j] (CY hj);have ok1:=Axt (hok L[i] (CY hi));have ok2:=Axt (qok M[j] (CY hj));have on1:=on1.yo;have on2:=on2.yo;have wd1:=wd1.yo;have wd2:=wd2.yo;have g1:=eg (P rs) L i hi;have g2:=eg (P qs) M j hj;generalize L[i].yo=y at *
  generalize M[j].yo=x at *
  obtain⟨z,hz,r1⟩:=Zu hp lp hq on1 on2 ok1 ok2 lq wd1 wd2;obtain⟨z2,hz2,r2⟩:=Zu hq lq hp on2 on1 ok2 ok1 lp wd2 wd1;have e:=hz2.unique on2 on1 hz.swap;subst e;have bz:=hz.bd;have co:=bD hp lp hq lq on1 on2 ok1 ok2 wd1 wd2 hz;have kk:=A4g false (L.map (Iv.out (A9k (P rs)))) (M.map (Iv.out (A9k (P qs)))) (i:Nat) (j:Nat) ((A9k (P rs)).map V) ((A9k (P qs)).map V) y.r y.t x.r x.t (y.a:Nat) (y.b:Nat) (x.a:Nat) (x.b:Nat) z (-z) (by simp) (by rw[decide_eq_true_eq,N];omega)
   (by rw[show (0:Int)-z = -z by omega,Bl (by omega) (by omega)];simp) (by rw[N];omega) (by rw[N];omega) (by rw[g1,g2];exact kO hp hq on1 on2 ok1 ok2 r1) (by rw[g1,g2];exact kO hq hp on2 on1 ok2 ok1 r2) (by rw[g1];exact Xh hp) (by rw[g2];exact Xh hq) co
  rwa [ej] at kk
 have step:∀ i,i<L.length->Ar wB (XX false (L.map (Iv.out (A9k (P rs)))) (M.map (Iv.out (A9k (P qs)))) (i:Nat)) .norm (XX false (L.map (Iv.out (A9k (P rs)))) (M.map (Iv.out (A9k (P qs)))) ((i+1:Nat):Int)):=by
  intro i hi;have ei:I O ((i:Int)+1)=((i+1:Nat):Int):=by rw[Bl (by omega) (by omega)];omega
  have lp:=C1.up (prog:=AZ) (c:=Yk) (ex := .exit 2) (fin:=Qd false (L.map (Iv.out (A9k (P rs)))) (M.map (Iv.out (A9k (P qs)))) (i:Nat) (M.length:Int))
   (fun j=>Qd false (L.map (Iv.out (A9k (P rs)))) (M.map (Iv.out (A9k (P qs)))) (i:Nat) (j:Nat)) M.length (by nofun) (fun j hj=>inner i j hi hj) (A4h _ _ _ _ _ (by rw[decide_eq_false_iff_not,N];omega)) 0 (By _)
  have kk:=A8o _ _ _ (i:Nat) _ (by rw[decide_eq_true_eq,N];omega) lp;rwa [ei] at kk
 have lp:=C1.up (prog:=AZ) (c:=wB) (ex := .exit 0) (fin:=XX false (L.map (Iv.out (A9k (P rs)))) (M.map (Iv.out (A9k (P qs)))) (L.length:Int))
  (fun i=>XX false (L.map (Iv.out (A9k (P rs)))) (M.map (Iv.out (A9k (P qs)))) (i:Nat)) L.length (by nofun) step (A8p _ _ _ _ (by rw[decide_eq_false_iff_not,N];omega)) 0 (By _)
 exact Axd rs qs _ _ _ (L.map (Iv.out (A9k (P rs)))) (M.map (Iv.out (A9k (P qs)))) true true d1 d2 rfl rfl d3 d4 haw hf1 hf2 hdeg qdeg hall qall lp
theorem aw0:RQ 118 [H 4 [F false,H 0 [],F true,H 1 [D Ad 1],F false,H 0 [],F false,H 1 [D Ad 1]],H 3 [F true,H 1 [D Ad 1],F false,H 0 [],F false,H 1 [D Ad 3]]] (L 2 2 [F false,H 0 [],F true,H 1 [D Ad 1]]):=Bo BV (AAa _) 400 _ _ _ (by kernel_rfl)
theorem aw1:RQ 118 [H 3 [F true,H 1 [D Ad 1],F false,H 0 [],F false,H 1 [D Ad 3]],H 2 [F false,H 0 [],F true,H 1 [D Ad 1]]] (L 2 1 [F true,H 1 [D Ad 1]]):=Bo BV (AAa _) 400 _ _ _ (by kernel_rfl)
theorem aw2:RQ 118 [H 2 [F false,H 0 [],F true,H 1 [D Ad 1]],H 1 [F true,H 1 [D Ad 1]]] (L 2 0 []):=Bo BV (AAa _) 400 _ _ _ (by kernel_rfl)
theorem aw3:RQ 135 [H 4 [F false,H 0 [],F true,H 1 [D Ad 1],F false,H 0 [],F false,H 1 [D Ad 1]],H 3 [F true,H 1 [D Ad 1],F false,H 0 [],F false,H 1 [D Ad 3]]] (L 2 1 [F false,H 1 [D Ad 1]]):=Bo BV (A9u aw2 (A9u aw1 (A9u aw0 (AAa _)))) 400 _ _ _ (by kernel_rfl)
theorem aw4:RQ 114 [H 4 [F false,H 0 [],F true,H 1 [D Ad 1],F false,H 0 [],F false,H 1 [D Ad 1]]] (H 4 [F false,H 0 [],F true,H 1 [D Ad 1],F false,H 0 [],F false,H 1 [D Ad 1]]):=Bo BV (A9u aw3 (AAa _)) 400 _ _ _ (by kernel_rfl)
theorem aw5:RQ 118 [H 3 [F true,H 1 [D Ad 1],F false,H 0 [],F false,H 1 [D Ad 3]],H 2 [F false,H 0 [],F false,H 1 [D Ad 1]]] (L 2 1 [F true,H 1 [D Ad 1]]):=Bo BV (AAa _) 400 _ _ _ (by kernel_rfl)
theorem aw6:RQ 118 [H 2 [F false,H 0 [],F false,H 1 [D Ad 1]],H 1 [F false,H 1 [D Ad 1]]] (L 2 0 []):=Bo BV (AAa _) 400 _ _ _ (by kernel_rfl)
theorem aw7:RQ 67 [H 4 [F false,H 0 [],F true,H 1 [D Ad 1],F false,H 0 [],F false,H 1 [D Ad 1]]] (L 1 4 [H 4 [F false,H 0 [],F true,H 1 [D Ad 1],F false,H 0 [],F false,H 1 [D Ad 1]],H 3 [F true,H 1 [D Ad 1],F false,H 0 [],F false,H 1 [D Ad 3]],H 2 [F false,H 0 [],F false,H 1 [D Ad 1]],H 1 [F false,H 1 [D Ad 1]]]):=Bo BV (A9u aw6 (A9u aw5 (A9u aw4 (A9u aw0 (AAa _))))) 400 _ _ _ (by kernel_rfl)
theorem aw8:RQ 65 [H 4 [F false,H 0 [],F true,H 1 [D Ad 1],F false,H 0 [],F false,H 1 [D Ad 1]],o [F true,H 1 [D Ad 1],D O 0]] (D O 0):=Bo BV (AAa _) 400 _ _ _ (by kernel_rfl)
theorem aw9:RQ 68 [H 4 [H 4 [F false,H 0 [],F true,H 1 [D Ad 1],F false,H 0 [],F false,H 1 [D Ad 1]],H 3 [F true,H 1 [D Ad 1],F false,H 0 [],F false,H 1 [D Ad 3]],H 2 [F false,H 0 [],F false,H 1 [D Ad 1]],H 1 [F false,H 1 [D Ad 1]]],o [F true,H 1 [D Ad 1],D O 0]] (D O 2):=Bo BV (A9u aw8 (AAa _)) 400 _ _ _ (by kernel_rfl)
theorem A7m:RQ 65 [H 4 [F false,H 0 [],F true,H 1 [D Ad 1],F false,H 0 [],F false,H 1 [D Ad 1]],o [F false,H 1 [D Ad 2],D O 0]] (D O 1):=Bo BV (AAa _) 400 _ _ _ (by kernel_rfl)
theorem A7n:RQ 68 [H 4 [H 4 [F false,H 0 [],F true,H 1 [D Ad 1],F false,H 0 [],F false,H 1 [D Ad 1]],H 3 [F true,H 1 [D Ad 1],F false,H 0 [],F false,H 1 [D Ad 3]],H 2 [F false,H 0 [],F false,H 1 [D Ad 1]],H 1 [F false,H 1 [D Ad 1]]],o [F false,H 1 [D Ad 2],D O 0]] (D O 0):=Bo BV (A9u A7m (AAa _)) 400 _ _ _ (by kernel_rfl)
theorem aw12:RQ 65 [H 4 [F false,H 0 [],F true,H 1 [D Ad 1],F false,H 0 [],F false,H 1 [D Ad 1]],o [F false,H 1 [D Ad 1],D O 1]] (D O (-1)):=Bo BV (AAa _) 400 _ _ _ (by kernel_rfl)
theorem Ayb:RQ 68 [H 4 [H 4 [F false,H 0 [],F true,H 1 [D Ad 1],F false,H 0 [],F false,H 1 [D Ad 1]],H 3 [F true,H 1 [D Ad 1],F false,H 0 [],F false,H 1 [D Ad 3]],H 2 [F false,H 0 [],F false,H 1 [D Ad 1]],H 1 [F false,H 1 [D Ad 1]]],o [F false,H 1 [D Ad 1],D O 1]] (D O 1):=Bo BV (A9u aw12 (AAa _)) 400 _ _ _ (by kernel_rfl)
theorem aw14:RQ 15 [H 4 [F false,H 0 [],F true,H 1 [D Ad 1],F false,H 0 [],F false,H 1 [D Ad 1]],o [F true,H 1 [D Ad 1],D O 0],o [F false,H 1 [D Ad 2],D O 0]] (Ax [H 2 [H 4 [F false,H 0 [],F true,H 1 [D Ad 1],F false,H 0 [],F false,H 1 [D Ad 1]],F true,H 1 [D Ad 1],D O 0,F false,H 1 [D Ad 1],D O 1,H 4 [F false,H 0 [],F true,H 1 [D Ad 1],F false,H 0 [],F false,H 1 [D Ad 1]],F false,H 1 [D Ad 1],D O 1,F false,H 1 [D Ad 2],D O 0],D O 0]):=Bo BV (A9u Ayb (A9u A7n (A9u aw9 (A9u aw7 (AAa _))))) 400 _ _ _ (by kernel_rfl)
theorem A7o:RQ 118 [H 3 [F true,H 1 [D Ad 2],F false,H 0 [],F false,H 1 [D Ad 1]],H 2 [F false,H 0 [],F false,H 1 [D Ad 1]]] (L 2 1 [F true,H 1 [D Ad 1]]):=Bo BV (AAa _) 400 _ _ _ (by kernel_rfl)
theorem aw16:RQ 118 [H 2 [F false,H 0 [],F false,H 1 [D Ad 1]],H 1 [F true,H 1 [D Ad 1]]] (L 2 0 []):=Bo BV (AAa _) 400 _ _ _ (by kernel_rfl)
theorem aw17:RQ 135 [H 3 [F true,H 1 [D Ad 2],F false,H 0 [],F false,H 1 [D Ad 1]],H 2 [F false,H 0 [],F false,H 1 [D Ad 2]]] (L 2 1 [F false,H 1 [D Ad 1]]):=Bo BV (A9u aw16 (A9u A7o (AAa _))) 400 _ _ _ (by kernel_rfl)
theorem A7p:RQ 114 [H 3 [F true,H 1 [D Ad 2],F false,H 0 [],F false,H 1 [D Ad 1]]] (H 3 [F true,H 1 [D Ad 2],F false,H 0 [],F false,H 1 [D Ad 1]]):=Bo BV (A9u aw17 (AAa _)) 400 _ _ _ (by kernel_rfl)
theorem Ayc:RQ 67 [H 3 [F true,H 1 [D Ad 2],F false,H 0 [],F false,H 1 [D Ad 1]]] (L 1 3 [H 3 [F true,H 1 [D Ad 2],F false,H 0 [],F false,H 1 [D Ad 1]],H 2 [F false,H 0 [],F false,H 1 [D Ad 1]],H 1 [F false,H 1 [D Ad 1]]]):=Bo BV (A9u A7p (A9u A7o (A9u aw6 (AAa _)))) 400 _ _ _ (by kernel_rfl)
theorem Ayd:RQ 68 [H 3 [H 3 [F true,H 1 [D Ad 2],F false,H 0 [],F false,H 1 [D Ad 1]],H 2 [F false,H 0 [],F false,H 1 [D Ad 1]],H 1 [F false,H 1 [D Ad 1]]],o [F false,H 0 [],D O 0]] (D O 1):=Bo BV (AAa _) 400 _ _ _ (by kernel_rfl)
theorem Aye:RQ 68 [H 3 [H 3 [F true,H 1 [D Ad 2],F false,H 0 [],F false,H 1 [D Ad 1]],H 2 [F false,H 0 [],F false,H 1 [D Ad 1]],H 1 [F false,H 1 [D Ad 1]]],o [F false,H 1 [D Ad 2],D O 0]] (D O 0):=Bo BV (AAa _) 400 _ _ _ (by kernel_rfl)
theorem aw22:RQ 15 [H 3 [F true,H 1 [D Ad 2],F false,H 0 [],F false,H 1 [D Ad 1]],o [F false,H 0 [],D O 0],o [F false,H 1 [D Ad 2],D O 0]] (Ax [H 1 [H 3 [F true,H 1 [D Ad 2],F false,H 0 [],F false,H 1 [D Ad 1]],F false,H 0 [],D O 0,F false,H 1 [D Ad 2],D O 0],D O 0]):=Bo BV (A9u Aye (A9u Ayd (A9u Ayc (AAa _)))) 400 _ _ _ (by kernel_rfl)
theorem Ayf:RQ 115 [H 4 [F false,H 0 [],F false,H 0 [],F false,H 0 [],F false,H 1 [D Ad 4]]] (L 2 4 [F false,H 0 [],F false,H 0 [],F false,H 0 [],F false,H 1 [D Ad 1]]):=Bo BV (AAa _) 400 _ _ _ (by kernel_rfl)
theorem Ayg:RQ 118 [H 5 [F true,H 1 [D Ad 4],F false,H 0 [],F false,H 0 [],F false,H 0 [],F false,H 1 [D Ad 1]],H 4 [F false,H 0 [],F false,H 0 [],F false,H 0 [],F false,H 1 [D Ad 1]]] (L 2 1 [F true,H 1 [D Ad 1]]):=Bo BV (AAa _) 400 _ _ _ (by kernel_rfl)
theorem aw25:RQ 118 [H 4 [F false,H 0 [],F false,H 0 [],F false,H 0 [],F false,H 1 [D Ad 1]],H 1 [F true,H 1 [D Ad 1]]] (L 2 0 []):=Bo BV (AAa _) 400 _ _ _ (by kernel_rfl)
theorem Ayh:RQ 114 [H 5 [F true,H 1 [D Ad 4],F false,H 0 [],F false,H 0 [],F false,H 0 [],F false,H 1 [D Ad 1]]] (H 5 [F true,H 1 [D Ad 4],F false,H 0 [],F false,H 0 [],F false,H 0 [],F false,H 1 [D Ad 1]]):=Bo BV (A9u aw25 (A9u Ayg (A9u Ayf (AAa _)))) 400 _ _ _ (by kernel_rfl)
theorem A7q:RQ 118 [H 4 [F false,H 0 [],F false,H 0 [],F false,H 0 [],F false,H 1 [D Ad 1]],H 1 [F false,H 1 [D Ad 1]]] (L 2 0 []):=Bo BV (AAa _) 400 _ _ _ (by kernel_rfl)
theorem aw28:RQ 65 [H 5 [F true,H 1 [D Ad 4],F false,H 0 [],F false,H 0 [],F false,H 0 [],F false,H 1 [D Ad 1]],o [F false,H 0 [],D O 0]] (D O (-1)):=Bo BV (AAa _) 400 _ _ _ (by kernel_rfl)
theorem A7r:RQ 68 [H 3 [H 5 [F true,H 1 [D Ad 4],F false,H 0 [],F false,H 0 [],F false,H 0 [],F false,H 1 [D Ad 1]],H 4 [F false,H 0 [],F false,H 0 [],F false,H 0 [],F false,H 1 [D Ad 1]],H 1 [F false,H 1 [D Ad 1]]],o [F false,H 0 [],D O 0]] (D O 1):=Bo BV (A9u aw28 (AAa _)) 400 _ _ _ (by kernel_rfl)
theorem A7s:RQ 65 [H 5 [F true,H 1 [D Ad 4],F false,H 0 [],F false,H 0 [],F false,H 0 [],F false,H 1 [D Ad 1]],o [F false,H 1 [D Ad 5],D O 0]] (D O 1):=Bo BV (AAa _) 400 _ _ _ (by kernel_rfl)
theorem A7t:RQ 65 [H 4 [F false,H 0 [],F false,H 0 [],F false,H 0 [],F false,H 1 [D Ad 1]],o [F false,H 1 [D Ad 5],D O 0]] (D O 1):=Bo BV (AAa _) 400 _ _ _ (by kernel_rfl)
theorem aw32:RQ 56 [H 5 [F true,H 1 [D Ad 4],F false,H 0 [],F false,H 0 [],F false,H 0 [],F false,H 1 [D Ad 1]],o [F false,H 0 [],D O 0],o [F false,H 1 [D Ad 5],D O 0],D O 896] (Ax [H 1 [H 5 [F true,H 1 [D Ad 4],F false,H 0 [],F false,H 0 [],F false,H 0 [],F false,H 1 [D Ad 1]],F false,H 0 [],D O 0,F false,H 1 [D Ad 5],D O 0],F true]):=Bo BV (A9u A7t (A9u A7s (A9u A7r (A9u A7q (A9u Ayh (A9u Ayg (A9u Ayf (AAa _)))))))) 400 _ _ _ (by kernel_rfl)
theorem aw33:RQ 15 [H 5 [F true,H 1 [D Ad 4],F false,H 0 [],F false,H 0 [],F false,H 0 [],F false,H 1 [D Ad 1]],o [F false,H 0 [],D O 0],o [F false,H 1 [D Ad 5],D O 0]] (Ax [H 1 [H 5 [F true,H 1 [D Ad 4],F false,H 0 [],F false,H 0 [],F false,H 0 [],F false,H 1 [D Ad 1]],F false,H 0 [],D O 0,F false,H 1 [D Ad 5],D O 0],D O 0]):=Bo BV (A9u aw32 (AAa _)) 400 _ _ _ (by kernel_rfl)
theorem aw34:RQ 76 [o [H 3 [F true,H 1 [D Ad 2],F false,H 0 [],F false,H 1 [D Ad 1]],F false,H 0 [],D O 0,F false,H 1 [D Ad 2],D O 0],o [F false,H 1 [D Ad 1],D O 0]] (D O 1):=Bo BV (AAa _) 400 _ _ _ (by kernel_rfl)
theorem aw35:RQ 76 [o [H 3 [F true,H 1 [D Ad 2],F false,H 0 [],F false,H 1 [D Ad 1]],F false,H 1 [D Ad 1],D O 0,F false,H 1 [D Ad 2],D O 0],o [F false,H 1 [D Ad 3],D O 1]] (D O (-1)):=Bo BV (AAa _) 400 _ _ _ (by kernel_rfl)
theorem aw36:RQ 76 [o [H 3 [F true,H 1 [D Ad 2],F false,H 0 [],F false,H 1 [D Ad 1]],F false,H 1 [D Ad 1],D O 0,F false,H 1 [D Ad 3],D O 1],o [F false,H 1 [D Ad 3],D O 1]] (D O (-1)):=Bo BV (AAa _) 400 _ _ _ (by kernel_rfl)
theorem aw37:RQ 77 [o [H 3 [F true,H 1 [D Ad 2],F false,H 0 [],F false,H 1 [D Ad 1]],F false,H 0 [],D O 0,F false,H 1 [D Ad 2],D O 0],D O 1] (o [F false,H 1 [D Ad 2]]):=Bo BV (A9u aw36 (A9u aw35 (A9u aw34 (AAa _)))) 400 _ _ _ (by kernel_rfl)
theorem aw38:RQ 18 [o [H 5 [F true,H 1 [D Ad 4],F false,H 0 [],F false,H 0 [],F false,H 0 [],F false,H 1 [D Ad 1]],F false,H 0 [],D O 0,F false,H 1 [D Ad 5],D O 0]] (F true):=Bo BV (A9u A7t (A9u A7s (A9u A7r (A9u A7q (A9u Ayh (A9u Ayg (A9u Ayf (AAa _)))))))) 400 _ _ _ (by kernel_rfl)
theorem aw39:RQ 118 [H 3 [F true,H 1 [D Ad 2],F false,H 0 [],F false,H 1 [D Ad 1]],H 5 [F true,H 1 [D Ad 4],F false,H 0 [],F false,H 0 [],F false,H 0 [],F false,H 1 [D Ad 1]]] (L 2 3 [F true,H 1 [D Ad 2],F false,H 0 [],F false,H 1 [D Ad 1]]):=Bo BV (AAa _) 400 _ _ _ (by kernel_rfl)
theorem aw40:RQ 115 [H 5 [F true,H 1 [D Ad 4],F false,H 0 [],F false,H 1 [D Ad 2],F false,H 0 [],F false,H 0 []]] (L 2 3 [F true,H 1 [D Ad 2],F false,H 0 [],F false,H 1 [D Ad 1]]):=Bo BV (AAa _) 400 _ _ _ (by kernel_rfl)
theorem aw41:RQ 118 [H 5 [F true,H 1 [D Ad 4],F false,H 0 [],F false,H 0 [],F false,H 0 [],F false,H 1 [D Ad 1]],H 3 [F true,H 1 [D Ad 2],F false,H 0 [],F false,H 1 [D Ad 1]]] (L 2 0 []):=Bo BV (A9u aw40 (AAa _)) 400 _ _ _ (by kernel_rfl)
theorem aw42:RQ 135 [H 3 [F true,H 1 [D Ad 2],F false,H 0 [],F false,H 1 [D Ad 1]],H 5 [F true,H 1 [D Ad 4],F false,H 0 [],F false,H 0 [],F false,H 0 [],F false,H 1 [D Ad 1]]] (H 3 [F true,H 1 [D Ad 2],F false,H 0 [],F false,H 1 [D Ad 1]]):=Bo BV (A9u aw41 (A9u aw39 (AAa _))) 400 _ _ _ (by kernel_rfl)
theorem aw43:RQ 74 [o [H 3 [F true,H 1 [D Ad 2],F false,H 0 [],F false,H 1 [D Ad 1]],F false,H 0 [],D O 0,F false,H 1 [D Ad 2],D O 0],o [H 5 [F true,H 1 [D Ad 4],F false,H 0 [],F false,H 0 [],F false,H 0 [],F false,H 1 [D Ad 1]],F false,H 0 [],D O 0,F false,H 1 [D Ad 5],D O 0]] (D O 0):=Bo BV (A9u aw42 (A9u Aye (A9u Ayd (A9u Ayc (AAa _))))) 400 _ _ _ (by kernel_rfl)
theorem aw44:RQ 18 [o [H 4 [F false,H 0 [],F true,H 1 [D Ad 1],F false,H 0 [],F false,H 1 [D Ad 1]],F false,H 1 [D Ad 1],D O 1,F false,H 1 [D Ad 2],D O 0]] (F true):=Bo BV (A9u Ayb (A9u A7n (A9u aw7 (AAa _)))) 400 _ _ _ (by kernel_rfl)
theorem aw45:RQ 65 [H 4 [F false,H 0 [],F true,H 1 [D Ad 1],F false,H 0 [],F false,H 1 [D Ad 1]],o [F false,H 1 [D Ad 1],D O 0]] (D O 0):=Bo BV (AAa _) 400 _ _ _ (by kernel_rfl)
theorem aw46:RQ 18 [o [H 4 [F false,H 0 [],F true,H 1 [D Ad 1],F false,H 0 [],F false,H 1 [D Ad 1]],F true,H 1 [D Ad 1],D O 0,F false,H 1 [D Ad 1],D O 1]] (F true):=Bo BV (A9u Ayb (A9u aw9 (A9u aw7 (AAa _)))) 400 _ _ _ (by kernel_rfl)
theorem aw47:RQ 12 [] (F true):=Bo BV (A9u aw46 (A9u aw45 (A9u aw44 (A9u aw43 (A9u aw38 (A9u aw37 (A9u aw33 (A9u Ayh (A9u aw22 (A9u Aye (A9u Ayd (A9u Ayc (A9u A7p (A9u aw14 (A9u A7m (A9u aw4 (AAa _))))))))))))))))) 400 _ _ _ (by kernel_rfl)
theorem A4v:RQ 12 [] (F true):=aw47
end Go.Proofs.YtajompaehjkgkaaGreat
