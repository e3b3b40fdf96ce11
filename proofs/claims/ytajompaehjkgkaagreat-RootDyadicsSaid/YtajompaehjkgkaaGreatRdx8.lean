/- Texts of the proof of RootDyadics: part 8 of 13. -/
import Derived.Test.YtajompaehjkgkaaGreatRdx7
namespace Go.Ai
open Classical renaming byContradiction->AE
open Int renaming add_zero->B2,mul_assoc->AB,mul_comm->AD,mul_ne_zero->BK,mul_neg_of_pos_of_neg->LD,mul_nonneg->A1,mul_pos->BE,mul_sub->HG,mul_zero->AG,natAbs_mul->BA,natAbs_natCast->B9,natAbs_of_nonneg->Ky,natCast_mul->Dj,neg_mul->Qf,not_le->H7,pos_of_mul_pos_right->Zk,pow_succ->Ay,sub_zero->EI,zero_mul->DF
open List renaming getD_eq_getElem?_getD->Z,getElem?_eq_getElem->Ae,getElem?_eq_none->AC,getElem?_map->CA,getElem?_replicate_of_lt->Adb,length_cons->Bo,length_pos_iff->An,length_replicate->EW,length_set->AS,mem_iff_getElem->Hf,range->Ao,replicate->Aq,replicate_succ->FU
open Nat renaming add_comm->H',add_mul->DK,le_add_right->OI,le_refl->Am,le_trans->Bq,mul_assoc->EA,mul_comm->CP,mul_le_mul_left->z,mul_le_mul_right->A8,mul_succ->OH,one_mul->ES,pow_add->C_,pow_le_pow_right->Bm,pow_succ->F8,sub_add_cancel->KO
open Or renaming inr->T1
def Kb(K:Nat)(r:List Int):Prop:=∀ i,AY K (r.getD i 0)
theorem Kb.mono{J K:Nat}{r:List Int}(h:Kb J r)(hk:J<=K):Kb K r:=fun i=>(h i).mono hk
theorem Kb.mem{K:Nat}{r:List Int}(h:Kb K r):∀ x∈r,AY K x:=fun x hx=>by
 obtain⟨i,hi,rfl⟩:=Hf.1 hx;have:=h i;rwa [Z,Ae hi] at this
theorem HU{K:Nat}{r:List Int}(h:∀ x∈r,AY K x):Kb K r:=Vq h
theorem Kb.prim{K:Nat}{r:List Int}(h:Kb K r):Kb K (prim r):=mB h
theorem Kb.trim{K:Nat}{r:List Int}(h:Kb K r):Kb K (Y r):=fun i=>by rw [CX];exact h i
def w(r:List Int):Int:=r.getD (r.length-1) 0
def C5(r d:List Int)(a b:Int)(n:Nat):List Int:=(Ao n).map fun i=>if r.length-d.length<=i then a*r.getD i 0-b*d.getD (i-(r.length-d.length)) 0 else a*r.getD i 0
theorem D'(r d:List Int)(a b:Int)(n:Nat):(C5 r d a b n).length=n:=by simp [C5]
theorem GC(f:Nat->Int)(n i:Nat):((Ao n).map f).getD i 0=if i<n then f i else 0:=by
 rw[Z,CA];by_cases h:i<n
 ·rw[List.getElem?_range h,if_pos h];rfl
 ·rw[AC (by simpa using h),if_neg h];rfl
theorem Gg(r d:List Int)(a b:Int)(n i:Nat):(C5 r d a b n).getD i 0=if i<n then (if r.length-d.length<=i then a*r.getD i 0-b*d.getD (i-(r.length-d.length)) 0 else a*r.getD i 0) else 0:=GC _ _ _
theorem QJ{J K:Nat}{r d:List Int}{a b:Int}(hr:Kb J r)(hd:Kb K d)(ha:AY K a)(hb:AY J b)(n:Nat):Kb (J+K+1) (C5 r d a b n):=by
 intro i;rw[Gg];have h1:=(AY.mul ha (hr i));have h2:=(AY.mul hb (hd (i-(r.length-d.length))));rw[H'] at h1;split
 ·split
  ·exact h1.add h2.neg
  ·exact h1.mono (by omega)
 ·exact G6 _
theorem V9{r d:List Int}{a b:Int}(hd:d ≠ [])(hl:d.length<=r.length)(h:a*w r=b*w d)(i:Nat):(C5 r d a b r.length).getD i 0=(C5 r d a b (r.length-1)).getD i 0:=by
 have:=An.2 hd;rw[Gg,Gg];by_cases h1:i<r.length-1
 ·rw[if_pos h1,if_pos (by omega)]
 ·rw[if_neg h1];split
  ·have:i=r.length-1:=by omega
   subst this;rw[if_pos (by omega),show r.length-1-(r.length-d.length)=d.length-1 by omega];unfold w at h;omega
  ·rfl
theorem dL(r d:List Int)(k a b:Int)(n i:Nat):(C5 r d (k*a) (k*b) n).getD i 0=k*(C5 r d a b n).getD i 0:=by
 rw[Gg,Gg];split
 ·split
  ·rw[HG,AB,AB]
  ·rw[AB]
 ·simp
theorem dM(r d:List Int)(c a b:Int)(n:Nat):C5 r (Ax c d) a b n=C5 r d a (b*c) n:=by
 apply JF (by rw[D',D']);intro i;rw[Gg,Gg,AO,show (Ax c d).length=d.length by simp[Ax]];rw[AB]
def sg(n:Int):Int:=if n<0 then -1 else 1
theorem Aza(n:Int):sg n*n=(n.natAbs:Int):=by unfold sg;split <;> omega
def D2(r d:List Int):List Int:=prim (C5 r d ((w d).natAbs:Int) (sg (w d)*w r) r.length)
def DT:Nat->List Int->List Int->List Int
 | 0,r,_=>r
 | f+1,r,d=>if d.length<=r.length then DT f (D2 r d) d else r
theorem WG(r d:List Int):((w d).natAbs:Int)*w r=sg (w d)*w r*w d:=by
 rw[<- Aza];grind
theorem VA{r d:List Int}(hd:d ≠ [])(hl:d.length<=r.length):D2 r d=prim (C5 r d ((w d).natAbs:Int) (sg (w d)*w r) (r.length-1)) :=
 LC (V9 hd hl (WG r d))
theorem ID{r d:List Int}(hd:d ≠ [])(hl:d.length<=r.length):(D2 r d).length<r.length:=by
 have:=An.2 hd;rw[VA hd hl,BS];have:=Bn (C5 r d ((w d).natAbs:Int) (sg (w d)*w r) (r.length-1));rw[D'] at this;omega
theorem mC(c:Int)(d:List Int):w (Ax c d)=c*w d:=by
 unfold w;rw[AO,show (Ax c d).length=d.length by simp[Ax]]
theorem dN{c:Int}(hc:0<c)(n:Int):sg (c*n)=sg n:=by
 unfold sg;have:c*n<0↔n<0:=by
  constructor
  ·intro h;apply H7.1;intro hn;have:=A1 (show 0<=c by omega) hn;omega
  ·intro h;exact LD hc h
 simp only[this]
theorem S_{r d:List Int}{c g a b:Int}(hc:0<c)(hg:0<g)(ha:g*a=((w d).natAbs:Int))(hb:g*b=sg (w d)*w r):D2 r (Ax c d)=prim (C5 r d a b r.length):=by
 unfold D2;rw[dM,mC,dN hc,BA];apply Zh (k:=c*g) (BE hc hg);intro i;rw[<- dL];congr 2
 ·rw[AB,ha,Dj,Ky (by omega)]
 ·rw[AB c g b,hb];grind
theorem Zi{c:Int}(hc:0<c)(r d:List Int):D2 r (Ax c d)=D2 r d:=by
 rw[S_ (g:=1) (a:=((w d).natAbs:Int)) (b:=sg (w d)*w r) hc (by decide) (by omega) (by omega)];rfl
theorem Zj{c:Int}(hc:0<c)(d:List Int):∀ (f:Nat) (r:List Int),DT f r (Ax c d)=DT f r d:=by
 intro f;induction f with
 | zero=>intro r;rfl
 | succ f ih =>
  intro r;simp only[DT];rw[show (Ax c d).length=d.length by simp[Ax],Zi hc,ih]
theorem Ta(r d:List Int):BU (D2 r d):=Ce _
theorem Et{K:Nat}{d:List Int}(h:Kb K d):AY K (w d):=h _
theorem O4{K:Nat}{n:Int}(h:AY K n):AY K (n.natAbs:Int):=by unfold AY at *;rwa [B9]
theorem Aqz{K:Nat}{m n:Int}(h:AY K n):AY K (sg m*n):=by
 unfold AY sg at *;split <;> simpa using h
theorem R_{J K:Nat}{r d:List Int}(hr:Kb J r)(hd:Kb K d):Kb (J+K+1) (D2 r d) :=
 (QJ hr hd (O4 (Et hd)) (Aqz (Et hr)) _).prim
theorem Sa{d:List Int}(hd:d ≠ []){K:Nat}(hK:Kb K d):∀ (f:Nat) (r:List Int) (J:Nat),r.length<=f->BU r->Kb J r ->
  BU (DT f r d)/\(DT f r d).length<d.length/\Kb (J+(r.length+1-d.length)*(K+1)) (DT f r d):=by
 have hd1:=An.2 hd;intro f;induction f with
 | zero =>
  intro r J h1 h2 h3;exact⟨h2,by simp only[DT];omega,h3.mono (OI _ _)⟩
 | succ f ih =>
  intro r J h1 h2 h3;simp only[DT];split
  ·rename_i hl;have hp:=ID hd hl;obtain⟨a1,a2,a3⟩:=ih (D2 r d) (J+K+1) (by omega) (Ta r d) (R_ h3 hK);refine⟨a1,a2,a3.mono ?_⟩;have e:((D2 r d).length+1-d.length)+1<=r.length+1-d.length:=by omega
   have:=A8 (K+1) e;rw[DK,ES] at this;omega
  ·exact⟨h2,by omega,h3.mono (OI _ _)⟩
def Bz(x y:List Int):List Int:=DT x.length x y
def Hz:Nat->List Int->List Int->List Int
 | 0,x,_=>x
 | f+1,x,y=>if y=[] then x else Hz f y (Bz x y)
def v(x:List Int):List Int:=if w x<0 then BV x else x
theorem HB(d:List Int):∀ (f:Nat) (r:List Int),prim r=r->prim (DT f r d)=DT f r d:=by
 intro f;induction f with
 | zero=>intro r h;exact h
 | succ f ih =>
  intro r h;simp only[DT];split
  ·exact ih _ (BI _)
  ·exact h
theorem Cl{r:List Int}(h:prim r=r):BU r:=h ▸ Ce r
theorem mD{m l:Nat}(h:l<m):(m-l+2)*3^l<=3^m:=by
 obtain⟨k,rfl⟩:∃ k,m=l+1+k:=⟨m-l-1,by omega⟩;rw[show l+1+k-l+2=k+3 by omega,show l+1+k=(k+1)+l by omega,C_];apply A8;clear h;induction k with
 | zero=>decide
 | succ k ih=>rw[F8];omega
def Iz(n m:Nat):Nat:=(n-m+2)*3^m
theorem JH{x y:List Int}{M:Nat}(hM:0<M)(hx:BU x)(hy:y ≠ [])(kx:Kb (M-1) x)(ky:Kb (M-1) y)(hl:y.length<=x.length) :
  BU (Bz x y)/\(Bz x y).length<y.length/\Kb (M*(x.length-y.length+2)-1) (Bz x y):=by
 obtain⟨a,b,c⟩:=Sa hy ky x.length x (M-1) (Am _) hx kx;refine⟨a,b,c.mono ?_⟩;rw[KO hM,show x.length+1-y.length=x.length-y.length+1 by omega,CP _ M];have:M*(x.length-y.length+2)=M*(x.length-y.length+1)+M:=by rw[<- OH]
 omega
theorem JI{n m l M T:Nat}(hl:l<m)(h:M*Iz n m<=T):M*(n-m+2)*Iz m l<=T:=by
 refine Bq ?_ h;unfold Iz;rw[EA];apply z;apply z;exact mD hl
theorem NQ{n m c:Nat}(h:m<=n)(hn:n<=c):Iz n m<=2*3^c:=by
 have h1:Iz n m<=2*3^n:=by
  unfold Iz;obtain⟨k,rfl⟩:∃ k,n=m+k:=⟨n-m,by omega⟩;rw[show m+k-m+2=k+2 by omega,C_,CP (3^m),<- EA];apply A8;clear h hn;induction k with
  | zero=>decide
  | succ k ih=>rw[F8];omega
 exact Bq h1 (z _ (Bm (by decide) hn))
def As(p:List Int):List Int:=Y ((Ao (p.length-1)).map fun j=>p.getD (j+1) 0*((j+1:Nat):Int))
theorem Dx(p:List Int)(i:Nat):(As p).getD i 0=p.getD (i+1) 0*((i+1:Nat):Int):=by
 unfold As;rw[CX,GC];split
 ·rfl
 ·rw[Bv (xs:=p) (by omega),DF]
theorem VB{a b:Int}{us bs cs:List Int}(h:∀ i,cs.getD i 0=a*us.getD i 0+b*bs.getD i 0)(x:Int):V cs x=a*V us x+b*V bs x:=by
 have e:V cs x=V (DQ (Ax a us) (Ax b bs)) x:=Gd (fun i=>by rw[h,CY,AO,AO]) x;rw[e,BW,A0,A0]
def Di(k:Nat)(q:List Int):List Int:=Aq k 0++q
theorem Cu(k:Nat)(q:List Int)(i:Nat):(Di k q).getD i 0=if k<=i then q.getD (i-k) 0 else 0:=by
 simp only[Di,Z,List.getElem?_append,EW];split
 ·rename_i h;rw[if_neg (by omega),Adb h];rfl
 ·rename_i h;rw[if_pos (by omega)]
theorem DJ(k:Nat)(q:List Int)(x:Int):V (Di k q) x=x^k*V q x:=by
 induction k with
 | zero=>simp[Di]
 | succ k ih =>
  have:Di (k+1) q=0::Di k q:=by simp[Di,FU]
  rw[this];simp only[V];rw[ih,Ay];grind
theorem PI{r d:List Int}(hl:d.length<=r.length)(a b x:Int):V (C5 r d a b r.length) x=a*V r x-b*(x^(r.length-d.length)*V d x):=by
 rw[<- DJ];have:=VB (a:=a) (b := -b) (us:=r) (bs:=Di (r.length-d.length) d) (cs:=C5 r d a b r.length) (fun i=>by
  rw[Gg,Cu];by_cases h:i<r.length
  ·rw[if_pos h];split
   ·rw[Qf];omega
   ·simp
  ·rw[if_neg h,Bv (show r.length<=i by omega)];have:d.getD (i-(r.length-d.length)) 0=0:=Bv (by omega);split
   ·rw[this];simp
   ·simp) x
 rw[this,Qf];omega
theorem EE(a:Int)(p q:List Int)(i:Nat):(BL (a::p) q).getD i 0=a*q.getD i 0+(Di 1 (BL p q)).getD i 0:=by
 simp only[BL];rw[CY,AO];rfl
theorem O5:∀ (p q:List Int),p ≠ []->q ≠ []->(BL p q).getD (p.length+q.length-2) 0=w p*w q/\∀ i,p.length+q.length-1<=i->(BL p q).getD i 0=0
 | [],q,h,_=>absurd rfl h
 | [a],q,_,hq=>by
  have hq1:=An.2 hq;refine⟨?_,fun i hi => ?_⟩
  ·rw[EE,Cu,show [a].length+q.length-2=q.length-1 by simp;omega];simp[BL,w]
  ·rw[EE,Cu,Bv (show q.length<=i by simp at hi;omega)];simp[BL]
 | a::b::p,q,_,hq=>by
  have hq1:=An.2 hq;obtain⟨h1,h2⟩:=O5 (b::p) q (by simp) hq;refine⟨?_,fun i hi => ?_⟩
  ·rw[EE,Cu,if_pos (by simp;omega)];simp only[Bo] at *
   rw[Bv (show q.length<=p.length+1+1+q.length-2 by omega),show p.length+1+1+q.length-2-1=p.length+1+q.length-2 by omega,h1];simp[w]
  ·rw[EE,Cu];simp only[Bo] at *
   rw[Bv (show q.length<=i by omega)];split
   ·rw[h2 _ (by omega)];simp
   ·simp
theorem Eb{p:List Int}(h:Y p=[])(x:Int):V p x=0:=by rw [<- E1,h];rfl
theorem QK{p q S r1 o2 r2:List Int}{c1 c2:Int}(hq:BU q)(hq0:q ≠ [])(h1:∀ x,c1*V p x=V q x*V S x+V r1 x)(h2:∀ x,c2*V p x=V q x*V o2 x+V r2 x)
  (z1:∀ i,q.length-1<=i->r1.getD i 0=0) (z2:∀ i,q.length-1<=i->r2.getD i 0=0) (i:Nat):c2*S.getD i 0=c1*o2.getD i 0:=by
 have hql:=An.2 hq0;have hD:Y (L9 (Ax c2 S) (Ax c1 o2))=[]:=by
  apply AE;intro hD;have hev:∀ x,V (BL q (Y (L9 (Ax c2 S) (Ax c1 o2)))) x=V (L9 (Ax c1 r2) (Ax c2 r1)) x:=by
   intro x;rw[Bk,E1,Fu,Fu,A0,A0,A0,A0];have a:=h1 x;have b:=h2 x;grind
  generalize hDD:Y (L9 (Ax c2 S) (Ax c1 o2))=D at *
  have hDl:BU D:=hDD ▸ Hy _;have hD1:=An.2 hD;have h3:=(O5 q D hq0 hD).1;rw[D7 hev,PB,AO,AO,z1 _ (by omega),z2 _ (by omega)] at h3;have t1:=E8 hq hq0;have t2:=E8 hDl hD;rw[AG,AG,EI] at h3;exact BK t1 t2 h3.symm
 have:=CW.1 hD i;rw[PB,AO,AO] at this;omega
theorem QL{S o2:List Int}{c1 c2:Int}(hc1:0<c1)(hc2:0<c2)(h:∀ i,c2*S.getD i 0=c1*o2.getD i 0):prim S=prim o2:=by
 rw[<- NO hc2 S,<- NO hc1 o2];exact LC fun i=>by rw[AO,AO];exact h i
def GD(r q:List Int)(l:Int)(k:Nat):List Int:=(Ao r.length).map fun i=>if k<=i then r.getD i 0-l*q.getD (i-k) 0 else r.getD i 0
theorem KP(r q:List Int)(l:Int)(k i:Nat)(hk:k+q.length<=r.length):(GD r q l k).getD i 0=r.getD i 0-l*(Di k q).getD i 0:=by
 rw[GD,GC,Cu];split
 ·split <;> simp
 ·rw[Bv (show r.length<=i by omega),Bv (xs:=q) (show q.length<=i-k by omega)];simp
theorem Gs(r q:List Int)(l:Int)(k:Nat):(GD r q l k).length=r.length:=by simp [GD]
def GE(q:List Int):Nat->List Int->List Int->List Int
 | 0,_,out=>out
 | k+1,r,out=>GE q k (GD (Ax (w q) r) q (r.getD (k+q.length-1) 0) k) ((Ax (w q) out).set k (r.getD (k+q.length-1) 0))
theorem AT(a:Int)(q:List Int):(Ax a q).length=q.length:=by simp [Ax]
theorem Ara{p q:List Int}(hq0:q ≠ [])(ht:0<w q):∀ (k:Nat) (r out:List Int) (c:Int),0<c->k<=out.length->out.length+q.length=r.length+1->(∀ i,k+q.length-1<=i->r.getD i 0=0)->(∀ i,i<k->out.getD i 0=0) ->
  (∀ x,c*V p x=V q x*V out x+V r x) ->
  ∃ c' r',0<c'/\(∀ i,q.length-1<=i->r'.getD i 0=0)/\(GE q k r out).length=out.length/\∀ x,c'*V p x=V q x*V (GE q k r out) x+V r' x:=by
 have hql:=An.2 hq0;intro k;induction k with
 | zero =>
  intro r out c hc _ _ hz _ he;exact⟨c,r,hc,fun i hi=>hz i (by omega),rfl,he⟩
 | succ k ih =>
  intro r out c hc hk hl hz hz2 he;simp only[GE];generalize hlead:r.getD (k+q.length-1) 0=l at *
  have hkr:k+q.length<=(Ax (w q) r).length:=by rw[AT];omega
  obtain⟨c',r',a1,a2,a3,a4⟩:=ih (GD (Ax (w q) r) q l k) ((Ax (w q) out).set k l) (w q*c) (BE ht hc) (by rw[AS,AT];omega) (by rw[AS,AT,Gs,AT];exact hl)
   (fun i hi=>by
    rw[KP _ _ _ _ _ hkr,AO,Cu];by_cases h1:i=k+q.length-1
    ·subst h1;rw[hlead,if_pos (by omega),show k+q.length-1-k=q.length-1 by omega];unfold w;grind
    ·rw[hz i (by omega),Bv (xs:=q) (show q.length<=i-k by omega)];simp)
   (fun i hi=>by rw[Cm (by omega),AO,hz2 i (by omega),AG])
   (fun x=>by
    rw[Vr _ _ _ _ (by rw[AT];omega),AO,hz2 k (by omega),A0];have e:=VB (a:=1) (b := -l) (us:=Ax (w q) r) (bs:=Di k q) (cs:=GD (Ax (w q) r) q l k) (fun i=>by rw[KP _ _ _ _ _ hkr,Qf];omega) x;rw[e,A0,DJ];have:=he x;grind)
  exact⟨c',r',a1,a2,by rw[a3,AS,AT],a4⟩
theorem Tb{p q:List Int}(hq0:q ≠ [])(ht:0<w q)(hl:q.length<=p.length):∃ c' r',0<c'/\(∀ i,q.length-1<=i->r'.getD i 0=0)/\(GE q (p.length-q.length+1) p (Aq (p.length-q.length+1) 0)).length=p.length-q.length+1 /\
  ∀ x,c'*V p x=V q x*V (GE q (p.length-q.length+1) p (Aq (p.length-q.length+1) 0)) x+V r' x:=by
 have hql:=An.2 hq0;have h:=Ara (p:=p) hq0 ht (p.length-q.length+1) p (Aq (p.length-q.length+1) 0) 1 (by decide) (by simp) (by simp;omega) (fun i hi=>Bv (by omega)) (fun i _=>Dw _ _) (fun x=>by rw[QD];omega);rw[EW] at h;exact h
def Kh(d:List Int):Nat->List Int->List Int->List Int
 | 0,_,out=>out
 | f+1,r,out=>if d.length<=r.length then Kh d f (Y (C5 r d (w d) (w r) (r.length-1))) ((Ax (w d) out).set (r.length-d.length) (w r)) else out
theorem LF{r d:List Int}(hd0:d ≠ [])(hl:d.length<=r.length):(Y (C5 r d (w d) (w r) (r.length-1))).length<r.length:=by
 have:=An.2 hd0;have:=Bn (C5 r d (w d) (w r) (r.length-1));rw[D'] at this;omega
theorem Arb{p d:List Int}(hd0:d ≠ [])(ht:0<w d):∀ (f:Nat) (r out:List Int) (c:Int),r.length<=f->0<c->r.length+1<=out.length+d.length->(∀ i,i+d.length<=r.length->out.getD i 0=0) ->
  (∀ x,c*V p x=V d x*V out x+V r x) ->
  ∃ c' r',0<c'/\(∀ i,d.length-1<=i->r'.getD i 0=0)/\(Kh d f r out).length=out.length/\∀ x,c'*V p x=V d x*V (Kh d f r out) x+V r' x:=by
 have hdl:=An.2 hd0;intro f;induction f with
 | zero =>
  intro r out c hf hc _ _ he;exact⟨c,r,hc,fun i hi=>Bv (by omega),rfl,he⟩
 | succ f ih =>
  intro r out c hf hc hl hz he;simp only[Kh];split
  ·rename_i hg;have hlen:=LF hd0 hg;obtain⟨c',r',a1,a2,a3,a4⟩:=ih (Y (C5 r d (w d) (w r) (r.length-1))) ((Ax (w d) out).set (r.length-d.length) (w r)) (w d*c) (by omega) (BE ht hc) (by rw[AS,AT];omega)
    (fun i hi=>by rw[Cm (by omega),AO,hz i (by omega),AG])
    (fun x=>by
     rw[Vr _ _ _ _ (by rw[AT];omega),AO,hz _ (by omega),A0,E1];have e1:V (C5 r d (w d) (w r) (r.length-1)) x=V (C5 r d (w d) (w r) r.length) x:=Gd (fun i=>(V9 hd0 hg (AD _ _) i).symm) x;rw[e1,PI hg];have:=he x;grind)
   exact⟨c',r',a1,a2,by rw[a3,AS,AT],a4⟩
  ·rename_i hg;exact⟨c,r,hc,fun i hi=>Bv (by omega),rfl,he⟩
theorem NR{p d:List Int}(hd0:d ≠ [])(ht:0<w d)(hl:d.length<=p.length):∃ c' r',0<c'/\(∀ i,d.length-1<=i->r'.getD i 0=0)/\(Kh d p.length p (Aq (p.length-d.length+1) 0)).length=p.length-d.length+1 /\
  ∀ x,c'*V p x=V d x*V (Kh d p.length p (Aq (p.length-d.length+1) 0)) x+V r' x:=by
 have h:=Arb (p:=p) hd0 ht p.length p (Aq (p.length-d.length+1) 0) 1 (Am _) (by decide) (by simp;omega) (fun i _=>Dw _ _) (fun x=>by rw[QD];omega);rw[EW] at h;exact h
theorem Arc{p q:List Int}(hq:BU q)(hq0:q ≠ [])(ht:0<w q)(hl:q.length<=p.length):prim (GE q (p.length-q.length+1) p (Aq (p.length-q.length+1) 0))=prim (Kh q p.length p (Aq (p.length-q.length+1) 0)):=by
 obtain⟨c1,r1,a1,a2,_,a4⟩:=Tb hq0 ht hl;obtain⟨c2,r2,b1,b2,_,b4⟩:=NR hq0 ht hl;exact QL a1 b1 (QK hq hq0 a4 b4 a2 b2)
theorem XL{p q o r:List Int}{c:Int}(hc:0<c)(hp:0<w p)(hq0:q ≠ [])(ht:0<w q)(hl:q.length<=p.length)(ho:o.length=p.length-q.length+1)(h:∀ x,c*V p x=V q x*V o x+V r x)(z:∀ i,q.length-1<=i->r.getD i 0=0):0<w o:=by
 have hql:=An.2 hq0;have ho0:o ≠ []:=by intro h0;rw[h0] at ho;simp at ho
 have h3:=(O5 q o hq0 ho0).1;have hev:∀ x,V (Ax c p) x=V (DQ (BL q o) r) x:=fun x=>by rw[A0,BW,Bk];exact h x
 have h4:=D7 hev (p.length-1);rw[AO,CY,z _ (by omega),show p.length-1=q.length+o.length-2 by omega,h3,B2] at h4;have h5:0<w q*w o:=by
  rw[<- h4,show q.length+o.length-2=p.length-1 by omega];exact BE hc hp
 exact Zk h5 ht |> fun h=>h
theorem OZ{o:List Int}(h:0<w o):0<w (prim o):=by
 have hl:BU o:=NP (T1 (by unfold w at h;omega));unfold w;rw[BS,hl,Iy];have hc:0<AL o:=Ix (by rw[hl];intro h0;rw[h0] at h;simp[w] at h);have hd:=O3 o (o.length-1);rw[Iy] at hd;unfold w at h;rw[<- hd] at h;exact Zk h (by omega)
end Go.Ai
namespace Go.Proofs.YtajompaehjkgkaaGreat
open Go.Ai
set_option maxRecDepth 100000
open Classical renaming byContradiction->AE
open Decidable renaming decide->B
open Go.IntKind renaming i64->R,wrap->D
open Int renaming ediv_nonneg->IV,emod_nonneg->EK,gcd->CV,mul_comm->AD,mul_ediv_add_emod->Gj,mul_ediv_cancel_left->BN,mul_nonneg->A1,natAbs_natCast->B9,neg_tdiv->Adc,neg_tmod->Adf,ofNat_dvd_left->Gk,tdiv->o,tdiv_eq_ediv_of_nonneg->B0,tdiv_neg->Ade,tmod->f,tmod_eq_emod_of_nonneg->Bc,tmod_neg->Adg,toNat->A,toNat_natCast->F,zero_ediv->Auu,zero_mul->DF
open List renaming append_nil->OJ,cons_append->H5,drop_eq_getElem_cons->CU,drop_length->Jo,drop_zero->EP,eq_nil_of_length_eq_zero->A3,ext_getElem?->FS,getD_eq_getElem?_getD->Z,getElem?_append_left->AJ,getElem?_append_right->AN,getElem?_drop->AX,getElem?_eq_getElem->Ae,getElem?_map->CA,getElem?_set_ne->FA,getElem?_set_self->Ww,getElem?_take_of_lt->Bw,length_append->AU,length_drop->Ed,length_map->N,length_range->BY,length_take->A7,map_append->DR,mem_map->Ea,mem_of_mem_drop->EJ,mem_of_mem_take->Cg,mem_range->W8,range->Ao,range_succ->FX,take_of_length_le->Ef,take_succ_eq_append_getElem->pI
open Nat renaming eq_zero_or_pos->F6,gcd->HT,gcd_comm->IX,gcd_rec->Auc,gcd_zero_right->G1,le_of_dvd->QI,le_refl->Am,log2->BZ,log2_eq_iff->Qd,mod_lt->G5,zero_le->Bf
theorem XM{n:Nat}:C9 n=1↔n=1:=by
 unfold C9;split
 ·omega
 ·rename_i h;constructor
  ·intro h1;have h2:BZ n=0:=by omega
   have:=(Qd h).1 h2;omega
  ·rintro rfl;decide
theorem dO{n:Nat}:1<C9 n↔1<n:=by
 have h1:=XM (n:=n);have h0:C9 n=0↔n=0:=by unfold C9;split <;> omega
 omega
theorem Ht(n:Int):(cn n).2.length=(G n.natAbs).length:=rfl
theorem mE{rs:List Rn}{n:Nat}(h:n<rs.length):(M rs).drop n=O (rs.getD n z0)::(M rs).drop (n+1):=by
 rw[CU (by rw[s];exact h)];congr 1;rw[<- C3,Z,Ae (by rw[s];exact h)];rfl
theorem QM{K:Nat}{p:List Int}(h:∀ x∈p,AY K x):AY K ((AL p:Nat):Int):=by
 by_cases h0:Y p=[]
 ·rw[Iw.2 (CW.1 h0)];exact G6 K
 ·have hc:=Ix h0;have:∃ i,p.getD i 0 ≠ 0:=AE fun hn=>h0 (CW.2 fun i=>AE fun hi=>hn ⟨i,hi⟩);obtain⟨i,hi⟩:=this;have hd:=GN p i;have hf:=Vq h i;unfold AY at *
  rw[B9];have:=QI (by omega) (Gk.1 hd);omega
theorem mF{p:List Int}(n:Nat):AL p∣AL (p.drop n):=by
 rw[JG];intro i;have:=GN p (n+i);rw[Z] at this |-;rwa [AX]
theorem yK{K:Nat}{rs:List Rn}{z:Rn}(hg:∀ r∈rs,u K r)(hK:K<1048576)(hN:rs.length<=1048576):∀ n,n<=rs.length ->
  ∃ i',W I (.loop RK) (Lk rs (cn (AL ((M rs).drop n):Nat)) ((n:Int)-1) z) (.exit 0) (Lk rs (cn (AL (M rs):Nat)) i' z):=by
 intro n;induction n with
 | zero =>
  intro _;rw[EP];exact⟨_,Al (Aqs rs _ _ z (by simp)) (by nofun)⟩
 | succ n ih =>
  intro hn;have e0:((n+1:Nat):Int)-1=(n:Int):=by omega
  have e1:D R ((n:Int)-1)=(n:Int)-1:=AW (by omega) (by omega);have hf:AY K ((AL ((M rs).drop (n+1)):Nat):Int):=QM fun x hx=>C4 hg x (EJ hx);have hl:=hf.len;have hb:=Kc (neg:=(cn (AL ((M rs).drop (n+1)):Nat)).1) (xs:=(cn (AL ((M rs).drop (n+1)):Nat)).2) (BC _) (by rw[Ht];omega);rw[show rv (cn (AL ((M rs).drop (n+1)):Nat)).1 (cn (AL ((M rs).drop (n+1)):Nat)).2=(AL ((M rs).drop (n+1)):Nat) from At _,B9] at hb;rw[e0];by_cases h1:AL ((M rs).drop (n+1))=1
  ·have hc:AL (M rs)=1:=by
    have:=mF (p:=M rs) (n+1);rw[h1] at this;exact Nat.dvd_one.1 this
   rw[h1] at hb |-;rw[hc];exact⟨_,Al (Aqr rs _ (n:Nat) z _ (by simp) (by decide) hb) (by nofun)⟩
  ·obtain⟨g1,g2⟩:=A' hg n;have hgc:=XJ (na:=(cn (AL ((M rs).drop (n+1)):Nat)).1) (nb:=(rs.getD n z0).1) (xs:=(cn (AL ((M rs).drop (n+1)):Nat)).2) (ys:=(rs.getD n z0).2) (BC _) g1 (by rw[Ht];omega) (by omega);rw[show rv (cn (AL ((M rs).drop (n+1)):Nat)).1 (cn (AL ((M rs).drop (n+1)):Nat)).2=(AL ((M rs).drop (n+1)):Nat) from At _,show rv (rs.getD n z0).1 (rs.getD n z0).2=O (rs.getD n z0) from rfl] at hgc;have hstep:(CV ((AL ((M rs).drop (n+1)):Nat):Int) (O (rs.getD n z0)))=AL ((M rs).drop n):=by
    rw[mE (n:=n) (by omega),AL,CV,B9,IX]
   rw[hstep] at hgc;have k1:=Aqq rs (cn (AL ((M rs).drop (n+1)):Nat)) (n:Nat) z _ _ (by simp) (by
    rw[bne_iff_ne];have:=XM (n:=AL ((M rs).drop (n+1)));omega) (by omega) hb (by rw[F];exact hgc)
   rw[e1] at k1;obtain⟨i',h⟩:=ih (by omega);exact⟨i',W.loop k1 h⟩
theorem WH{K:Nat}{rs:List Rn}(hg:∀ r∈rs,u K r)(hK:K<1048576)(hN:rs.length<=1048576):H I 157 [sL pc rs] (Ab (AL (M rs):Nat)):=by
 obtain⟨i',h⟩:=yK (z:=z0) hg hK hN rs.length (Am _);rw[show (M rs).drop rs.length=[] by rw[<- s,Jo],show cn ((AL []:Nat):Int)=z0 from rfl] at h;exact Aqt rs (cn (AL (M rs):Nat)) z0 i' (by rw[AW (by omega) (by omega)];exact h)
theorem KR{x g:Int}(hg:0<g)(h:g∣x):o x g=x / g:=by
 obtain⟨y,rfl⟩:=h;rw[Int.mul_tdiv_cancel_left _ (by omega),BN _ (by omega)]
theorem Ec{K:Nat}{rs:List Rn}(hg:∀ r∈rs,u K r)(hK:K<1048576)(hN:rs.length<=1048576):H I 115 [sL pc rs] (.fresh 2 (prim (M rs)).length (pk (prim (M rs)))):=by
 have ht:=Hx (fun r h=>(hg r h).mono (show K<=1048576 by omega)) hN;have hfT:∀ x∈Y (M rs),AY K x:=FN (C4 hg);have gts:=JE hfT;have hvs:=AH (Y (M rs));have hll:=Bn (M rs);rw[s] at hll;have hpk:pk (Y (M rs))=pc ((Y (M rs)).map cn):=rfl;(first|rw[hpk,<- N (f:=cn)] at ht|(rw[hpk] at ht;unfold sL at ht;rw[<- N (f:=cn)] at ht));have hlm:((Y (M rs)).map cn).length=(Y (M rs)).length:=N ..;have hc:=WH gts hK (by omega);rw[hvs,V8] at hc;have hfc:AY K ((AL (M rs):Nat):Int):=QM (C4 hg);have hlc:=hfc.len;have hb:=Kc (neg:=(cn (AL (M rs):Nat)).1) (xs:=(cn (AL (M rs):Nat)).2) (BC _) (by rw[Ht];omega);rw[show rv (cn (AL (M rs):Nat)).1 (cn (AL (M rs):Nat)).2=(AL (M rs):Nat) from At _,B9] at hb;by_cases h1:1<AL (M rs)
 ·have hgd:∀ t,O (((Y (M rs)).map cn).getD t z0)=(Y (M rs)).getD t 0:=fun t=>by rw[<- C3,hvs]
  have key:∀ ts:List Rn,ts.length=(Y (M rs)).length->(∀ r∈ts,u K r)->(∀ t,O (ts.getD t z0)=(Y (M rs)).getD t 0) ->
    W I (.loop R1) (Ll ts.length ts (cn (AL (M rs):Nat)) (ts.length:Nat) 0) (.exit 0) (Ll ts.length ((prim (M rs)).map cn) (cn (AL (M rs):Nat)) (ts.length:Nat) (ts.length:Nat)):=by
   intro ts hl gt hv;have hlp:((prim (M rs)).map cn).length=ts.length:=by rw[N,BS,hl]
   have h:=W.up (prog:=I) (c:=R1) (ex := .exit 0) (fin:=Ll ts.length ((prim (M rs)).map cn) (cn (AL (M rs):Nat)) (ts.length:Nat) (ts.length:Nat))
    (fun i=>Ll ts.length (((prim (M rs)).map cn).take i++ts.drop i) (cn (AL (M rs):Nat)) (ts.length:Nat) (i:Nat)) ts.length (by nofun) ?_ ?_ 0 (Bf _)
   ·exact h
   ·intro i hi;have ei:D R ((i:Int)+1)=((i+1:Nat):Int):=by rw[AW (by omega) (by omega)];omega
    have hlen:(((prim (M rs)).map cn).take i++ts.drop i).length=ts.length:=by rw[AU,A7,Ed];omega
    have hget:(((prim (M rs)).map cn).take i++ts.drop i).getD i z0=ts.getD i z0:=by
     rw[Z,Z,AN (by rw[A7];omega),A7,AX];congr 2;omega
    obtain⟨g1,g2⟩:=A' gt i;have hq:=O2 (na:=(ts.getD i z0).1) (nb:=(cn (AL (M rs):Nat)).1) (xs:=(ts.getD i z0).2) (ys:=(cn (AL (M rs):Nat)).2) g1 (BC _) (by rw[show rv (cn (AL (M rs):Nat)).1 (cn (AL (M rs):Nat)).2=(AL (M rs):Nat) from At _];omega) (by omega) (by rw[Ht];omega);rw[show rv (cn (AL (M rs):Nat)).1 (cn (AL (M rs):Nat)).2=(AL (M rs):Nat) from At _,show rv (ts.getD i z0).1 (ts.getD i z0).2=O (ts.getD i z0) from rfl,hv,CX] at hq;have k:=Aqu ts.length (((prim (M rs)).map cn).take i++ts.drop i) (cn (AL (M rs):Nat)) (ts.length:Nat) (i:Nat) _ _ (by simp;omega) (by omega) hlen (by rw[F,hget];exact hq);refine k.to rfl ?_;rw[ei,F,KR (by omega) (GN (M rs) i),<- Iy];congr 1;apply FS;intro t;have hpi:((prim (M rs)).map cn)[i]?=some (cn ((prim (M rs)).getD i 0)):=by
     rw[CA,Z,Ae (by (first|rw[N] at hlp|(unfold sL at hlp;rw[N] at hlp));omega)];rfl
    rcases Nat.lt_trichotomy t i with g | g | g
    ·rw[FA (by omega),AJ (by rw[A7];omega),AJ (by rw[A7];omega),Bw g,Bw (by omega)]
    ·subst g;rw[Ww (by omega),AJ (by rw[A7];omega),Bw (by omega),hpi]
    ·rw[FA (by omega),AN (by rw[A7];omega),AN (by rw[A7];omega),A7,A7,AX,AX];congr 1;omega
   ·rw[Ef (by omega),Jo,OJ];exact Aqv ts.length _ _ (ts.length:Nat) (ts.length:Nat) (by simp)
  have hl:=key _ hlm gts hgd;have h:=lS rs ((Y (M rs)).map cn) _ _ _ _ _ _ _ (by rw[decide_eq_true_eq];have:=(dO (n:=AL (M rs))).2 h1;omega) ht (qN _) (OU _) hc hb hl;(first|rw[hlm,<- BS] at h|(unfold sL at h;rw[hlm,<- BS] at h));exact h
 ·have h:=lT rs ((Y (M rs)).map cn) _ _ (by rw[decide_eq_false_iff_not];have:=(dO (n:=AL (M rs))).1;omega) ht (qN _) (OU _) hc hb;have hp:prim (M rs)=Y (M rs):=by
   rcases F6 (AL (M rs)) with g | g
   ·rw[DX.2 (Iw.1 g),CW.2 (Iw.1 g)]
   ·exact RZ (by omega)
  rw[hp];(first|rw[hlm] at h|(unfold sL at h;rw[hlm] at h));exact h
theorem mG(rs:List Rn):O (rs.getD (rs.length-1) z0)=w (M rs):=by unfold w;rw [C3,s]
theorem VC{rs:List Rn}(hg:∀ r∈rs,u 1048576 r)(hN:rs.length<=1048576) : 
  (w (M rs)<0->H I 155 [sL pc rs] (.fresh 2 rs.length (pk (BV (M rs)))))/\(¬ w (M rs)<0->H I 155 [sL pc rs] (sL pc rs)):=by
 by_cases h0:0<rs.length
 ·have e1:D R ((rs.length:Int)-1)=((rs.length-1:Nat):Int):=by rw[AW (by omega) (by omega)];omega
  obtain⟨g1,g2⟩:=A' hg (rs.length-1);have hs:=J_ (neg:=(rs.getD (rs.length-1) z0).1) g1 g2;rw[show rv (rs.getD (rs.length-1) z0).1 (rs.getD (rs.length-1) z0).2=O (rs.getD (rs.length-1) z0) from rfl,mG] at hs;refine⟨fun h => ?_,fun h => ?_⟩
  ·have hn:=Ke hg hN;have hpk:pk (BV (M rs))=pc ((BV (M rs)).map cn):=rfl;have hll:((BV (M rs)).map cn).length=rs.length:=by rw[N,DC,s]
   rw[hpk] at hn |-;(first|rw[<- hll] at hn |-|(unfold sL at hn;rw[<- hll] at hn |-));have hn':H I 117 [sL pc rs] (.fresh 2 ((BV (M rs)).map cn).length (pc ((BV (M rs)).map cn))):=by
    have:=Ke hg hN;rw[hll];exact this
   rw[hll];have k:=lW rs ((BV (M rs)).map cn) (B8 (w (M rs))) (by simp;omega) (by unfold B8;rw[if_pos h];rfl) (by rw[e1];omega) (by rw[e1,F];exact hs) hn';(first|rw[hll] at k|(unfold sL at k;rw[hll] at k));exact k
  ·exact lX rs (B8 (w (M rs))) (by simp;omega) (by unfold B8;rw[if_neg h];split <;> rfl) (by rw[e1];omega) (by rw[e1,F];exact hs)
 ·have hz:rs=[]:=A3 (by omega);subst hz;refine⟨fun h=>absurd h (by decide),fun _=>lY [] (by decide)⟩
theorem O'{K:Nat}{rs:List Rn}(hg:∀ r∈rs,u K r)(hK:K+2<=1048576)(hN:rs.length<=1048576):H I 116 [sL pc rs] (.fresh 2 (As (M rs)).length (pk (As (M rs)))):=by
 have hd:=GB (fun r h=>(hg r h).mono (show K<=1048576 by omega)) hN;have hle:=Gn (M rs) rs.length;have hl:=W.up (prog:=I) (c:=Uz) (ex := .exit 0) (fin:=NN rs (l (M rs) rs.length-1) (pc ((Ao (l (M rs) rs.length-1)).map fun j=>cn (O (rs.getD (j+1) z0)*((j+1:Nat):Int)))) ((l (M rs) rs.length-1+1:Nat):Int))
  (fun i=>NN rs i (pc ((Ao i).map fun j=>cn (O (rs.getD (j+1) z0)*((j+1:Nat):Int)))) ((i+1:Nat):Int)) (l (M rs) rs.length-1) (by nofun) ?_ ?_ 0 (Bf _)
 ·have hfit:∀ r∈(Ao (l (M rs) rs.length-1)).map (fun j=>cn (O (rs.getD (j+1) z0)*((j+1:Nat):Int))),u 1048576 r:=by
   intro r hr;obtain⟨j,hj,rfl⟩:=Ea.1 hr;rw[W8] at hj;have h2:AY 2 ((j+1:Nat):Int):=Oy (by omega);exact (AZ ((A' hg (j+1)).fits.mul h2)).mono (by omega)
  have ht:=Hx hfit (by rw[N,BY];omega);have hlen:((Ao (l (M rs) rs.length-1)).map (fun j=>cn (O (rs.getD (j+1) z0)*((j+1:Nat):Int)))).length=l (M rs) rs.length-1:=by rw[N,BY]
  have e:Y (M ((Ao (l (M rs) rs.length-1)).map (fun j=>cn (O (rs.getD (j+1) z0)*((j+1:Nat):Int)))))=As (M rs):=by
   unfold As;apply FL;intro i;rw[IR,GC,At,C3,s];by_cases h1:i<l (M rs) rs.length-1
   ·rw[if_pos h1,if_pos (by omega)]
   ·rw[if_neg h1];split
    ·have:O (rs.getD (i+1) z0)=0:=by rw[<- C3];exact Mm (M rs) rs.length (i+1) (by omega) (by omega)
     rw[this,DF]
    ·rfl
  (first|rw[e,hlen] at ht|(rw[e] at ht;unfold sL at ht;rw[hlen] at ht));have hpk:pk (As (M rs))=pc ((As (M rs)).map cn):=rfl;(first|rw[hpk,<- N (f:=cn)] at ht |-|(rw[hpk] at ht |-;unfold sL at ht;rw[<- N (f:=cn)] at ht |-));exact Aqy rs _ _ _ _ hl ht
 ·intro i hi;have ei:D R (((i+1:Nat):Int)+1)=((i+1+1:Nat):Int):=by rw[AW (by omega) (by omega)];omega
  obtain⟨g1,g2⟩:=A' hg (i+1);have ho:=cG (n:=((i+1:Nat):Int)) (by omega);have hfi:AY 2 ((i+1:Nat):Int):=Oy (by omega);have hm:=RX (na:=(rs.getD (i+1) z0).1) (nb:=decide (((i+1:Nat):Int)<0)) (xs:=(rs.getD (i+1) z0).2) (ys:=G ((i+1:Nat):Int).natAbs) g1 (BC _) (by have:=hfi.len;omega);rw[Fr] at hm;have k:=Aqw rs i (pc ((Ao i).map fun j=>cn (O (rs.getD (j+1) z0)*((j+1:Nat):Int)))) ((i+1:Nat):Int) (((l (M rs) rs.length:Nat):Int)-1) (O (rs.getD (i+1) z0)*((i+1:Nat):Int)) (by simp;omega) (by omega) (by omega) hd ho (by rw[F];exact hm);refine k.to rfl ?_;rw[ei];congr 1;rw[FX,DR,Mp];rfl
 ·exact Aqx rs _ _ _ _ (by rw[decide_eq_false_iff_not];omega) hd
def TRB:Cp:=TRA
theorem Bh:B_ I TRB:=lZ
theorem qT{n:Int}{xs:List Int}(hu:AI xs)(h0:0<=n)(h:n<=Aa xs):(lz n).length<=xs.length :=
 P7 (by have:=D4 hu;omega)
theorem qU{n:Int}(h:0<=n):Aa (lz n)=n:=by unfold lz;rw [Cs];omega
theorem XN{na nb:Bool}{xs ys:List Int}(hx:AI xs)(hy:AI ys)(h0:rv nb ys ≠ 0)(h1:xs.length<1000000)(h2:ys.length<1000000) :
  H I 138 [.agg [.bool na,sL lm xs],.agg [.bool nb,sL lm ys]] (.tup [Ab (o (rv na xs) (rv nb ys)),Ab (f (rv na xs) (rv nb ys))]):=by
 have cx:=Fp hx;have cy:=Fp hy;have t1:=Bn xs;have t2:=Bn ys;have hX:=AK hx;have hY:0<Aa ys:=by
  have:=AK hy;rcases Int.lt_or_le 0 (Aa ys) with h | h
  ·exact h
  ·have hz:Aa ys=0:=by omega
   exact absurd (by unfold rv;rw[hz];cases nb <;> rfl) h0
 have hy0:Y ys ≠ []:=by
  intro e;have:=DS ys;rw[e] at this;simp only[Aa] at this;omega
 have hd:=cV cx cy hy0 (by omega) (by omega);rw[DS,DS] at hd;have hq0:0<=Aa xs / Aa ys:=IV hX (by omega);have hq1:Aa xs / Aa ys<=Aa xs:=Int.ediv_le_self _ hX;have hr0:=EK (Aa xs) (show Aa ys ≠ 0 by omega);have hr1:Aa xs % Aa ys<=Aa xs:=by
  have:=Gj (Aa xs) (Aa ys);have:=A1 (show 0<=Aa ys by omega) hq0;omega
 have l1:=qT hx hq0 hq1;have l2:=qT hx hr0 hr1;have m1:=FO (neg := !(na==nb)) (xs:=lz (Aa xs / Aa ys)) (BC _) (by omega);have m2:=FO (neg:=na) (xs:=lz (Aa xs % Aa ys)) (BC _) (by omega);have e1:rv (!(na==nb)) (lz (Aa xs / Aa ys))=o (rv na xs) (rv nb ys):=by
  unfold rv;rw[qU hq0,<- B0 hX];cases na <;> cases nb <;> simp[Adc,Ade]
 have e2:rv na (lz (Aa xs % Aa ys))=f (rv na xs) (rv nb ys):=by
  unfold rv;rw[qU hr0,<- Bc hX];cases na <;> cases nb <;> simp[Adf,Adg]
 rw[e1] at m1;rw[e2] at m2;exact Apu na nb xs ys _ _ _ _ (DI (by omega)) (DI (by omega)) hd m1 m2
theorem Zl(n:Int):AI (cn n).2:=BC _
theorem M1(n:Int):rv (cn n).1 (cn n).2=n:=At n
theorem yL:∀ (n X Y:Nat),Y<=n->(G X).length<1000000->(G Y).length<1000000->W I (.loop Qx) (KK (cn (X:Nat)) (cn (Y:Nat))) (.exit 0) (KK (cn (HT X Y:Nat)) (cn 0)):=by
 intro n;induction n with
 | zero =>
  intro X Y hY _ _;have:Y=0:=by omega
  subst this;rw[G1];exact Al (XI (cn (X:Nat)) (cn 0) (by decide) (Ge (neg:=(cn 0).1) (xs:=(cn 0).2) (Zl _) (by decide))) (by nofun)
 | succ n ih =>
  intro X Y hY h1 h2;by_cases h0:Y=0
  ·subst h0;rw[G1];exact Al (XI (cn (X:Nat)) (cn 0) (by decide) (Ge (neg:=(cn 0).1) (xs:=(cn 0).2) (Zl _) (by decide))) (by nofun)
  ·have hs:=Ge (neg:=(cn (Y:Nat)).1) (xs:=(cn (Y:Nat)).2) (BC _) (by rw[Ht,B9];omega);have hd:=XN (na:=(cn (X:Nat)).1) (nb:=(cn (Y:Nat)).1) (xs:=(cn (X:Nat)).2) (ys:=(cn (Y:Nat)).2) (BC _) (BC _) (by rw[M1];omega) (by rw[Ht,B9];omega) (by rw[Ht,B9];omega);rw[M1,M1] at hd;rw[M1] at hs;have em:f (X:Int) (Y:Int)=((X % Y:Nat):Int):=by rw[Bc (by omega)];omega
   rw[em] at hd;have k:=xT (cn (X:Nat)) (cn (Y:Nat)) _ _ (by rw[At,bne_iff_ne];unfold B8; (repeat' split) <;> omega) (by rw[At];exact hs) hd
   have hlt:X % Y<Y:=G5 _ (by omega);have hle:(G (X % Y)).length<=(G Y).length:=by
    apply P7;have:=D4 (Cj Y).1;rw[Cs] at this;omega
   have r:=ih Y (X % Y) (by omega) h2 (by omega);rw[IX X Y,Auc Y X,IX (X % Y) Y];exact W.loop k r
theorem Zm{na nb:Bool}{xs ys:List Int}(hx:AI xs)(hy:AI ys)(h1:xs.length<1000000)(h2:ys.length<1000000) :
  H I 164 [.agg [.bool na,sL lm xs],.agg [.bool nb,sL lm ys]] (Ab (CV (rv na xs) (rv nb ys):Nat)):=by
 have m1:=FO (neg:=false) hx (by omega);have m2:=FO (neg:=false) hy (by omega);have l1:=Es (neg:=na) hx;have l2:=Es (neg:=nb) hy;have e1:rv false xs=(((rv na xs).natAbs:Nat):Int):=by
  have:=AK hx;unfold rv;cases na <;> simp <;> omega
 have e2:rv false ys=(((rv nb ys).natAbs:Nat):Int):=by
  have:=AK hy;unfold rv;cases nb <;> simp <;> omega
 rw[e1] at m1;rw[e2] at m2;exact Apv na nb xs ys _ _ _ _ m1 m2 (yL _ (rv na xs).natAbs (rv nb ys).natAbs (Am _) (by omega) (by omega))
theorem Zn(a b:List Int):AL (a++b)=HT (AL a) (AL b):=by
 induction a with
 | nil=>simp[AL]
 | cons x a ih=>simp only[H5,AL,ih,Nat.gcd_assoc]
theorem T8{rs:List Rn}{i:Nat}(h:i<rs.length):(M rs).take (i+1)=(M rs).take i++[O (rs.getD i z0)]:=by
 rw[pI (by rw[s];exact h)];congr 2;rw[<- C3,Z,Ae (by rw[s];exact h)];rfl
theorem dP{K:Nat}{rs:List Rn}(hg:∀ r∈rs,u K r)(hK:K<1000000)(hN:rs.length<=1048576):H I 137 [sL pc rs] (Ab (AL (M rs):Nat)):=by
 have h:=W.up (prog:=I) (c:=UC) (ex := .exit 0) (fin:=NJ rs (cn (AL (M rs):Nat)) (rs.length:Nat))
  (fun i=>NJ rs (cn (AL ((M rs).take i):Nat)) (i:Nat)) rs.length (by nofun) ?_ ?_ 0 (Bf _)
 ·exact Apy rs (cn (AL (M rs):Nat)) _ h
 ·intro i hi;have ei:D R ((i:Int)+1)=((i+1:Nat):Int):=by rw[AW (by omega) (by omega)];omega
  obtain⟨g1,g2⟩:=A' hg i;have hf:AY K ((AL ((M rs).take i):Nat):Int):=QM fun x hx=>C4 hg x (Cg hx);have hl:=hf.len;have hc:=Zm (na:=(cn (AL ((M rs).take i):Nat)).1) (nb:=(rs.getD i z0).1) (xs:=(cn (AL ((M rs).take i):Nat)).2) (ys:=(rs.getD i z0).2) (BC _) g1 (by rw[Ht];omega) (by omega);rw[M1] at hc;have k:=Apw rs (cn (AL ((M rs).take i):Nat)) (i:Nat) _ (by simp;omega) (by omega) (by rw[F];exact hc);refine k.to rfl ?_;rw[ei,T8 hi,Zn];congr 2;show ((HT (((AL ((M rs).take i):Nat):Int)).natAbs (O (rs.getD i z0)).natAbs:Nat):Int)=_;rw[B9];simp[AL]
 ·rw[Ef (by rw[s];omega)];exact Apx rs _ _ (by simp)
theorem Gh(g:Nat->Int)(i:Nat):pc ((Ao i).map fun j=>cn (g j))++([.bool (B (g i<0)),.sl (G (g i).natAbs).length (lm (G (g i).natAbs))]:List AV)=pc ((Ao (i+1)).map fun j=>cn (g j)):=by
 rw[MM (fun j=>cn (g j)),<- cW];rfl
theorem mH{K:Nat}{x:Int}(h:AY K x)(c:Int):AY K (o x c):=by
 unfold AY at *
 have:(o x c).natAbs=x.natAbs / c.natAbs:=Int.natAbs_tdiv x c;have:=Nat.div_le_self x.natAbs c.natAbs;omega
theorem H0{K:Nat}{rs:List Rn}(hg:∀ r∈rs,u K r)(hK:K<1000000)(hN:rs.length<=1048576):H I 86 [sL pc rs] (.fresh 2 (prim (M rs)).length (pk (prim (M rs)))):=by
 have hi:=dP hg hK hN;have hfc:AY K ((AL (M rs):Nat):Int):=QM (C4 hg);have hlc:=hfc.len;have hs:=Ge (neg:=(cn (AL (M rs):Nat)).1) (xs:=(cn (AL (M rs):Nat)).2) (BC _) (by rw[Ht];omega);rw[M1] at hs;by_cases h0:AL (M rs)=0
 ·rw[DX.2 (Iw.1 h0)];exact xU rs _ (by rw[h0];rfl) hi hs
 ·have h:=W.up (prog:=I) (c:=bE) (ex := .exit 0) (fin:=SY rs (cn (AL (M rs):Nat)) rs.length (pc ((Ao rs.length).map fun j=>cn (o (O (rs.getD j z0)) (AL (M rs):Nat)))) (rs.length:Nat))
   (fun i=>SY rs (cn (AL (M rs):Nat)) i (pc ((Ao i).map fun j=>cn (o (O (rs.getD j z0)) (AL (M rs):Nat)))) (i:Nat)) rs.length (by nofun) ?_ ?_ 0 (Bf _)
  ·have hgo:∀ r∈(Ao rs.length).map (fun j=>cn (o (O (rs.getD j z0)) (AL (M rs):Nat))),u 1048576 r:=Ms fun j _=>(AZ (mH (A' hg j).fits _)).mono (by omega);have ht:=ED hgo (by rw[N,BY];exact hN);have e:Y (M ((Ao rs.length).map (fun j=>cn (o (O (rs.getD j z0)) (AL (M rs):Nat)))))=prim (M rs):=by
    rw[<- Ce (M rs)];apply FL;intro i;rw[IR,At,Iy,<- C3];by_cases h1:i<rs.length
    ·rw[if_pos h1,KR (by omega) (GN _ _)]
    ·rw[if_neg h1,Bv (by rw[s];omega),Auu]
   (first|rw[e,N,BY] at ht|(rw[e] at ht;unfold sL at ht;rw[N,BY] at ht));have hpk:pk (prim (M rs))=pc ((prim (M rs)).map cn):=rfl;(first|rw[hpk,<- N (f:=cn)] at ht |-|(rw[hpk] at ht |-;unfold sL at ht;rw[<- N (f:=cn)] at ht |-));exact xV rs _ _ _ _ _ (by rw[beq_eq_false_iff_ne];unfold B8; (repeat' split) <;> omega) hi hs h ht
  ·intro i hi2;have ei:D R ((i:Int)+1)=((i+1:Nat):Int):=by rw[AW (by omega) (by omega)];omega
   obtain⟨g1,g2⟩:=A' hg i;have hd:=XN (na:=(rs.getD i z0).1) (nb:=(cn (AL (M rs):Nat)).1) (xs:=(rs.getD i z0).2) (ys:=(cn (AL (M rs):Nat)).2) g1 (BC _) (by rw[M1];omega) (by omega) (by rw[Ht];omega);rw[M1] at hd;have k:=Ays rs (cn (AL (M rs):Nat)) i (pc ((Ao i).map fun j=>cn (o (O (rs.getD j z0)) (AL (M rs):Nat)))) (i:Nat) _ _ (by simp;omega) (by omega) (by omega) (by rw[F];exact hd);refine k.to rfl ?_;rw[ei,<- Gh (fun j=>o (O (rs.getD j z0)) (AL (M rs):Nat)) i];rfl
  ·exact Ayt rs _ _ _ _ (by simp)
theorem XO{K:Nat}{rs:List Rn}(hg:∀ r∈rs,u K r)(hK:K+2<=1000000)(hN:rs.length<=1048576):H I 122 [sL pc rs] (.fresh 2 (As (M rs)).length (pk (As (M rs)))):=by
 have h:=W.up (prog:=I) (c:=U5) (ex := .exit 0) (fin:=NK rs (rs.length-1) (pc ((Ao (rs.length-1)).map fun j=>cn (((j+1:Nat):Int)*O (rs.getD (j+1) z0)))) ((rs.length-1+1:Nat):Int))
  (fun i=>NK rs i (pc ((Ao i).map fun j=>cn (((j+1:Nat):Int)*O (rs.getD (j+1) z0)))) ((i+1:Nat):Int)) (rs.length-1) (by nofun) ?_ ?_ 0 (Bf _)
 ·have hgo:∀ r∈(Ao (rs.length-1)).map (fun j=>cn (((j+1:Nat):Int)*O (rs.getD (j+1) z0))),u 1048576 r:=Ms fun j hj=>by
   have h2:AY 2 ((j+1:Nat):Int):=Oy (by omega);exact (AZ (h2.mul (A' hg (j+1)).fits)).mono (by omega)
  have ht:=ED hgo (by rw[N,BY];omega);have e:Y (M ((Ao (rs.length-1)).map (fun j=>cn (((j+1:Nat):Int)*O (rs.getD (j+1) z0)))))=As (M rs):=by
   unfold As;apply FL;intro i;rw[IR,GC,At,C3,s,AD]
  (first|rw[e,N,BY] at ht|(rw[e] at ht;unfold sL at ht;rw[N,BY] at ht));have hpk:pk (As (M rs))=pc ((As (M rs)).map cn):=rfl;(first|rw[hpk,<- N (f:=cn)] at ht |-|(rw[hpk] at ht |-;unfold sL at ht;rw[<- N (f:=cn)] at ht |-));exact Aqb rs _ _ _ _ h ht
 ·intro i hi;have ei:D R (((i+1:Nat):Int)+1)=((i+1+1:Nat):Int):=by rw[AW (by omega) (by omega)];omega
  obtain⟨g1,g2⟩:=A' hg (i+1);have ho:=QB (n:=((i+1:Nat):Int)) (by omega);have hfi:AY 2 ((i+1:Nat):Int):=Oy (by omega);have hm:=NA (na:=(cn ((i+1:Nat):Int)).1) (nb:=(rs.getD (i+1) z0).1) (xs:=(cn ((i+1:Nat):Int)).2) (ys:=(rs.getD (i+1) z0).2) (Zl _) g1 (by rw[Ht];have:=hfi.len;omega);rw[M1] at hm;have k:=Apz rs i (pc ((Ao i).map fun j=>cn (((j+1:Nat):Int)*O (rs.getD (j+1) z0)))) ((i+1:Nat):Int) (by simp;omega) (by omega) (by omega) ho (by rw[F];exact hm);refine k.to rfl ?_;rw[ei,<- Gh (fun j=>((j+1:Nat):Int)*O (rs.getD (j+1) z0)) i,F]
 ·exact Aqa rs _ _ _ (by rw[decide_eq_false_iff_not];omega)
theorem XP{rs:List Rn}(hg:∀ r∈rs,u 1048576 r)(hN:rs.length<=1048576):H I 153 [sL pc rs] (.fresh 2 (Y (BV (M rs))).length (pk (Y (BV (M rs))))):=by
 have h:=W.up (prog:=I) (c:=UK) (ex := .exit 0) (fin:=NL rs rs.length (pc ((Ao rs.length).map fun j=>cn (-O (rs.getD j z0)))) (rs.length:Nat))
  (fun i=>NL rs i (pc ((Ao i).map fun j=>cn (-O (rs.getD j z0)))) (i:Nat)) rs.length (by nofun) ?_ ?_ 0 (Bf _)
 ·have hgo:∀ r∈(Ao rs.length).map (fun j=>cn (-O (rs.getD j z0))),u 1048576 r:=Ms fun j _=>AZ (A' hg j).fits.neg;have ht:=ED hgo (by rw[N,BY];exact hN);have e:Y (M ((Ao rs.length).map (fun j=>cn (-O (rs.getD j z0)))))=Y (BV (M rs)):=by
   apply FL;intro i;rw[IR,At,G7,<- C3];split
   ·rfl
   ·rw[Bv (by rw[s];omega)];rfl
  (first|rw[e,N,BY] at ht|(rw[e] at ht;unfold sL at ht;rw[N,BY] at ht));have hpk:pk (Y (BV (M rs)))=pc ((Y (BV (M rs))).map cn):=rfl;(first|rw[hpk,<- N (f:=cn)] at ht |-|(rw[hpk] at ht |-;unfold sL at ht;rw[<- N (f:=cn)] at ht |-));exact Aqe rs _ _ _ _ h ht
 ·intro i hi;have ei:D R ((i:Int)+1)=((i+1:Nat):Int):=by rw[AW (by omega) (by omega)];omega
  obtain⟨g1,g2⟩:=A' hg i;have k:=Aqc rs i (pc ((Ao i).map fun j=>cn (-O (rs.getD j z0)))) (i:Nat) (by simp;omega) (by omega) (by omega) (by rw[F];exact RT g1 g2);refine k.to rfl ?_;rw[ei,<- Gh (fun j => -O (rs.getD j z0)) i,F]
 ·exact Aqd rs _ _ _ (by simp)
def Gz(qs:List Rn)(k:Nat)(rs:List Rn)(t:Rn)(a:Rn)(b:Rn)(at1:Int)(n:Int)(i:Int):Ak:=(Q 1 (.val (sL pc qs)::(Q 3 (.own 2 k (pc rs)::(.box [.bool t.1,.sl t.2.length (lm t.2)]::(Q 2 (.box [.bool a.1,.sl a.2.length (lm a.2)]::(Q 1 (.box [.bool b.1,.sl b.2.length (lm b.2)]::(Q 1 (.val (.int .i64 at1)::(Q 49 (.val (.int .i64 n)::(.val (.int .i64 i)::(Q 34 [])))))))))))))))
theorem yM(qs:List Rn)(k:Nat)(rs:List Rn)(t:Rn)(a:Rn)(b:Rn)(at1:Int)(n:Int)(i:Int)(c1:B (i<n)=true)(c2:B (i>=at1)=true)(n1:0<=i/\i<(k:Int))(n2:rs.length=k)(n3:(rs.set (A i) (cn ((O (rs.getD (A i) z0))*(O a)))).length=k)(n4:0<=(D R (i-at1))/\(D R (i-at1))<(qs.length:Int))(n5:H I 112 [Ap (rs.getD (A i) z0),Ap a] (Ab ((O (rs.getD (A i) z0))*(O a))))(n6:H I 112 [Ap b,Ap (qs.getD (A (D R (i-at1))) z0)] (Ab ((O b)*(O (qs.getD (A (D R (i-at1))) z0)))))(n7:H I 127 [Ap ((rs.set (A i) (cn ((O (rs.getD (A i) z0))*(O a)))).getD (A i) z0),Ab ((O b)*(O (qs.getD (A (D R (i-at1))) z0)))] (Ab ((O ((rs.set (A i) (cn ((O (rs.getD (A i) z0))*(O a)))).getD (A i) z0))-((O b)*(O (qs.getD (A (D R (i-at1))) z0)))))):W I K9 (Gz qs k rs t a b at1 n i) .norm (Gz qs k ((rs.set (A i) (cn ((O (rs.getD (A i) z0))*(O a)))).set (A i) (cn ((O ((rs.set (A i) (cn ((O (rs.getD (A i) z0))*(O a)))).getD (A i) z0))-((O b)*(O (qs.getD (A (D R (i-at1))) z0)))))) t a b at1 n (D R (i+1))):=(C Bh 400 [.b true,.v (Ap (rs.getD (A i) z0)),.r (Ab ((O (rs.getD (A i) z0))*(O a))),.l (pc (rs.set (A i) (cn ((O (rs.getD (A i) z0))*(O a))))),.b true,.v (Ap ((rs.set (A i) (cn ((O (rs.getD (A i) z0))*(O a)))).getD (A i) z0)),.v (Ap (qs.getD (A (D R (i-at1))) z0)),.r (Ab ((O b)*(O (qs.getD (A (D R (i-at1))) z0)))),.r (Ab ((O ((rs.set (A i) (cn ((O (rs.getD (A i) z0))*(O a)))).getD (A i) z0))-((O b)*(O (qs.getD (A (D R (i-at1))) z0))))),.l (pc ((rs.set (A i) (cn ((O (rs.getD (A i) z0))*(O a)))).set (A i) (cn ((O ((rs.set (A i) (cn ((O (rs.getD (A i) z0))*(O a)))).getD (A i) z0))-((O b)*(O (qs.getD (A (D R (i-at1))) z0)))))))] [1,5,6,9,11,13,63,64] (L c1 (L n1 (L (FM n2 n1) (L n5 (L n1 (L (Ft (r:=cn ((O (rs.getD (A i) z0))*(O a))) n2 n1) (L c2 (L n1 (L (FM n3 n1) (L n4 (L (B3 n4) (L n6 (L n7 (L n1 (L (Ft (r:=cn ((O ((rs.set (A i) (cn ((O (rs.getD (A i) z0))*(O a)))).getD (A i) z0))-((O b)*(O (qs.getD (A (D R (i-at1))) z0))))) n3 n1) a0))))))))))))))))
theorem yN(qs:List Rn)(k:Nat)(rs:List Rn)(t:Rn)(a:Rn)(b:Rn)(at1:Int)(n:Int)(i:Int)(c1:B (i<n)=true)(c2:B (i>=at1)=false)(n1:0<=i/\i<(k:Int))(n2:rs.length=k)(n3:H I 112 [Ap (rs.getD (A i) z0),Ap a] (Ab ((O (rs.getD (A i) z0))*(O a)))):W I K9 (Gz qs k rs t a b at1 n i) .norm (Gz qs k (rs.set (A i) (cn ((O (rs.getD (A i) z0))*(O a)))) t a b at1 n (D R (i+1))):=(C Bh 400 [.b true,.v (Ap (rs.getD (A i) z0)),.r (Ab ((O (rs.getD (A i) z0))*(O a))),.l (pc (rs.set (A i) (cn ((O (rs.getD (A i) z0))*(O a))))),.b false] [1,5,6,9,11,13,63,64] (L c1 (L n1 (L (FM n2 n1) (L n3 (L n1 (L (Ft (r:=cn ((O (rs.getD (A i) z0))*(O a))) n2 n1) (L c2 a0))))))))
theorem yO(qs:List Rn)(k:Nat)(rs:List Rn)(t:Rn)(a:Rn)(b:Rn)(at1:Int)(n:Int)(i:Int)(c1:B (i<n)=false):W I K9 (Gz qs k rs t a b at1 n i) (.exit 2) (Gz qs k rs t a b at1 n i):=(C Bh 400 [.b false] [1,5,6,9,11,13,63,64] (L c1 a0))
def Jk(qs:List Rn)(k:Nat)(rs:List Rn)(t:Rn):Ak:=(Q 1 (.val (sL pc qs)::(Q 3 (.own 2 k (pc rs)::(.box [.bool t.1,.sl t.2.length (lm t.2)]::(Q 92 []))))))
theorem Ard(qs:List Rn)(k:Nat)(rs:List Rn)(t:Rn)(os us:List Rn)(a b:Rn)(g ab x y ny r1 r2 s at1 n i:Int)(c1:B ((k:Int)>=(qs.length:Int))=true)(c2:B (s<0)=true)(n1:0<=(D R ((k:Int)-1))/\(D R ((k:Int)-1))<(k:Int))(n2:rs.length=k)(n3:H I 159 [Ap t,Ap (rs.getD (A (D R ((k:Int)-1))) z0)] (Ab g))(n4:H I 160 [Ap t] (Ab ab))(n5:H I 158 [Ab ab,Ab g] (.tup [Ab x,Ab r1]))(n6:H I 158 [Ap (rs.getD (A (D R ((k:Int)-1))) z0),Ab g] (.tup [Ab y,Ab r2]))(n7:H I 101 [Ap t] (.int .i64 s))(n8:H I 131 [Ab y] (Ab ny))(hl9:W I (.loop K9) (Gz qs k rs t (cn x) (cn ny) (D R ((k:Int)-(qs.length:Int))) (k:Int) 0) (.exit 2) (Gz qs k os t a b at1 n i))(n10:H I 115 [.sl k (pc os)] (.fresh 2 us.length (pc us))):W I Pv (Jk qs k rs t) .norm (Jk qs us.length us t):=(W.seq (C (t:=(Q 1 (vp qs::(Q 3 (.own 2 k (pc rs)::(bR t::(Q 18 (.dup 5::(Q 73 []))))))))) Bh 400 [.b true] [1,5,6,25] (L c1 a0)) (Ci (P (P (P (P (P (Ar (W.seq (C Bh 400 [.v (Ap (rs.getD (A (D R ((k:Int)-1))) z0)),.r (Ab g),.r (Ab ab),.r (.tup [Ab x,Ab r1]),.r (.tup [Ab y,Ab r2]),.r (.int .i64 s),.b true,.r (Ab ny)] [1,5,6,9,11,13,63,64] (L n1 (L (FM n2 n1) (L n3 (L n4 (L n5 (L n6 (L n7 (L c2 (L n8 a0)))))))))) (W.seq (W.block hl9) (C Bh 400 [.r (.fresh 2 us.length (pc us))] [1,5,6] (L n10 a0))))))))))))
theorem Are(qs:List Rn)(k:Nat)(rs:List Rn)(t:Rn)(os us:List Rn)(a b:Rn)(g ab x y r1 r2 s at1 n i:Int)(c1:B ((k:Int)>=(qs.length:Int))=true)(c2:B (s<0)=false)(n1:0<=(D R ((k:Int)-1))/\(D R ((k:Int)-1))<(k:Int))(n2:rs.length=k)(n3:H I 159 [Ap t,Ap (rs.getD (A (D R ((k:Int)-1))) z0)] (Ab g))(n4:H I 160 [Ap t] (Ab ab))(n5:H I 158 [Ab ab,Ab g] (.tup [Ab x,Ab r1]))(n6:H I 158 [Ap (rs.getD (A (D R ((k:Int)-1))) z0),Ab g] (.tup [Ab y,Ab r2]))(n7:H I 101 [Ap t] (.int .i64 s))(hl8:W I (.loop K9) (Gz qs k rs t (cn x) (cn y) (D R ((k:Int)-(qs.length:Int))) (k:Int) 0) (.exit 2) (Gz qs k os t a b at1 n i))(n9:H I 115 [.sl k (pc os)] (.fresh 2 us.length (pc us))):W I Pv (Jk qs k rs t) .norm (Jk qs us.length us t):=(W.seq (C (t:=(Q 1 (vp qs::(Q 3 (.own 2 k (pc rs)::(bR t::(Q 18 (.dup 5::(Q 73 []))))))))) Bh 400 [.b true] [1,5,6,25] (L c1 a0)) (Ci (P (P (P (P (P (Ar (W.seq (C Bh 400 [.v (Ap (rs.getD (A (D R ((k:Int)-1))) z0)),.r (Ab g),.r (Ab ab),.r (.tup [Ab x,Ab r1]),.r (.tup [Ab y,Ab r2]),.r (.int .i64 s),.b false] [1,5,6,9,11,13,63,64] (L n1 (L (FM n2 n1) (L n3 (L n4 (L n5 (L n6 (L n7 (L c2 a0))))))))) (W.seq (W.block hl8) (C Bh 400 [.r (.fresh 2 us.length (pc us))] [1,5,6] (L n9 a0))))))))))))
theorem dQ(qs:List Rn)(k:Nat)(rs:List Rn)(t:Rn)(c1:B ((k:Int)>=(qs.length:Int))=false):W I Pv (Jk qs k rs t) (.exit 0) (Jk qs k rs t):=(AQ (C Bh 400 [.b false] [1,5,6] (L c1 a0)) (by nofun))
theorem Arf(rs ss ps qs us:List Rn)(t:Rn)(k:Nat)(n1:H I 115 [sL pc rs] (.fresh 2 ps.length (pc ps)))(n2:H I 115 [sL pc ss] (.fresh 2 qs.length (pc qs)))(n3:0<=(D R ((qs.length:Int)-1))/\(D R ((qs.length:Int)-1))<(qs.length:Int))(hl4:W I (.loop Pv) (Jk qs ps.length ps (qs.getD (A (D R ((qs.length:Int)-1))) z0)) (.exit 0) (Jk qs k us t)):H I 118 [sL pc rs,sL pc ss] (.fresh 2 k (pc us)):=p (fn:=U3) (s:=(Q 4 (.own 2 k (pc us)::(Q 94 [])))) (ex := .ret) rfl rfl (P (P (W.seq (C Bh 400 [.r (.fresh 2 ps.length (pc ps)),.r (.fresh 2 qs.length (pc qs)),.v (Ap (qs.getD (A (D R ((qs.length:Int)-1))) z0))] [1,5,6] (L n1 (L n2 (L n3 (L (B3 n3) a0))))) (W.seq (W.block hl4) (C Bh 400 [] [4] a0))))) (by nofun) rfl
def Jl(as1:List Rn)(bs:List Rn):Ak:=(Q 5 (.val (sL pc as1)::(.val (sL pc bs)::(Q 13 []))))
theorem dR(as1:List Rn)(bs:List Rn)(us:List Rn)(c1:B ((bs.length:Int)>0)=true)(n1:H I 118 [sL pc as1,sL pc bs] (.fresh 2 us.length (pc us))):W I Py (Jl as1 bs) .norm (Jl bs us):=(C Bh 400 [.b true,.r (.fresh 2 us.length (pc us))] [5,6] (L c1 (L n1 a0)))
theorem dU(as1:List Rn)(bs:List Rn)(c1:B ((bs.length:Int)>0)=false):W I Py (Jl as1 bs) (.exit 0) (Jl as1 bs):=(C Bh 400 [.b false] [5,6] (L c1 a0))
theorem mI(rs ss ps qs as1 bs ts:List Rn)(n1:H I 115 [sL pc rs] (.fresh 2 ps.length (pc ps)))(n2:H I 115 [sL pc ss] (.fresh 2 qs.length (pc qs)))(hl3:W I (.loop Py) (Jl ps qs) (.exit 0) (Jl as1 bs))(n4:H I 155 [sL pc as1] (.fresh 2 ts.length (pc ts))):H I 135 [sL pc rs,sL pc ss] (.fresh 2 ts.length (pc ts)):=p (fn:=R8) (s:=(Q 4 (.own 2 ts.length (pc ts)::(Q 15 [])))) (ex := .ret) rfl rfl (P (W.seq (C Bh 400 [.r (.fresh 2 ps.length (pc ps)),.r (.fresh 2 qs.length (pc qs))] [5,6] (L n1 (L n2 a0))) (W.seq (W.block hl3) (C Bh 400 [.r (.fresh 2 ts.length (pc ts))] [4] (L n4 a0))))) (by nofun) rfl
theorem mJ(rs ss ps qs as1 bs:List Rn)(n1:H I 115 [sL pc rs] (.fresh 2 ps.length (pc ps)))(n2:H I 115 [sL pc ss] (.fresh 2 qs.length (pc qs)))(hl3:W I (.loop Py) (Jl ps qs) (.exit 0) (Jl as1 bs))(n4:H I 155 [sL pc as1] (sL pc as1)):H I 135 [sL pc rs,sL pc ss] (sL pc as1):=p (fn:=R8) (s:=(Q 4 (.val (sL pc as1)::(Q 15 [])))) (ex := .ret) rfl rfl (P (W.seq (C Bh 400 [.r (.fresh 2 ps.length (pc ps)),.r (.fresh 2 qs.length (pc qs))] [5,6] (L n1 (L n2 a0))) (W.seq (W.block hl3) (C Bh 400 [.r (sL pc as1)] [4] (L n4 a0))))) (by nofun) rfl
def IE(qs:List Rn)(k:Nat)(rs:List Rn)(t:Rn)(kq:Nat)(os:List Rn)(j:Int)(l:Rn)(n:Int)(i:Int):Ak:=(Q 1 (.val (sL pc qs)::(Q 3 (.own 2 k (pc rs)::(.box [.bool t.1,.sl t.2.length (lm t.2)]::(.own 2 kq (pc os)::(.val (.int .i64 j)::(.box [.bool l.1,.sl l.2.length (lm l.2)]::(Q 34 (.val (.int .i64 n)::(.val (.int .i64 i)::(Q 57 []))))))))))))
theorem yP(qs:List Rn)(k:Nat)(rs:List Rn)(t:Rn)(kq:Nat)(os:List Rn)(j:Int)(l:Rn)(n:Int)(i:Int)(c1:B (i<n)=true)(n1:0<=i/\i<(k:Int))(n2:rs.length=k)(n3:H I 112 [Ap (rs.getD (A i) z0),Ap t] (Ab ((O (rs.getD (A i) z0))*(O t)))):W I Oo (IE qs k rs t kq os j l n i) .norm (IE qs k (rs.set (A i) (cn ((O (rs.getD (A i) z0))*(O t)))) t kq os j l n (D R (i+1))):=(C Bh 400 [.b true,.v (Ap (rs.getD (A i) z0)),.r (Ab ((O (rs.getD (A i) z0))*(O t))),.l (pc (rs.set (A i) (cn ((O (rs.getD (A i) z0))*(O t)))))] [1,5,6,7,8,9,44,45] (L c1 (L n1 (L (FM n2 n1) (L n3 (L n1 (L (Ft (r:=cn ((O (rs.getD (A i) z0))*(O t))) n2 n1) a0)))))))
theorem yQ(qs:List Rn)(k:Nat)(rs:List Rn)(t:Rn)(kq:Nat)(os:List Rn)(j:Int)(l:Rn)(n:Int)(i:Int)(c1:B (i<n)=false):W I Oo (IE qs k rs t kq os j l n i) (.exit 2) (IE qs k rs t kq os j l n i):=(C Bh 400 [.b false] [1,5,6,7,8,9,44,45] (L c1 a0))
def IF(qs:List Rn)(k:Nat)(rs:List Rn)(t:Rn)(kq:Nat)(os:List Rn)(j:Int)(l:Rn)(n:Int)(i:Int):Ak:=(Q 1 (.val (sL pc qs)::(Q 3 (.own 2 k (pc rs)::(.box [.bool t.1,.sl t.2.length (lm t.2)]::(.own 2 kq (pc os)::(.val (.int .i64 j)::(.box [.bool l.1,.sl l.2.length (lm l.2)]::(Q 49 (.val (.int .i64 n)::(.val (.int .i64 i)::(Q 42 []))))))))))))
theorem yR(qs:List Rn)(k:Nat)(rs:List Rn)(t:Rn)(kq:Nat)(os:List Rn)(j:Int)(l:Rn)(n:Int)(i:Int)(c1:B (i<n)=true)(n1:0<=i/\i<(kq:Int))(n2:os.length=kq)(n3:H I 112 [Ap (os.getD (A i) z0),Ap t] (Ab ((O (os.getD (A i) z0))*(O t)))):W I Oq (IF qs k rs t kq os j l n i) .norm (IF qs k rs t kq (os.set (A i) (cn ((O (os.getD (A i) z0))*(O t)))) j l n (D R (i+1))):=(C Bh 400 [.b true,.v (Ap (os.getD (A i) z0)),.r (Ab ((O (os.getD (A i) z0))*(O t))),.l (pc (os.set (A i) (cn ((O (os.getD (A i) z0))*(O t)))))] [1,5,6,7,8,9,59,60] (L c1 (L n1 (L (FM n2 n1) (L n3 (L n1 (L (Ft (r:=cn ((O (os.getD (A i) z0))*(O t))) n2 n1) a0)))))))
theorem yS(qs:List Rn)(k:Nat)(rs:List Rn)(t:Rn)(kq:Nat)(os:List Rn)(j:Int)(l:Rn)(n:Int)(i:Int)(c1:B (i<n)=false):W I Oq (IF qs k rs t kq os j l n i) (.exit 4) (IF qs k rs t kq os j l n i):=(C Bh 400 [.b false] [1,5,6,7,8,9,59,60] (L c1 a0))
def IG(qs:List Rn)(k:Nat)(rs:List Rn)(t:Rn)(kq:Nat)(os:List Rn)(j:Int)(l:Rn)(n:Int)(i:Int):Ak:=(Q 1 (.val (sL pc qs)::(Q 3 (.own 2 k (pc rs)::(.box [.bool t.1,.sl t.2.length (lm t.2)]::(.own 2 kq (pc os)::(.val (.int .i64 j)::(.box [.bool l.1,.sl l.2.length (lm l.2)]::(Q 68 (.val (.int .i64 n)::(.val (.int .i64 i)::(Q 23 []))))))))))))
theorem yT(qs:List Rn)(k:Nat)(rs:List Rn)(t:Rn)(kq:Nat)(os:List Rn)(j:Int)(l:Rn)(n:Int)(i:Int)(c1:B (i<n)=true)(n1:0<=(D R (j+i))/\(D R (j+i))<(k:Int))(n2:rs.length=k)(n3:0<=i/\i<(qs.length:Int))(n4:H I 112 [Ap l,Ap (qs.getD (A i) z0)] (Ab ((O l)*(O (qs.getD (A i) z0)))))(n5:H I 127 [Ap (rs.getD (A (D R (j+i))) z0),Ab ((O l)*(O (qs.getD (A i) z0)))] (Ab ((O (rs.getD (A (D R (j+i))) z0))-((O l)*(O (qs.getD (A i) z0)))))):W I Ot (IG qs k rs t kq os j l n i) .norm (IG qs k (rs.set (A (D R (j+i))) (cn ((O (rs.getD (A (D R (j+i))) z0))-((O l)*(O (qs.getD (A i) z0)))))) t kq os j l n (D R (i+1))):=(C Bh 400 [.b true,.v (Ap (rs.getD (A (D R (j+i))) z0)),.v (Ap (qs.getD (A i) z0)),.r (Ab ((O l)*(O (qs.getD (A i) z0)))),.r (Ab ((O (rs.getD (A (D R (j+i))) z0))-((O l)*(O (qs.getD (A i) z0))))),.l (pc (rs.set (A (D R (j+i))) (cn ((O (rs.getD (A (D R (j+i))) z0))-((O l)*(O (qs.getD (A i) z0)))))))] [1,5,6,7,8,9,78,79] (L c1 (L n1 (L (FM n2 n1) (L n3 (L (B3 n3) (L n4 (L n5 (L n1 (L (Ft (r:=cn ((O (rs.getD (A (D R (j+i))) z0))-((O l)*(O (qs.getD (A i) z0))))) n2 n1) a0))))))))))
theorem yU(qs:List Rn)(k:Nat)(rs:List Rn)(t:Rn)(kq:Nat)(os:List Rn)(j:Int)(l:Rn)(n:Int)(i:Int)(c1:B (i<n)=false):W I Ot (IG qs k rs t kq os j l n i) (.exit 6) (IG qs k rs t kq os j l n i):=(C Bh 400 [.b false] [1,5,6,7,8,9,78,79] (L c1 a0))
def PJ(qs:List Rn)(k:Nat)(rs:List Rn)(t:Rn)(kq:Nat)(os:List Rn)(j:Int):Ak:=(Q 1 (.val (sL pc qs)::(Q 3 (.own 2 k (pc rs)::(.box [.bool t.1,.sl t.2.length (lm t.2)]::(.own 2 kq (pc os)::(.val (.int .i64 j)::(Q 94 []))))))))
theorem Arg(qs:List Rn)(k:Nat)(rs:List Rn)(t:Rn)(kq:Nat)(os:List Rn)(j:Int)(rs1 rs2 os1:List Rn)(m1 i1 m2 i2 m3 i3:Int)(c1:B (j>=0)=true)(n1:0<=(D R ((D R (j+(qs.length:Int)))-1))/\(D R ((D R (j+(qs.length:Int)))-1))<(k:Int))(n2:rs.length=k)(hl3:W I (.loop Oo) (IE qs k rs t kq os j (rs.getD (A (D R ((D R (j+(qs.length:Int)))-1))) z0) (k:Int) 0) (.exit 2) (IE qs k rs1 t kq os j (rs.getD (A (D R ((D R (j+(qs.length:Int)))-1))) z0) m1 i1))(hl4:W I (.loop Oq) (IF qs k rs1 t kq os j (rs.getD (A (D R ((D R (j+(qs.length:Int)))-1))) z0) (kq:Int) 0) (.exit 4) (IF qs k rs1 t kq os1 j (rs.getD (A (D R ((D R (j+(qs.length:Int)))-1))) z0) m2 i2))(n5:0<=j/\j<(kq:Int))(n6:os1.length=kq)(hl7:W I (.loop Ot) (IG qs k rs1 t kq (os1.set (A j) (rs.getD (A (D R ((D R (j+(qs.length:Int)))-1))) z0)) j (rs.getD (A (D R ((D R (j+(qs.length:Int)))-1))) z0) (qs.length:Int) 0) (.exit 6) (IG qs k rs2 t kq (os1.set (A j) (rs.getD (A (D R ((D R (j+(qs.length:Int)))-1))) z0)) j (rs.getD (A (D R ((D R (j+(qs.length:Int)))-1))) z0) m3 i3)):W I UM (PJ qs k rs t kq os j) .norm (PJ qs k rs2 t kq (os1.set (A j) (rs.getD (A (D R ((D R (j+(qs.length:Int)))-1))) z0)) (D R (j-1))):=(W.seq (C (t:=(Q 1 (vp qs::(Q 3 (.own 2 k (pc rs)::(bR t::(.own 2 kq (pc os)::(vi j::(Q 94 []))))))))) Bh 400 [.b true] [1,5,6,7,8] (L c1 a0)) (W.seq (Ci (Ar (W.seq (C Bh 400 [.v (Ap (rs.getD (A (D R ((D R (j+(qs.length:Int)))-1))) z0))] [1,5,6,7,8,9,44,45] (L n1 (L (FM n2 n1) a0))) (W.seq (W.block hl3) (W.seq (W.seq (C Bh 400 [] [1,5,6,7,8,9,59,60] a0) (W.block hl4)) (P (W.seq (C Bh 400 [.l (pc (os1.set (A j) (rs.getD (A (D R ((D R (j+(qs.length:Int)))-1))) z0)))] [1,5,6,7,8,9,78,79] (L n5 (L (Ft (r:=rs.getD (A (D R ((D R (j+(qs.length:Int)))-1))) z0) n6 n5) a0))) (W.block hl7)))))))) (C Bh 400 [] [1,5,6,7,8] a0)))
theorem Arh(qs:List Rn)(k:Nat)(rs:List Rn)(t:Rn)(kq:Nat)(os:List Rn)(j:Int)(c1:B (j>=0)=false):W I UM (PJ qs k rs t kq os j) (.exit 0) (PJ qs k rs t kq os j):=(AQ (C Bh 400 [.b false] [1,5,6,7,8] (L c1 a0)) (by nofun))
theorem Ari(rs qs ps us xs os:List Rn)(t:Rn)(k kq:Nat)(j:Int)(n1:H I 66 [sL pc rs] (.fresh 2 ps.length (pc ps)))(n2:0<=(D R ((qs.length:Int)-1))/\(D R ((qs.length:Int)-1))<(qs.length:Int))(n3:0<=(D R ((D R ((ps.length:Int)-(qs.length:Int)))+1))/\(D R ((D R ((ps.length:Int)-(qs.length:Int)))+1))<=1048576)(hl4:W I (.loop UM) ((Q 1 (.val (sL pc qs)::(Q 3 (.own 2 ps.length (pc ps)::(.box [.bool ((qs.getD (A (D R ((qs.length:Int)-1))) z0).1),.sl ((qs.getD (A (D R ((qs.length:Int)-1))) z0).2.length) (lm (qs.getD (A (D R ((qs.length:Int)-1))) z0).2)]::(.own 2 (A (D R ((D R ((ps.length:Int)-(qs.length:Int)))+1))) (Co [.bool false,.sl 0 []] (A (D R ((D R ((ps.length:Int)-(qs.length:Int)))+1))))::(.val (.int .i64 (D R ((((A (D R ((D R ((ps.length:Int)-(qs.length:Int)))+1))):Nat):Int)-1)))::(Q 94 []))))))))) (.exit 0) (PJ qs k xs t kq os j))(n5:H I 115 [.sl kq (pc os)] (.fresh 2 us.length (pc us))):H I 156 [sL pc rs,sL pc qs] (.fresh 2 us.length (pc us)):=p (fn:=UN) (s:=(Q 4 (.own 2 us.length (pc us)::(Q 98 [])))) (ex := .ret) rfl rfl (P (P (P (Ar (W.seq (C Bh 400 [.r (.fresh 2 ps.length (pc ps)),.v (Ap (qs.getD (A (D R ((qs.length:Int)-1))) z0))] [1,5,6,7,8] (L n1 (L n2 (L (B3 n2) (L n3 a0))))) (W.seq (W.block hl4) (C Bh 400 [.r (.fresh 2 us.length (pc us))] [4] (L n5 a0)))))))) (by nofun) rfl
theorem WI(rs ps xs:List Rn)(c1:B ((xs.length:Int)<2)=true)(n1:H I 115 [sL pc rs] (.fresh 2 ps.length (pc ps)))(n2:H I 155 [sL pc ps] (.fresh 2 xs.length (pc xs))):H I 114 [sL pc rs] (sL pc xs):=i (fn:=HL) Bh rfl 400 rfl [.r (.fresh 2 ps.length (pc ps)),.r (.fresh 2 xs.length (pc xs)),.b true] (L n1 (L n2 (L c1 a0)))
theorem WJ(rs ps xs ds gs:List Rn)(c1:B ((xs.length:Int)<2)=false)(c2:B ((gs.length:Int)<2)=true)(n1:H I 115 [sL pc rs] (.fresh 2 ps.length (pc ps)))(n2:H I 155 [sL pc ps] (.fresh 2 xs.length (pc xs)))(n3:H I 116 [sL pc xs] (.fresh 2 ds.length (pc ds)))(n4:H I 135 [sL pc xs,sL pc ds] (.fresh 2 gs.length (pc gs))):H I 114 [sL pc rs] (sL pc xs):=i (fn:=HL) Bh rfl 400 rfl [.r (.fresh 2 ps.length (pc ps)),.r (.fresh 2 xs.length (pc xs)),.b false,.r (.fresh 2 ds.length (pc ds)),.r (.fresh 2 gs.length (pc gs)),.b true] (L n1 (L n2 (L c1 (L n3 (L n4 (L c2 a0))))))
theorem WK(rs ps xs ds gs us:List Rn)(c1:B ((xs.length:Int)<2)=false)(c2:B ((gs.length:Int)<2)=false)(n1:H I 115 [sL pc rs] (.fresh 2 ps.length (pc ps)))(n2:H I 155 [sL pc ps] (.fresh 2 xs.length (pc xs)))(n3:H I 116 [sL pc xs] (.fresh 2 ds.length (pc ds)))(n4:H I 135 [sL pc xs,sL pc ds] (.fresh 2 gs.length (pc gs)))(n5:H I 156 [sL pc xs,sL pc gs] (.fresh 2 us.length (pc us))):H I 114 [sL pc rs] (.fresh 2 us.length (pc us)):=i (fn:=HL) Bh rfl 400 rfl [.r (.fresh 2 ps.length (pc ps)),.r (.fresh 2 xs.length (pc xs)),.b false,.r (.fresh 2 ds.length (pc ds)),.r (.fresh 2 gs.length (pc gs)),.b false,.r (.fresh 2 us.length (pc us))] (L n1 (L n2 (L c1 (L n3 (L n4 (L c2 (L n5 a0)))))))
theorem WL(rs ps xs ds gs:List Rn)(c1:B ((xs.length:Int)<2)=false)(c2:B ((gs.length:Int)<2)=true)(n1:H I 115 [sL pc rs] (.fresh 2 ps.length (pc ps)))(n2:H I 155 [sL pc ps] (.fresh 2 xs.length (pc xs)))(n3:H I 116 [sL pc xs] (.fresh 2 ds.length (pc ds)))(n4:H I 135 [sL pc xs,sL pc ds] (sL pc gs)):H I 114 [sL pc rs] (sL pc xs):=i (fn:=HL) Bh rfl 400 rfl [.r (.fresh 2 ps.length (pc ps)),.r (.fresh 2 xs.length (pc xs)),.b false,.r (.fresh 2 ds.length (pc ds)),.r (sL pc gs),.b true] (L n1 (L n2 (L c1 (L n3 (L n4 (L c2 a0))))))
theorem WM(rs ps xs ds gs us:List Rn)(c1:B ((xs.length:Int)<2)=false)(c2:B ((gs.length:Int)<2)=false)(n1:H I 115 [sL pc rs] (.fresh 2 ps.length (pc ps)))(n2:H I 155 [sL pc ps] (.fresh 2 xs.length (pc xs)))(n3:H I 116 [sL pc xs] (.fresh 2 ds.length (pc ds)))(n4:H I 135 [sL pc xs,sL pc ds] (sL pc gs))(n5:H I 156 [sL pc xs,sL pc gs] (.fresh 2 us.length (pc us))):H I 114 [sL pc rs] (.fresh 2 us.length (pc us)):=i (fn:=HL) Bh rfl 400 rfl [.r (.fresh 2 ps.length (pc ps)),.r (.fresh 2 xs.length (pc xs)),.b false,.r (.fresh 2 ds.length (pc ds)),.r (sL pc gs),.b false,.r (.fresh 2 us.length (pc us))] (L n1 (L n2 (L c1 (L n3 (L n4 (L c2 (L n5 a0)))))))
theorem WN(rs ps ds gs:List Rn)(c1:B ((ps.length:Int)<2)=false)(c2:B ((gs.length:Int)<2)=true)(n1:H I 115 [sL pc rs] (.fresh 2 ps.length (pc ps)))(n2:H I 155 [sL pc ps] (sL pc ps))(n3:H I 116 [sL pc ps] (.fresh 2 ds.length (pc ds)))(n4:H I 135 [sL pc ps,sL pc ds] (.fresh 2 gs.length (pc gs))):H I 114 [sL pc rs] (sL pc ps):=i (fn:=HL) Bh rfl 400 rfl [.r (.fresh 2 ps.length (pc ps)),.r (sL pc ps),.b false,.r (.fresh 2 ds.length (pc ds)),.r (.fresh 2 gs.length (pc gs)),.b true] (L n1 (L n2 (L c1 (L n3 (L n4 (L c2 a0))))))
theorem WO(rs ps ds gs us:List Rn)(c1:B ((ps.length:Int)<2)=false)(c2:B ((gs.length:Int)<2)=false)(n1:H I 115 [sL pc rs] (.fresh 2 ps.length (pc ps)))(n2:H I 155 [sL pc ps] (sL pc ps))(n3:H I 116 [sL pc ps] (.fresh 2 ds.length (pc ds)))(n4:H I 135 [sL pc ps,sL pc ds] (.fresh 2 gs.length (pc gs)))(n5:H I 156 [sL pc ps,sL pc gs] (.fresh 2 us.length (pc us))):H I 114 [sL pc rs] (.fresh 2 us.length (pc us)):=i (fn:=HL) Bh rfl 400 rfl [.r (.fresh 2 ps.length (pc ps)),.r (sL pc ps),.b false,.r (.fresh 2 ds.length (pc ds)),.r (.fresh 2 gs.length (pc gs)),.b false,.r (.fresh 2 us.length (pc us))] (L n1 (L n2 (L c1 (L n3 (L n4 (L c2 (L n5 a0)))))))
theorem WP(rs ps:List Rn)(c1:B ((ps.length:Int)<2)=true)(n1:H I 115 [sL pc rs] (.fresh 2 ps.length (pc ps)))(n2:H I 155 [sL pc ps] (sL pc ps)):H I 114 [sL pc rs] (sL pc ps):=i (fn:=HL) Bh rfl 400 rfl [.r (.fresh 2 ps.length (pc ps)),.r (sL pc ps),.b true] (L n1 (L n2 (L c1 a0)))
theorem WQ(rs ps ds gs:List Rn)(c1:B ((ps.length:Int)<2)=false)(c2:B ((gs.length:Int)<2)=true)(n1:H I 115 [sL pc rs] (.fresh 2 ps.length (pc ps)))(n2:H I 155 [sL pc ps] (sL pc ps))(n3:H I 116 [sL pc ps] (.fresh 2 ds.length (pc ds)))(n4:H I 135 [sL pc ps,sL pc ds] (sL pc gs)):H I 114 [sL pc rs] (sL pc ps):=i (fn:=HL) Bh rfl 400 rfl [.r (.fresh 2 ps.length (pc ps)),.r (sL pc ps),.b false,.r (.fresh 2 ds.length (pc ds)),.r (sL pc gs),.b true] (L n1 (L n2 (L c1 (L n3 (L n4 (L c2 a0))))))
theorem WR(rs ps ds gs us:List Rn)(c1:B ((ps.length:Int)<2)=false)(c2:B ((gs.length:Int)<2)=false)(n1:H I 115 [sL pc rs] (.fresh 2 ps.length (pc ps)))(n2:H I 155 [sL pc ps] (sL pc ps))(n3:H I 116 [sL pc ps] (.fresh 2 ds.length (pc ds)))(n4:H I 135 [sL pc ps,sL pc ds] (sL pc gs))(n5:H I 156 [sL pc ps,sL pc gs] (.fresh 2 us.length (pc us))):H I 114 [sL pc rs] (.fresh 2 us.length (pc us)):=i (fn:=HL) Bh rfl 400 rfl [.r (.fresh 2 ps.length (pc ps)),.r (sL pc ps),.b false,.r (.fresh 2 ds.length (pc ds)),.r (sL pc gs),.b false,.r (.fresh 2 us.length (pc us))] (L n1 (L n2 (L c1 (L n3 (L n4 (L c2 (L n5 a0)))))))
end Go.Proofs.YtajompaehjkgkaaGreat
namespace Go.Ai
open Decidable renaming decide->B
open Int renaming add_zero->B2,dvd_add_right->Adi,dvd_mul_right->Rm,dvd_trans->O_,eq_of_mul_eq_mul_left->HY,mul_assoc->AB,mul_ediv_cancel'->Ih,mul_eq_zero->GI,mul_ne_zero->BK,mul_sub->HG,mul_zero->AG,natAbs->E,natAbs_dvd->Azb,natAbs_mul->BA,natCast_mul->Dj,ofNat_dvd_left->Gk,pow_succ->Ay,pow_zero->Da
open List renaming countP_eq_length_filter->Hg,eq_nil_of_length_eq_zero->A3,getD_cons_succ->J1,getD_cons_zero->I4,getD_eq_getElem?_getD->Z,getElem?_map->CA,length->Bj,length_cons->Bo,length_eq_countP_add_countP->pJ,length_pos_iff->An,length_take->A7,map_congr_left->FV,mem_cons_of_mem->A_,mem_cons_self->Bs,mem_filter->Ik,mem_map->Ea,mem_of_mem_take->Cg,mem_range->W8,nodup_cons->M2,nodup_iff_pairwise_ne->Wz,range->Ao,take_sublist->A5l
open Nat renaming eq_zero_or_pos->F6,gcd->HT,le_max_right->Arj,le_mul_of_pos_left->WY,le_mul_of_pos_right->BQ,le_of_dvd->QI,le_of_lt->Qe,le_of_not_lt->MH,le_refl->Am,le_trans->Bq,lt_of_le_of_lt->Dh,lt_pow_self->TJ,max->qV,mul_assoc->EA,mul_le_mul->Bx,mul_le_mul_left->z,mul_one->Ia,mul_zero->ZF,pow_add->C_,pow_le_pow_right->Bm,pow_pos->Cn,pow_succ->F8,strongRecOn->Ty
theorem mK(c:Nat)(hc:1<c):∃ p,1<p/\p∣c/\∀ d,d∣p->d=1\/d=p:=by
 have h:∀ n,∀ m,m<=n->1<m->m∣c->∃ p,1<p/\p∣c/\∀ d,d∣p->d=1\/d=p:=by
  intro n;induction n with
  | zero=>intro m h1 h2;omega
  | succ n ih =>
   intro m h1 h2 h3;by_cases h:∀ d,d∣m->d=1\/d=m
   ·exact⟨m,h2,h3,h⟩
   ·obtain⟨d,hd⟩:=Classical.not_forall.1 h;obtain⟨hd1,hd2⟩:=Classical.not_imp.1 hd;have h5:=QI (by omega) hd1;have h6:d ≠ 0:=by intro h0;subst h0;have:=Nat.zero_dvd.1 hd1;omega
    exact ih d (by omega) (by omega) (Nat.dvd_trans hd1 h3)
 exact h c c (Am _) hc (Nat.dvd_refl _)
theorem mL{p:Nat}(hp:∀ d,d∣p->d=1\/d=p){a b:Int}(h:(p:Int)∣a*b):(p:Int)∣a\/(p:Int)∣b:=by
 rcases hp (HT p a.natAbs) (Nat.gcd_dvd_left _ _) with g | g
 ·right;have h1:p∣a.natAbs*b.natAbs:=by rw[<- BA];exact Gk.1 h
  exact Gk.2 (Nat.Coprime.dvd_of_dvd_mul_left g h1)
 ·left;have:p∣a.natAbs:=by rw[<- g];exact Nat.gcd_dvd_right _ _
  exact Gk.2 this
theorem Sb(g:List Int)(b:Int)(k:List Int)(i:Nat):(BL g (b::k)).getD i 0=b*g.getD i 0+(Di 1 (BL g k)).getD i 0:=by
 have h:=D7 (p:=BL g (b::k)) (q:=DQ (Ax b g) (Di 1 (BL g k))) (fun x=>by
  rw[Bk,BW,A0,DJ,Bk];simp only[V,Ay,Da];grind) i
 rw[h,CY,AO]
theorem QN{p:Nat}(hp:∀ d,d∣p->d=1\/d=p):∀ (g k:List Int),(∀ i,(p:Int)∣(BL g k).getD i 0)->(¬ ∀ i,(p:Int)∣g.getD i 0)->∀ i,(p:Int)∣k.getD i 0
 | [],k,_,h=>absurd (fun i=>by simp) h
 | a::g,k,h,hn=>by
  by_cases ha:(p:Int)∣a
  ·refine QN hp g k (fun i => ?_) (fun h2=>hn fun i => ?_)
   ·have h1:=h (i+1);rw[EE,Cu,if_pos (by omega)] at h1;exact (Adi (O_ ha (Rm _ _))).1 h1
   ·cases i with
    | zero=>simpa using ha
    | succ i=>simpa using h2 i
  ·clear hn;induction k with
   | nil=>intro i;simp
   | cons b k ih =>
    have h0:=h 0;rw[EE,Cu,if_neg (by omega),B2] at h0;have hb:(p:Int)∣b:=by
     rcases mL hp h0 with g1 | g1
     ·exact absurd g1 ha
     ·simpa using g1
    have h2:=ih (fun i=>by
     have h1:=h (i+1);rw[Sb,Cu,if_pos (by omega)] at h1;exact (Adi (O_ hb (Rm _ _))).1 h1)
    intro i;cases i with
    | zero=>simpa using hb
    | succ i=>simpa using h2 i
theorem   A4k {g : List Int} (hg :   AL g = 1) : ∀ (c : Nat) (k : List Int), 0 < c -> (∀ i, (c : Int) ∣ (  BL g k).getD i 0) -> ∀ i, (c : Int) ∣ k.getD i 0 := by
  intro c
  induction c using              Ty with
  | ind c ih =>
    intro k hc h
    by_cases h1 : c = 1
    · intro i; rw [h1]; exact Int.one_dvd _
    · obtain ⟨p, p1, ⟨d, hd⟩, p3⟩ :=        mK c (by omega)
      have hd0 : 0 < d := by rcases                 F6 d with g | g
                             · rw [g,           ZF] at hd; omega
                             · exact g
      have hdc : d < c := by rw [hd]; exact (Nat.lt_mul_iff_one_lt_left hd0).2 p1
      have hpk :=          QN p3 g k (fun i =>            O_ ⟨(d : Int), by rw [hd]; push_cast; rfl⟩ (h i)) (fun h2 => by
        have := (      JG p g).2 h2
        rw [hg] at this
        have :=            QI (by decide) this
        omega)
      have hk :    Ax (p : Int) (k.map fun x => x / (p : Int)) = k := by
        apply       JF (by simp [   Ax])
        intro i
        rw [        AO]
        have e : (k.map fun x => x / (p : Int)).getD i 0 = k.getD i 0 / (p : Int) := by
          simp only [                         Z,                CA]
          cases k[i]? <;> simp
        rw [e]
        exact                   Ih (hpk i)
      generalize k.map (fun x => x / (p : Int)) = k1 at hk
      subst hk
      have h3 := ih d hdc k1 hd0 (fun i => by
        have h2 := h i
        have e : (  BL g (   Ax (p : Int) k1)).getD i 0 = (p : Int) * (  BL g k1).getD i 0 := by
          rw [<-         AO]
          exact         D7 (fun x => by rw [        Bk,          A0,          A0,         Bk]; grind) i
        rw [e, hd,              Dj] at h2
        exact Int.dvd_of_mul_dvd_mul_left (by omega) h2)
      intro i
      rw [        AO, hd,              Dj]
      exact Int.mul_dvd_mul_left _ (h3 i)
def NS:List Int->Int->List Int
 | [],_=>[]
 | _::p,a=>DQ p (Ax a (NS p a))
theorem O6:∀ (p:List Int) (a x:Int),V p x-V p a=(x-a)*V (NS p a) x
 | [],a,x=>by simp[NS,V]
 | c::p,a,x=>by
  have ih:=O6 p a x;simp only[NS,V];rw[BW,A0];grind
theorem VD:∀ (p:List Int) (a:Int),(NS p a).length<=p.length-1
 | [],a=>by simp[NS]
 | c::p,a=>by
  have ih:=VD p a;have:=X9 p (Ax a (NS p a));rw[AT] at this;simp only[NS,Bo];omega
theorem XQ(p:List Int)(a:Int)(i:Nat):p.getD i 0=(V p a::NS p a).getD i 0-a*(NS p a).getD i 0:=by
 have h:=D7 (p:=p) (q:=L9 (V p a::NS p a) (Ax a (NS p a))) (fun x=>by
  rw[Fu,A0];simp only[V];have:=O6 p a x;grind) i
 rw[h,PB,AO]
theorem VE:∀ (n:Nat) (p:List Int) (l:List Int),p.length<=n->l.Nodup->(∀ x∈l,V p x=0)->n<=l.length->∀ i,p.getD i 0=0:=by
 intro n;induction n with
 | zero =>
  intro p l h _ _ _ i;rw[A3 (by omega:p.length=0)];simp
 | succ n ih =>
  intro p l h1 h2 h3 h4 i;cases l with
  | nil=>simp at h4
  | cons a l =>
   have ha:=h3 a Bs;have hq:=ih (NS p a) l (by have:=VD p a;omega) (M2.1 h2).2 (fun x hx=>by
    have h5:=O6 p a x;rw[ha,h3 x (A_ _ hx)] at h5;rcases GI.1 (h5.symm.trans (by omega)) with g | g
    ·have hxa:x=a:=by omega
     subst hxa;exact absurd hx (M2.1 h2).1
    ·exact g) (by simp at h4;omega)
   rw[XQ p a i,ha,hq i];cases i with
   | zero=>simp
   | succ i=>simpa using hq i
theorem Tc{R:Nat}:∀ (n:Nat) (g:List Int) (l:List Int) (M:Nat),g.length<=n+1->l.Nodup->l.length=n+1->(∀ x∈l,x.natAbs<=R/\(V g x).natAbs<=M)->(∀ x∈l,∀ y∈l,x ≠ y->1<=(x-y).natAbs)->∀ i,(g.getD i 0).natAbs<=M*(2*R+3)^n:=by
 intro n;induction n with
 | zero =>
  intro g l M h1 h2 h3 h4 _ i;cases l with
  | nil=>simp at h3
  | cons a l =>
   have ha:=h4 a Bs;cases g with
   | nil=>simp
   | cons c g =>
    have:g=[]:=by simpa using h1
    subst this;simp only[V,AG,B2] at ha;rw[Nat.pow_zero,Ia];cases i with
    | zero=>simpa using ha.2
    | succ i=>simp
 | succ n ih =>
  intro g l M h1 h2 h3 h4 h6 i;cases l with
  | nil=>simp at h3
  | cons a l =>
   obtain⟨ha1,ha2⟩:=h4 a Bs;have hq:=ih (NS g a) l (2*M) (by have:=VD g a;omega) (M2.1 h2).2 (by simpa using h3) (fun x hx=>by
    obtain⟨hx1,hx2⟩:=h4 x (A_ _ hx);refine⟨hx1,?_⟩;have h5:=congrArg E (O6 g a x);rw[BA] at h5;have hne:x ≠ a:=by intro e;subst e;exact absurd hx (M2.1 h2).1
    have h7:1<=(x-a).natAbs:=by omega
    have h8:=WY (V (NS g a) x).natAbs h7;have h9:(V g x-V g a).natAbs<=2*M:=by omega
    omega) (fun x hx y hy=>h6 x (A_ _ hx) y (A_ _ hy))
   rw[XQ g a i];have hX:1<=(2*R+3)^n:=Cn (by omega);have e1:M*(2*R+3)^(n+1)=R*(2*M*(2*R+3)^n)+2*M*(2*R+3)^n+M*(2*R+3)^n:=by rw[F8];grind
   have e2:M*1<=M*(2*R+3)^n:=z _ hX;have b1:=hq i;have b2:(a*(NS g a).getD i 0).natAbs<=R*(2*M*(2*R+3)^n):=by rw[BA];exact Bx ha1 b1
   have b3:((V g a::NS g a).getD i 0).natAbs<=2*M*(2*R+3)^n+M*(2*R+3)^n:=by
    cases i with
    | zero=>simp only[I4];omega
    | succ i=>have:=hq i;simp only[J1];omega
   rw[e1];generalize R*(2*M*(2*R+3)^n)=A at *
   generalize 2*M*(2*R+3)^n=B at *
   generalize M*(2*R+3)^n=C at *
   omega
theorem Sd{R B:Nat}:∀ (t:List Int) (x:Int),(∀ i,(t.getD i 0).natAbs<=B)->x.natAbs<=R->(V t x).natAbs<=B*(R+1)^t.length
 | [],x,_,_=>by simp[V]
 | c::t,x,h,hx=>by
  have ih:=Sd t x (fun i=>by simpa using h (i+1)) hx;have h0:c.natAbs<=B:=by simpa using h 0
  simp only[V,Bo];have h1:(x*V t x).natAbs<=R*(B*(R+1)^t.length):=by rw[BA];exact Bx hx ih
  have h2:B*1<=B*(R+1)^t.length:=z _ (Cn (by omega));have e:B*(R+1)^(t.length+1)=R*(B*(R+1)^t.length)+B*(R+1)^t.length:=by rw[F8];grind
  rw[e];generalize R*(B*(R+1)^t.length)=X at *
  omega
theorem yV{t:List Int}{n:Nat}(ht:Y t ≠ [])(hl:t.length<=n+1):∃ l:List Int,l.Nodup/\l.length=n+1/\∀ x∈l,x.natAbs<=2*n/\V t x ≠ 0:=by
 have hnd:((Ao (2*n+1)).map fun i:Nat=>(i:Int)).Nodup:=by
  rw[Wz,List.pairwise_map];exact (Wz.1 List.nodup_range).imp (fun h=>by omega)
 have hmem:∀ x∈(Ao (2*n+1)).map fun i:Nat=>(i:Int),x.natAbs<=2*n:=by
  intro x hx;obtain⟨i,hi,rfl⟩:=Ea.1 hx;have:=W8.1 hi;omega
 have hlen:((Ao (2*n+1)).map fun i:Nat=>(i:Int)).length=2*n+1:=by simp
 generalize ((Ao (2*n+1)).map fun i:Nat=>(i:Int))=L at *
 have hsum:=pJ (fun x=>decide (V t x=0)) (l:=L);rw[Hg,Hg] at hsum;have hA:(L.filter fun x=>decide (V t x=0)).length<=n:=by
  apply MH;intro h;apply ht;rw[CW];exact VE (n+1) t (L.filter fun x=>decide (V t x=0)) hl (hnd.filter _) (fun x hx=>by simpa using (Ik.1 hx).2) (by omega)
 refine⟨(L.filter fun x=>decide ¬ (B (V t x=0))=true).take (n+1),(hnd.filter _).sublist (A5l _ _),?_,?_⟩
 ·rw[A7];omega
 ·intro x hx;obtain⟨h1,h2⟩:=Ik.1 (Cg hx);exact⟨hmem x h1,by simpa using h2⟩
theorem VF{t g k:List Int}{K:Nat}(ht:Y t ≠ [])(hl:t.length<=9)(hg:g.length<=9)(hK:Kb K t)(h:∀ x,V t x=V g x*V k x):Kb (K+3) g:=by
 obtain⟨l,l1,l2,l3⟩:=yV (n:=8) ht hl;have hb:∀ i,(t.getD i 0).natAbs<=4294967296^K:=fun i=>Qe (hK i);have h1:=Tc (R:=16) 8 g l (4294967296^K*17^9) hg l1 l2 (fun x hx=>by
  obtain⟨a,b⟩:=l3 x hx;refine⟨a,?_⟩;have h2:=Sd (R:=16) t x hb a;have h3:=congrArg E (h x);rw[BA] at h3;have h4:1<=(V k x).natAbs:=by
   rcases F6 (V k x).natAbs with g | g
   ·rw[g,ZF] at h3;omega
   ·exact g
  have h5:=BQ (V g x).natAbs h4;have h6:4294967296^K*17^t.length<=4294967296^K*17^9:=z _ (Bm (by decide) hl);exact Bq (Bq h5 (Nat.le_of_eq h3.symm)) (Bq h2 h6)) (fun x _ y _ hne=>by omega)
 intro i;have h2:=h1 i;unfold AY;refine Dh h2 ?_;rw[EA,C_];exact Nat.mul_lt_mul_of_pos_left (by decide) (Cn (by decide))
theorem Td{t g k:List Int}{c:Int}(hc:c ≠ 0)(hg:AL g=1)(h:∀ x,c*V t x=V g x*V k x):∃ k',∀ x,V t x=V g x*V k' x:=by
 have h1:=D7 (p:=BL g k) (q:=Ax c t) (fun x=>by rw[Bk,A0];exact (h x).symm);have h2:=A4k hg c.natAbs k (by omega) (fun i=>by rw[h1,AO];exact O_ (Azb.2 (Int.dvd_refl _)) (Rm _ _));have hk:Ax c (k.map fun x=>x / c)=k:=by
  apply JF (by simp[Ax]);intro i;rw[AO];have e:(k.map fun x=>x / c).getD i 0=k.getD i 0 / c:=by
   simp only[Z,CA];cases k[i]? <;> simp
  rw[e];exact Ih (Azb.1 (h2 i))
 refine⟨k.map fun x=>x / c,fun x => ?_⟩;have h3:=h x;rw[<- hk,A0] at h3;apply HY hc;rw[h3];grind
theorem QO{t g k:List Int}{c:Int}{K:Nat}(hc:c ≠ 0)(hg:AL g=1)(ht:Y t ≠ [])(hl:t.length<=9)(hgl:g.length<=9)(hK:Kb K t)(h:∀ x,c*V t x=V g x*V k x):Kb (K+3) g:=by
 obtain⟨k',hk⟩:=Td hc hg h;exact VF ht hl hgl hK hk
def Dv(g t:List Int):Prop:=∃ (c:Int) (k:List Int),c ≠ 0/\∀ x,c*V t x=V g x*V k x
theorem Dv.refl(g:List Int):Dv g g:=⟨1,[1],by decide,fun x=>by simp [V]⟩
theorem Dv.zero(g:List Int):Dv g []:=⟨1,[],by decide,fun x=>by simp [V]⟩
theorem Dv.trans{a b c:List Int}(h1:Dv a b)(h2:Dv b c):Dv a c:=by
 obtain⟨m,k,hm,h⟩:=h1;obtain⟨n,l,hn,g⟩:=h2;refine⟨m*n,BL k l,BK hm hn,fun x => ?_⟩;have h':=h x;have g':=g x;rw[Bk,AB,g'];rw[<- AB,h'];grind
theorem LG{g s t r:List Int}{m:Int}(u v:List Int)(hm:m ≠ 0)(h1:Dv g s)(h2:Dv g t)(h:∀ x,m*V r x=V u x*V s x+V v x*V t x):Dv g r:=by
 obtain⟨c,k,hc,hk⟩:=h1;obtain⟨d,l,hd,hl⟩:=h2;refine⟨c*d*m,DQ (Ax d (BL u k)) (Ax c (BL v l)),BK (BK hc hd) hm,fun x => ?_⟩;rw[BW,A0,A0,Bk,Bk];have a:=hk x;have b:=hl x;have e:=h x;rw[AB,e];generalize V s x=s at *
 generalize V t x=t at *
 generalize V g x=g at *
 generalize V k x=k at *
 generalize V l x=l at *
 generalize V u x=u at *
 generalize V v x=v at *
 have e1:c*d*(u*s+v*t)=d*u*(c*s)+c*v*(d*t):=by grind
 rw[e1,a,b];grind
theorem Dv.scaled{g s r:List Int}{m n:Int}(hm:m ≠ 0)(h1:Dv g s)(h:∀ x,m*V r x=n*V s x):Dv g r :=
 LG [n] [] hm h1 h1 fun x=>by rw[h x];simp[V]
theorem Dv.left{g f t:List Int}{m n:Int}(_:m ≠ 0)(hn:n ≠ 0)(h1:Dv g t)(h:∀ x,m*V f x=n*V g x):Dv f t:=by
 obtain⟨c,k,hc,hk⟩:=h1;refine⟨n*c,Ax m k,BK hn hc,fun x => ?_⟩;have a:=hk x;have b:=h x;rw[A0];have e1:n*c*V t x=n*(c*V t x):=by grind
 rw[e1,a];have e2:n*(V g x*V k x)=(n*V g x)*V k x:=by grind
 rw[e2,<- b];grind
theorem WS{g s:List Int}(t:List Int)(h:Dv g s){r:List Int}(hr:∀ x,V r x=V s x*V t x):Dv g r :=
 LG (m:=1) t [] (by decide) h h fun x=>by rw[hr x];simp[V];grind
theorem F4{p:List Int}(h:BU p)(h0:p ≠ []):Y p ≠ []:=by rw [h];exact h0
theorem NT{p q:List Int}(hp:Y p ≠ [])(hq:Y q ≠ []):(Y (BL p q)).length=(Y p).length+(Y q).length-1:=by
 have e:Y (BL p q)=Y (BL (Y p) (Y q)):=Hw fun x=>by rw[Bk,Bk,E1,E1]
 rw[e];have lp:=Hy p;have lq:=Hy q;generalize Y p=P at *
 generalize Y q=Q at *
 have h1:=An.2 hp;have h2:=An.2 hq;obtain⟨t1,t2⟩:=O5 P Q hp hq;have t3:(BL P Q).getD (P.length+Q.length-2) 0 ≠ 0:=by rw[t1];exact BK (E8 lp hp) (E8 lq hq)
 rw[Vs];have a1:¬ (BL P Q).length<=P.length+Q.length-2:=fun h=>t3 (Bv h);have a2:¬ P.length+Q.length-1<(BL P Q).length:=fun h=>by
  have hne:BL P Q ≠ []:=by intro h0;rw[h0] at h;simp at h
  exact E8 (show BU (BL P Q) from Vs P Q) hne (t2 _ (by omega))
 omega
theorem QP{p q:List Int}(hp:Y p ≠ [])(h:∀ x,V p x*V q x=0):∀ x,V q x=0:=by
 intro x;by_cases hq:Y q=[]
 ·exact Eb hq x
 ·have h1:=NT hp hq;have h2:Y (BL p q)=Y []:=Hw fun x=>by rw[Bk,h x];rfl
  rw[h2] at h1;have:=An.2 hp;have:=An.2 hq;have h0:(Y []).length=0:=rfl;rw[h0] at h1;omega
theorem VG{p:List Int}(hp:Y p ≠ [])(q r:List Int)(h:∀ x,V p x*V q x=V p x*V r x):∀ x,V q x=V r x:=by
 intro x;have:=QP (q:=L9 q r) hp (fun x=>by rw[Fu,HG,h x];omega) x;rw[Fu] at this;omega
theorem Dv.length{g t:List Int}(h:Dv g t)(ht:Y t ≠ []):(Y g).length<=(Y t).length/\Y g ≠ []:=by
 obtain⟨c,k,hc,hk⟩:=h;have e:Y (Ax c t)=Y (BL g k):=Hw fun x=>by rw[A0,Bk];exact hk x
 rw[KM hc] at e;have e2:=congrArg Bj e;rw[AT] at e2;have ht1:=An.2 ht;by_cases hg:Y g=[]
 ·have:Y (BL g k)=Y []:=Hw fun x=>by rw[Bk,Eb hg];simp[V]
  have h0:(Y []).length=0:=rfl;rw[this,h0] at e2;omega
 ·by_cases hk0:Y k=[]
  ·have:Y (BL g k)=Y []:=Hw fun x=>by rw[Bk,Eb hk0];simp[V]
   have h0:(Y []).length=0:=rfl;rw[this,h0] at e2;omega
  ·rw[NT hg hk0] at e2;have:=An.2 hk0;exact⟨by omega,hg⟩
def GO(g s t:List Int):Prop:=Dv g s/\Dv g t/\∃ (c:Int) (u v:List Int),c ≠ 0/\∀ x,c*V g x=V u x*V s x+V v x*V t x
theorem GO.comm{g s t:List Int}(h:GO g s t):GO g t s:=by
 obtain⟨a,b,c,u,v,hc,h⟩:=h;exact⟨b,a,c,v,u,hc,fun x=>by rw[h x];omega⟩
theorem GO.dv{g s t f:List Int}(h:GO g s t)(h1:Dv f s)(h2:Dv f t):Dv f g:=by
 obtain⟨_,_,c,u,v,hc,h⟩:=h;exact LG u v hc h1 h2 h
theorem VH(s:List Int):GO s s []:=⟨Dv.refl s,Dv.zero s,1,[1],[],by decide,fun x=>by simp [V]⟩
theorem GO.length{f g s t:List Int}(h1:GO f s t)(h2:GO g s t)(hf:Y f ≠ []):(Y f).length=(Y g).length:=by
 have a:=(h1.dv h2.1 h2.2.1).length hf;have b:=(h2.dv h1.1 h1.2.1).length a.2;omega
theorem GO.step{g r d e q:List Int}{a m:Int}(ha:a ≠ 0)(hm:m ≠ 0)(hr:∀ x,a*V r x=V q x*V d x+m*V e x)(h:GO g d e):GO g r d:=by
 obtain⟨h1,h2,c,u,v,hc,h⟩:=h;refine⟨LG q [m] ha h1 h2 (fun x=>by rw[hr x];simp[V]),h1,c*m,Ax a v,L9 (Ax m u) (BL v q),BK hc hm,fun x => ?_⟩;have e1:=hr x;have e2:=h x;rw[A0,Fu,A0,Bk];generalize V g x=g at *
 generalize V d x=d at *
 generalize V e x=e at *
 generalize V r x=r at *
 generalize V q x=q at *
 generalize V u x=u at *
 generalize V v x=v at *
 have e3:c*m*g=m*(c*g):=by grind
 rw[e3,e2];have e4:a*v*r=v*(a*r):=by grind
 rw[e4,e1];grind
theorem GO.scaled{g s t s' t':List Int}{m n k l:Int}(hm:m ≠ 0)(hn:n ≠ 0)(hk:k ≠ 0)(hl:l ≠ 0)(h1:∀ x,m*V s' x=n*V s x)(h2:∀ x,k*V t' x=l*V t x)(h:GO g s t):GO g s' t':=by
 obtain⟨a,b,c,u,v,hc,h⟩:=h;refine⟨a.scaled hm h1,b.scaled hk h2,c*(n*l),Ax (m*l) u,Ax (k*n) v,BK hc (BK hn hl),fun x => ?_⟩;have e1:=h1 x;have e2:=h2 x;have e3:=h x;rw[A0,A0];generalize V g x=g at *
 generalize V s x=s at *
 generalize V t x=t at *
 generalize V s' x=s' at *
 generalize V t' x=t' at *
 generalize V u x=u at *
 generalize V v x=v at *
 have e4:c*(n*l)*g=n*l*(c*g):=by grind
 rw[e4,e3];have e5:m*l*u*s'=l*u*(m*s'):=by grind
 have e6:k*n*v*t'=n*v*(k*t'):=by grind
 rw[e5,e6,e1,e2];grind
theorem GO.gscaled{g g' s t:List Int}{m n:Int}(hm:m ≠ 0)(hn:n ≠ 0)(h1:∀ x,m*V g' x=n*V g x)(h:GO g s t):GO g' s t:=by
 obtain⟨a,b,c,u,v,hc,h⟩:=h;refine⟨a.left hm hn h1,b.left hm hn h1,c*m,Ax n u,Ax n v,BK hc hm,fun x => ?_⟩;have e1:=h1 x;have e2:=h x;rw[A0,A0,AB,e1];have e3:c*(n*V g x)=n*(c*V g x):=by grind
 rw[e3,e2];grind
theorem GO.mul{d p q:List Int}(c:List Int){d' p' q':List Int}(hd:∀ x,V d' x=V c x*V d x)(hp:∀ x,V p' x=V c x*V p x)(hq:∀ x,V q' x=V c x*V q x)(h:GO d p q):GO d' p' q':=by
 obtain⟨⟨m,k,hm,hk⟩,⟨n,l,hn,hl⟩,e,u,v,he,h⟩:=h;refine⟨⟨m,k,hm,fun x => ?_⟩,⟨n,l,hn,fun x => ?_⟩,e,u,v,he,fun x => ?_⟩
 ·have:=hk x;rw[hd,hp];grind
 ·have:=hl x;rw[hd,hq];grind
 ·have:=h x;rw[hd,hp,hq];grind
theorem H1(p:List Int):∃ m:Int,m ≠ 0/\∀ x,V p x=m*V (prim p) x:=by
 by_cases h:Y p=[]
 ·refine⟨1,by decide,fun x => ?_⟩;rw[Eb h,DX.2 (CW.1 h)];rfl
 ·have:=Ix h;refine⟨(AL p:Int),by omega,fun x => ?_⟩;rw[<- A0,KN,E1]
theorem dV{r d:List Int}(hl:d.length<=r.length)(ht:w d ≠ 0):∃ (a m:Int) (q:List Int),a ≠ 0/\m ≠ 0/\∀ x,a*V r x=V q x*V d x+m*V (D2 r d) x:=by
 obtain⟨m,hm,h⟩:=H1 (C5 r d ((w d).natAbs:Int) (sg (w d)*w r) r.length);refine⟨((w d).natAbs:Int),m,Di (r.length-d.length) [sg (w d)*w r],by omega,hm,fun x => ?_⟩;have h1:=h x;rw[PI hl] at h1;have e:V (D2 r d) x=V (prim (C5 r d ((w d).natAbs:Int) (sg (w d)*w r) r.length)) x:=rfl;rw[e,<- h1,DJ];simp only[V];grind
theorem dW{d:List Int}(ht:w d ≠ 0):∀ (f:Nat) (r:List Int),∃ (a m:Int) (q:List Int),a ≠ 0/\m ≠ 0/\∀ x,a*V r x=V q x*V d x+m*V (DT f r d) x:=by
 intro f;induction f with
 | zero=>intro r;exact⟨1,1,[],by decide,by decide,fun x=>by simp[V,DT]⟩
 | succ f ih =>
  intro r;simp only[DT];split
  ·rename_i hl;obtain⟨a,m,q,ha,hm,h⟩:=dV hl ht;obtain⟨b,n,s,hb,hn,g⟩:=ih (D2 r d);refine⟨b*a,m*n,DQ (Ax b q) (Ax m s),BK hb ha,BK hm hn,fun x => ?_⟩;have h':=h x;have g':=g x;rw[BW,A0,A0,AB,h'];generalize V (DT f (D2 r d) d) x=z at *
   generalize V (D2 r d) x=y at *
   have e:b*(V q x*V d x+m*y)=b*(V q x*V d x)+m*(b*y):=by grind
   rw[e,g'];grind
  ·exact⟨1,1,[],by decide,by decide,fun x=>by simp[V]⟩
theorem VI:∀ (f:Nat) (x y:List Int),y.length<=f->y.length<=x.length->BU x->BU y->GO (Hz f x y) x y:=by
 intro f;induction f with
 | zero =>
  intro x y h1 _ _ _;have:y=[]:=A3 (by omega);subst this;exact VH x
 | succ f ih =>
  intro x y h1 h2 lx ly;simp only[Hz];split
  ·rename_i h;subst h;exact VH x
  ·rename_i h;have ht:w y ≠ 0:=E8 ly h;obtain⟨r1,r2,_⟩:=Sa h (K:=qV 1 (y.map E).sum) (fun i=>by
    have h3:(y.getD i 0).natAbs<=(y.map E).sum:=by
     clear ht h h1 h2 ly ih;induction y generalizing i with
     | nil=>simp
     | cons c y ih => 
      cases i with
      | zero=>simp
      | succ i=>have:=ih i;simp at this |-;omega
    unfold AY;have h4:(y.map E).sum<=qV 1 (y.map E).sum:=Arj _ _;exact Dh (Bq h3 h4) (TJ (by decide))) x.length x (qV 1 (x.map E).sum) (Am _) lx (fun i=>by
    have h3:(x.getD i 0).natAbs<=(x.map E).sum:=by
     clear ht h h1 h2 lx ih;induction x generalizing i with
     | nil=>simp
     | cons c y ih => 
      cases i with
      | zero=>simp
      | succ i=>have:=ih i;simp at this |-;omega
    unfold AY;have h4:(x.map E).sum<=qV 1 (x.map E).sum:=Arj _ _;exact Dh (Bq h3 h4) (TJ (by decide)))
   obtain⟨a,m,q,ha,hm,e⟩:=dW ht x.length x;exact GO.step ha hm e (ih y (Bz x y) (by unfold Bz;omega) (by unfold Bz;omega) ly r1)
def MN(x y:List Int):List Int:=if y.length<=x.length then Hz y.length x y else Hz x.length y x
theorem yW{x y:List Int}(lx:BU x)(ly:BU y):GO (MN x y) x y:=by
 unfold MN;split
 ·exact VI _ _ _ (Am _) (by assumption) lx ly
 ·exact (VI _ _ _ (Am _) (by omega) ly lx).comm
theorem VJ(p:List Int):∃ m:Int,m ≠ 0/\∀ x,V (v p) x=m*V p x:=by
 unfold v;split
 ·exact⟨-1,by decide,fun x=>by rw[IS];omega⟩
 ·exact⟨1,by decide,fun x=>by omega⟩
theorem J2(p:List Int):(v p).length=p.length:=by
 unfold v;split
 ·exact DC p
 ·rfl
def Dy(s t:List Int):List Int:=v (MN (prim s) (prim t))
theorem JJ(s t:List Int):GO (Dy s t) s t:=by
 have h:=yW (Ce s) (Ce t);obtain⟨m,hm,h1⟩:=H1 s;obtain⟨n,hn,h2⟩:=H1 t;obtain⟨k,hk,h3⟩:=VJ (MN (prim s) (prim t));have h4:=h.scaled (s':=s) (t':=t) (m:=1) (n:=m) (k:=1) (l:=n) (by decide) hm (by decide) hn (fun x=>by rw[h1 x];omega) (fun x=>by rw[h2 x];omega);exact h4.gscaled (m:=1) (n:=k) (by decide) hk (fun x=>by unfold Dy;rw[h3 x];omega)
theorem H2{p:List Int}(h:BU p):BU (BV p):=by
 have e:BV p=Ax (-1) p:=by
  unfold BV Ax;apply FV;intro x _;omega
 rw[e];exact dK (by decide) h
theorem M3{p:List Int}(h:BU p):BU (v p):=by
 unfold v;split
 ·exact H2 h
 ·exact h
theorem KS:∀ (f:Nat) (x y:List Int),prim x=x->prim y=y->prim (Hz f x y)=Hz f x y:=by
 intro f;induction f with
 | zero=>intro x y h _;exact h
 | succ f ih =>
  intro x y hx hy;simp only[Hz];split
  ·exact hx
  ·exact ih y _ hy (HB _ _ _ hx)
theorem PK{x y:List Int}(hx:prim x=x)(hy:prim y=y):prim (MN x y)=MN x y:=by
 unfold MN;split
 ·exact KS _ _ _ hx hy
 ·exact KS _ _ _ hy hx
theorem VK(p:List Int):AL (BV p)=AL p:=by
 have e:BV p=Ax (-1) p:=by
  unfold BV Ax;apply FV;intro x _;omega
 rw[e,KL];simp
theorem VL(p:List Int):AL (v p)=AL p:=by
 unfold v;split
 ·exact VK p
 ·rfl
theorem Ki(s t:List Int):BU (Dy s t):=M3 (Cl (PK (BI s) (BI t)))
theorem IH{p:List Int}(h:BU p)(hc:AL p=1):prim p=p:=by rw [RZ hc];exact h
theorem LH{s t:List Int}(h:Y s ≠ []):Dy s t ≠ []:=by
 have:=((JJ s t).1.length h).2;intro h0;rw[h0] at this;exact this rfl
theorem mM{s t:List Int}(h:Y s ≠ []):AL (Dy s t)=1:=by
 have h1:=LH (t:=t) h;unfold Dy at *
 rw[VL];have h2:MN (prim s) (prim t) ≠ []:=by
  intro h0;rw[h0] at h1;exact h1 rfl
 have h3:=PK (BI s) (BI t);rw[<- h3];exact Kf (by rw[Cl h3];exact h2)
theorem XR{p:List Int}(h:BU p)(h0:p ≠ []):0<w (v p):=by
 have h1:=E8 h h0;unfold v;split
 ·rename_i hn;unfold w at *
  rw[DC,G7];omega
 ·rename_i hn;unfold w at *;omega
theorem Se{s t:List Int}(h:Y s ≠ []):0<w (Dy s t):=by
 have h1:=LH (t:=t) h;unfold Dy at *
 refine XR (Cl (PK (BI s) (BI t))) ?_;intro h0;rw[h0] at h1;exact h1 rfl
theorem dX{s t:List Int}{K:Nat}(h:Y s ≠ [])(hl:s.length<=9)(hK:Kb K s):Kb (K+3) (Dy s t)/\(Dy s t).length<=(Y s).length:=by
 have hg:=(JJ s t).1;have h1:=(hg.length h).1;have hle:=Ki s t;rw[hle] at h1;obtain⟨c,k,hc,hk⟩:=hg;have:=Bn s;exact⟨QO hc (mM h) h hl (by omega) hK hk,h1⟩
theorem Ark(y:List Int):∃ K,Kb K y:=⟨(y.map E).sum,fun i=>by
 have h3:(y.getD i 0).natAbs<=(y.map E).sum:=by
  induction y generalizing i with
  | nil=>simp
  | cons c y ih => 
   cases i with
   | zero=>simp
   | succ i=>have:=ih i;simp at this |-;omega
 unfold AY;exact Dh h3 (TJ (by decide))⟩
theorem dY{x y:List Int}(hx:BU x)(hy0:y ≠ []):BU (Bz x y)/\(Bz x y).length<y.length:=by
 obtain⟨K,hK⟩:=Ark y;obtain⟨J,hJ⟩:=Ark x;obtain⟨a,b,_⟩:=Sa hy0 hK x.length x J (Am _) hx hJ;exact⟨a,b⟩
end Go.Ai
namespace Go.Proofs.YtajompaehjkgkaaGreat
open Go.Ai
set_option maxRecDepth 100000
open Go.IntKind renaming i64->R,wrap->D
open Int renaming gcd->CV,mul_comm->AD,mul_ediv_cancel'->Ih,mul_neg->DY,natAbs_natCast->B9,ofNat_dvd_left->Gk,toNat_natCast->F
open List renaming append_nil->OJ,drop_length->Jo,eq_nil_of_length_eq_zero->A3,ext_getElem?->FS,getD_eq_getElem?_getD->Z,getElem?_append_left->AJ,getElem?_append_right->AN,getElem?_drop->AX,getElem?_eq_getElem->Ae,getElem?_map->CA,getElem?_set_ne->FA,getElem?_set_self->Ww,getElem?_take_of_lt->Bw,length_append->AU,length_drop->Ed,length_map->N,length_pos_iff->An,length_set->AS,length_take->A7,set_set->Rl,take_of_length_le->Ef
open Nat renaming add_mul->DK,le_mul_of_pos_right->BQ,le_of_dvd->QI,le_refl->Am,le_trans->Bq,mul_comm->CP,mul_le_mul_left->z,mul_le_mul_right->A8,mul_pos->Eu,mul_succ->OH,one_mul->ES,pow_pos->Cn,sub_add_cancel->KO,zero_le->Bf,zero_mul->S7
def Fw(E rs:List Rn)(i:Nat):List Rn:=E.take i++rs.drop i
theorem M4(E rs:List Rn):Fw E rs 0=rs:=by simp [Fw]
theorem M5{E rs:List Rn}(h:E.length=rs.length):Fw E rs rs.length=E:=by
 unfold Fw;rw[Jo,OJ,Ef (by omega)]
theorem GP{E rs:List Rn}(h:E.length=rs.length)(i:Nat):(Fw E rs i).length=rs.length:=by
 unfold Fw;rw[AU,A7,Ed];omega
theorem LI{E rs:List Rn}(h:E.length=rs.length){i:Nat}(hi:i<rs.length):(Fw E rs i).getD i z0=rs.getD i z0:=by
 unfold Fw;rw[Z,Z,AN (by rw[A7];omega),A7,AX];congr 2;omega
theorem LJ{E rs:List Rn}(h:E.length=rs.length){i:Nat}(hi:i<rs.length):(Fw E rs i).set i (E.getD i z0)=Fw E rs (i+1):=by
 have hpi:E[i]?=some (E.getD i z0):=by rw[Z,Ae (by omega)];rfl
 apply FS;intro t;have hl:=GP h i;unfold Fw at *
 rcases Nat.lt_trichotomy t i with g | g | g
 ·rw[FA (by omega),AJ (by rw[A7];omega),AJ (by rw[A7];omega),Bw g,Bw (by omega)]
 ·subst g;rw[Ww (by omega),AJ (by rw[A7];omega),Bw (by omega),hpi]
 ·rw[FA (by omega),AN (by rw[A7];omega),AN (by rw[A7];omega),A7,A7,AX,AX];congr 1;omega
theorem FQ(p:List Int)(i:Nat):O ((p.map cn).getD i z0)=p.getD i 0:=by rw [<- C3,AH]
theorem EQ{p:List Int}{i:Nat}(h:i<p.length):(p.map cn).getD i z0=cn (p.getD i 0):=by
 rw[Z,CA,Z,Ae h];rfl
theorem AP{K:Nat}{p:List Int}(h:Kb K p):∀ r∈p.map cn,u K r:=JE h.mem
theorem XT{rs:List Rn}{i:Nat}{r:Rn}(h:i<rs.length):(rs.set i r).getD i z0=r:=by
 simp[Z,h]
theorem LK{x y:Rn}{J K:Nat}(hx:u J x)(hy:u K y)(h:J+K<=1048576):H I 112 [Ap x,Ap y] (Ab (O x*O y)):=RX hx.1 hy.1 (by have:=hx.2;have:=hy.2;omega)
theorem VM{x y:Rn}{J K:Nat}(hx:u J x)(hy:u K y)(h:J<1048576)(h2:K<1048576):H I 127 [Ap x,Ap y] (Ab (O x-O y)):=wA hx.1 hy.1 (by have:=hx.2;omega) (by have:=hy.2;omega)
section
variable {p d:List Int} {J Kd:Nat}
theorem VN{a b:Int}{t:Rn}(hp:Kb J p)(hd:Kb Kd d)(ha:AY Kd a)(hb:AY J b)(hS:J+Kd+1<1048576)(hl:d.length<=p.length)(hN:p.length<=1048576) :
  W I (.loop K9) (Gz (d.map cn) p.length (p.map cn) t (cn a) (cn b) ((p.length-d.length:Nat):Int) (p.length:Nat) 0) (.exit 2)
   (Gz (d.map cn) p.length ((C5 p d a b p.length).map cn) t (cn a) (cn b) ((p.length-d.length:Nat):Int) (p.length:Nat) (p.length:Nat)):=by
 have hE:((C5 p d a b p.length).map cn).length=(p.map cn).length:=by rw[N,N,D']
 have hpl:(p.map cn).length=p.length:=N ..;have h:=W.up (prog:=I) (c:=K9) (ex := .exit 2) (fin:=Gz (d.map cn) p.length ((C5 p d a b p.length).map cn) t (cn a) (cn b) ((p.length-d.length:Nat):Int) (p.length:Nat) (p.length:Nat))
  (fun i=>Gz (d.map cn) p.length (Fw ((C5 p d a b p.length).map cn) (p.map cn) i) t (cn a) (cn b) ((p.length-d.length:Nat):Int) (p.length:Nat) (i:Nat)) p.length (by nofun) ?_ ?_ 0 (Bf _)
 ·rw[M4] at h;exact h
 ·intro i hi;have ei:D R ((i:Int)+1)=((i+1:Nat):Int):=by rw[AW (by omega) (by omega)];omega
  have hml:=GP hE i;have hget:=LI hE (i:=i) (by omega);have hEi:((C5 p d a b p.length).map cn).getD i z0=cn ((C5 p d a b p.length).getD i 0):=EQ (by rw[D'];exact hi);have hest:=Gg p d a b p.length i;rw[if_pos hi] at hest;have hset:=LJ hE (i:=i) (by omega);rw[hEi] at hset;have gp:=A' (AP hp) i;have ga:=AZ ha;have gb:=AZ hb;have vi:=FQ p i;generalize Fw ((C5 p d a b p.length).map cn) (p.map cn) i=M at *
  by_cases hat:p.length-d.length<=i
  ·rw[if_pos hat] at hest;have ea:D R ((i:Int)-((p.length-d.length:Nat):Int))=((i-(p.length-d.length):Nat):Int):=by rw[AW (by omega) (by omega)];omega
   have gq:=A' (AP hd) (i-(p.length-d.length));have vq:=FQ d (i-(p.length-d.length));have m1:=LK gp ga (by omega);have m2:=LK gb gq (by omega);have f1:AY (J+Kd) (O ((p.map cn).getD i z0)*O (cn a)):=gp.fits.mul (by rw[At];exact ha);have f2:AY (J+Kd) (O (cn b)*O ((d.map cn).getD (i-(p.length-d.length)) z0)):=AY.mul (by rw[At];exact hb) gq.fits;have m3:=VM (AZ f1) (AZ f2) (by omega) (by omega);rw[At (O (cn b)*O ((d.map cn).getD (i-(p.length-d.length)) z0))] at m3;have k:=yM (d.map cn) p.length M t (cn a) (cn b) ((p.length-d.length:Nat):Int) (p.length:Nat) (i:Nat) (by simp;omega) (by rw[decide_eq_true_eq];omega) (by omega) (by omega) (by rw[AS];omega) (by rw[ea,N];omega)
    (by rw[F,hget];exact m1) (by rw[ea,F];exact m2) (by
     simp only[ea,F,hget];rw[XT (by omega)];exact m3)
   refine k.to rfl ?_;simp only[ea,ei,F,hget];rw[XT (by omega),Rl,At (O ((p.map cn).getD i z0)*O (cn a)),vi,vq,At,At,AD (p.getD i 0) a,<- hest];rw[hset]
  ·rw[if_neg hat] at hest;have m1:=LK gp ga (by omega);have k:=yN (d.map cn) p.length M t (cn a) (cn b) ((p.length-d.length:Nat):Int) (p.length:Nat) (i:Nat) (by simp;omega) (by rw[decide_eq_false_iff_not];omega) (by omega) (by omega) (by rw[F,hget];exact m1);refine k.to rfl ?_;simp only[ei,F,hget];rw[vi,At,AD (p.getD i 0) a,<- hest,hset]
 ·rw[show Fw ((C5 p d a b p.length).map cn) (p.map cn) p.length=(C5 p d a b p.length).map cn by have h:=M5 hE;rw[hpl] at h;exact h];exact yO (d.map cn) p.length _ t _ _ _ _ _ (by simp)
theorem Azc{a b:Int}(h:a ≠ 0):0<CV a b:=by
 rw[CV];exact Nat.gcd_pos_of_pos_left _ (by omega)
theorem yX(hp:Kb J p)(hd:Kb Kd d)(hS:J+Kd+1<1048576)(hd0:d ≠ [])(ht:w d ≠ 0)(hl:d.length<=p.length)(hN:p.length<=1048576) :
  W I Pv (Jk (d.map cn) p.length (p.map cn) (cn (w d))) .norm (Jk (d.map cn) (D2 p d).length ((D2 p d).map cn) (cn (w d))):=by
 have hdl:=An.2 hd0;have e1:D R ((p.length:Int)-1)=((p.length-1:Nat):Int):=by rw[AW (by omega) (by omega)];omega
 have e2:D R ((p.length:Int)-(((d.map cn).length:Nat):Int))=((p.length-d.length:Nat):Int):=by rw[N,AW (by omega) (by omega)];omega
 have gt:=AZ (Et hd);have gl:=A' (AP hp) (p.length-1);have vl:O ((p.map cn).getD (p.length-1) z0)=w p:=FQ p (p.length-1);have hgp:=Azc (a:=w d) (b:=w p) ht;have hgcd:=XJ (na:=(cn (w d)).1) (nb:=((p.map cn).getD (p.length-1) z0).1) gt.1 gl.1 (by have:=gt.2;omega) (by have:=gl.2;omega);rw[show rv (cn (w d)).1 (cn (w d)).2=w d from At _,show rv ((p.map cn).getD (p.length-1) z0).1 ((p.map cn).getD (p.length-1) z0).2=w p from vl] at hgcd;have hd1:((CV (w d) (w p):Nat):Int)∣w d:=Int.gcd_dvd_left ..;have hd2:((CV (w d) (w p):Nat):Int)∣w p:=Int.gcd_dvd_right ..;have hd3:((CV (w d) (w p):Nat):Int)∣(((w d).natAbs:Nat):Int):=Int.dvd_natAbs.2 hd1;have hgle:AY Kd ((CV (w d) (w p):Nat):Int):=by
  have:=Et hd;unfold AY at *
  rw[B9];have:=QI (by omega) (Gk.1 hd1);omega
 have gg:=AZ hgle;have habs:=RW (neg:=(cn (w d)).1) gt.1 (by have:=gt.2;omega);rw[show rv (cn (w d)).1 (cn (w d)).2=w d from At _] at habs;have gab:=AZ (O4 (Et hd));have q1:=O2 (na:=(cn (((w d).natAbs:Nat):Int)).1) (nb:=(cn ((CV (w d) (w p):Nat):Int)).1) gab.1 gg.1 (by rw[show rv (cn ((CV (w d) (w p):Nat):Int)).1 (cn ((CV (w d) (w p):Nat):Int)).2=(CV (w d) (w p):Nat) from At _];omega) (by have:=gab.2;omega) (by have:=gg.2;omega);rw[show rv (cn ((CV (w d) (w p):Nat):Int)).1 (cn ((CV (w d) (w p):Nat):Int)).2=(CV (w d) (w p):Nat) from At _,show rv (cn (((w d).natAbs:Nat):Int)).1 (cn (((w d).natAbs:Nat):Int)).2=((w d).natAbs:Nat) from At _] at q1;have q2:=O2 (na:=((p.map cn).getD (p.length-1) z0).1) (nb:=(cn ((CV (w d) (w p):Nat):Int)).1) gl.1 gg.1 (by rw[show rv (cn ((CV (w d) (w p):Nat):Int)).1 (cn ((CV (w d) (w p):Nat):Int)).2=(CV (w d) (w p):Nat) from At _];omega) (by have:=gl.2;omega) (by have:=gg.2;omega);rw[show rv (cn ((CV (w d) (w p):Nat):Int)).1 (cn ((CV (w d) (w p):Nat):Int)).2=(CV (w d) (w p):Nat) from At _,show rv ((p.map cn).getD (p.length-1) z0).1 ((p.map cn).getD (p.length-1) z0).2=w p from vl] at q2;have hG:(0:Int)<((CV (w d) (w p):Nat):Int):=by omega
 have x1:=Ih hd3;have x2:=Ih hd2;rw[KR hG hd3] at q1;rw[KR hG hd2] at q2;have hsg:=J_ (neg:=(cn (w d)).1) gt.1 (by have:=gt.2;omega);rw[show rv (cn (w d)).1 (cn (w d)).2=w d from At _] at hsg;have fa:AY Kd ((((w d).natAbs:Nat):Int) / ((CV (w d) (w p):Nat):Int)):=by
  rcases R' (O4 (Et hd)) (CV (w d) (w p)) with g | g
  ·exact g
  ·exact absurd hd3 g
 have fb:AY J (w p / ((CV (w d) (w p):Nat):Int)):=by
  rcases R' (Et hp) (CV (w d) (w p)) with g | g
  ·exact g
  ·exact absurd hd2 g
 generalize hGd:((CV (w d) (w p):Nat):Int)=G at *
 generalize hx:(((w d).natAbs:Nat):Int) / G=x at *
 generalize hy:w p / G=y at *
 have pst:∀ b:Int,G*b=sg (w d)*w p->D2 p d=prim (C5 p d x b p.length):=by
  intro b hb;have h:=S_ (r:=p) (d:=d) (c:=1) (g:=G) (a:=x) (b:=b) (by decide) hG x1 hb;rwa [show Ax 1 d=d by unfold Ax;simp] at h
 have fin:∀ b:Int,G*b=sg (w d)*w p->AY J b->H I 115 [.sl p.length (pc ((C5 p d x b p.length).map cn))] (.fresh 2 ((D2 p d).map cn).length (pc ((D2 p d).map cn))):=by
  intro b hb fb';have hK:=QJ hp hd fa fb' p.length;have h:=Ec (rs:=(C5 p d x b p.length).map cn) (AP hK) (by omega) (by rw[N,D'];exact hN);(first|rw[AH,<- pst b hb,N,D'] at h|(rw[AH,<- pst b hb] at h;unfold sL at h;rw[N,D'] at h));rw[N];exact h
 by_cases hneg:w d<0
 ·have hng:=RU (neg:=(cn y).1) (xs:=(cn y).2) (BC _) (by have:=fb.len;rw[Ht];omega);rw[show rv (cn y).1 (cn y).2=y from At _] at hng;have hb:G * -y=sg (w d)*w p:=by unfold sg;rw[if_pos hneg,DY,x2];omega
  have hin:=VN (t:=cn (w d)) hp hd fa fb.neg hS hl hN;have k:=Ard (d.map cn) p.length (p.map cn) (cn (w d)) _ _ _ _ G _ x y (-y) _ _ (B8 (w d)) _ _ _ (by rw[decide_eq_true_eq,N];omega) (by unfold B8;rw[if_pos hneg];rfl) (by rw[e1];omega) (by rw[N]) (by rw[e1,F];exact hgcd) habs q1 (by rw[e1,F];exact q2) hsg hng (by rw[e2];exact hin) (fin (-y) hb fb.neg);(first|rw[N] at k|(unfold sL at k;rw[N] at k));exact k
 ·have hb:G*y=sg (w d)*w p:=by unfold sg;rw[if_neg hneg,x2];omega
  have hin:=VN (t:=cn (w d)) hp hd fa fb hS hl hN;have k:=Are (d.map cn) p.length (p.map cn) (cn (w d)) _ _ _ _ G _ x y _ _ (B8 (w d)) _ _ _ (by rw[decide_eq_true_eq,N];omega) (by unfold B8;rw[if_neg hneg];split <;> rfl) (by rw[e1];omega) (by rw[N]) (by rw[e1,F];exact hgcd) habs q1 (by rw[e1,F];exact q2) hsg (by rw[e2];exact hin) (fin y hb fb);(first|rw[N] at k|(unfold sL at k;rw[N] at k));exact k
end
theorem yY{d:List Int}{Kd:Nat}(hd:Kb Kd d)(hd0:d ≠ [])(ht:w d ≠ 0):∀ (f:Nat) (p:List Int) (J:Nat),p.length<=f->Kb J p->J+(p.length+1-d.length)*(Kd+1)<1048576->p.length<=1048576 ->
  W I (.loop Pv) (Jk (d.map cn) p.length (p.map cn) (cn (w d))) (.exit 0) (Jk (d.map cn) (DT f p d).length ((DT f p d).map cn) (cn (w d))):=by
 have hdl:=An.2 hd0;intro f;induction f with
 | zero =>
  intro p J hf _ _ _;exact Al (dQ (d.map cn) p.length (p.map cn) (cn (w d)) (by rw[decide_eq_false_iff_not,N];omega)) (by nofun)
 | succ f ih =>
  intro p J hf hJ hS hN;simp only[DT];split
  ·rename_i hl;have hplen:=ID hd0 hl;have e:((D2 p d).length+1-d.length)+1<=p.length+1-d.length:=by omega
   have:=A8 (Kd+1) e;rw[DK,ES] at this;have h1:=yX hJ hd (by
    have h2:1*(Kd+1)<=(p.length+1-d.length)*(Kd+1):=A8 _ (by omega);omega) hd0 ht hl hN
   exact W.loop h1 (ih (D2 p d) (J+Kd+1) (by omega) (R_ hJ hd) (by omega) (by omega))
  ·rename_i hl;exact Al (dQ (d.map cn) p.length (p.map cn) (cn (w d)) (by rw[decide_eq_false_iff_not,N];omega)) (by nofun)
theorem Jm{rs ss:List Rn}{J K:Nat}(hr:∀ r∈rs,u J r)(hs:∀ r∈ss,u K r)(hJ:J<1048576)(hK:K<1048576)(hn:rs.length<=1048576)(hm:ss.length<=1048576)(h0:prim (M ss) ≠ [])(hS:J+((prim (M rs)).length+1-(prim (M ss)).length)*(K+1)<1048576) :
  H I 118 [sL pc rs,sL pc ss] (.fresh 2 (Bz (prim (M rs)) (prim (M ss))).length (pk (Bz (prim (M rs)) (prim (M ss))))):=by
 have p1:=Ec hr hJ hn;have p2:=Ec hs hK hm;have k1:Kb J (prim (M rs)):=(HU (C4 hr)).prim;have k2:Kb K (prim (M ss)):=(HU (C4 hs)).prim;have l1:(prim (M rs)).length<=rs.length:=by rw[BS];have:=Bn (M rs);rwa [s] at this
 have l2:(prim (M ss)).length<=ss.length:=by rw[BS];have:=Bn (M ss);rwa [s] at this
 have hl:=An.2 h0;have ht:w (prim (M ss)) ≠ 0:=E8 (Ce _) h0;have hlp:=yY k2 h0 ht (prim (M rs)).length (prim (M rs)) J (Am _) k1 hS (by omega);have e1:D R (((((prim (M ss)).map cn).length:Nat):Int)-1)=(((prim (M ss)).length-1:Nat):Int):=by rw[N,AW (by omega) (by omega)];omega
 have p1':H I 115 [sL pc rs] (.fresh 2 ((prim (M rs)).map cn).length (pc ((prim (M rs)).map cn))):=by rw[N];exact p1
 have p2':H I 115 [sL pc ss] (.fresh 2 ((prim (M ss)).map cn).length (pc ((prim (M ss)).map cn))):=by rw[N];exact p2
 have k:=Arf rs ss _ _ ((Bz (prim (M rs)) (prim (M ss))).map cn) (cn (w (prim (M ss)))) (Bz (prim (M rs)) (prim (M ss))).length p1' p2' (by rw[e1,N];omega) (by
  rw[e1,F,EQ (show (prim (M ss)).length-1<(prim (M ss)).length by omega),N];exact hlp)
 exact k
theorem XU:∀ (f:Nat) (x y:List Int) (M:Nat),0<M->y.length<=f->y.length<=x.length->x.length<=1048576->prim x=x->prim y=y->Kb (M-1) x->Kb (M-1) y->M*Iz x.length y.length<=500000 ->
  ∃ bs,W I (.loop Py) (Jl (x.map cn) (y.map cn)) (.exit 0) (Jl ((Hz f x y).map cn) bs):=by
 intro f;induction f with
 | zero =>
  intro x y M _ h1 _ _ _ _ _ _ _;have:y=[]:=A3 (by omega);subst this;exact⟨_,Al (dU _ _ (by simp)) (by nofun)⟩
 | succ f ih =>
  intro x y M hM h1 h2 h3 px py kx ky hphi;simp only[Hz];split
  ·rename_i h;subst h;exact⟨_,Al (dU _ _ (by simp)) (by nofun)⟩
  ·rename_i h;have hyl:=An.2 h;obtain⟨r1,r2,r3⟩:=JH hM (Cl px) h kx ky h2;have hM':0<M*(x.length-y.length+2):=Eu hM (by omega);have hMle:M<=M*(x.length-y.length+2):=BQ M (by omega);have hbig:M*(x.length-y.length+2)<=500000:=by
    refine Bq (z _ ?_) hphi;unfold Iz;exact BQ _ (Cn (by decide))
   have hrem:=Jm (rs:=x.map cn) (ss:=y.map cn) (AP kx) (AP ky) (by omega) (by omega) (by rw[N];exact h3) (by rw[N];omega) (by rw[AH,py];exact h) (by
    rw[AH,AH,px,py,KO hM,show x.length+1-y.length=x.length-y.length+1 by omega,CP _ M];have:M*(x.length-y.length+2)=M*(x.length-y.length+1)+M:=by rw[<- OH]
    omega)
   rw[AH,AH,px,py] at hrem;have hrem':H I 118 [.sl (x.map cn).length (pc (x.map cn)),.sl (y.map cn).length (pc (y.map cn))] (.fresh 2 ((Bz x y).map cn).length (pc ((Bz x y).map cn))):=by
    have hlm:((Bz x y).map cn).length=(Bz x y).length:=N ..;rw[hlm];exact hrem
   have k:=dR (x.map cn) (y.map cn) _ (by simp;omega) hrem';obtain⟨bs,hb⟩:=ih y (Bz x y) (M*(x.length-y.length+2)) hM' (by omega) (by omega) (by omega) py (HB _ _ _ px) (ky.mono (by omega)) r3 (JI r2 hphi);exact⟨bs,W.loop k hb⟩
def PL(f:Nat)(args:List AV)(p:List Int):Prop:=H I f args (.fresh 2 (p.map cn).length (pc (p.map cn)))\/H I f args (.sl (p.map cn).length (pc (p.map cn)))
theorem QQ{p:List Int}{K:Nat}(hk:Kb K p)(hK:K<=1048576)(hN:p.length<=1048576) :
  (w p<0->H I 155 [.sl (p.map cn).length (pc (p.map cn))] (.fresh 2 ((v p).map cn).length (pc ((v p).map cn))))/\(¬ w p<0->H I 155 [.sl (p.map cn).length (pc (p.map cn))] (.sl (p.map cn).length (pc (p.map cn)))):=by
 have h:=VC (rs:=p.map cn) (fun r hr=>(AP hk r hr).mono hK) (by rw[N];exact hN);rw[AH] at h;refine⟨fun hn => ?_,h.2⟩;have h1:=h.1 hn;have e:v p=BV p:=by unfold v;rw[if_pos hn]
 have hl:((BV p).map cn).length=(p.map cn).length:=by rw[N,N,DC]
 rw[e,hl];exact h1
theorem O7{p:List Int}(h:¬ w p<0):v p=p:=by unfold v;rw [if_neg h]
theorem KT:∀ (f:Nat) (x y:List Int) (M:Nat),0<M->y.length<=f->y.length<=x.length->BU x->BU y->Kb (M-1) x->Kb (M-1) y->Kb (M*Iz x.length y.length-1) (Hz f x y)/\(Hz f x y).length<=x.length:=by
 intro f;induction f with
 | zero =>
  intro x y M hM _ h2 _ _ kx _;refine⟨kx.mono ?_,Am _⟩;have:M*1<=M*Iz x.length y.length:=z _ (by unfold Iz;exact Eu (by omega) (Cn (by decide)));omega
 | succ f ih =>
  intro x y M hM h1 h2 lx ly kx ky;simp only[Hz];split
  ·refine⟨kx.mono ?_,Am _⟩;have:M*1<=M*Iz x.length y.length:=z _ (by unfold Iz;exact Eu (by omega) (Cn (by decide)));omega
  ·rename_i h;have hyl:=An.2 h;obtain⟨r1,r2,r3⟩:=JH hM lx h kx ky h2;have hM':0<M*(x.length-y.length+2):=Eu hM (by omega);have hMle:M<=M*(x.length-y.length+2):=BQ M (by omega);obtain⟨a,b⟩:=ih y (Bz x y) (M*(x.length-y.length+2)) hM' (by omega) (by omega) ly r1 (ky.mono (by omega)) r3;exact⟨a.mono (Nat.sub_le_sub_right (JI r2 (Am _)) 1),by omega⟩
theorem Pa{rs ss:List Rn}{g:List Int}{bs:List Rn}{K:Nat}(hr:∀ r∈rs,u K r)(hs:∀ r∈ss,u K r)(hK:K<1048576)(hn:rs.length<=1048576)(hm:ss.length<=1048576){Kg:Nat}(hg:Kb Kg g)(hKg:Kg<=1048576)(hgl:g.length<=1048576)
  (hl:W I (.loop Py) (Jl ((prim (M rs)).map cn) ((prim (M ss)).map cn)) (.exit 0) (Jl (g.map cn) bs)) :
  PL 135 [sL pc rs,sL pc ss] (v g):=by
 have p1:=Ec hr hK hn;have p2:=Ec hs hK hm;have p1':H I 115 [sL pc rs] (.fresh 2 ((prim (M rs)).map cn).length (pc ((prim (M rs)).map cn))):=by rw[N];exact p1
 have p2':H I 115 [sL pc ss] (.fresh 2 ((prim (M ss)).map cn).length (pc ((prim (M ss)).map cn))):=by rw[N];exact p2
 obtain⟨q1,q2⟩:=QQ hg hKg hgl;by_cases h:w g<0
 ·exact .inl (mI rs ss _ _ (g.map cn) bs _ p1' p2' hl (q1 h))
 ·rw[O7 h];exact .inr (mJ rs ss _ _ (g.map cn) bs p1' p2' hl (q2 h))
theorem Zo{rs ss:List Rn}{K c:Nat}(hr:∀ r∈rs,u K r)(hs:∀ r∈ss,u K r)(hn:rs.length<=c)(hm:ss.length<=c)(hc:c<=1048576)(hS:(K+1)*(2*3^c)<=500000) :
  PL 135 [sL pc rs,sL pc ss] (v (MN (prim (M rs)) (prim (M ss)))):=by
 have h3:0<3^c:=Cn (by decide);have hK:K+1<=500000:=by
  have:(K+1)*1<=(K+1)*(2*3^c):=z _ (by omega);omega
 have k1:Kb K (prim (M rs)):=(HU (C4 hr)).prim;have k2:Kb K (prim (M ss)):=(HU (C4 hs)).prim;have l1:(prim (M rs)).length<=rs.length:=by rw[BS];have:=Bn (M rs);rwa [s] at this
 have l2:(prim (M ss)).length<=ss.length:=by rw[BS];have:=Bn (M ss);rwa [s] at this
 unfold MN;split
 ·rename_i hl;have hphi:(K+1)*Iz (prim (M rs)).length (prim (M ss)).length<=500000:=Bq (z _ (NQ hl (by omega))) hS;obtain⟨bs,hb⟩:=XU (prim (M ss)).length (prim (M rs)) (prim (M ss)) (K+1) (by omega) (Am _) hl (by omega) (BI _) (BI _) k1 k2 hphi;obtain⟨s1,s2⟩:=KT (prim (M ss)).length (prim (M rs)) (prim (M ss)) (K+1) (by omega) (Am _) hl (Ce _) (Ce _) k1 k2;exact Pa hr hs (by omega) (by omega) (by omega) s1 (by omega) (by omega) hb
 ·rename_i hl;have hphi:(K+1)*Iz (prim (M ss)).length (prim (M rs)).length<=500000:=Bq (z _ (NQ (by omega) (by omega))) hS;obtain⟨bs,hb⟩:=XU (prim (M rs)).length (prim (M ss)) (prim (M rs)) (K+1) (by omega) (Am _) (by omega) (by omega) (BI _) (BI _) k2 k1 hphi;obtain⟨s1,s2⟩:=KT (prim (M rs)).length (prim (M ss)) (prim (M rs)) (K+1) (by omega) (Am _) (by omega) (Ce _) (Ce _) k2 k1;have hy0:prim (M ss) ≠ []:=by intro h;rw[h] at hl;simp at hl
  have hsw:Bz (prim (M rs)) (prim (M ss))=prim (M rs):=by
   unfold Bz;cases hx:(prim (M rs)).length with
   | zero=>rfl
   | succ n=>simp only[DT];rw[if_neg hl]
  have hrem:=Jm (rs:=(prim (M rs)).map cn) (ss:=(prim (M ss)).map cn) (AP k1) (AP k2) (by omega) (by omega) (by rw[N];omega) (by rw[N];omega) (by rw[AH,BI];exact hy0) (by
   rw[AH,AH,BI,BI,show (prim (M rs)).length+1-(prim (M ss)).length=0 by omega,S7];omega)
  rw[AH,AH,BI,BI,hsw] at hrem;have hrem':H I 118 [.sl ((prim (M rs)).map cn).length (pc ((prim (M rs)).map cn)),.sl ((prim (M ss)).map cn).length (pc ((prim (M ss)).map cn))] (.fresh 2 ((prim (M rs)).map cn).length (pc ((prim (M rs)).map cn))):=by
   have hlm:((prim (M rs)).map cn).length=(prim (M rs)).length:=N ..;(first|rw[hlm] at hrem |-|(unfold sL at hrem;rw[hlm] at hrem |-));exact hrem
  have k:=dR ((prim (M rs)).map cn) ((prim (M ss)).map cn) _ (by rw[decide_eq_true_eq,N];omega) hrem';exact Pa hr hs (by omega) (by omega) (by omega) s1 (by omega) (by omega) (W.loop k hb)
end Go.Proofs.YtajompaehjkgkaaGreat
namespace Go.Ai
open Classical renaming byContradiction->AE
open Int renaming add_mul->GH,add_zero->B2,mul_assoc->AB,mul_eq_zero->GI,mul_ne_zero->BK,mul_zero->AG,natAbs_natCast->B9,zero_mul->DF
open List renaming eq_nil_of_length_eq_zero->A3,getD_cons_succ->J1,length->Bj,length_pos_iff->An,range->Ao,replicate->Aq
open Nat renaming add_mul->DK,mul_le_mul_left->z,one_mul->ES
open Or renaming inr->T1
theorem XV{p q:List Int}(h:∀ x,V p x=V q x)(x:Int):V (As p) x=V (As q) x :=
 Gd (fun i=>by rw[Dx,Dx,D7 h]) x
theorem VO(a:Int)(p:List Int)(x:Int):V (As (a::p)) x=V p x+x*V (As p) x:=by
 have h:∀ i,(As (a::p)).getD i 0=(DQ p (0::As p)).getD i 0:=by
  intro i;rw[CY,Dx,J1];cases i with
  | zero=>simp
  | succ i=>rw[J1,Dx];push_cast;grind
 rw[Gd h x,BW];simp[V]
theorem yZ(p q:List Int)(x:Int):V (As (DQ p q)) x=V (As p) x+V (As q) x:=by
 rw[<- BW];exact Gd (fun i=>by rw[CY,Dx,Dx,Dx,CY,GH]) x
theorem H3(c:Int)(p:List Int)(x:Int):V (As (Ax c p)) x=c*V (As p) x:=by
 rw[<- A0];exact Gd (fun i=>by rw[AO,Dx,Dx,AO,AB]) x
theorem zA:As []=[]:=rfl
theorem XW(p q:List Int)(x:Int):V (As (BL p q)) x=V (As p) x*V q x+V p x*V (As q) x:=by
 induction p with
 | nil=>simp[BL,zA,V]
 | cons a p ih =>
  simp only[BL];rw[yZ,H3,VO,VO,ih,Bk];simp only[V];generalize V (As p) x=A at *
  generalize V (As q) x=B at *
  grind
theorem PM{r p q:List Int}(h:∀ x,V r x=V p x*V q x)(x:Int):V (As r) x=V (As p) x*V q x+V p x*V (As q) x:=by
 rw[<- XW];exact XV (fun x=>by rw[h x,Bk]) x
theorem Zp{p q:List Int}{c d:Int}(h:∀ x,c*V p x=d*V q x)(x:Int):c*V (As p) x=d*V (As q) x:=by
 rw[<- H3,<- H3];exact XV (fun x=>by rw[A0,A0,h x]) x
theorem Sf(p:List Int):(As p).length<=p.length-1:=by
 unfold As;have:=Bn ((Ao (p.length-1)).map fun j=>p.getD (j+1) 0*((j+1:Nat):Int));simpa using this
theorem VP{K:Nat}{p:List Int}(h:Kb K p)(hl:p.length<=1048576):Kb (K+2) (As p):=fun i=>by
 rw[Dx];by_cases hi:i<1048576
 ·refine ((h (i+1)).mul (k:=1) ?_).mono (by omega);unfold AY;rw[B9];omega
 ·rw[Bv (xs:=p) (by omega),DF];exact G6 _
def GF(h:List Int):Nat->List Int
 | 0=>[1]
 | k+1=>BL (GF h k) h
theorem XX(h:List Int):∀ (k:Nat) (x:Int),V (As (GF h k)) x*V h x=(k:Int)*V (GF h k) x*V (As h) x
 | 0,x=>by simp[GF,As,V,Y,l]
 | k+1,x=>by
  have ih:=XX h k x;simp only[GF];rw[XW,Bk];push_cast;generalize V (As (GF h k)) x=A at *
  generalize V (GF h k) x=B at *
  generalize V (As h) x=C at *
  generalize V h x=H at *
  have:(A*H+B*C)*H=(A*H)*H+B*C*H:=by grind
  rw[this,ih];grind
theorem M6{h:List Int}(hh:Y h ≠ []):∀ k,Y (GF h k) ≠ []/\(Y (GF h k)).length=k*((Y h).length-1)+1
 | 0=>by
  have e:Y (GF h 0)=[1]:=rfl;rw[e];simp
 | k+1=>by
  obtain⟨a,b⟩:=M6 hh k;have h1:=An.2 hh;have e:=NT a hh;have e2:(Y (GF h (k+1))).length=(k+1)*((Y h).length-1)+1:=by
   simp only[GF];rw[e,b,DK,ES];omega
  refine⟨?_,e2⟩;intro h0;rw[h0] at e2;simp at e2
theorem Zq{a G f h:List Int}{c:Int}(ha:Y a ≠ [])(hG:GO G a (As a))(hc:c ≠ 0)(hf:∀ x,c*V a x=V G x*V f x)(h1:Dv h f)(h2:Dv h (As f)):(Y h).length=1:=by
 obtain⟨g1,⟨c2,e,hc2,he⟩,c3,u,v,hc3,hb⟩:=hG;have hG0:Y G ≠ []:=(g1.length ha).2;have hf0:Y f ≠ []:=by
  intro h0;have:Y a=Y []:=by
   apply Hw;intro x;have h3:=hf x;rw[Eb h0,AG] at h3;rcases GI.1 h3 with g | g
   ·exact absurd g hc
   ·exact g
  exact ha this
 have hh0:Y h ≠ []:=(h1.length hf0).2;have hC:∀ x,c*c2*c3=c2*V u x*V f x+c*V v x*V e x:=by
  have h3:=VG hG0 [c*c2*c3] (DQ (Ax c2 (BL u f)) (Ax c (BL v e))) (fun x=>by
   have a1:=hf x;have a2:=he x;have a3:=hb x;rw[BW,A0,A0,Bk,Bk];simp only[V];generalize V G x=G at *
   generalize V f x=f at *
   generalize V e x=e at *
   generalize V u x=u at *
   generalize V v x=v at *
   generalize V (As a) x=a' at *
   generalize V a x=a at *
   have e1:G*(c*c2*c3+x*0)=c*c2*(c3*G):=by grind
   rw[e1,a3];have e2:c*c2*(u*a+v*a')=c2*u*(c*a)+c*v*(c2*a'):=by grind
   rw[e2,a1,a2];grind)
  intro x;have h4:=h3 x;rw[BW,A0,A0,Bk,Bk] at h4;simp only[V,AG,B2] at h4;grind
 have hd:∀ x,c*(V G x*V e x)=c2*(V (As G) x*V f x+V G x*V (As f) x):=by
  intro x;have a1:=PM (r:=Ax c a) (p:=G) (q:=f) (fun x=>by rw[A0];exact hf x) x;rw[H3] at a1;have a2:=he x;rw[<- a1,<- a2];grind
 obtain⟨c4,t,hc4,ht⟩:=h1;obtain⟨c5,w,hc5,hw⟩:=h2;have hft:∀ x,c4*V (As f) x=V (As h) x*V t x+V h x*V (As t) x:=by
  intro x;have a1:=PM (r:=Ax c4 f) (p:=h) (q:=t) (fun x=>by rw[A0];exact ht x) x;rw[H3] at a1;exact a1
 have hk:∀ k,Dv (GF h k) G:=by
  intro k;induction k with
  | zero=>exact⟨1,G,by decide,fun x=>by simp[GF,V]⟩
  | succ k ih =>
   obtain⟨ck,s,hck,hs⟩:=ih;obtain⟨p1,_⟩:=M6 hh0 k;have hGs:∀ x,ck*V (As G) x=V (As (GF h k)) x*V s x+V (GF h k) x*V (As s) x:=by
    intro x;have a1:=PM (r:=Ax ck G) (p:=GF h k) (q:=s) (fun x=>by rw[A0];exact hs x) x;rw[H3] at a1;exact a1
   have hes:∀ x,c4*c5*c*(V e x*V s x)=V h x*(c2*((k:Int)*V s x*(c4*V w x-c5*V (As t) x)+c5*(V (As s) x*V t x)+c4*(V s x*V w x))):=by
    have h3:=VG (p:=BL (GF h k) h) (by
      intro h0;have:=NT p1 hh0;rw[h0] at this;have:=An.2 p1;have:=An.2 hh0;simp at *
      omega) (Ax (c4*c5*c) (BL e s)) (BL h (Ax c2 (DQ (DQ (BL (Ax (k:Int) s) (L9 (Ax c4 w) (Ax c5 (As t)))) (Ax c5 (BL (As s) t))) (Ax c4 (BL s w))))) (fun x=>by
     have a1:=hd x;have a2:=ht x;have a3:=hw x;have a4:=hft x;have a5:=hs x;have a6:=hGs x;have a7:=XX h k x;simp only[Bk,A0,BW,Fu];generalize V (As (GF h k)) x=P' at *
     generalize V (As G) x=G' at *
     generalize V (As f) x=f' at *
     generalize V (As h) x=h' at *
     generalize V (As t) x=t' at *
     generalize V (As s) x=s' at *
     generalize V (GF h k) x=P at *
     generalize V G x=G at *
     generalize V f x=f at *
     generalize V e x=e at *
     generalize V h x=h at *
     generalize V t x=t at *
     generalize V w x=w at *
     generalize V s x=s at *
     have b1:P*h*(c4*c5*c*(e*s))=c4*c5*h*(c*((P*s)*e)):=by grind
     rw[b1,<- a5];have b2:c4*c5*h*(c*(ck*G*e))=c4*c5*h*ck*(c*(G*e)):=by grind
     rw[b2,a1];have b3:c4*c5*h*ck*(c2*(G'*f+G*f'))=c5*c2*((ck*G')*h*(c4*f)+(ck*G)*h*(c4*f')):=by grind
     rw[b3,a6,a5,a2];have b4:(P'*s+P*s')*h*(h*t)=(P'*h)*s*h*t+P*s'*h*h*t:=by grind
     rw[b4,a7];have b5:(k:Int)*P*h'*s*h*t=(k:Int)*P*s*h*(h'*t):=by grind
     have b6:h'*t=c4*f'-h*t':=by omega
     rw[b5,b6];have b7:c5*c2*((k:Int)*P*s*h*(c4*f'-h*t')+P*s'*h*h*t+P*s*h*(c4*f'))=c2*((k:Int)*P*s*h*(c4*(c5*f')-c5*(h*t'))+c5*(P*s'*h*h*t)+P*s*h*(c4*(c5*f'))):=by grind
     rw[b7,a3];grind)
    intro x;have h4:=h3 x;simp only[Bk,A0,BW,Fu] at h4;exact h4
   have d1:Dv h (BL e s):=⟨c4*c5*c,Ax c2 (DQ (DQ (BL (Ax (k:Int) s) (L9 (Ax c4 w) (Ax c5 (As t)))) (Ax c5 (BL (As s) t))) (Ax c4 (BL s w))),BK (BK hc4 hc5) hc,fun x=>by
    simp only[Bk,A0,BW,Fu];exact hes x⟩
   have d2:Dv h (BL f s):=WS s ⟨c4,t,hc4,ht⟩ (fun x=>Bk _ _ x);have d3:Dv h s:=LG (m:=c*c2*c3) (Ax c2 u) (Ax c v) (BK (BK hc hc2) hc3) d2 d1 (fun x=>by
    rw[hC x];simp only[Bk,A0];grind)
   obtain⟨c6,s2,hc6,hs2⟩:=d3;refine⟨c6*ck,s2,BK hc6 hck,fun x => ?_⟩;have a1:=hs x;have a2:=hs2 x;simp only[GF];rw[Bk,AB,a1];have b1:c6*(V (GF h k) x*V s x)=V (GF h k) x*(c6*V s x):=by grind
   rw[b1,a2];grind
 have hh1:=An.2 hh0;apply AE;intro hn;have h3:=((hk (Y G).length).length hG0).1;rw[(M6 hh0 _).2] at h3;have:(Y G).length*1<=(Y G).length*((Y h).length-1):=z _ (by omega);omega
def Af(p:List Int):List Int :=
 if (v (prim p)).length<2\/(Dy (v (prim p)) (As (v (prim p)))).length<2 then v (prim p)
 else prim (GE (Dy (v (prim p)) (As (v (prim p)))) ((v (prim p)).length-(Dy (v (prim p)) (As (v (prim p)))).length+1) (v (prim p)) (Aq ((v (prim p)).length-(Dy (v (prim p)) (As (v (prim p)))).length+1) 0))
theorem QR{g:List Int}(h:g.length=1):∃ c,g=[c]:=by
 match g,h with
 | [c],_=>exact⟨c,rfl⟩
theorem dZ{a:List Int}(la:BU a)(h0:a ≠ [])(ca:AL a=1)(ta:0<w a)(f:List Int)
  (hf:f=if a.length<2\/(Dy a (As a)).length<2 then a else prim (GE (Dy a (As a)) (a.length-(Dy a (As a)).length+1) a (Aq (a.length-(Dy a (As a)).length+1) 0))) :
  BU f/\AL f=1/\0<w f/\f ≠ []/\f.length=a.length-(Dy a (As a)).length+1/\∃ c d:Int,c ≠ 0/\d ≠ 0/\∀ x,c*V a x=d*(V (Dy a (As a)) x*V f x):=by
 have hta:Y a ≠ []:=F4 la h0;have hG:=JJ a (As a);have lG:=Ki a (As a);have nG:=LH (t:=As a) hta;have tG:=Se (t:=As a) hta;have hGl:=(hG.1.length hta).1;rw[lG,la] at hGl;have hal:=An.2 h0;have hgl:=An.2 nG;generalize Dy a (As a)=G at *
 by_cases hs:a.length<2\/G.length<2
 ·rw[if_pos hs] at hf;subst hf;have hG1:G.length=1:=by omega
  obtain⟨c,rfl⟩:=QR hG1;refine⟨la,ca,ta,h0,by omega,c,1,?_,by decide,fun x=>by simp[V]⟩;have:w [c]=c:=rfl;omega
 ·rw[if_neg hs] at hf;obtain⟨c',r',c1,r1,r2,r3⟩:=Tb (p:=a) (q:=G) nG tG hGl;generalize GE G (a.length-G.length+1) a (Aq (a.length-G.length+1) 0)=o at *
  have to:=XL c1 ta nG tG hGl r2 r3 r1;have hr0:Y r'=[]:=by
   apply AE;intro hn;have hd:Dv G r':=LG (m:=1) [c'] (BV o) (by decide) hG.1 (Dv.refl G) (fun x=>by
    have:=r3 x;rw[IS];simp only[V];grind)
   have h1:=(hd.length hn).1;rw[lG] at h1;have hl1:=An.2 hn;have h2:=E8 (Hy r') hn;rw[CX,r1 _ (by omega)] at h2;exact h2 rfl
  have ho0:o ≠ []:=by intro h1;rw[h1] at r2;simp at r2
  have lo:BU o:=NP (T1 (by unfold w at to;omega));obtain⟨m,hm,hpe⟩:=H1 o;subst hf;refine⟨Ce o,Kf (F4 lo ho0),OZ to,?_,by rw[BS,lo,r2],c',m,by omega,hm,fun x => ?_⟩
  ·intro h1;rw[DX,<- CW,lo] at h1;exact ho0 h1
  ·rw[r3 x,Eb hr0,hpe x];grind
theorem VQ{p:List Int}(hp:Y p ≠ []):BU (v (prim p))/\v (prim p) ≠ []/\AL (v (prim p))=1/\0<w (v (prim p))/\(v (prim p)).length=(Y p).length/\∃ m:Int,m ≠ 0/\∃ n:Int,n ≠ 0/\∀ x,n*V p x=m*V (v (prim p)) x:=by
 have h1:prim p ≠ []:=by intro h;rw[DX,<- CW] at h;exact hp h
 obtain⟨m,hm,h2⟩:=H1 p;obtain⟨n,hn,h3⟩:=VJ (prim p);refine⟨M3 (Ce p),?_,by rw[VL];exact Kf hp,XR (Ce p) h1,by rw[J2,BS],m,hm,n,hn,fun x=>by rw[h2 x,h3 x];grind⟩;intro h;have:=congrArg Bj h;rw[J2] at this;exact h1 (A3 this)
theorem T9{f:List Int}(lf:BU f)(cf:AL f=1)(tf:0<w f):v (prim f)=f:=by
 rw[IH lf cf];unfold v;rw[if_neg (by omega)]
theorem Fi{p:List Int}(hp:Y p ≠ []):BU (Af p)/\AL (Af p)=1/\0<w (Af p)/\Af p ≠ []/\Dv (Af p) p /\
  (Af p).length+(Dy (v (prim p)) (As (v (prim p)))).length=(Y p).length+1/\GO (Dy (v (prim p)) (As (v (prim p)))) p (As p)/\(Dy (Af p) (As (Af p))).length=1:=by
 obtain⟨la,h0,ca,ta,hl,m,hm,n,hn,hpe⟩:=VQ hp;obtain⟨lf,cf,tf,f0,fl,c,d,hc,hd,hcd⟩:=dZ la h0 ca ta (Af p) rfl;have hta:Y (v (prim p)) ≠ []:=F4 la h0;have hG:=JJ (v (prim p)) (As (v (prim p)));have lG:=Ki (v (prim p)) (As (v (prim p)));have nG:=LH (t:=As (v (prim p))) hta;have hGl:=(hG.1.length hta).1;rw[lG,la] at hGl;have hder:∀ x,n*V (As p) x=m*V (As (v (prim p))) x:=Zp hpe;generalize v (prim p)=a at *
 generalize Dy a (As a)=G at *
 generalize Af p=f at *
 have hal:=An.2 h0;have hgl:=An.2 nG;refine⟨lf,cf,tf,f0,?_,by omega,?_,?_⟩
 ·have h1:Dv f a:=⟨c,Ax d G,hc,fun x=>by rw[hcd x,A0];grind⟩;exact h1.scaled hn hpe
 ·exact hG.scaled hn hm hn hm hpe hder
 ·have hK:=JJ f (As f);have nK:=LH (t:=As f) (F4 lf f0);have lK:=Ki f (As f);have h1:=Zq (h:=Dy f (As f)) (f:=Ax d f) (c:=c) hta hG hc (fun x=>by rw[hcd x,A0];grind)
   (hK.1.scaled (m:=1) (n:=d) (by decide) (fun x=>by rw[A0];omega)) (hK.2.1.scaled (m:=1) (n:=d) (by decide) (fun x=>by rw[H3];omega))
  rwa [lK] at h1
theorem eA{f:List Int}(lf:BU f)(cf:AL f=1)(tf:0<w f)(h:(Dy f (As f)).length<2):Af f=f:=by
 unfold Af;rw[T9 lf cf tf];exact if_pos (T1 h)
theorem J3{p:List Int}(hp:Y p ≠ []):Af (Af p)=Af p:=by
 obtain⟨lf,cf,tf,f0,_,_,_,h1⟩:=Fi hp;exact eA lf cf tf (by omega)
theorem XY{p:List Int}{K:Nat}(hp:Y p ≠ [])(hl:p.length<=9)(hK:Kb K p):Kb (K+3) (Af p)/\(Af p).length<=(Y p).length:=by
 obtain⟨lf,cf,tf,f0,hd,_,_,_⟩:=Fi hp;have h1:=(hd.length hp).1;rw[lf] at h1;obtain⟨c,k,hc,hk⟩:=hd;have:=Bn p;exact⟨QO hc cf hp hl (by omega) hK hk,h1⟩
end Go.Ai
namespace Go.Proofs.YtajompaehjkgkaaGreat
open Go.Ai
set_option maxRecDepth 100000
open BitVec renaming ofInt->T,or_comm->Of
open Bool renaming eq_iff_iff->ZH,false_or->Wu,or_eq_false_iff->MG
open Decidable renaming decide->B
open Go.IntKind renaming bits->Aj,i64->R,u32->A4,u64->U,wrap->D
open Int renaming add_comm->Ij,add_mul_ediv_left->HH,add_mul_emod_self_left->T0,add_zero->B2,ediv_eq_zero_of_lt->DN,ediv_nonneg->IV,emod_eq_of_lt->FT,emod_lt_of_pos->DU,emod_nonneg->EK,fdiv->d,fdiv_eq_ediv_of_nonneg->t,le_of_lt->Aw,mul_add->C1,mul_assoc->AB,mul_comm->AD,mul_ediv_add_emod->Gj,mul_ediv_cancel_left->BN,mul_eq_zero->GI,mul_le_mul_of_nonneg_left->Ah,mul_lt_mul_right->nH,mul_neg->DY,mul_nonneg->A1,mul_one->Dp,mul_pos->BE,mul_zero->AG,natAbs->E,natAbs_mul->BA,natAbs_of_nonneg->Ky,natAbs_pow->Kx,natCast_mul->Dj,one_mul->CR,pow_add->B4,pow_succ->Ay,pow_zero->Da,sub_zero->EI,tdiv->o,tdiv_eq_ediv_of_nonneg->B0,tmod->f,tmod_eq_emod_of_nonneg->Bc,toNat->A,toNat_natCast->F,zero_add->Db,zero_ediv->Auu,zero_mul->DF
open List renaming any_eq_false->Ph,any_eq_true->Yy,drop_eq_getElem_cons->CU,eq_nil_of_length_eq_zero->A3,ext_getElem?->FS,getD_eq_getElem?_getD->Z,getElem?_append_left->AJ,getElem?_append_right->AN,getElem?_drop->AX,getElem?_eq_getElem->Ae,getElem?_eq_none->AC,getElem?_map->CA,getElem?_set_self->Ww,getElem?_take_of_lt->Bw,getElem_mem->Dc,length->Bj,length_append->AU,length_drop->Ed,length_map->N,length_pos_iff->An,length_range->BY,length_replicate->EW,length_set->AS,length_take->A7,map_append->DR,map_cons->Cz,map_map->Auq,map_nil->FF,map_replicate->A5f,map_set->Aup,mem_cons->CH,mem_iff_getElem->Hf,range->Ao,range_succ->FX,replicate->Aq,set_set->Rl
open Nat renaming add_assoc->CO,add_comm->H',add_mul->DK,add_zero->FB,le_add_right->OI,le_mul_of_pos_right->BQ,le_refl->Am,le_trans->Bq,log2->BZ,log2_lt->Jv,lt_or_ge->Ck,mod_lt->G5,mul_comm->CP,mul_le_mul->Bx,mul_le_mul_left->z,mul_le_mul_right->A8,mul_pos->Eu,mul_succ->OH,one_mul->ES,pow_le_pow_right->Bm,pow_lt_pow_right->PF,pow_mul->A5c,pow_pos->Cn,sub_add_cancel->KO,sub_self->Lt,sub_zero->Ls,zero_add->BR,zero_le->Bf,zero_mul->S7
theorem mN{E rs:List Rn}{m:Nat}(hl:E.length=rs.length)(h:∀ x,x<m->E.getD x z0=rs.getD x z0):Fw E rs m=rs:=by
 apply FS;intro t;unfold Fw;by_cases ht:t<m
 ·by_cases hm:t<E.length
  ·have:=h t ht;rw[Z,Z,Ae hm,Ae (by omega)] at this;rw[AJ (by rw[A7];omega),Bw ht,Ae hm,Ae (by omega)];simpa using this
  ·rw[AC (by rw[AU,A7,Ed];omega),AC (by omega)]
 ·by_cases hm:m<=E.length
  ·rw[AN (by rw[A7];omega),A7,AX];congr 1;omega
  ·rw[AC (by rw[AU,A7,Ed];omega),AC (by omega)]
theorem mO{E rs:List Rn}{m:Nat}(hl:E.length=rs.length)(hm:m<=rs.length)(h:∀ x,m<=x->E.getD x z0=rs.getD x z0):Fw E rs m=E:=by
 apply FS;intro t;unfold Fw;by_cases ht:t<m
 ·rw[AJ (by rw[A7];omega),Bw ht]
 ·rw[AN (by rw[A7];omega),A7,AX,show m+(t-min m E.length)=t by omega];by_cases hm:t<E.length
  ·have:=h t (by omega);rw[Z,Z,Ae hm,Ae (by omega)] at this;rw[Ae hm,Ae (by omega)];simpa using this.symm
  ·rw[AC (by omega),AC (by omega)]
section
variable {p q:List Int} {J Kq:Nat}
theorem Sg{c:Int}(hp:Kb J p)(hc:AY Kq c):Kb (J+Kq) (Ax c p):=fun i=>by
 rw[AO,H'];exact hc.mul (hp i)
theorem A4l{t:Int}{l:Rn}{qs os:List Rn}{kq:Nat}{j:Int}(hp:Kb J p)(ht:AY Kq t)(hS:J+Kq<1048576)(hN:p.length<=1048576) :
  W I (.loop Oo) (IE qs p.length (p.map cn) (cn t) kq os j l (p.length:Nat) 0) (.exit 2) (IE qs p.length ((Ax t p).map cn) (cn t) kq os j l (p.length:Nat) (p.length:Nat)):=by
 have hE:((Ax t p).map cn).length=(p.map cn).length:=by rw[N,N,AT]
 have hpl:(p.map cn).length=p.length:=N ..;have h:=W.up (prog:=I) (c:=Oo) (ex := .exit 2) (fin:=IE qs p.length ((Ax t p).map cn) (cn t) kq os j l (p.length:Nat) (p.length:Nat))
  (fun i=>IE qs p.length (Fw ((Ax t p).map cn) (p.map cn) i) (cn t) kq os j l (p.length:Nat) (i:Nat)) p.length (by nofun) ?_ ?_ 0 (Bf _)
 ·rw[M4] at h;exact h
 ·intro i hi;have ei:D R ((i:Int)+1)=((i+1:Nat):Int):=by rw[AW (by omega) (by omega)];omega
  have hml:=GP hE i;have hget:=LI hE (i:=i) (by omega);have hEi:((Ax t p).map cn).getD i z0=cn ((Ax t p).getD i 0):=EQ (by rw[AT];exact hi);have hset:=LJ hE (i:=i) (by omega);rw[hEi,AO] at hset;have gp:=A' (AP hp) i;have gt:=AZ ht;have vi:=FQ p i;have m1:=LK gp gt (by omega);generalize Fw ((Ax t p).map cn) (p.map cn) i=M at *
  have k:=yP qs p.length M (cn t) kq os j l (p.length:Nat) (i:Nat) (by simp;omega) (by omega) (by omega) (by rw[F,hget];exact m1);refine k.to rfl ?_;simp only[ei,F,hget];rw[vi,At,AD,hset]
 ·rw[show Fw ((Ax t p).map cn) (p.map cn) p.length=(Ax t p).map cn by have h:=M5 hE;rw[hpl] at h;exact h];exact yQ _ _ _ _ _ _ _ _ _ _ (by simp)
theorem A4m{t:Int}{l:Rn}{qs rs:List Rn}{k:Nat}{j:Int}(hp:Kb J p)(ht:AY Kq t)(hS:J+Kq<1048576)(hN:p.length<=1048576) :
  W I (.loop Oq) (IF qs k rs (cn t) p.length (p.map cn) j l (p.length:Nat) 0) (.exit 4) (IF qs k rs (cn t) p.length ((Ax t p).map cn) j l (p.length:Nat) (p.length:Nat)):=by
 have hE:((Ax t p).map cn).length=(p.map cn).length:=by rw[N,N,AT]
 have hpl:(p.map cn).length=p.length:=N ..;have h:=W.up (prog:=I) (c:=Oq) (ex := .exit 4) (fin:=IF qs k rs (cn t) p.length ((Ax t p).map cn) j l (p.length:Nat) (p.length:Nat))
  (fun i=>IF qs k rs (cn t) p.length (Fw ((Ax t p).map cn) (p.map cn) i) j l (p.length:Nat) (i:Nat)) p.length (by nofun) ?_ ?_ 0 (Bf _)
 ·rw[M4] at h;exact h
 ·intro i hi;have ei:D R ((i:Int)+1)=((i+1:Nat):Int):=by rw[AW (by omega) (by omega)];omega
  have hml:=GP hE i;have hget:=LI hE (i:=i) (by omega);have hEi:((Ax t p).map cn).getD i z0=cn ((Ax t p).getD i 0):=EQ (by rw[AT];exact hi);have hset:=LJ hE (i:=i) (by omega);rw[hEi,AO] at hset;have gp:=A' (AP hp) i;have gt:=AZ ht;have vi:=FQ p i;have m1:=LK gp gt (by omega);generalize Fw ((Ax t p).map cn) (p.map cn) i=M at *
  have k:=yR qs k rs (cn t) p.length M j l (p.length:Nat) (i:Nat) (by simp;omega) (by omega) (by omega) (by rw[F,hget];exact m1);refine k.to rfl ?_;simp only[ei,F,hget];rw[vi,At,AD,hset]
 ·rw[show Fw ((Ax t p).map cn) (p.map cn) p.length=(Ax t p).map cn by have h:=M5 hE;rw[hpl] at h;exact h];exact yS _ _ _ _ _ _ _ _ _ _ (by simp)
theorem A4n{t:Rn}{l:Int}{os:List Rn}{kq j Jp:Nat}(hp:Kb Jp p)(hq:Kb Kq q)(hl:AY J l)(hS:J+Kq<1048576)(hJp:Jp<1048576)(hN:p.length<=1048576)(hj:j+q.length<=p.length) :
  W I (.loop Ot) (IG (q.map cn) p.length (p.map cn) t kq os (j:Nat) (cn l) (q.length:Nat) 0) (.exit 6) (IG (q.map cn) p.length ((GD p q l j).map cn) t kq os (j:Nat) (cn l) (q.length:Nat) (q.length:Nat)):=by
 have hE:((GD p q l j).map cn).length=(p.map cn).length:=by rw[N,N,Gs]
 have hpl:(p.map cn).length=p.length:=N ..;have gE:∀ x,x<p.length->((GD p q l j).map cn).getD x z0=cn (p.getD x 0-l*(Di j q).getD x 0):=fun x hx=>by
  rw[EQ (by rw[Gs];exact hx),KP _ _ _ _ _ hj]
 have eout:∀ x,(x<j\/j+q.length<=x)->((GD p q l j).map cn).getD x z0=(p.map cn).getD x z0:=by
  intro x hx;by_cases h:x<p.length
  ·rw[gE x h,EQ h,Cu];rcases hx with hx | hx
   ·rw[if_neg (by omega),AG,EI]
   ·rw[if_pos (by omega),Bv (xs:=q) (show q.length<=x-j by omega),AG,EI]
  ·rw[Z,Z,AC (by omega),AC (by omega)]
 have h:=W.up (prog:=I) (c:=Ot) (ex := .exit 6) (fin:=IG (q.map cn) p.length ((GD p q l j).map cn) t kq os (j:Nat) (cn l) (q.length:Nat) (q.length:Nat))
  (fun i=>IG (q.map cn) p.length (Fw ((GD p q l j).map cn) (p.map cn) (j+i)) t kq os (j:Nat) (cn l) (q.length:Nat) (i:Nat)) q.length (by nofun) ?_ ?_ 0 (Bf _)
 ·rw[FB,mN hE (fun x hx=>eout x (.inl hx))] at h;exact h
 ·intro i hi;have ei:D R ((i:Int)+1)=((i+1:Nat):Int):=by rw[AW (by omega) (by omega)];omega
  have eji:D R ((j:Int)+(i:Int))=((j+i:Nat):Int):=by rw[AW (by omega) (by omega)];omega
  have hml:=GP hE (j+i);have hget:=LI hE (i:=j+i) (by omega);have hEi:=gE (j+i) (by omega);rw[Cu,if_pos (by omega),show j+i-j=i by omega] at hEi;have hset:=LJ hE (i:=j+i) (by omega);rw[hEi] at hset;have gp:=A' (AP hp) (j+i);have gq:=A' (AP hq) i;have gl:=AZ hl;have vi:=FQ p (j+i);have vq:=FQ q i;have m1:=LK gl gq (by omega);have f1:AY (J+Kq) (O (cn l)*O ((q.map cn).getD i z0)):=AY.mul (by rw[At];exact hl) gq.fits;have m2:=VM gp (AZ f1) (by omega) (by omega);rw[At (O (cn l)*O ((q.map cn).getD i z0))] at m2;generalize Fw ((GD p q l j).map cn) (p.map cn) (j+i)=M at *
  have k:=yT (q.map cn) p.length M t kq os (j:Nat) (cn l) (q.length:Nat) (i:Nat) (by simp;omega) (by rw[eji];omega) (by omega) (by rw[N];omega) (by rw[F];exact m1) (by rw[eji,F,F,hget];exact m2);refine k.to rfl ?_;simp only[ei,eji,F,hget];rw[vi,vq,At,hset,CO]
 ·rw[mO hE (by omega) (fun x hx=>eout x (.inr hx))];exact yU _ _ _ _ _ _ _ _ _ _ (by simp)
theorem zB{l:Int}(hp:Kb (J+Kq) p)(hq:Kb Kq q)(hl:AY J l)(k:Nat)(hk:k+q.length<=p.length):Kb (J+Kq+1) (GD p q l k):=fun i=>by
 rw[KP _ _ _ _ _ hk,Cu];split
 ·exact (hp i).add (hl.mul (hq _)).neg
 ·rw[AG,EI];exact (hp i).mono (by omega)
theorem qW{l:Int}(hp:Kb J p)(hl:AY J l)(k:Nat):Kb J (p.set k l):=fun i=>by
 by_cases h:i=k
 ·subst h;by_cases hi:i<p.length
  ·rw[Z,Ww hi];exact hl
  ·rw[Bv (by rw[AS];omega)];exact G6 _
 ·rw[Cm (by omega)];exact hp i
end
theorem zC{q:List Int}{Kq:Nat}(hq:Kb Kq q)(hq0:q ≠ []):∀ (k:Nat) (r out:List Int) (J:Nat),Kb J r->Kb J out->J+k*(Kq+1)<1048576->k<=out.length->out.length+q.length=r.length+1->r.length<=1048576 ->
  (∃ r',W I (.loop UM) (PJ (q.map cn) r.length (r.map cn) (cn (w q)) out.length (out.map cn) ((k:Int)-1)) (.exit 0) (PJ (q.map cn) r.length r' (cn (w q)) out.length ((GE q k r out).map cn) (-1)))/\Kb (J+k*(Kq+1)) (GE q k r out)/\(GE q k r out).length=out.length:=by
 have hql:=An.2 hq0;intro k;induction k with
 | zero =>
  intro r out J _ ho _ _ _ _;exact⟨⟨_,Al (Arh _ _ _ _ _ _ _ (by simp)) (by nofun)⟩,ho.mono (by omega),rfl⟩
 | succ k ih =>
  intro r out J hr ho hS hk hl hN;simp only[GE];have hS':J+Kq+1+k*(Kq+1)<1048576:=by rw[DK,ES] at hS;omega
  have el:AY J (r.getD (k+q.length-1) 0):=hr _;have e1:((k+1:Nat):Int)-1=(k:Int):=by omega
  have e2:D R (D R ((k:Int)+(((q.map cn).length:Nat):Int))-1)=((k+q.length-1:Nat):Int):=by
   rw[N,AW (n:=(k:Int)+(q.length:Nat)) (by omega) (by omega),AW (by omega) (by omega)];omega
  have e3:(r.map cn).getD (k+q.length-1) z0=cn (r.getD (k+q.length-1) 0):=EQ (by omega);have e4:D R ((k:Int)-1)=(k:Int)-1:=AW (by omega) (by omega);have ft:AY Kq (w q):=hq _;generalize hlead:r.getD (k+q.length-1) 0=l at *
  have hps:=Sg hr ft;have hpo:=Sg ho ft;have la:=A4l (l:=cn l) (qs:=q.map cn) (os:=out.map cn) (kq:=out.length) (j:=(k:Nat)) hr ft (by omega) hN;have lb:=A4m (l:=cn l) (qs:=q.map cn) (rs:=(Ax (w q) r).map cn) (k:=r.length) (j:=(k:Nat)) ho ft (by omega) (by omega);have hlc:=A4n (t:=cn (w q)) (l:=l) (os:=((Ax (w q) out).set k l).map cn) (kq:=out.length) (j:=k) (p:=Ax (w q) r) (J:=J) hps hq el (by omega) (by omega) (by rw[AT];exact hN) (by rw[AT];omega);rw[AT] at hlc;obtain⟨⟨r',hr'⟩,kb,len⟩:=ih (GD (Ax (w q) r) q l k) ((Ax (w q) out).set k l) (J+Kq+1) (zB hps hq el k (by rw[AT];omega)) (qW (hpo.mono (by omega)) (el.mono (by omega)) k) hS' (by rw[AS,AT];omega) (by rw[AS,AT,Gs,AT];exact hl) (by rw[Gs,AT];exact hN);rw[AS,AT,Gs,AT] at hr';refine⟨⟨r',?_⟩,kb.mono (by rw[DK,ES];omega),by rw[len,AS,AT]⟩;have hset:((Ax (w q) out).map cn).set k (cn l)=((Ax (w q) out).set k l).map cn:=by rw[Aup]
  have k1:=Arg (q.map cn) r.length (r.map cn) (cn (w q)) out.length (out.map cn) (k:Nat) ((Ax (w q) r).map cn) ((GD (Ax (w q) r) q l k).map cn) ((Ax (w q) out).map cn) _ _ _ _ _ _ (by simp) (by rw[e2];omega) (N ..)
   (by rw[e2,F,e3];exact la) (by rw[e2,F,e3];exact lb) (by omega) (by rw[N,AT]) (by rw[e2,F,F,e3,hset,N];exact hlc)
  rw[e2,F,F,e3,hset,e4] at k1;rw[e1];exact W.loop k1 hr'
theorem Arl:cn 0=z0:=rfl
theorem WT{p q:List Int}{J K:Nat}(hp:Kb J p)(hq:Kb K q)(lp:BU p)(hq0:q ≠ [])(hl:q.length<=p.length)(hN:p.length<=1000000)(hS:J+(p.length-q.length+1)*(K+1)<1048576) :
  H I 156 [.sl (p.map cn).length (pc (p.map cn)),.sl (q.map cn).length (pc (q.map cn))] (.fresh 2 ((prim (GE q (p.length-q.length+1) p (Aq (p.length-q.length+1) 0))).map cn).length (pc ((prim (GE q (p.length-q.length+1) p (Aq (p.length-q.length+1) 0))).map cn))):=by
 have hql:=An.2 hq0;have htr:=Hx (rs:=p.map cn) (fun r h=>(AP hp r h).mono (show J<=1048576 by omega)) (by rw[N];omega);rw[AH,lp] at htr;have htr':H I 66 [.sl (p.map cn).length (pc (p.map cn))] (.fresh 2 (p.map cn).length (pc (p.map cn))):=by (first|rw[N] at htr |-|(unfold sL at htr;rw[N] at htr |-));exact htr
 obtain⟨⟨r',hlp⟩,kb,len⟩:=zC hq hq0 (p.length-q.length+1) p (Aq (p.length-q.length+1) 0) J hp (fun i=>by rw[Dw];exact G6 _) hS (by simp) (by simp;omega) (by omega);rw[EW] at hlp len;have e1:D R ((((q.map cn).length:Nat):Int)-1)=((q.length-1:Nat):Int):=by rw[N,AW (by omega) (by omega)];omega
 have e2:D R (D R ((((p.map cn).length:Nat):Int)-(((q.map cn).length:Nat):Int))+1)=((p.length-q.length+1:Nat):Int):=by
  rw[N,N,AW (n:=(p.length:Int)-(q.length:Nat)) (by omega) (by omega),AW (by omega) (by omega)];omega
 have e3:D R (((p.length-q.length+1:Nat):Int)-1)=((p.length-q.length+1:Nat):Int)-1:=AW (by omega) (by omega);have hz:(Aq (p.length-q.length+1) (0:Int)).map cn=Aq (p.length-q.length+1) z0:=by rw[A5f,Arl]
 have hpr:=Ec (rs:=(GE q (p.length-q.length+1) p (Aq (p.length-q.length+1) 0)).map cn) (AP kb) (by omega) (by rw[N];omega);rw[AH] at hpr;have hpr':=hpr;unfold sL at hpr';rw[show ∀ o:List Int,(o.map cn).length=o.length from fun o=>N ..,len] at hpr';have k:=Ari (p.map cn) (q.map cn) (p.map cn) ((prim (GE q (p.length-q.length+1) p (Aq (p.length-q.length+1) 0))).map cn) r' ((GE q (p.length-q.length+1) p (Aq (p.length-q.length+1) 0)).map cn) (cn (w q)) p.length (p.length-q.length+1) (-1) htr' (by rw[e1,N];omega) (by rw[e2];omega) (by
   rw[e1,e2,F,F,e3,N7,<- hz,EQ (show q.length-1<q.length by omega),show (p.map cn).length=p.length from N ..];exact hlp) (by
   have hlm:((prim (GE q (p.length-q.length+1) p (Aq (p.length-q.length+1) 0))).map cn).length=(prim (GE q (p.length-q.length+1) p (Aq (p.length-q.length+1) 0))).length:=N ..;rw[hlm];exact hpr')
 exact k
theorem VR{rs:List Rn}{K c:Nat}(hr:∀ r∈rs,u K r)(hn:rs.length<=c)(hc:c<=9)(hS:(K+3)*(2*3^c)<=500000):PL 114 [sL pc rs] (Af (M rs)):=by
 have h3:0<3^c:=Cn (by decide);have hK:K+3<=250000:=by
  have:(K+3)*2<=(K+3)*(2*3^c):=z _ (by omega);omega
 have p1:=Ec hr (by omega) (by omega);have p1':H I 115 [sL pc rs] (.fresh 2 ((prim (M rs)).map cn).length (pc ((prim (M rs)).map cn))):=by rw[N];exact p1
 have k1:Kb K (prim (M rs)):=(HU (C4 hr)).prim;have l1:(prim (M rs)).length<=rs.length:=by rw[BS];have:=Bn (M rs);rwa [s] at this
 obtain⟨q1,q2⟩:=QQ k1 (by omega) (by omega);have ka:Kb K (v (prim (M rs))):=by
  unfold v;split
  ·intro i;rw[G7];exact (k1 i).neg
  ·exact k1
 have la:=J2 (prim (M rs));have lda:BU (v (prim (M rs))):=M3 (Ce _);have hpp:(¬ w (prim (M rs))<0)->v (prim (M rs))=prim (M rs):=O7;have hder:=O' (rs:=(v (prim (M rs))).map cn) (AP ka) (by omega) (by rw[N];omega);rw[AH] at hder;have hder':H I 116 [.sl ((v (prim (M rs))).map cn).length (pc ((v (prim (M rs))).map cn))] (.fresh 2 ((As (v (prim (M rs)))).map cn).length (pc ((As (v (prim (M rs)))).map cn))):=by
  have hlm:((As (v (prim (M rs)))).map cn).length=(As (v (prim (M rs)))).length:=N ..;rw[hlm];exact hder
 have kd:Kb (K+2) (As (v (prim (M rs)))):=VP ka (by omega);have ld:(As (v (prim (M rs)))).length<=c:=by have:=Sf (v (prim (M rs)));omega
 have hcom:=Zo (rs:=(v (prim (M rs))).map cn) (ss:=(As (v (prim (M rs)))).map cn) (K:=K+2) (c:=c) (fun r h=>(AP ka r h).mono (by omega)) (AP kd) (by rw[N];omega) (by rw[N];exact ld) (by omega) hS;rw[AH,AH] at hcom;change PL 135 _ (Dy (v (prim (M rs))) (As (v (prim (M rs))))) at hcom;have hdiv:2<=(Dy (v (prim (M rs))) (As (v (prim (M rs))))).length->H I 156 [.sl ((v (prim (M rs))).map cn).length (pc ((v (prim (M rs))).map cn)),.sl ((Dy (v (prim (M rs))) (As (v (prim (M rs))))).map cn).length (pc ((Dy (v (prim (M rs))) (As (v (prim (M rs))))).map cn))]
   (.fresh 2 ((prim (GE (Dy (v (prim (M rs))) (As (v (prim (M rs))))) ((v (prim (M rs))).length-(Dy (v (prim (M rs))) (As (v (prim (M rs))))).length+1) (v (prim (M rs))) (Aq ((v (prim (M rs))).length-(Dy (v (prim (M rs))) (As (v (prim (M rs))))).length+1) 0))).map cn).length (pc ((prim (GE (Dy (v (prim (M rs))) (As (v (prim (M rs))))) ((v (prim (M rs))).length-(Dy (v (prim (M rs))) (As (v (prim (M rs))))).length+1) (v (prim (M rs))) (Aq ((v (prim (M rs))).length-(Dy (v (prim (M rs))) (As (v (prim (M rs))))).length+1) 0))).map cn))):=by
  intro h2;have hp0:Y (M rs) ≠ []:=by
   intro h0;have:prim (M rs)=[]:=DX.2 (CW.1 h0);rw[this] at h2;exact absurd h2 (by decide)
  obtain⟨a1,a2,_,_,_,_⟩:=VQ hp0;obtain⟨b1,b2⟩:=dX (t:=As (v (prim (M rs)))) (F4 a1 a2) (by omega) ka;rw[a1] at b2;exact WT ka b1 lda (by intro h0;rw[h0] at h2;exact absurd h2 (by decide)) b2 (by omega) (by
   have h4:(v (prim (M rs))).length-(Dy (v (prim (M rs))) (As (v (prim (M rs))))).length+1<=10:=by omega
   have h5:=A8 (K+3+1) h4;have h6:3^2<=3^c:=Bm (by decide) (by omega);have h7:(K+3)*18<=(K+3)*(2*3^c):=z _ (by omega);omega)
 unfold Af;by_cases hs:(v (prim (M rs))).length<2
 ·rw[if_pos (.inl hs)];by_cases ht:w (prim (M rs))<0
  ·exact .inr (WI rs _ _ (by rw[decide_eq_true_eq,N];omega) p1' (q1 ht))
  ·rw[hpp ht] at hs |-;exact .inr (WP rs _ (by rw[decide_eq_true_eq,N];omega) p1' (q2 ht))
 ·by_cases hg:(Dy (v (prim (M rs))) (As (v (prim (M rs))))).length<2
  ·rw[if_pos (.inr hg)];by_cases ht:w (prim (M rs))<0
   ·rcases hcom with h | h
    ·exact .inr (WJ rs _ _ _ _ (by rw[decide_eq_false_iff_not,N];omega) (by rw[decide_eq_true_eq,N];omega) p1' (q1 ht) hder' h)
    ·exact .inr (WL rs _ _ _ _ (by rw[decide_eq_false_iff_not,N];omega) (by rw[decide_eq_true_eq,N];omega) p1' (q1 ht) hder' h)
   ·rw[hpp ht] at *
    rcases hcom with h | h
    ·exact .inr (WN rs _ _ _ (by rw[decide_eq_false_iff_not,N];omega) (by rw[decide_eq_true_eq,N];omega) p1' (q2 ht) hder' h)
    ·exact .inr (WQ rs _ _ _ (by rw[decide_eq_false_iff_not,N];omega) (by rw[decide_eq_true_eq,N];omega) p1' (q2 ht) hder' h)
  ·rw[if_neg (by omega)];have hdiv:=hdiv (by omega);by_cases ht:w (prim (M rs))<0
   ·rcases hcom with h | h
    ·exact .inl (WK rs _ _ _ _ _ (by rw[decide_eq_false_iff_not,N];omega) (by rw[decide_eq_false_iff_not,N];omega) p1' (q1 ht) hder' h hdiv)
    ·exact .inl (WM rs _ _ _ _ _ (by rw[decide_eq_false_iff_not,N];omega) (by rw[decide_eq_false_iff_not,N];omega) p1' (q1 ht) hder' h hdiv)
   ·rw[hpp ht] at *
    rcases hcom with h | h
    ·exact .inl (WO rs _ _ _ _ (by rw[decide_eq_false_iff_not,N];omega) (by rw[decide_eq_false_iff_not,N];omega) p1' (q2 ht) hder' h hdiv)
    ·exact .inl (WR rs _ _ _ _ (by rw[decide_eq_false_iff_not,N];omega) (by rw[decide_eq_false_iff_not,N];omega) p1' (q2 ht) hder' h hdiv)
def eB(p:List Int):AV := .sl (p.map cn).length (pc (p.map cn))
def plF(p:List Int):AV := .fresh 2 (p.map cn).length (pc (p.map cn))
theorem Eg{f:Nat}{args:List AV}{X:List Int}(h:H I f args (.fresh 2 X.length (pk X))):H I f args (.fresh 2 (X.map cn).length (pc (X.map cn))):=by
 rw[N];exact h
theorem eE(p:List Int):O ((p.map cn).getD (p.length-1) z0)=w p:=FQ p (p.length-1)
theorem M7{p:List Int}{K:Nat}(hk:Kb K p)(hL:BU p)(hK:K<=1048576)(hN:p.length<=1048576) :
  (w p<0->H I 120 [eB p] (plF (v p)))/\(¬ w p<0->H I 120 [eB p] (eB p)):=by
 have hg:∀ r∈p.map cn,u 1048576 r:=fun r hr=>(AP hk r hr).mono hK;have hlm:(p.map cn).length=p.length:=N ..;by_cases h0:0<p.length
 ·have e1:D R ((((p.map cn).length:Nat):Int)-1)=((p.length-1:Nat):Int):=by rw[hlm,AW (by omega) (by omega)];omega
  obtain⟨g1,g2⟩:=A' hg (p.length-1);have hs:=Ge (neg:=((p.map cn).getD (p.length-1) z0).1) g1 g2;have ht:O ((p.map cn).getD (p.length-1) z0)=w p:=eE p;rw[show rv ((p.map cn).getD (p.length-1) z0).1 ((p.map cn).getD (p.length-1) z0).2=w p from ht] at hs;refine⟨fun h => ?_,fun h => ?_⟩
  ·have hn:=XP hg (by omega);rw[AH,H2 hL] at hn;have e:v p=BV p:=by unfold v;rw[if_pos h]
   unfold eB plF;rw[e];exact lO _ _ (by rw[decide_eq_true_eq];omega) (by rw[e1,F,ht,decide_eq_true_eq];unfold B8;rw[if_pos h];decide) (by rw[e1];omega) (by rw[e1,F,ht];exact hs) (Eg hn)
  ·exact lP _ (by rw[decide_eq_true_eq];omega) (by rw[e1,F,ht,decide_eq_false_iff_not];unfold B8;rw[if_neg h];split <;> decide) (by rw[e1];omega) (by rw[e1,F,ht];exact hs)
 ·have hz:p=[]:=A3 (by omega);subst hz;refine⟨fun h=>absurd h (by decide),fun _=>lQ [] (by decide)⟩
theorem mP(n:Int):O (false,(cn n).2)=(n.natAbs:Int):=by
 show rv false (G n.natAbs)=_;unfold rv;rw[Cs];simp
theorem VS{x y:Rn}{J K:Nat}(hx:u J x)(hy:u K y)(h:J+K<=1048576):H I 96 [.agg [.bool x.1,.sl x.2.length (lm x.2)],Ap y] (Ab (O x*O y)):=NA hx.1 hy.1 (by have:=hx.2;have:=hy.2;omega)
theorem Arm{x y:Rn}{J K:Nat}(hx:u J x)(hy:u K y)(h:J<1048576)(h2:K<1048576):H I 129 [Ap x,Ap y] (Ab (O x-O y)):=NB hx.1 hy.1 (by have:=hx.2;omega) (by have:=hy.2;omega)
def MX(p d:List Int)(a b:Int)(j:Nat):Int:=if p.length-d.length<=j then a*p.getD j 0-b*d.getD (j-(p.length-d.length)) 0 else a*p.getD j 0
theorem eF(p d:List Int)(a b:Int)(n:Nat):((Ao n).map fun j=>cn (MX p d a b j))=(C5 p d a b n).map cn:=by
 unfold C5 MX;rw[Auq];rfl
section
variable {p d:List Int} {J Kd:Nat}
theorem QS{b:Int}(hp:Kb J p)(hd:Kb Kd d)(hb:AY J b)(hS:J+Kd+1<1000000)(hd0:d ≠ [])(hl:d.length<=p.length)(hN:p.length<=1048576) :
  W I (.loop KA) (Gf (p.map cn) (d.map cn) (cn (w d)) (cn b) ((p.length-d.length:Nat):Int) 0 [] 0) (.exit 2)
   (Gf (p.map cn) (d.map cn) (cn (w d)) (cn b) ((p.length-d.length:Nat):Int) (p.length-1) (pc ((C5 p d ((w d).natAbs:Int) b (p.length-1)).map cn)) ((p.length-1:Nat):Int)):=by
 have hdl:=An.2 hd0;have hlm:(p.map cn).length=p.length:=N ..;have hld:(d.map cn).length=d.length:=N ..;have e1:D R ((((p.map cn).length:Nat):Int)-1)=((p.length-1:Nat):Int):=by rw[hlm,AW (by omega) (by omega)];omega
 have h:=W.up (prog:=I) (c:=KA) (ex := .exit 2) (fin:=Gf (p.map cn) (d.map cn) (cn (w d)) (cn b) ((p.length-d.length:Nat):Int) (p.length-1) (pc ((C5 p d ((w d).natAbs:Int) b (p.length-1)).map cn)) ((p.length-1:Nat):Int))
  (fun i=>Gf (p.map cn) (d.map cn) (cn (w d)) (cn b) ((p.length-d.length:Nat):Int) i (pc ((Ao i).map fun j=>cn (MX p d ((w d).natAbs:Int) b j))) (i:Nat)) (p.length-1) (by nofun) ?_ ?_ 0 (Bf _)
 ·exact h
 ·intro i hi;have ei:D R ((i:Int)+1)=((i+1:Nat):Int):=by rw[AW (by omega) (by omega)];omega
  have gp:=A' (AP hp) i;have ga:u Kd (false,(cn (w d)).2):=by
   have:=AZ (Et hd);exact⟨this.1,this.2⟩
  have gb:=AZ hb;have vi:=FQ p i;have m1:=VS ga gp (by omega);have va:=mP (w d);by_cases hat:p.length-d.length<=i
  ·have ea:D R ((i:Int)-((p.length-d.length:Nat):Int))=((i-(p.length-d.length):Nat):Int):=by rw[AW (by omega) (by omega)];omega
   have gq:=A' (AP hd) (i-(p.length-d.length));have vq:=FQ d (i-(p.length-d.length));have m2:=VS gb gq (by omega);have f1:AY (Kd+J) (O (false,(cn (w d)).2)*O ((p.map cn).getD i z0)):=ga.fits.mul gp.fits;have f2:AY (J+Kd) (O (cn b)*O ((d.map cn).getD (i-(p.length-d.length)) z0)):=gb.fits.mul gq.fits;have m3:=Arm (AZ f1) (AZ f2) (by omega) (by omega);rw[At (O (false,(cn (w d)).2)*_),At (O (cn b)*O ((d.map cn).getD (i-(p.length-d.length)) z0))] at m3;have k:=xW (p.map cn) (d.map cn) (cn (w d)) (cn b) ((p.length-d.length:Nat):Int) i (pc ((Ao i).map fun j=>cn (MX p d ((w d).natAbs:Int) b j))) (i:Nat) (by rw[e1,decide_eq_true_eq];omega) (by rw[decide_eq_true_eq];omega) (by omega) (by rw[ea];omega) (by omega)
    (by rw[F];exact m1) (by rw[ea,F];exact m2) (by rw[ea,F,F];exact m3)
   refine k.to rfl ?_;rw[ea,F,F,ei];rw[<- Gh (MX p d ((w d).natAbs:Int) b) i];unfold MX;rw[if_pos hat,va,vi,At,vq]
  ·have k:=xX (p.map cn) (d.map cn) (cn (w d)) (cn b) ((p.length-d.length:Nat):Int) i (pc ((Ao i).map fun j=>cn (MX p d ((w d).natAbs:Int) b j))) (i:Nat) (by rw[e1,decide_eq_true_eq];omega) (by rw[decide_eq_false_iff_not];omega) (by omega) (by omega)
    (by rw[F];exact m1)
   refine k.to rfl ?_;rw[F,ei];rw[<- Gh (MX p d ((w d).natAbs:Int) b) i];unfold MX;rw[if_neg hat,va,vi]
 ·show W _ _ (Gf _ _ _ _ _ _ (pc ((Ao (p.length-1)).map fun j=>cn (MX p d ((w d).natAbs:Int) b j))) _) _ _;rw[eF];exact xY _ _ _ _ _ _ _ _ (by rw[e1,decide_eq_false_iff_not];omega)
theorem eG(hp:Kb J p)(hd:Kb Kd d)(hS:J+Kd+1<1000000)(hd0:d ≠ [])(hl:d.length<=p.length)(hN:p.length<=1048576) :
  W I Pw (Jh (p.map cn) (d.map cn) (cn (w d))) .norm (Jh ((D2 p d).map cn) (d.map cn) (cn (w d))):=by
 have hdl:=An.2 hd0;have hlm:(p.map cn).length=p.length:=N ..;have hld:(d.map cn).length=d.length:=N ..;have e1:D R ((((p.map cn).length:Nat):Int)-1)=((p.length-1:Nat):Int):=by rw[hlm,AW (by omega) (by omega)];omega
 have e2:D R ((((p.map cn).length:Nat):Int)-(((d.map cn).length:Nat):Int))=((p.length-d.length:Nat):Int):=by rw[hlm,hld,AW (by omega) (by omega)];omega
 have gt:=AZ (Et hd);have gl:=A' (AP hp) (p.length-1);have vl:=eE p;have hs:=Ge (neg:=(cn (w d)).1) gt.1 (by have:=gt.2;omega);rw[show rv (cn (w d)).1 (cn (w d)).2=w d from At _] at hs;have hT:∀ b,AY J b->b=sg (w d)*w p->H I 46 [.sl (p.length-1) (pc ((C5 p d ((w d).natAbs:Int) b (p.length-1)).map cn))] (.fresh 2 ((Y (C5 p d ((w d).natAbs:Int) b (p.length-1))).map cn).length (pc ((Y (C5 p d ((w d).natAbs:Int) b (p.length-1))).map cn)))
   /\ H I 86 [.sl ((Y (C5 p d ((w d).natAbs:Int) b (p.length-1))).map cn).length (pc ((Y (C5 p d ((w d).natAbs:Int) b (p.length-1))).map cn))] (.fresh 2 ((D2 p d).map cn).length (pc ((D2 p d).map cn))):=by
  intro b fb hb;have kE:Kb (J+Kd+1) (C5 p d ((w d).natAbs:Int) b (p.length-1)):=QJ hp hd (O4 (Et hd)) fb _;have hlE:=D' p d ((w d).natAbs:Int) b (p.length-1);have htl:=Bn (C5 p d ((w d).natAbs:Int) b (p.length-1));refine⟨?_,?_⟩
  ·have h:=ED (rs:=(C5 p d ((w d).natAbs:Int) b (p.length-1)).map cn) (fun r hr=>(AP kE r hr).mono (by omega)) (by rw[N];omega);(first|rw[AH,N,hlE] at h|(rw[AH] at h;unfold sL at h;rw[N,hlE] at h));exact Eg h
  ·have h:=H0 (rs:=(Y (C5 p d ((w d).natAbs:Int) b (p.length-1))).map cn) (AP kE.trim) (by omega) (by rw[N];omega);rw[AH] at h;have e:prim (Y (C5 p d ((w d).natAbs:Int) b (p.length-1)))=D2 p d:=by
    rw[VA hd0 hl,<- hb];exact LC (CX _)
   rw[e] at h;exact Eg h
 by_cases hneg:w d<0
 ·have hng:=RT (neg:=((p.map cn).getD (p.length-1) z0).1) gl.1 (by have:=gl.2;omega);rw[show rv ((p.map cn).getD (p.length-1) z0).1 ((p.map cn).getD (p.length-1) z0).2=w p from vl] at hng;have hb : -(w p)=sg (w d)*w p:=by unfold sg;rw[if_pos hneg];omega
  obtain⟨t1,t2⟩:=hT _ (Et hp).neg hb;exact Aqf (p.map cn) (d.map cn) (cn (w d)) ((C5 p d ((w d).natAbs:Int) (-(w p)) (p.length-1)).map cn) _ _ (p.length-1) ((p.length-1:Nat):Int) (by rw[decide_eq_true_eq];omega) (by rw[At,decide_eq_true_eq];unfold B8;rw[if_pos hneg];decide) (by rw[e1];omega) (by rw[At];exact hs) (by rw[e1,F,vl];exact hng)
   (by rw[e1,e2,F,vl];exact QS hp hd (Et hp).neg hS hd0 hl hN) t1 t2
 ·have hb:w p=sg (w d)*w p:=by unfold sg;rw[if_neg hneg];omega
  obtain⟨t1,t2⟩:=hT _ (Et hp) hb;have hu:(p.map cn).getD (p.length-1) z0=cn (w p):=EQ (by omega);exact Aqg (p.map cn) (d.map cn) (cn (w d)) ((C5 p d ((w d).natAbs:Int) (w p) (p.length-1)).map cn) _ _ (p.length-1) ((p.length-1:Nat):Int) (by rw[decide_eq_true_eq];omega) (by rw[At,decide_eq_false_iff_not];unfold B8;rw[if_neg hneg];split <;> decide) (by rw[e1];omega) (by rw[At];exact hs)
   (by rw[e1,e2,F,hu];exact QS hp hd (Et hp) hS hd0 hl hN) t1 t2
end
theorem eH{d:List Int}{Kd:Nat}(hd:Kb Kd d)(hd0:d ≠ []):∀ (f:Nat) (p:List Int) (J:Nat),p.length<=f->Kb J p->J+(p.length+1-d.length)*(Kd+1)<1000000->p.length<=1048576 ->
  W I (.loop Pw) (Jh (p.map cn) (d.map cn) (cn (w d))) (.exit 0) (Jh ((DT f p d).map cn) (d.map cn) (cn (w d))):=by
 have hdl:=An.2 hd0;intro f;induction f with
 | zero =>
  intro p J hf _ _ _;exact Al (dF (p.map cn) (d.map cn) (cn (w d)) (by rw[decide_eq_false_iff_not,N,N];omega)) (by nofun)
 | succ f ih =>
  intro p J hf hJ hS hN;simp only[DT];split
  ·rename_i hl;have hplen:=ID hd0 hl;have e:((D2 p d).length+1-d.length)+1<=p.length+1-d.length:=by omega
   have:=A8 (Kd+1) e;rw[DK,ES] at this;have h1:=eG hJ hd (by
    have h2:1*(Kd+1)<=(p.length+1-d.length)*(Kd+1):=A8 _ (by omega);omega) hd0 hl hN
   exact W.loop h1 (ih (D2 p d) (J+Kd+1) (by omega) (R_ hJ hd) (by omega) (by omega))
  ·rename_i hl;exact Al (dF (p.map cn) (d.map cn) (cn (w d)) (by rw[decide_eq_false_iff_not,N,N];omega)) (by nofun)
theorem Zr{x y:List Int}(hy:Y y ≠ []):Bz x (Y y)=Bz x (prim y):=by
 unfold Bz;rw[<- KN y,Zj (by have:=Ix hy;omega)]
theorem PN{rs ss:List Rn}{J K:Nat}(hr:∀ r∈rs,u J r)(hs:∀ r∈ss,u K r)(hJ:J<1000000)(hK:K<1000000)(hn:rs.length<=1048576)(hm:ss.length<=1048576)(h0:Y (M ss) ≠ [])(hS:J+((Y (M rs)).length+1-(Y (M ss)).length)*(K+1)<1000000) :
  H I 119 [sL pc rs,sL pc ss] (eB (Bz (prim (M rs)) (prim (M ss)))):=by
 have p1:=H0 hr hJ hn;have p2:=ED (fun r h=>(hs r h).mono (show K<=1048576 by omega)) hm;have k1:Kb J (prim (M rs)):=(HU (C4 hr)).prim;have k2:Kb K (Y (M ss)):=(HU (C4 hs)).trim;have l1:(prim (M rs)).length<=rs.length:=by rw[BS];have:=Bn (M rs);rwa [s] at this
 have l2:(Y (M ss)).length<=ss.length:=by have:=Bn (M ss);rwa [s] at this
 have hl:=An.2 h0;have hlp:=eH k2 h0 (prim (M rs)).length (prim (M rs)) J (Am _) k1 (by rw[BS];exact hS) (by omega);have e1:D R (((((Y (M ss)).map cn).length:Nat):Int)-1)=(((Y (M ss)).length-1:Nat):Int):=by rw[N,AW (by omega) (by omega)];omega
 rw[<- Zr h0];exact Aqh rs ss _ _ ((Bz (prim (M rs)) (Y (M ss))).map cn) (cn (w (Y (M ss)))) (Eg p1) (Eg p2) (by rw[e1,N];omega) (by
  rw[e1,F,EQ (show (Y (M ss)).length-1<(Y (M ss)).length by omega)];exact hlp)
theorem VT:∀ (f:Nat) (x y:List Int) (M:Nat),0<M->y.length<=f->y.length<=x.length->x.length<=1048576->prim x=x->prim y=y->Kb (M-1) x->Kb (M-1) y->M*Iz x.length y.length<=500000 ->
  ∃ bs,W I (.loop Pt) (Ji (x.map cn) (y.map cn)) (.exit 0) (Ji ((Hz f x y).map cn) bs):=by
 intro f;induction f with
 | zero =>
  intro x y M _ h1 _ _ _ _ _ _ _;have:y=[]:=A3 (by omega);subst this;exact⟨_,Al (dH _ _ (by simp)) (by nofun)⟩
 | succ f ih =>
  intro x y M hM h1 h2 h3 px py kx ky hphi;simp only[Hz];split
  ·rename_i h;subst h;exact⟨_,Al (dH _ _ (by simp)) (by nofun)⟩
  ·rename_i h;have hyl:=An.2 h;obtain⟨r1,r2,r3⟩:=JH hM (Cl px) h kx ky h2;have hM':0<M*(x.length-y.length+2):=Eu hM (by omega);have hMle:M<=M*(x.length-y.length+2):=BQ M (by omega);have hbig:M*(x.length-y.length+2)<=500000:=by
    refine Bq (z _ ?_) hphi;unfold Iz;exact BQ _ (Cn (by decide))
   have hrem:=PN (rs:=x.map cn) (ss:=y.map cn) (AP kx) (AP ky) (by omega) (by omega) (by rw[N];exact h3) (by rw[N];omega) (by rw[AH,Cl py];exact h) (by
    rw[AH,AH,Cl px,Cl py,KO hM,show x.length+1-y.length=x.length-y.length+1 by omega,CP _ M];have:M*(x.length-y.length+2)=M*(x.length-y.length+1)+M:=by rw[<- OH]
    omega)
   rw[AH,AH,px,py] at hrem;have k:=dG (x.map cn) (y.map cn) _ (by simp;omega) hrem;obtain⟨bs,hb⟩:=ih y (Bz x y) (M*(x.length-y.length+2)) hM' (by omega) (by omega) (by omega) py (HB _ _ _ px) (ky.mono (by omega)) r3 (JI r2 hphi);exact⟨bs,W.loop k hb⟩
theorem Pb{rs ss:List Rn}{g:List Int}{bs:List Rn}{K:Nat}(hr:∀ r∈rs,u K r)(hs:∀ r∈ss,u K r)(hK:K<1000000)(hn:rs.length<=1048576)(hm:ss.length<=1048576){Kg:Nat}(hg:Kb Kg g)(hgL:BU g)(hKg:Kg<=1048576)(hgl:g.length<=1048576)
  (hl:W I (.loop Pt) (Ji ((prim (M rs)).map cn) ((prim (M ss)).map cn)) (.exit 0) (Ji (g.map cn) bs)) :
  PL 70 [sL pc rs,sL pc ss] (v g):=by
 have p1:=H0 hr hK hn;have p2:=H0 hs hK hm;obtain⟨q1,q2⟩:=M7 hg hgL hKg hgl;by_cases h:w g<0
 ·exact .inl (xZ rs ss _ _ (g.map cn) bs _ (Eg p1) (Eg p2) hl (q1 h))
 ·rw[O7 h];exact .inr (yA rs ss _ _ (g.map cn) bs (Eg p1) (Eg p2) hl (q2 h))
theorem Zs{rs ss:List Rn}{K c:Nat}(hr:∀ r∈rs,u K r)(hs:∀ r∈ss,u K r)(hn:rs.length<=c)(hm:ss.length<=c)(hc:c<=1048576)(hS:(K+1)*(2*3^c)<=500000) :
  PL 70 [sL pc rs,sL pc ss] (v (MN (prim (M rs)) (prim (M ss)))):=by
 have h3:0<3^c:=Cn (by decide);have hK:K+1<=500000:=by
  have:(K+1)*1<=(K+1)*(2*3^c):=z _ (by omega);omega
 have k1:Kb K (prim (M rs)):=(HU (C4 hr)).prim;have k2:Kb K (prim (M ss)):=(HU (C4 hs)).prim;have l1:(prim (M rs)).length<=rs.length:=by rw[BS];have:=Bn (M rs);rwa [s] at this
 have l2:(prim (M ss)).length<=ss.length:=by rw[BS];have:=Bn (M ss);rwa [s] at this
 unfold MN;split
 ·rename_i hl;have hphi:(K+1)*Iz (prim (M rs)).length (prim (M ss)).length<=500000:=Bq (z _ (NQ hl (by omega))) hS;obtain⟨bs,hb⟩:=VT (prim (M ss)).length (prim (M rs)) (prim (M ss)) (K+1) (by omega) (Am _) hl (by omega) (BI _) (BI _) k1 k2 hphi;obtain⟨s1,s2⟩:=KT (prim (M ss)).length (prim (M rs)) (prim (M ss)) (K+1) (by omega) (Am _) hl (Ce _) (Ce _) k1 k2;exact Pb hr hs (by omega) (by omega) (by omega) s1 (Cl (KS _ _ _ (BI _) (BI _))) (by omega) (by omega) hb
 ·rename_i hl;have hphi:(K+1)*Iz (prim (M ss)).length (prim (M rs)).length<=500000:=Bq (z _ (NQ (by omega) (by omega))) hS;obtain⟨bs,hb⟩:=VT (prim (M rs)).length (prim (M ss)) (prim (M rs)) (K+1) (by omega) (Am _) (by omega) (by omega) (BI _) (BI _) k2 k1 hphi;obtain⟨s1,s2⟩:=KT (prim (M rs)).length (prim (M ss)) (prim (M rs)) (K+1) (by omega) (Am _) (by omega) (Ce _) (Ce _) k2 k1;have hy0:prim (M ss) ≠ []:=by intro h;rw[h] at hl;simp at hl
  have hsw:Bz (prim (M rs)) (prim (M ss))=prim (M rs):=by
   unfold Bz;cases hx:(prim (M rs)).length with
   | zero=>rfl
   | succ n=>simp only[DT];rw[if_neg hl]
  have hrem:=PN (rs:=(prim (M rs)).map cn) (ss:=(prim (M ss)).map cn) (AP k1) (AP k2) (by omega) (by omega) (by rw[N];omega) (by rw[N];omega) (by rw[AH,Ce];exact hy0) (by
   rw[AH,AH,Ce,Ce,show (prim (M rs)).length+1-(prim (M ss)).length=0 by omega,S7];omega)
  rw[AH,AH,BI,BI,hsw] at hrem;have k:=dG ((prim (M rs)).map cn) ((prim (M ss)).map cn) _ (by rw[decide_eq_true_eq,N];omega) hrem;exact Pb hr hs (by omega) (by omega) (by omega) s1 (Cl (KS _ _ _ (BI _) (BI _))) (by omega) (by omega) (W.loop k hb)
section
variable {p d:List Int} {J Kd:Nat}
theorem Arn{t:Int}{l:Rn}{rs ds:List Rn}{q:Int}(hp:Kb J p)(ht:AY Kd t)(hS:J+Kd<1000000)(hN:p.length<=1048576) :
  W I (.loop On) (IC rs ds (cn t) p.length (p.map cn) l q 0) (.exit 2) (IC rs ds (cn t) p.length ((Ax t p).map cn) l q (p.length:Nat)):=by
 have hE:((Ax t p).map cn).length=(p.map cn).length:=by rw[N,N,AT]
 have hpl:(p.map cn).length=p.length:=N ..;have h:=W.up (prog:=I) (c:=On) (ex := .exit 2) (fin:=IC rs ds (cn t) p.length ((Ax t p).map cn) l q (p.length:Nat))
  (fun i=>IC rs ds (cn t) p.length (Fw ((Ax t p).map cn) (p.map cn) i) l q (i:Nat)) p.length (by nofun) ?_ ?_ 0 (Bf _)
 ·rw[M4] at h;exact h
 ·intro i hi;have ei:D R ((i:Int)+1)=((i+1:Nat):Int):=by rw[AW (by omega) (by omega)];omega
  have hml:=GP hE i;have hget:=LI hE (i:=i) (by omega);have hEi:((Ax t p).map cn).getD i z0=cn ((Ax t p).getD i 0):=EQ (by rw[AT];exact hi);have hset:=LJ hE (i:=i) (by omega);rw[hEi,AO] at hset;have gp:=A' (AP hp) i;have gt:=AZ ht;have vi:=FQ p i;have m1:=VS gp gt (by omega);generalize Fw ((Ax t p).map cn) (p.map cn) i=M at *
  have k:=yB rs ds (cn t) p.length M l q (i:Nat) (by simp;omega) (by omega) (by omega) (by rw[F,hget];exact m1);refine k.to rfl ?_;simp only[ei,F,hget];rw[vi,At,AD,hset]
 ·rw[show Fw ((Ax t p).map cn) (p.map cn) p.length=(Ax t p).map cn by have h:=M5 hE;rw[hpl] at h;exact h];exact yC _ _ _ _ _ _ _ _ (by simp)
theorem Aro{b:Int}{k:Nat}{os:List Rn}(hp:Kb J p)(hd:Kb Kd d)(hb:AY J b)(hS:J+Kd+1<1000000)(hd0:d ≠ [])(hl:d.length<=p.length)(hN:p.length<=1048576) :
  W I (.loop Me) (GM (p.map cn) (d.map cn) (cn (w d)) k os (cn b) ((p.length-d.length:Nat):Int) 0 [] 0) (.exit 4)
   (GM (p.map cn) (d.map cn) (cn (w d)) k os (cn b) ((p.length-d.length:Nat):Int) (p.length-1) (pc ((C5 p d (w d) b (p.length-1)).map cn)) ((p.length-1:Nat):Int)):=by
 have hdl:=An.2 hd0;have hlm:(p.map cn).length=p.length:=N ..;have hld:(d.map cn).length=d.length:=N ..;have e1:D R ((((p.map cn).length:Nat):Int)-1)=((p.length-1:Nat):Int):=by rw[hlm,AW (by omega) (by omega)];omega
 have h:=W.up (prog:=I) (c:=Me) (ex := .exit 4) (fin:=GM (p.map cn) (d.map cn) (cn (w d)) k os (cn b) ((p.length-d.length:Nat):Int) (p.length-1) (pc ((C5 p d (w d) b (p.length-1)).map cn)) ((p.length-1:Nat):Int))
  (fun i=>GM (p.map cn) (d.map cn) (cn (w d)) k os (cn b) ((p.length-d.length:Nat):Int) i (pc ((Ao i).map fun j=>cn (MX p d (w d) b j))) (i:Nat)) (p.length-1) (by nofun) ?_ ?_ 0 (Bf _)
 ·exact h
 ·intro i hi;have ei:D R ((i:Int)+1)=((i+1:Nat):Int):=by rw[AW (by omega) (by omega)];omega
  have gp:=A' (AP hp) i;have ga:=AZ (Et hd);have gb:=AZ hb;have vi:=FQ p i;have m1:=VS ga gp (by omega);have va:=At (w d);by_cases hat:p.length-d.length<=i
  ·have ea:D R ((i:Int)-((p.length-d.length:Nat):Int))=((i-(p.length-d.length):Nat):Int):=by rw[AW (by omega) (by omega)];omega
   have gq:=A' (AP hd) (i-(p.length-d.length));have vq:=FQ d (i-(p.length-d.length));have m2:=VS gb gq (by omega);have f1:AY (Kd+J) (O (cn (w d))*O ((p.map cn).getD i z0)):=ga.fits.mul gp.fits;have f2:AY (J+Kd) (O (cn b)*O ((d.map cn).getD (i-(p.length-d.length)) z0)):=gb.fits.mul gq.fits;have m3:=Arm (AZ f1) (AZ f2) (by omega) (by omega);rw[At (O (cn (w d))*_),At (O (cn b)*O ((d.map cn).getD (i-(p.length-d.length)) z0))] at m3;have k:=yD (p.map cn) (d.map cn) (cn (w d)) k os (cn b) ((p.length-d.length:Nat):Int) i (pc ((Ao i).map fun j=>cn (MX p d (w d) b j))) (i:Nat) (by rw[e1,decide_eq_true_eq];omega) (by rw[decide_eq_true_eq];omega) (by omega) (by rw[ea];omega) (by omega)
    (by rw[F];exact m1) (by rw[ea,F];exact m2) (by rw[ea,F,F];exact m3)
   refine k.to rfl ?_;rw[ea,F,F,ei];rw[<- Gh (MX p d (w d) b) i];unfold MX;rw[if_pos hat,va,vi,At,vq]
  ·have k:=yE (p.map cn) (d.map cn) (cn (w d)) k os (cn b) ((p.length-d.length:Nat):Int) i (pc ((Ao i).map fun j=>cn (MX p d (w d) b j))) (i:Nat) (by rw[e1,decide_eq_true_eq];omega) (by rw[decide_eq_false_iff_not];omega) (by omega) (by omega)
    (by rw[F];exact m1)
   refine k.to rfl ?_;rw[F,ei];rw[<- Gh (MX p d (w d) b) i];unfold MX;rw[if_neg hat,va,vi]
 ·show W _ _ (GM _ _ _ _ _ _ _ _ (pc ((Ao (p.length-1)).map fun j=>cn (MX p d (w d) b j))) _) _ _;rw[eF];exact yF _ _ _ _ _ _ _ _ _ _ (by rw[e1,decide_eq_false_iff_not];omega)
end
theorem eI{d:List Int}{Kd:Nat}(hd:Kb Kd d)(hd0:d ≠ []):∀ (f:Nat) (r out:List Int) (J:Nat),r.length<=f->Kb J r->Kb J out->J+(r.length+1-d.length)*(Kd+1)<1000000->r.length+1<=out.length+d.length->out.length<=1048576->r.length<=1048576 ->
  (∃ r',W I (.loop U7) (PH (r.map cn) (d.map cn) (cn (w d)) out.length (out.map cn)) (.exit 0) (PH r' (d.map cn) (cn (w d)) out.length ((Kh d f r out).map cn)))/\Kb (J+(r.length+1-d.length)*(Kd+1)) (Kh d f r out)/\(Kh d f r out).length=out.length:=by
 have hdl:=An.2 hd0;have hld:(d.map cn).length=d.length:=N ..;intro f;induction f with
 | zero =>
  intro r out J hf _ ho _ _ _ _;exact⟨⟨_,Al (dI (r.map cn) (d.map cn) (cn (w d)) out.length (out.map cn) (by rw[decide_eq_false_iff_not,N,N];omega)) (by nofun)⟩,ho.mono (OI _ _),rfl⟩
 | succ f ih =>
  intro r out J hf hJ ho hS hlo hN1 hN;have hlm:(r.map cn).length=r.length:=N ..;simp only[Kh];split
  ·rename_i hl;have e1:D R ((((r.map cn).length:Nat):Int)-1)=((r.length-1:Nat):Int):=by rw[hlm,AW (by omega) (by omega)];omega
   have e2:D R ((((r.map cn).length:Nat):Int)-(((d.map cn).length:Nat):Int))=((r.length-d.length:Nat):Int):=by rw[hlm,hld,AW (by omega) (by omega)];omega
   have hlen:=LF hd0 hl;have e:((Y (C5 r d (w d) (w r) (r.length-1))).length+1-d.length)+1<=r.length+1-d.length:=by omega
   have hmul:=A8 (Kd+1) e;rw[DK,ES] at hmul;have hsz:J+Kd+1<1000000:=by omega
   have kE:Kb (J+Kd+1) (C5 r d (w d) (w r) (r.length-1)):=QJ hJ hd (Et hd) (Et hJ) _;have hlE:=D' r d (w d) (w r) (r.length-1);have hps:=Sg ho (Et hd);have ht:=ED (rs:=(C5 r d (w d) (w r) (r.length-1)).map cn) (fun x hx=>(AP kE x hx).mono (by omega)) (by rw[N];omega);(first|rw[AH,N,hlE] at ht|(rw[AH] at ht;unfold sL at ht;rw[N,hlE] at ht));have hu:(r.map cn).getD (r.length-1) z0=cn (w r):=EQ (by omega);have hset:((Ax (w d) out).map cn).set (r.length-d.length) (cn (w r))=((Ax (w d) out).set (r.length-d.length) (w r)).map cn:=by rw[Aup]
   obtain⟨⟨r',hr'⟩,kb,len⟩:=ih (Y (C5 r d (w d) (w r) (r.length-1))) ((Ax (w d) out).set (r.length-d.length) (w r)) (J+Kd+1) (by omega) kE.trim (qW (hps.mono (by omega)) ((Et hJ).mono (by omega)) _) (by omega) (by rw[AS,AT];omega) (by rw[AS,AT];exact hN1) (by omega);rw[AS,AT] at hr' len;refine⟨⟨r',W.loop ?_ hr'⟩,kb.mono (by omega),len⟩;have k:=Aqi (r.map cn) (d.map cn) (cn (w d)) out.length (out.map cn) ((Ax (w d) out).map cn) ((C5 r d (w d) (w r) (r.length-1)).map cn) _ (r.length-1) (out.length:Nat) ((r.length-1:Nat):Int) (by rw[decide_eq_true_eq];omega) (by rw[e1];omega)
    (by rw[e1,e2,F,hu];exact Arn ho (Et hd) (by omega) hN1) (by rw[e2];omega) (by rw[N,AT])
    (by rw[e1,e2,F,F,hu];exact Aro hJ hd (Et hJ) hsz hd0 hl hN) (Eg ht)
   rw[e1,e2,F,F,hu,hset] at k;exact k
  ·rename_i hl;exact⟨⟨_,Al (dI (r.map cn) (d.map cn) (cn (w d)) out.length (out.map cn) (by rw[decide_eq_false_iff_not,N,N];omega)) (by nofun)⟩,ho.mono (OI _ _),rfl⟩
theorem mQ{p q:List Int}{J K:Nat}(hp:Kb J p)(hq:Kb K q)(lp:BU p)(lq:BU q)(hq0:q ≠ [])(tq:0<w q)(tp:0<w p)(hl:q.length<=p.length)(hN:p.length<=1000000)(hS:J+(p.length+1-q.length)*(K+1)<1000000) :
  H I 123 [.sl (p.map cn).length (pc (p.map cn)),.sl (q.map cn).length (pc (q.map cn))] (eB (prim (Kh q p.length p (Aq (p.length-q.length+1) 0)))):=by
 have hql:=An.2 hq0;have hlp:(p.map cn).length=p.length:=N ..;have hlq:(q.map cn).length=q.length:=N ..;have h1:1*(K+1)<=(p.length+1-q.length)*(K+1):=A8 _ (by omega);have t1:=ED (rs:=p.map cn) (fun r h=>(AP hp r h).mono (show J<=1048576 by omega)) (by omega);have t2:=ED (rs:=q.map cn) (fun r h=>(AP hq r h).mono (show K<=1048576 by omega)) (by omega);rw[AH,lp] at t1;rw[AH,lq] at t2;have hz:(Aq (p.length-q.length+1) (0:Int)).map cn=Aq (p.length-q.length+1) z0:=by rw[A5f,Arl]
 obtain⟨⟨r',hlp2⟩,kb,len⟩:=eI hq hq0 p.length p (Aq (p.length-q.length+1) 0) J (Am _) hp (fun i=>by rw[Dw];exact G6 _) hS (by simp;omega) (by simp;omega) (by omega);rw[EW] at hlp2 len;obtain⟨c',r1,a1,a2,_,a4⟩:=NR (p:=p) hq0 tq hl;have tO:=XL a1 tp hq0 tq hl len a4 a2;generalize Kh q p.length p (Aq (p.length-q.length+1) 0)=o at *
 have e1:D R ((((q.map cn).length:Nat):Int)-1)=((q.length-1:Nat):Int):=by rw[hlq,AW (by omega) (by omega)];omega
 have e2:D R (D R ((((p.map cn).length:Nat):Int)-(((q.map cn).length:Nat):Int))+1)=((p.length-q.length+1:Nat):Int):=by
  rw[hlp,hlq,AW (n:=(p.length:Int)-(q.length:Nat)) (by omega) (by omega),AW (by omega) (by omega)];omega
 have t3:=ED (rs:=o.map cn) (fun r h=>(AP kb r h).mono (by omega)) (by rw[N];omega);(first|rw[AH,N,len] at t3|(rw[AH] at t3;unfold sL at t3;rw[N,len] at t3));have htl:=Bn o;have p3:=H0 (rs:=(Y o).map cn) (AP kb.trim) (by omega) (by rw[N];omega);rw[AH,LC (CX o)] at p3;have hpl:(prim o).length<=o.length:=by rw[BS];exact htl
 have hps:=(M7 (p:=prim o) kb.prim (Ce o) (by omega) (by omega)).2 (by have:=OZ tO;omega);exact Aqj (p.map cn) (q.map cn) (p.map cn) (q.map cn) r' (o.map cn) _ _ (cn (w q)) (p.length-q.length+1) (Eg t1) (Eg t2) (by rw[e1,hlq];omega) (by rw[e2];omega)
  (by rw[e1,e2,F,F,N7,<- hz,EQ (show q.length-1<q.length by omega)];exact hlp2) (Eg t3) (Eg p3) hps
theorem zF{p:List Int}{c:Int}(hc:0<c)(hp:prim p=p)(hl:1<=p.length):prim (Kh [c] p.length p (Aq (p.length-1+1) 0))=p:=by
 obtain⟨c',r',a1,a2,_,a4⟩:=NR (p:=p) (d:=[c]) (by simp) (show 0<w [c] from hc) hl;have lq:BU [c]:=NP (.inr (by show c ≠ 0;omega));have h:=QL a1 hc (QK (o2:=p) (r2:=[]) (c2:=c) lq (by simp) a4 (fun x=>by simp[V]) a2 (fun i _=>rfl));rw[hp] at h;exact h
theorem QT{rs:List Rn}{K c:Nat}(hr:∀ r∈rs,u K r)(hn:rs.length<=c)(hc:c<=9)(hS:(K+3)*(2*3^c)<=500000):H I 73 [sL pc rs] (eB (Af (M rs))):=by
 have h3:0<3^c:=Cn (by decide);have hK:K+3<=250000:=by
  have:(K+3)*2<=(K+3)*(2*3^c):=z _ (by omega);omega
 have p1:=Eg (H0 hr (by omega) (by omega));have k1:Kb K (prim (M rs)):=(HU (C4 hr)).prim;have l1:(prim (M rs)).length<=rs.length:=by rw[BS];have:=Bn (M rs);rwa [s] at this
 obtain⟨q1,q2⟩:=M7 k1 (Ce _) (by omega) (by omega);have ka:Kb K (v (prim (M rs))):=by
  unfold v;split
  ·intro i;rw[G7];exact (k1 i).neg
  ·exact k1
 have la:=J2 (prim (M rs));have lda:BU (v (prim (M rs))):=M3 (Ce _);have hpp:(¬ w (prim (M rs))<0)->v (prim (M rs))=prim (M rs):=O7;have hder:=XO (rs:=(v (prim (M rs))).map cn) (AP ka) (by omega) (by rw[N];omega);rw[AH] at hder;have hder':=Eg hder;have kd:Kb (K+2) (As (v (prim (M rs)))):=VP ka (by omega);have ld:(As (v (prim (M rs)))).length<=c:=by have:=Sf (v (prim (M rs)));omega
 have hcom:=Zs (rs:=(v (prim (M rs))).map cn) (ss:=(As (v (prim (M rs)))).map cn) (K:=K+2) (c:=c) (fun r h=>(AP ka r h).mono (by omega)) (AP kd) (by rw[N];omega) (by rw[N];exact ld) (by omega) hS;rw[AH,AH] at hcom;change PL 70 _ (Dy (v (prim (M rs))) (As (v (prim (M rs))))) at hcom;have hover:2<=(v (prim (M rs))).length->H I 123 [.sl ((v (prim (M rs))).map cn).length (pc ((v (prim (M rs))).map cn)),.sl ((Dy (v (prim (M rs))) (As (v (prim (M rs))))).map cn).length (pc ((Dy (v (prim (M rs))) (As (v (prim (M rs))))).map cn))] (eB (Af (M rs))):=by
  intro h2;have hp0:Y (M rs) ≠ []:=by
   intro h0;have:prim (M rs)=[]:=DX.2 (CW.1 h0);rw[this] at h2;exact absurd h2 (by decide)
  obtain⟨a1,a2,a3,a4,_,_⟩:=VQ hp0;have hta:Y (v (prim (M rs))) ≠ []:=F4 a1 a2;obtain⟨b1,b2⟩:=dX (t:=As (v (prim (M rs)))) hta (by omega) ka;rw[a1] at b2;have nG:=LH (t:=As (v (prim (M rs)))) hta;have lG:=Ki (v (prim (M rs))) (As (v (prim (M rs))));have tG:=Se (t:=As (v (prim (M rs)))) hta;have h:=mQ ka b1 lda lG nG tG a4 b2 (by omega) (by
   have h4:(v (prim (M rs))).length+1-(Dy (v (prim (M rs))) (As (v (prim (M rs))))).length<=10:=by omega
   have h5:=A8 (K+3+1) h4;have h6:3^2<=3^c:=Bm (by decide) (by omega);have h7:(K+3)*18<=(K+3)*(2*3^c):=z _ (by omega);omega)
  have e:prim (Kh (Dy (v (prim (M rs))) (As (v (prim (M rs))))) (v (prim (M rs))).length (v (prim (M rs))) (Aq ((v (prim (M rs))).length-(Dy (v (prim (M rs))) (As (v (prim (M rs))))).length+1) 0))=Af (M rs):=by
   unfold Af;by_cases hg:(Dy (v (prim (M rs))) (As (v (prim (M rs))))).length<2
   ·rw[if_pos (.inr hg)];have hgl:=An.2 nG;obtain⟨c,hc⟩:=QR (show (Dy (v (prim (M rs))) (As (v (prim (M rs))))).length=1 by omega);rw[hc] at tG |-;exact zF tG (IH a1 a3) (by omega)
   ·rw[if_neg (by omega)];exact (Arc lG nG tG b2).symm
  rw[e] at h;exact h
 by_cases hs:(v (prim (M rs))).length<2
 ·have e:Af (M rs)=v (prim (M rs)):=by unfold Af;rw[if_pos (.inl hs)]
  rw[e];by_cases ht:w (prim (M rs))<0
  ·exact Za rs _ _ (by rw[decide_eq_true_eq,N];omega) p1 (q1 ht)
  ·rw[hpp ht] at hs |-;exact Ze rs _ (by rw[decide_eq_true_eq,N];omega) p1 (q2 ht)
 ·have hover:=hover (by omega);by_cases ht:w (prim (M rs))<0
  ·rcases hcom with h | h
   ·exact Zb rs _ _ _ _ _ (by rw[decide_eq_false_iff_not,N];omega) p1 (q1 ht) hder' h hover
   ·exact Zc rs _ _ _ _ _ (by rw[decide_eq_false_iff_not,N];omega) p1 (q1 ht) hder' h hover
  ·rw[hpp ht] at *
   rcases hcom with h | h
   ·exact Zd rs _ _ _ _ (by rw[decide_eq_false_iff_not,N];omega) p1 (q2 ht) hder' h hover
   ·exact Zf rs _ _ _ _ (by rw[decide_eq_false_iff_not,N];omega) p1 (q2 ht) hder' h hover
def D8:Nat->List Int->List Int->List (List Int)
 | 0,_,_=>[]
 | f+1,a,b=>if b=[] then [] else b::D8 f b (BV (Bz a b))
def BH(p:List Int):List (List Int):=if Af p=[] then [] else Af p::D8 (Af p).length (Af p) (prim (As (Af p)))
theorem Jn{p:List Int}(h:prim p=p):prim (BV p)=BV p:=by
 by_cases h0:p=[]
 ·subst h0;rfl
 ·have hl:BU p:=Cl h;have h1:=Kf (xs:=p) (by rw[hl];exact h0);rw[h] at h1;exact IH (H2 hl) (by rw[VK];exact h1)
theorem VU{K:Nat}{p:List Int}(h:Kb K p):Kb K (BV p):=fun i=>by rw [G7];exact (h i).neg
def D6(l:List (List Int)):List (List Rn):=l.map fun p=>p.map cn
theorem eJ(ls:List (List Rn))(rs:List Rn):pp ls++([sL pc rs]:List AV)=pp (ls++[rs]):=by simp [pp]
def qX(p:List Int):Prop:=Kb 500000 p/\p.length<=9/\BU p
theorem Zt:∀ (f:Nat) (x y:List Int) (M:Nat),0<M->y.length<=x.length->x.length<=9->prim x=x->prim y=y->Kb (M-1) x->Kb (M-1) y->M*Iz x.length y.length<=500000 ->
  ∀ p∈D8 f x y,qX p:=by
 intro f;induction f with
 | zero=>intro x y M _ _ _ _ _ _ _ _ p hp;cases hp
 | succ f ih =>
  intro x y M hM h2 h3 px py kx ky hphi p hp;simp only[D8] at hp;split at hp
  ·cases hp
  ·rename_i h;obtain⟨r1,r2,r3⟩:=JH hM (Cl px) h kx ky h2;have hM':0<M*(x.length-y.length+2):=Eu hM (by omega);have hMle:M<=M*(x.length-y.length+2):=BQ M (by omega);have hb:M*1<=M*Iz x.length y.length:=z _ (by unfold Iz;exact Eu (by omega) (Cn (by decide)));rcases CH.1 hp with rfl | hp
   ·exact⟨ky.mono (by omega),by omega,Cl py⟩
   ·exact ih y (BV (Bz x y)) (M*(x.length-y.length+2)) hM' (by rw[DC];omega) (by omega) py (Jn (HB _ _ _ px)) (ky.mono (by omega)) (VU r3) (by rw[DC];exact JI r2 hphi) p hp
theorem Te:∀ (f:Nat) (x y:List Int),(D8 f x y).length<=f
 | 0,_,_=>Am _
 | f+1,x,y=>by
  simp only[D8];split
  ·simp
  ·have:=Te f y (BV (Bz x y));simp;omega
theorem eL:∀ (f:Nat) (x y:List Int) (M:Nat) (ls:List (List Rn)),0<M->y.length<=f->y.length<=x.length->x.length<=9->prim x=x->prim y=y->Kb (M-1) x->Kb (M-1) y->M*Iz x.length y.length<=500000->ls.length+f<=1000 ->
  ∃ as' bs',W I (.loop Xo) (OX (x.map cn) ls.length (pp ls) (y.map cn)) (.exit 0) (OX as' (ls++D6 (D8 f x y)).length (pp (ls++D6 (D8 f x y))) bs'):=by
 intro f;induction f with
 | zero =>
  intro x y M ls _ h1 _ _ _ _ _ _ _ _;have:y=[]:=A3 (by omega);subst this;have e:ls++D6 (D8 0 x [])=ls:=by simp[D6,D8]
  rw[e];exact⟨_,_,Al (qR _ _ _ _ (by simp)) (by nofun)⟩
 | succ f ih =>
  intro x y M ls hM h1 h2 h3 px py kx ky hphi hls;simp only[D8];split
  ·rename_i h;subst h;have e:ls++D6 []=ls:=by simp[D6]
   rw[e];exact⟨_,_,Al (qR _ _ _ _ (by simp)) (by nofun)⟩
  ·rename_i h;have hyl:=An.2 h;obtain⟨r1,r2,r3⟩:=JH hM (Cl px) h kx ky h2;have hM':0<M*(x.length-y.length+2):=Eu hM (by omega);have hMle:M<=M*(x.length-y.length+2):=BQ M (by omega);have hbig:M*(x.length-y.length+2)<=500000:=by
    refine Bq (z _ ?_) hphi;unfold Iz;exact BQ _ (Cn (by decide))
   have hrem:=Jm (rs:=x.map cn) (ss:=y.map cn) (AP kx) (AP ky) (by omega) (by omega) (by rw[N];omega) (by rw[N];omega) (by rw[AH,py];exact h) (by
    rw[AH,AH,px,py,KO hM,show x.length+1-y.length=x.length-y.length+1 by omega,CP _ M];have:M*(x.length-y.length+2)=M*(x.length-y.length+1)+M:=by rw[<- OH]
    omega)
   rw[AH,AH,px,py] at hrem;have hneg:=Ke (rs:=(Bz x y).map cn) (fun r hr=>(AP r3 r hr).mono (by omega)) (by rw[N];omega);rw[AH] at hneg;have hneg':H I 117 [.sl ((Bz x y).map cn).length (pc ((Bz x y).map cn))] (.fresh 2 ((BV (Bz x y)).map cn).length (pc ((BV (Bz x y)).map cn))):=by
    have e:((BV (Bz x y)).map cn).length=((Bz x y).map cn).length:=by rw[N,N,DC]
    rw[e];exact hneg
   have k:=Ayl (x.map cn) ls.length (pp ls) (y.map cn) _ _ (by simp;omega) (by omega) (Eg hrem) hneg';rw[eJ] at k;obtain⟨as',bs',hb⟩:=ih y (BV (Bz x y)) (M*(x.length-y.length+2)) (ls++[y.map cn]) hM' (by rw[DC];omega) (by rw[DC];omega) (by omega) py (Jn (HB _ _ _ px)) (ky.mono (by omega)) (VU r3) (by rw[DC];exact JI r2 hphi) (by rw[AU];simp;omega);have e:ls++[y.map cn]++D6 (D8 f y (BV (Bz x y)))=ls++D6 (y::D8 f y (BV (Bz x y))):=by simp[D6]
   rw[e] at hb;have el:(ls++[y.map cn]).length=ls.length+1:=by simp
   rw[el] at hb;exact⟨as',bs',W.loop k hb⟩
theorem J4{rs:List Rn}(hr:∀ r∈rs,u 5 r)(hn:rs.length<=9)(h0:Af (M rs) ≠ []) :
  prim (Af (M rs))=Af (M rs)/\Kb 10 (Af (M rs))/\Kb 10 (As (Af (M rs)))/\(Af (M rs)).length<=9/\(As (Af (M rs))).length<=(Af (M rs)).length-1/\(prim (As (Af (M rs)))).length<=(As (Af (M rs))).length /\
  11*Iz (Af (M rs)).length (prim (As (Af (M rs)))).length<=500000/\BU (Af (M rs)):=by
 have ht:Y (M rs) ≠ []:=by
  intro h;have hz:prim (M rs)=[]:=by rw[DX,<- CW];exact h
  apply h0;unfold Af;rw[hz];rfl
 obtain⟨lf,cf,_,_,_,_,_,_⟩:=Fi ht;obtain⟨k1,k2⟩:=XY ht (by rw[s];exact hn) (HU (C4 hr));have t1:=Bn (M rs);rw[s] at t1;have k3:=VP k1 (by omega);have d1:(As (Af (M rs))).length<=(Af (M rs)).length-1:=by
  unfold As;have:=Bn ((Ao ((Af (M rs)).length-1)).map fun j=>(Af (M rs)).getD (j+1) 0*((j+1:Nat):Int));rwa [N,BY] at this
 have d2:(prim (As (Af (M rs)))).length<=(As (Af (M rs))).length:=by rw[BS];exact Bn _
 refine⟨IH lf cf,k1.mono (by omega),k3.mono (by omega),by omega,d1,d2,?_,lf⟩;have:=NQ (n:=(Af (M rs)).length) (m:=(prim (As (Af (M rs)))).length) (c:=9) (by omega) (by omega);have h3:2*3^9=39366:=by decide
 omega
theorem M8{rs:List Rn}(hr:∀ r∈rs,u 5 r)(hn:rs.length<=9):∀ p∈BH (M rs),qX p:=by
 intro p hp;unfold BH at hp;split at hp
 ·cases hp
 ·rename_i h0;obtain⟨p1,k1,k2,l1,l2,l3,hphi,lf⟩:=J4 hr hn h0;rcases CH.1 hp with rfl | hp
  ·exact⟨k1.mono (by omega),l1,lf⟩
  ·exact Zt _ _ _ 11 (by decide) (by omega) l1 p1 (BI _) k1 k2.prim hphi p hp
theorem IU{rs:List Rn}(hr:∀ r∈rs,u 5 r)(hn:rs.length<=9):(BH (M rs)).length<=10:=by
 unfold BH;split
 ·simp
 ·rename_i h0;obtain⟨_,_,_,l1,_⟩:=J4 hr hn h0;have:=Te (Af (M rs)).length (Af (M rs)) (prim (As (Af (M rs))));simp;omega
theorem Tf{rs:List Rn}(hr:∀ r∈rs,u 5 r)(hn:rs.length<=9):H I 67 [sL pc rs] (.fresh 1 (D6 (BH (M rs))).length (pp (D6 (BH (M rs))))):=by
 have hf:=VR hr hn (by omega) (by decide);by_cases h0:Af (M rs)=[]
 ·have e:BH (M rs)=[]:=by unfold BH;rw[if_pos h0]
  rw[e];rw[h0] at hf;rcases hf with h | h
  ·exact cY rs [] (by decide) h
  ·exact dA rs [] (by decide) h
 ·obtain⟨p1,k1,k2,l1,l2,l3,hphi,lf⟩:=J4 hr hn h0;have e:BH (M rs)=Af (M rs)::D8 (Af (M rs)).length (Af (M rs)) (prim (As (Af (M rs)))):=by unfold BH;rw[if_neg h0]
  have hd:=O' (rs:=(Af (M rs)).map cn) (AP k1) (by omega) (by rw[N];omega);rw[AH] at hd;have hp:=Ec (rs:=(As (Af (M rs))).map cn) (AP k2) (by omega) (by rw[N];omega);rw[AH] at hp;obtain⟨as',bs',hl⟩:=eL (Af (M rs)).length (Af (M rs)) (prim (As (Af (M rs)))) 11 [(Af (M rs)).map cn] (by decide) (by omega) (by omega) l1 p1 (BI _) k1 k2.prim hphi (by simp;omega);have e2:[(Af (M rs)).map cn]++D6 (D8 (Af (M rs)).length (Af (M rs)) (prim (As (Af (M rs)))))=D6 (BH (M rs)):=by rw[e];simp[D6]
  rw[e2] at hl;have c1:(((((Af (M rs)).map cn).length:Nat):Int)==0)=false:=by
   rw[beq_eq_false_iff_ne,N];have:=An.2 h0;omega
  rcases hf with h | h
  ·exact cZ rs _ _ _ as' bs' _ c1 h (Eg hd) (Eg hp) hl
  ·exact dB rs _ _ _ as' bs' _ c1 h (Eg hd) (Eg hp) hl
theorem mR(ls:List (List Rn))(us bs:List Rn){n:Nat}(hn:n=ls.length+2)(hN:n<=1048576):Bl (pp (ls++[us])++([sL pc bs]:List AV)) (A (D R ((n:Int)-2))*1) 1 true=some (sL pc us):=by
 have e:A (D R ((n:Int)-2))*1=ls.length:=by rw[AW (by omega) (by omega)];omega
 rw[e];simp only[Bl,if_true];rw[AJ (by simp[pp])];simp[pp]
theorem Zu:∀ (f:Nat) (x y:List Int) (M:Nat) (ls:List (List Rn)),0<M->y.length<=f->y.length<=x.length->x.length<=9->prim x=x->prim y=y->Kb (M-1) x->Kb (M-1) y->M*Iz x.length y.length<=500000->ls.length+f<=1000 ->
  ∃ bs',W I (.loop Uv) (NI (ls.length+1) (pp (ls++[x.map cn])) (y.map cn)) (.exit 0) (NI (ls++[x.map cn]++D6 (D8 f x y)).length (pp (ls++[x.map cn]++D6 (D8 f x y))) bs'):=by
 intro f;induction f with
 | zero =>
  intro x y M ls _ h1 _ _ _ _ _ _ _ _;have:y=[]:=A3 (by omega);subst this;have e:ls++[x.map cn]++D6 (D8 0 x [])=ls++[x.map cn]:=by simp[D6,D8]
  rw[e,AU];exact⟨_,Al (dC _ _ _ (by simp)) (by nofun)⟩
 | succ f ih =>
  intro x y M ls hM h1 h2 h3 px py kx ky hphi hls;simp only[D8];split
  ·rename_i h;subst h;have e:ls++[x.map cn]++D6 []=ls++[x.map cn]:=by simp[D6]
   rw[e,AU];exact⟨_,Al (dC _ _ _ (by simp)) (by nofun)⟩
  ·rename_i h;have hyl:=An.2 h;obtain⟨r1,r2,r3⟩:=JH hM (Cl px) h kx ky h2;have hM':0<M*(x.length-y.length+2):=Eu hM (by omega);have hMle:M<=M*(x.length-y.length+2):=BQ M (by omega);have hbig:M*(x.length-y.length+2)<=500000:=by
    refine Bq (z _ ?_) hphi;unfold Iz;exact BQ _ (Cn (by decide))
   have hrem:=PN (rs:=x.map cn) (ss:=y.map cn) (AP kx) (AP ky) (by omega) (by omega) (by rw[N];omega) (by rw[N];omega) (by rw[AH,Cl py];exact h) (by
    rw[AH,AH,Cl px,Cl py,KO hM,show x.length+1-y.length=x.length-y.length+1 by omega,CP _ M];have:M*(x.length-y.length+2)=M*(x.length-y.length+1)+M:=by rw[<- OH]
    omega)
   rw[AH,AH,px,py] at hrem;have hneg:=XP (rs:=(Bz x y).map cn) (fun r hr=>(AP r3 r hr).mono (by omega)) (by rw[N];omega);rw[AH,H2 r1] at hneg;have hls1:(ls++[x.map cn]).length=ls.length+1:=by simp
   have e2:D R ((((ls.length+1+1):Nat):Int)-2)=(ls.length:Int):=by rw[AW (by omega) (by omega)];omega
   have k:=Apn (ls.length+1) (pp (ls++[x.map cn])) (y.map cn) (x.map cn) ((Bz x y).map cn) _ (by simp;omega) (by omega) (by rw[e2];omega) (mR ls (x.map cn) (y.map cn) (by omega) (by omega)) hrem (Eg hneg);rw[eJ] at k;obtain⟨bs',hb⟩:=ih y (BV (Bz x y)) (M*(x.length-y.length+2)) (ls++[x.map cn]) hM' (by rw[DC];omega) (by rw[DC];omega) (by omega) py (Jn (HB _ _ _ px)) (ky.mono (by omega)) (VU r3) (by rw[DC];exact JI r2 hphi) (by rw[hls1];omega);have e:ls++[x.map cn]++[y.map cn]++D6 (D8 f y (BV (Bz x y)))=ls++[x.map cn]++D6 (y::D8 f y (BV (Bz x y))):=by simp[D6]
   (first|rw[e,hls1] at hb|(rw[e] at hb;unfold sL at hb;rw[hls1] at hb));exact⟨bs',W.loop k hb⟩
theorem eM{rs:List Rn}(hr:∀ r∈rs,u 5 r)(hn:rs.length<=9):H I 108 [sL pc rs] (.fresh 1 (D6 (BH (M rs))).length (pp (D6 (BH (M rs))))):=by
 have hf:=QT hr hn (by omega) (by decide);by_cases h0:Af (M rs)=[]
 ·have e:BH (M rs)=[]:=by unfold BH;rw[if_pos h0]
  rw[e];rw[h0] at hf;exact lL rs [] (by decide) hf
 ·obtain⟨p1,k1,k2,l1,l2,l3,hphi,lf⟩:=J4 hr hn h0;have e:BH (M rs)=Af (M rs)::D8 (Af (M rs)).length (Af (M rs)) (prim (As (Af (M rs)))):=by unfold BH;rw[if_neg h0]
  have hd:=XO (rs:=(Af (M rs)).map cn) (AP k1) (by omega) (by rw[N];omega);rw[AH] at hd;have hp:=H0 (rs:=(As (Af (M rs))).map cn) (AP k2) (by omega) (by rw[N];omega);rw[AH] at hp;obtain⟨bs',hl⟩:=Zu (Af (M rs)).length (Af (M rs)) (prim (As (Af (M rs)))) 11 [] (by decide) (by omega) (by omega) l1 p1 (BI _) k1 k2.prim hphi (by simp;omega);have e2:[]++[(Af (M rs)).map cn]++D6 (D8 (Af (M rs)).length (Af (M rs)) (prim (As (Af (M rs)))))=D6 (BH (M rs)):=by rw[e];simp[D6]
  rw[e2] at hl;have c1:(((((Af (M rs)).map cn).length:Nat):Int)==0)=false:=by
   rw[beq_eq_false_iff_ne,N];have:=An.2 h0;omega
  exact lM rs _ _ _ bs' _ c1 hf (Eg hd) (Eg hp) hl
def PO(x:Int × Int)(s:Int):Int × Int:=(if s ≠ 0/\x.2 ≠ 0/\s ≠ x.2 then x.1+1 else x.1,if s ≠ 0 then s else x.2)
def HC(l:List (List Int))(N:Int)(e:Nat)(i:Nat):Int:=B8 (hv (l.getD i []) N (2^e))
def BO(l:List (List Int))(N:Int)(e:Nat):Nat->Int × Int
 | 0=>(0,0)
 | i+1=>PO (BO l N e i) (HC l N e i)
theorem JK(l:List (List Int))(N:Int)(e:Nat):∀ i:Nat,0<=(BO l N e i).1/\(BO l N e i).1<=(i:Int)
 | 0=>by simp[BO]
 | i+1=>by
  have:=JK l N e i;simp only[BO,PO];split <;> omega
theorem O8{l:List (List Int)}{i:Nat}(h:i<l.length):(D6 l).getD i []=(l.getD i []).map cn:=by
 unfold D6;rw[Z,CA,Z,Ae h];rfl
theorem LL(l:List (List Int)):(D6 l).length=l.length:=N ..
section
variable {l:List (List Int)} {r:Rn} (hl:∀ p∈l,qX p) (hr:u 100 r) (hN:l.length<=100) (e:Nat) (he:e<=4096)
include hl hr he
theorem Azd{i:Nat}(hi:i<l.length):H I 65 [.sl ((D6 l).getD i []).length (pc ((D6 l).getD i [])),.agg [.bool r.1,.sl r.2.length (lm r.2),.int .i64 (e:Nat)]] (.int .i64 (HC l (O r) e i)):=by
 rw[O8 hi];have hm:l.getD i []∈l:=by rw[Z,Ae hi];exact Dc hi
 obtain⟨h1,h2,h3⟩:=hl _ hm;have h:=M0 (rs:=(l.getD i []).map cn) (AP h1) hr e (by
  rw[N];have h4:((l.getD i []).length+1)*(100+(e / 32+1)+1)<=10*230:=Bx (by omega) (by omega);omega) (by omega)
 rw[AH] at h;exact h
theorem zG{i:Nat}(hi:i<l.length):∃ w:Int,H I 80 [.sl ((D6 l).getD i []).length (pc ((D6 l).getD i [])),.agg [.bool r.1,.sl r.2.length (lm r.2)],.int .i64 (e:Nat)] (Ab w)/\H I 79 [Ab w] (.int .i64 (HC l (O r) e i)):=by
 rw[O8 hi];have hm:l.getD i []∈l:=by rw[Z,Ae hi];exact Dc hi
 obtain⟨h1,h2,h3⟩:=hl _ hm;have hS:500000+2+(((l.getD i []).map cn).length+1)*(100+(e / 32+1)+1)<=1048576:=by
  rw[N];have h4:((l.getD i []).length+1)*(100+(e / 32+1)+1)<=10*230:=Bx (by omega) (by omega);omega
 have h:=SW (rs:=(l.getD i []).map cn) (AP h1) hr e hS (by omega);rw[AH,h3] at h;have hf:=V7 (K:=500000) hr.fits e (ts:=l.getD i []) h1.mem;have hlen:(l.getD i []).length*(100+(e / 32+1)+1)<=9*230:=Bx (by omega) (by omega);exact⟨_,h,X4 (n:=hv (l.getD i []) (O r) (2^e)) (by have:=hf.len;omega)⟩
theorem HV(hN:l.length<=100):H I 68 [.sl (D6 l).length (pp (D6 l)),.agg [.bool r.1,.sl r.2.length (lm r.2),.int .i64 (e:Nat)]] (.int .i64 (BO l (O r) e l.length).1):=by
 have hpl:=LL l;have h:=W.up (prog:=I) (c:=SD) (ex := .exit 0) (fin:=KJ (D6 l) r (e:Nat) (BO l (O r) e l.length).1 (BO l (O r) e l.length).2 (((D6 l).length:Nat):Int) (l.length:Nat))
  (fun i=>KJ (D6 l) r (e:Nat) (BO l (O r) e i).1 (BO l (O r) e i).2 (((D6 l).length:Nat):Int) (i:Nat)) l.length (by nofun) ?_ ?_ 0 (Bf _)
 ·exact Ayr (D6 l) r (e:Nat) _ _ _ h
 ·intro i hi;have ei:D R ((i:Int)+1)=((i+1:Nat):Int):=by rw[AW (by omega) (by omega)];omega
  have hs:=Azd hl hr e he hi;have hb:=JK l (O r) e i;have w1:D R ((BO l (O r) e i).1+1)=(BO l (O r) e i).1+1:=AW (by omega) (by omega);have c1:decide ((i:Int)<(((D6 l).length:Nat):Int))=true:=by rw[decide_eq_true_eq];omega
  simp only[BO,PO];by_cases g1:HC l (O r) e i=0
  ·rw[if_neg (fun h=>h.1 g1),if_neg (fun h=>h g1)];have k:=Ayp (D6 l) r (e:Nat) (BO l (O r) e i).1 (BO l (O r) e i).2 (((D6 l).length:Nat):Int) (i:Nat) (HC l (O r) e i) c1 (by rw[bne_eq_false_iff_eq];exact g1) (by omega) (by rw[F];exact hs);rwa [ei] at k
  ·by_cases g2:(BO l (O r) e i).2=0
   ·rw[if_neg (fun h=>h.2.1 g2),if_pos g1];have k:=Ayo (D6 l) r (e:Nat) (BO l (O r) e i).1 (BO l (O r) e i).2 (((D6 l).length:Nat):Int) (i:Nat) (HC l (O r) e i) c1 (by rw[bne_iff_ne];exact g1) (by rw[bne_eq_false_iff_eq];exact g2) (by omega) (by rw[F];exact hs);rwa [ei] at k
   ·by_cases g3:HC l (O r) e i=(BO l (O r) e i).2
    ·rw[if_neg (fun h=>h.2.2 g3),if_pos g1];have k:=Ayn (D6 l) r (e:Nat) (BO l (O r) e i).1 (BO l (O r) e i).2 (((D6 l).length:Nat):Int) (i:Nat) (HC l (O r) e i) c1 (by rw[bne_iff_ne];exact g1) (by rw[bne_iff_ne];exact g2) (by rw[bne_eq_false_iff_eq];exact g3) (by omega) (by rw[F];exact hs);rwa [ei] at k
    ·rw[if_pos ⟨g1,g2,g3⟩,if_pos g1];have k:=Aym (D6 l) r (e:Nat) (BO l (O r) e i).1 (BO l (O r) e i).2 (((D6 l).length:Nat):Int) (i:Nat) (HC l (O r) e i) c1 (by rw[bne_iff_ne];exact g1) (by rw[bne_iff_ne];exact g2) (by rw[bne_iff_ne];exact g3) (by omega) (by rw[F];exact hs);rwa [ei,w1] at k
 ·exact Ayq (D6 l) r _ _ _ _ _ (by rw[decide_eq_false_iff_not];omega)
theorem XZ(hN:l.length<=100):H I 110 [.sl (D6 l).length (pp (D6 l)),.agg [.bool r.1,.sl r.2.length (lm r.2),.int .i64 (e:Nat)]] (.int .i64 (BO l (O r) e l.length).1):=by
 have hpl:=LL l;have h:=W.up (prog:=I) (c:=Nw) (ex := .exit 0) (fin:=HS (D6 l) r (e:Nat) (BO l (O r) e l.length).1 (BO l (O r) e l.length).2 (l.length:Nat))
  (fun i=>HS (D6 l) r (e:Nat) (BO l (O r) e i).1 (BO l (O r) e i).2 (i:Nat)) l.length (by nofun) ?_ ?_ 0 (Bf _)
 ·exact Apt (D6 l) r (e:Nat) _ _ _ h
 ·intro i hi;have ei:D R ((i:Int)+1)=((i+1:Nat):Int):=by rw[AW (by omega) (by omega)];omega
  obtain⟨w,hs,hs2⟩:=zG hl hr e he hi;have hb:=JK l (O r) e i;have w1:D R ((BO l (O r) e i).1+1)=(BO l (O r) e i).1+1:=AW (by omega) (by omega);have c1:decide ((i:Int)<(((D6 l).length:Nat):Int))=true:=by rw[decide_eq_true_eq];omega
  simp only[BO,PO];by_cases g1:HC l (O r) e i=0
  ·rw[if_neg (fun h=>h.1 g1),if_neg (fun h=>h g1)];have k:=Apr (D6 l) r (e:Nat) (BO l (O r) e i).1 (BO l (O r) e i).2 (i:Nat) w (HC l (O r) e i) c1 (by rw[bne_eq_false_iff_eq];exact g1) (by omega) (by rw[F];exact hs) hs2;rwa [ei] at k
  ·by_cases g2:(BO l (O r) e i).2=0
   ·rw[if_neg (fun h=>h.2.1 g2),if_pos g1];have k:=Apq (D6 l) r (e:Nat) (BO l (O r) e i).1 (BO l (O r) e i).2 (i:Nat) w (HC l (O r) e i) c1 (by rw[bne_iff_ne];exact g1) (by rw[bne_eq_false_iff_eq];exact g2) (by omega) (by rw[F];exact hs) hs2;rwa [ei] at k
   ·by_cases g3:HC l (O r) e i=(BO l (O r) e i).2
    ·rw[if_neg (fun h=>h.2.2 g3),if_pos g1];have k:=App (D6 l) r (e:Nat) (BO l (O r) e i).1 (BO l (O r) e i).2 (i:Nat) w (HC l (O r) e i) c1 (by rw[bne_iff_ne];exact g1) (by rw[bne_iff_ne];exact g2) (by rw[bne_eq_false_iff_eq];exact g3) (by omega) (by rw[F];exact hs) hs2;rwa [ei] at k
    ·rw[if_pos ⟨g1,g2,g3⟩,if_pos g1];have k:=Apo (D6 l) r (e:Nat) (BO l (O r) e i).1 (BO l (O r) e i).2 (i:Nat) w (HC l (O r) e i) c1 (by rw[bne_iff_ne];exact g1) (by rw[bne_iff_ne];exact g2) (by rw[bne_iff_ne];exact g3) (by omega) (by rw[F];exact hs) hs2;rwa [ei,w1] at k
 ·exact Aps (D6 l) r _ _ _ _ (by rw[decide_eq_false_iff_not];omega)
end
def TZB:Cp:=TZA
theorem mS:B_ I TZB:=lN
theorem zH(na nb:Bool)(xs ys:List Int)(s t:Int)(c1:B (s<t)=true)(n1:H I 79 [.agg [.bool na,sL lm xs]] (.int .i64 s))(n2:H I 79 [.agg [.bool nb,sL lm ys]] (.int .i64 t)):H I 83 [.agg [.bool na,sL lm xs],.agg [.bool nb,sL lm ys]] (.int .i64 (-1)):=i (fn:=SE) a rfl 400 rfl [.r (.int .i64 s),.r (.int .i64 t),.b true] (L n1 (L n2 (L c1 a0)))
theorem zI(na nb:Bool)(xs ys:List Int)(s t:Int)(c1:B (s<t)=false)(c2:B (s>t)=true)(n1:H I 79 [.agg [.bool na,sL lm xs]] (.int .i64 s))(n2:H I 79 [.agg [.bool nb,sL lm ys]] (.int .i64 t)):H I 83 [.agg [.bool na,sL lm xs],.agg [.bool nb,sL lm ys]] (.int .i64 1):=i (fn:=SE) a rfl 400 rfl [.r (.int .i64 s),.r (.int .i64 t),.b false,.b true] (L n1 (L n2 (L c1 (L c2 a0))))
theorem zJ(na nb:Bool)(xs ys:List Int)(s t c:Int)(c1:B (s<t)=false)(c2:B (s>t)=false)(c3:B (s<0)=true)(n1:H I 79 [.agg [.bool na,sL lm xs]] (.int .i64 s))(n2:H I 79 [.agg [.bool nb,sL lm ys]] (.int .i64 t))(n3:H I 99 [sL lm xs] (.fresh 1 ((Y xs).length) (lm (Y xs))))(n4:H I 99 [sL lm ys] (.fresh 1 ((Y ys).length) (lm (Y ys))))(n5:H I 134 [.sl ((Y xs).length) (lm (Y xs)),.sl ((Y ys).length) (lm (Y ys))] (.int .i64 c)):H I 83 [.agg [.bool na,sL lm xs],.agg [.bool nb,sL lm ys]] (.int .i64 (D R (0-c))):=i (fn:=SE) a rfl 400 rfl [.r (.int .i64 s),.r (.int .i64 t),.b false,.b false,.r (.fresh 1 ((Y xs).length) (lm (Y xs))),.r (.fresh 1 ((Y ys).length) (lm (Y ys))),.r (.int .i64 c),.b true] (L n1 (L n2 (L c1 (L c2 (L n3 (L n4 (L n5 (L c3 a0))))))))
theorem zK(na nb:Bool)(xs ys:List Int)(s t c:Int)(c1:B (s<t)=false)(c2:B (s>t)=false)(c3:B (s<0)=false)(n1:H I 79 [.agg [.bool na,sL lm xs]] (.int .i64 s))(n2:H I 79 [.agg [.bool nb,sL lm ys]] (.int .i64 t))(n3:H I 99 [sL lm xs] (.fresh 1 ((Y xs).length) (lm (Y xs))))(n4:H I 99 [sL lm ys] (.fresh 1 ((Y ys).length) (lm (Y ys))))(n5:H I 134 [.sl ((Y xs).length) (lm (Y xs)),.sl ((Y ys).length) (lm (Y ys))] (.int .i64 c)):H I 83 [.agg [.bool na,sL lm xs],.agg [.bool nb,sL lm ys]] (.int .i64 c):=i (fn:=SE) a rfl 400 rfl [.r (.int .i64 s),.r (.int .i64 t),.b false,.b false,.r (.fresh 1 ((Y xs).length) (lm (Y xs))),.r (.fresh 1 ((Y ys).length) (lm (Y ys))),.r (.int .i64 c),.b false] (L n1 (L n2 (L c1 (L c2 (L n3 (L n4 (L n5 (L c3 a0))))))))
theorem mT(na nb m1 m2:Bool)(xs ys us vs:List Int)(d:Int)(c1:(m1)=true)(c2:(m2)=true)(n1:H I 143 [.agg [.bool na,sL lm xs]] (.tup [.bool m1,sL lm us]))(n2:H I 143 [.agg [.bool nb,sL lm ys]] (.tup [.bool m2,sL lm vs]))(n3:H I 151 [sL lm vs,sL lm us] (.int .i64 d)):H I 103 [.agg [.bool na,sL lm xs],.agg [.bool nb,sL lm ys]] (.int .i64 d):=i (fn:=Nv) a rfl 400 rfl [.r (.tup [.bool m1,sL lm us]),.r (.tup [.bool m2,sL lm vs]),.b true,.b false,.b true,.b false,.b true,.r (.int .i64 d)] (L n1 (L n2 (L c1 (L (Fb c2) (L c2 (L (Fb c1) (L c1 (L n3 a0))))))))
theorem mU(na nb m1 m2:Bool)(xs ys us vs:List Int)(c1:(m1)=true)(c2:(m2)=false)(n1:H I 143 [.agg [.bool na,sL lm xs]] (.tup [.bool m1,sL lm us]))(n2:H I 143 [.agg [.bool nb,sL lm ys]] (.tup [.bool m2,sL lm vs])):H I 103 [.agg [.bool na,sL lm xs],.agg [.bool nb,sL lm ys]] (.int .i64 (-1)):=i (fn:=Nv) a rfl 400 rfl [.r (.tup [.bool m1,sL lm us]),.r (.tup [.bool m2,sL lm vs]),.b true,.b true] (L n1 (L n2 (L c1 (L (YO c2) a0))))
theorem mV(na nb m1 m2:Bool)(xs ys us vs:List Int)(c1:(m1)=false)(c2:(m2)=true)(n1:H I 143 [.agg [.bool na,sL lm xs]] (.tup [.bool m1,sL lm us]))(n2:H I 143 [.agg [.bool nb,sL lm ys]] (.tup [.bool m2,sL lm vs])):H I 103 [.agg [.bool na,sL lm xs],.agg [.bool nb,sL lm ys]] (.int .i64 1):=i (fn:=Nv) a rfl 400 rfl [.r (.tup [.bool m1,sL lm us]),.r (.tup [.bool m2,sL lm vs]),.b false,.b false,.b true,.b true] (L n1 (L n2 (L c1 (L Ff (L c2 (L (YO c1) a0))))))
theorem mW(na nb m1 m2:Bool)(xs ys us vs:List Int)(c:Int)(c1:(m1)=false)(c2:(m2)=false)(n1:H I 143 [.agg [.bool na,sL lm xs]] (.tup [.bool m1,sL lm us]))(n2:H I 143 [.agg [.bool nb,sL lm ys]] (.tup [.bool m2,sL lm vs]))(n3:H I 151 [sL lm us,sL lm vs] (.int .i64 c)):H I 103 [.agg [.bool na,sL lm xs],.agg [.bool nb,sL lm ys]] (.int .i64 c):=i (fn:=Nv) a rfl 400 rfl [.r (.tup [.bool m1,sL lm us]),.r (.tup [.bool m2,sL lm vs]),.b false,.b false,.b false,.b false,.b false,.r (.int .i64 c)] (L n1 (L n2 (L c1 (L Ff (L c2 (L Ff (L c1 (L n3 a0))))))))
def CC(m:Bool)(k:Int)(s:Int)(ms:List Int)(lost:Bool)(i:Int):Ak:=(Q 4 (.box [.bool false,.sl 0 []]::(.val (.bool m)::(.val (sL lm ms)::(.val (.int .i64 k)::(.val (.int .u64 s)::(.val (.bool lost)::(.val (.int .i64 i)::(Q 92 [])))))))))
theorem zL(m:Bool)(k:Int)(s:Int)(ms:List Int)(lost:Bool)(i:Int)(c1:B (i<k)=true)(c2:B (i<(ms.length:Int))=true)(c3:(lost)=true):W I EM (CC m k s ms lost i) .norm (CC m k s ms true (D R (i+1))):=(C a 400 [.b true,.b true,.b true] [4,5,6,7,8,9,10] (L c1 (L c2 (L c3 a0))))
theorem X_(m:Bool)(k:Int)(s:Int)(ms:List Int)(lost:Bool)(i:Int)(c1:B (i<k)=true)(c2:B (i<(ms.length:Int))=true)(c3:(lost)=false)(n1:0<=i/\i<(ms.length:Int)):W I EM (CC m k s ms lost i) .norm (CC m k s ms ((ms.getD (A i) 0) != 0) (D R (i+1))):=(C a 400 [.b true,.b true,.b false,.v (.int .u32 (ms.getD (A i) 0))] [4,5,6,7,8,9,10] (L c1 (L c2 (L c3 (L n1 (L (y n1) a0))))))
theorem zM(m:Bool)(k:Int)(s:Int)(ms:List Int)(lost:Bool)(i:Int)(c1:B (i<k)=true)(c2:B (i<(ms.length:Int))=false):W I EM (CC m k s ms lost i) (.exit 0) (CC m k s ms lost i):=(C a 400 [.b true,.b false] [4,5,6,7,8,9,10] (L c1 (L c2 a0)))
theorem Sh(m:Bool)(k:Int)(s:Int)(ms:List Int)(lost:Bool)(i:Int)(c1:B (i<k)=false):W I EM (CC m k s ms lost i) (.exit 0) (CC m k s ms lost i):=(C a 400 [.b false,.b false] [4,5,6,7,8,9,10] (L c1 (L Ff a0)))
def CM(m:Bool)(k:Int)(s:Int)(ms:List Int)(lost:Bool)(n:Nat)(cs:List AV)(i:Int):Ak:=(Q 4 (.box [.bool false,.sl 0 []]::(.val (.bool m)::(.val (sL lm ms)::(.val (.int .i64 k)::(.val (.int .u64 s)::(.val (.bool lost)::(Q 1 (.own 1 n cs::(.val (.int .i64 i)::(Q 90 [])))))))))))
theorem Ya(m:Bool)(k:Int)(s:Int)(ms:List Int)(lost:Bool)(n:Nat)(cs:List AV)(i:Int)(c1:B (i<(ms.length:Int))=true)(c2:B ((D R (i+1))<(ms.length:Int))=true)(n1:0<=i/\i<(ms.length:Int))(n2:0<=(D R (i+1))/\(D R (i+1))<(ms.length:Int))(n3:¬ s<0)(n4:n+1<=35184372088832):W I E' (CM m k s ms lost n cs i) .norm (CM m k s ms lost (n+1) (cs++([.int .u32 (D A4 (d (D U ((T (Aj .u64) (D U (ms.getD (A i) 0)) ||| T (Aj .u64) (D U ((D U (ms.getD (A (D R (i+1))) 0))*2^(min (A 32) (Aj .u64))))).toNat)) (2^(min (A s) (Aj .u64)))))]:List AV)) (D R (i+1))):=(C a 400 [.b true,.v (.int .u32 (ms.getD (A i) 0)),.b true,.v (.int .u32 (ms.getD (A (D R (i+1))) 0))] [4,5,6,7,8,9,11,12] (L c1 (L n1 (L (y n1) (L c2 (L n2 (L (y n2) (L HE (L n3 (L (show Bj ([.int .u32 (D A4 (d (D U ((T (Aj .u64) (D U (ms.getD (A i) 0)) ||| T (Aj .u64) (D U ((D U (ms.getD (A (D R (i+1))) 0))*2^(min (A 32) (Aj .u64))))).toNat)) (2^(min (A s) (Aj .u64)))))]:List AV)=1*1 from rfl) (L n4 a0)))))))))))
theorem Yb(m:Bool)(k:Int)(s:Int)(ms:List Int)(lost:Bool)(n:Nat)(cs:List AV)(i:Int)(c1:B (i<(ms.length:Int))=true)(c2:B ((D R (i+1))<(ms.length:Int))=false)(n1:0<=i/\i<(ms.length:Int))(n2:¬ s<0)(n3:n+1<=35184372088832):W I E' (CM m k s ms lost n cs i) .norm (CM m k s ms lost (n+1) (cs++([.int .u32 (D A4 (d (D U (ms.getD (A i) 0)) (2^(min (A s) (Aj .u64)))))]:List AV)) (D R (i+1))):=(C a 400 [.b true,.v (.int .u32 (ms.getD (A i) 0)),.b false] [4,5,6,7,8,9,11,12] (L c1 (L n1 (L (y n1) (L c2 (L n2 (L (show Bj ([.int .u32 (D A4 (d (D U (ms.getD (A i) 0)) (2^(min (A s) (Aj .u64)))))]:List AV)=1*1 from rfl) (L n3 a0))))))))
theorem Si(m:Bool)(k:Int)(s:Int)(ms:List Int)(lost:Bool)(n:Nat)(cs:List AV)(i:Int)(c1:B (i<(ms.length:Int))=false):W I E' (CM m k s ms lost n cs i) (.exit 2) (CM m k s ms lost n cs i):=(C a 400 [.b false] [4,5,6,7,8,9,11,12] (L c1 a0))
theorem mX(neg m lost:Bool)(xs ms os ts zs:List Int)(sh i1 i2 v:Int)(c1:B ((D R (o sh 32))<(ms.length:Int))=true)(c2:((D A4 ((T (Aj .u32) (ms.getD (A (D R (o sh 32))) 0) &&& T (Aj .u32) (D A4 ((D A4 (1*2^(min (A (D U (f sh 32))) (Aj .u32))))-1))).toNat)) != 0)=true)(c3:(m)=true)(n1:H I 143 [.agg [.bool neg,sL lm xs]] (.tup [.bool m,sL lm ms]))(hl2:W I (.loop EM) (CC m (D R (o sh 32)) (D U (f sh 32)) ms false 0) (.exit 0) (CC m (D R (o sh 32)) (D U (f sh 32)) ms lost i1))(hl3:W I (.loop E') (CM m (D R (o sh 32)) (D U (f sh 32)) ms lost 0 ([]:List AV) (D R (o sh 32))) (.exit 2) (CM m (D R (o sh 32)) (D U (f sh 32)) ms lost os.length (lm os) i2))(n4:0<=(D R (o sh 32))/\(D R (o sh 32))<(ms.length:Int))(n5:¬ (D U (f sh 32))<0)(n6:H I 184 [sL lm os] (sL lm ts))(n7:H I 178 [sL lm ts,.sl 1 [.int .u32 1]] (.fresh 1 zs.length (lm zs)))(n8:H I 152 [.bool true,sL lm zs] (Ab v)):H I 163 [.agg [.bool neg,sL lm xs],.int .i64 sh] (Ab v):=p (fn:=JV) (s:=(Q 4 (.box [.bool (B (v<0)),.sl ((G (E v)).length) (lm (G (E v)))]::(Q 98 [])))) (ex := .ret) rfl rfl (P (P (P (Ar (W.seq (C a 400 [.r (.tup [.bool m,sL lm ms])] [4,5,6,7,8,9,10] (L n1 (L E3 (L E3 a0)))) (W.seq (W.block hl2) (Ar (W.seq (C a 400 [] [4,5,6,7,8,9,11,12] a0) (W.seq (W.block hl3) (C a 400 [.b true,.v (.int .u32 (ms.getD (A (D R (o sh 32))) 0)),.b true,.b true,.b true,.r (sL lm ts),.r (.fresh 1 zs.length (lm zs)),.r (Ab v)] [4] (L c1 (L n4 (L (y n4) (L n5 (L c2 (L c3 (L G0 (L n6 (L n7 (L n8 a0)))))))))))))))))))) (by nofun) rfl
theorem mY(neg m lost:Bool)(xs ms os:List Int)(sh i1 i2 u:Int)(c1:B ((D R (o sh 32))<(ms.length:Int))=true)(c2:((D A4 ((T (Aj .u32) (ms.getD (A (D R (o sh 32))) 0) &&& T (Aj .u32) (D A4 ((D A4 (1*2^(min (A (D U (f sh 32))) (Aj .u32))))-1))).toNat)) != 0)=true)(c3:(m)=false)(n1:H I 143 [.agg [.bool neg,sL lm xs]] (.tup [.bool m,sL lm ms]))(hl2:W I (.loop EM) (CC m (D R (o sh 32)) (D U (f sh 32)) ms false 0) (.exit 0) (CC m (D R (o sh 32)) (D U (f sh 32)) ms lost i1))(hl3:W I (.loop E') (CM m (D R (o sh 32)) (D U (f sh 32)) ms lost 0 ([]:List AV) (D R (o sh 32))) (.exit 2) (CM m (D R (o sh 32)) (D U (f sh 32)) ms lost os.length (lm os) i2))(n4:0<=(D R (o sh 32))/\(D R (o sh 32))<(ms.length:Int))(n5:¬ (D U (f sh 32))<0)(n6:H I 152 [.bool m,sL lm os] (Ab u)):H I 163 [.agg [.bool neg,sL lm xs],.int .i64 sh] (Ab u):=p (fn:=JV) (s:=(Q 4 (.box [.bool (B (u<0)),.sl ((G (E u)).length) (lm (G (E u)))]::(Q 98 [])))) (ex := .ret) rfl rfl (P (P (P (Ar (W.seq (C a 400 [.r (.tup [.bool m,sL lm ms])] [4,5,6,7,8,9,10] (L n1 (L E3 (L E3 a0)))) (W.seq (W.block hl2) (Ar (W.seq (C a 400 [] [4,5,6,7,8,9,11,12] a0) (W.seq (W.block hl3) (C a 400 [.b true,.v (.int .u32 (ms.getD (A (D R (o sh 32))) 0)),.b true,.b false,.b false,.r (Ab u)] [4] (L c1 (L n4 (L (y n4) (L n5 (L c2 (L c3 (L Ff (L n6 a0)))))))))))))))))) (by nofun) rfl
theorem mZ(neg m lost:Bool)(xs ms os ts zs:List Int)(sh i1 i2 v:Int)(c1:B ((D R (o sh 32))<(ms.length:Int))=true)(c2:((D A4 ((T (Aj .u32) (ms.getD (A (D R (o sh 32))) 0) &&& T (Aj .u32) (D A4 ((D A4 (1*2^(min (A (D U (f sh 32))) (Aj .u32))))-1))).toNat)) != 0)=false)(c3:(m)=true)(c4:(lost)=true)(n1:H I 143 [.agg [.bool neg,sL lm xs]] (.tup [.bool m,sL lm ms]))(hl2:W I (.loop EM) (CC m (D R (o sh 32)) (D U (f sh 32)) ms false 0) (.exit 0) (CC m (D R (o sh 32)) (D U (f sh 32)) ms lost i1))(hl3:W I (.loop E') (CM m (D R (o sh 32)) (D U (f sh 32)) ms lost 0 ([]:List AV) (D R (o sh 32))) (.exit 2) (CM m (D R (o sh 32)) (D U (f sh 32)) ms lost os.length (lm os) i2))(n4:0<=(D R (o sh 32))/\(D R (o sh 32))<(ms.length:Int))(n5:¬ (D U (f sh 32))<0)(n6:H I 184 [sL lm os] (sL lm ts))(n7:H I 178 [sL lm ts,.sl 1 [.int .u32 1]] (.fresh 1 zs.length (lm zs)))(n8:H I 152 [.bool true,sL lm zs] (Ab v)):H I 163 [.agg [.bool neg,sL lm xs],.int .i64 sh] (Ab v):=p (fn:=JV) (s:=(Q 4 (.box [.bool (B (v<0)),.sl ((G (E v)).length) (lm (G (E v)))]::(Q 98 [])))) (ex := .ret) rfl rfl (P (P (P (Ar (W.seq (C a 400 [.r (.tup [.bool m,sL lm ms])] [4,5,6,7,8,9,10] (L n1 (L E3 (L E3 a0)))) (W.seq (W.block hl2) (Ar (W.seq (C a 400 [] [4,5,6,7,8,9,11,12] a0) (W.seq (W.block hl3) (C a 400 [.b true,.v (.int .u32 (ms.getD (A (D R (o sh 32))) 0)),.b false,.b true,.b true,.r (sL lm ts),.r (.fresh 1 zs.length (lm zs)),.r (Ab v)] [4] (L c1 (L n4 (L (y n4) (L n5 (L c2 (L c3 (L c4 (L n6 (L n7 (L n8 a0)))))))))))))))))))) (by nofun) rfl
theorem VV(neg m lost:Bool)(xs ms os:List Int)(sh i1 i2 u:Int)(c1:B ((D R (o sh 32))<(ms.length:Int))=true)(c2:((D A4 ((T (Aj .u32) (ms.getD (A (D R (o sh 32))) 0) &&& T (Aj .u32) (D A4 ((D A4 (1*2^(min (A (D U (f sh 32))) (Aj .u32))))-1))).toNat)) != 0)=false)(c3:(m)=true)(c4:(lost)=false)(n1:H I 143 [.agg [.bool neg,sL lm xs]] (.tup [.bool m,sL lm ms]))(hl2:W I (.loop EM) (CC m (D R (o sh 32)) (D U (f sh 32)) ms false 0) (.exit 0) (CC m (D R (o sh 32)) (D U (f sh 32)) ms lost i1))(hl3:W I (.loop E') (CM m (D R (o sh 32)) (D U (f sh 32)) ms lost 0 ([]:List AV) (D R (o sh 32))) (.exit 2) (CM m (D R (o sh 32)) (D U (f sh 32)) ms lost os.length (lm os) i2))(n4:0<=(D R (o sh 32))/\(D R (o sh 32))<(ms.length:Int))(n5:¬ (D U (f sh 32))<0)(n6:H I 152 [.bool m,sL lm os] (Ab u)):H I 163 [.agg [.bool neg,sL lm xs],.int .i64 sh] (Ab u):=p (fn:=JV) (s:=(Q 4 (.box [.bool (B (u<0)),.sl ((G (E u)).length) (lm (G (E u)))]::(Q 98 [])))) (ex := .ret) rfl rfl (P (P (P (Ar (W.seq (C a 400 [.r (.tup [.bool m,sL lm ms])] [4,5,6,7,8,9,10] (L n1 (L E3 (L E3 a0)))) (W.seq (W.block hl2) (Ar (W.seq (C a 400 [] [4,5,6,7,8,9,11,12] a0) (W.seq (W.block hl3) (C a 400 [.b true,.v (.int .u32 (ms.getD (A (D R (o sh 32))) 0)),.b false,.b true,.b false,.r (Ab u)] [4] (L c1 (L n4 (L (y n4) (L n5 (L c2 (L c3 (L c4 (L n6 a0)))))))))))))))))) (by nofun) rfl
theorem VW(neg m lost:Bool)(xs ms os:List Int)(sh i1 i2 u:Int)(c1:B ((D R (o sh 32))<(ms.length:Int))=true)(c2:((D A4 ((T (Aj .u32) (ms.getD (A (D R (o sh 32))) 0) &&& T (Aj .u32) (D A4 ((D A4 (1*2^(min (A (D U (f sh 32))) (Aj .u32))))-1))).toNat)) != 0)=false)(c3:(m)=false)(n1:H I 143 [.agg [.bool neg,sL lm xs]] (.tup [.bool m,sL lm ms]))(hl2:W I (.loop EM) (CC m (D R (o sh 32)) (D U (f sh 32)) ms false 0) (.exit 0) (CC m (D R (o sh 32)) (D U (f sh 32)) ms lost i1))(hl3:W I (.loop E') (CM m (D R (o sh 32)) (D U (f sh 32)) ms lost 0 ([]:List AV) (D R (o sh 32))) (.exit 2) (CM m (D R (o sh 32)) (D U (f sh 32)) ms lost os.length (lm os) i2))(n4:0<=(D R (o sh 32))/\(D R (o sh 32))<(ms.length:Int))(n5:¬ (D U (f sh 32))<0)(n6:H I 152 [.bool m,sL lm os] (Ab u)):H I 163 [.agg [.bool neg,sL lm xs],.int .i64 sh] (Ab u):=p (fn:=JV) (s:=(Q 4 (.box [.bool (B (u<0)),.sl ((G (E u)).length) (lm (G (E u)))]::(Q 98 [])))) (ex := .ret) rfl rfl (P (P (P (Ar (W.seq (C a 400 [.r (.tup [.bool m,sL lm ms])] [4,5,6,7,8,9,10] (L n1 (L E3 (L E3 a0)))) (W.seq (W.block hl2) (Ar (W.seq (C a 400 [] [4,5,6,7,8,9,11,12] a0) (W.seq (W.block hl3) (C a 400 [.b true,.v (.int .u32 (ms.getD (A (D R (o sh 32))) 0)),.b false,.b false,.b false,.r (Ab u)] [4] (L c1 (L n4 (L (y n4) (L n5 (L c2 (L c3 (L Ff (L n6 a0)))))))))))))))))) (by nofun) rfl
theorem nA(neg m lost:Bool)(xs ms os ts zs:List Int)(sh i1 i2 v:Int)(c1:B ((D R (o sh 32))<(ms.length:Int))=false)(c2:(m)=true)(c3:(lost)=true)(n1:H I 143 [.agg [.bool neg,sL lm xs]] (.tup [.bool m,sL lm ms]))(hl2:W I (.loop EM) (CC m (D R (o sh 32)) (D U (f sh 32)) ms false 0) (.exit 0) (CC m (D R (o sh 32)) (D U (f sh 32)) ms lost i1))(hl3:W I (.loop E') (CM m (D R (o sh 32)) (D U (f sh 32)) ms lost 0 ([]:List AV) (D R (o sh 32))) (.exit 2) (CM m (D R (o sh 32)) (D U (f sh 32)) ms lost os.length (lm os) i2))(n4:H I 184 [sL lm os] (sL lm ts))(n5:H I 178 [sL lm ts,.sl 1 [.int .u32 1]] (.fresh 1 zs.length (lm zs)))(n6:H I 152 [.bool true,sL lm zs] (Ab v)):H I 163 [.agg [.bool neg,sL lm xs],.int .i64 sh] (Ab v):=p (fn:=JV) (s:=(Q 4 (.box [.bool (B (v<0)),.sl ((G (E v)).length) (lm (G (E v)))]::(Q 98 [])))) (ex := .ret) rfl rfl (P (P (P (Ar (W.seq (C a 400 [.r (.tup [.bool m,sL lm ms])] [4,5,6,7,8,9,10] (L n1 (L E3 (L E3 a0)))) (W.seq (W.block hl2) (Ar (W.seq (C a 400 [] [4,5,6,7,8,9,11,12] a0) (W.seq (W.block hl3) (C a 400 [.b false,.b false,.b true,.b true,.r (sL lm ts),.r (.fresh 1 zs.length (lm zs)),.r (Ab v)] [4] (L c1 (L Ff (L c2 (L c3 (L n4 (L n5 (L n6 a0))))))))))))))))) (by nofun) rfl
theorem nB(neg m lost:Bool)(xs ms os:List Int)(sh i1 i2 u:Int)(c1:B ((D R (o sh 32))<(ms.length:Int))=false)(c2:(m)=false)(n1:H I 143 [.agg [.bool neg,sL lm xs]] (.tup [.bool m,sL lm ms]))(hl2:W I (.loop EM) (CC m (D R (o sh 32)) (D U (f sh 32)) ms false 0) (.exit 0) (CC m (D R (o sh 32)) (D U (f sh 32)) ms lost i1))(hl3:W I (.loop E') (CM m (D R (o sh 32)) (D U (f sh 32)) ms lost 0 ([]:List AV) (D R (o sh 32))) (.exit 2) (CM m (D R (o sh 32)) (D U (f sh 32)) ms lost os.length (lm os) i2))(n4:H I 152 [.bool m,sL lm os] (Ab u)):H I 163 [.agg [.bool neg,sL lm xs],.int .i64 sh] (Ab u):=p (fn:=JV) (s:=(Q 4 (.box [.bool (B (u<0)),.sl ((G (E u)).length) (lm (G (E u)))]::(Q 98 [])))) (ex := .ret) rfl rfl (P (P (P (Ar (W.seq (C a 400 [.r (.tup [.bool m,sL lm ms])] [4,5,6,7,8,9,10] (L n1 (L E3 (L E3 a0)))) (W.seq (W.block hl2) (Ar (W.seq (C a 400 [] [4,5,6,7,8,9,11,12] a0) (W.seq (W.block hl3) (C a 400 [.b false,.b false,.b false,.b false,.r (Ab u)] [4] (L c1 (L Ff (L c2 (L Ff (L n4 a0))))))))))))))) (by nofun) rfl
theorem Aze(r t:Rn)(e f X Y c:Int)(n1:H I 104 [Ap r,.int .i64 (D R ((if f>e then f else e)-e))] (Ab X))(n2:H I 104 [Ap t,.int .i64 (D R ((if f>e then f else e)-f))] (Ab Y))(n3:H I 103 [Ab X,Ab Y] (.int .i64 c)):H I 55 [.agg [.bool r.1,.sl r.2.length (lm r.2),.int .i64 e],.agg [.bool t.1,.sl t.2.length (lm t.2),.int .i64 f]] (.int .i64 c):=i (fn:=aO) a rfl 400 rfl [.r (Ab X),.r (Ab Y),.r (.int .i64 c)] (L n1 (L n2 (L n3 a0)))
def Lm(n:Rn)(e:Int)(z:Int):Ak:=(Q 1 (.val (.int .i64 e)::(.box [.bool n.1,.sl n.2.length (lm n.2)]::(Q 1 (.box [.bool false,.sl 0 [],.int .i64 0]::(.val (.int .i64 z)::(Q 33 [])))))))
theorem Arp(n:Rn)(e:Int)(z:Int)(c1:B (z<e)=true)(c2:((D A4 ((T (Aj .u32) (d (n.2.getD (A (D R (o z 32))) 0) (2^(min (A (D U (f z 32))) (Aj .u32)))) &&& T (Aj .u32) 1).toNat))==0)=true)(n1:0<=(D R (o z 32))/\(D R (o z 32))<(n.2.length:Int))(n2:¬ (D U (f z 32))<0):W I R5 (Lm n e z) .norm (Lm n e (D R (z+1))):=(C a 400 [.b true,.v (.int .u32 (n.2.getD (A (D R (o z 32))) 0)),.b true] [1,2,4,5] (L c1 (L E3 (L n1 (L (y n1) (L E3 (L n2 (L c2 a0))))))))
theorem Arq(n:Rn)(e:Int)(z:Int)(c1:B (z<e)=true)(c2:((D A4 ((T (Aj .u32) (d (n.2.getD (A (D R (o z 32))) 0) (2^(min (A (D U (f z 32))) (Aj .u32)))) &&& T (Aj .u32) 1).toNat))==0)=false)(n1:0<=(D R (o z 32))/\(D R (o z 32))<(n.2.length:Int))(n2:¬ (D U (f z 32))<0):W I R5 (Lm n e z) (.exit 0) (Lm n e z):=(C a 400 [.b true,.v (.int .u32 (n.2.getD (A (D R (o z 32))) 0)),.b false] [1,2,4,5] (L c1 (L E3 (L n1 (L (y n1) (L E3 (L n2 (L c2 a0))))))))
theorem Arr(n:Rn)(e:Int)(z:Int)(c1:B (z<e)=false):W I R5 (Lm n e z) (.exit 0) (Lm n e z):=(C a 400 [.b false,.b false] [1,2,4,5] (L c1 (L Ff a0)))
theorem VX(r:Rn)(e n:Int)(c1:((((G (E n)).length:Nat):Int)==0)=true)(n1:H I 113 [Ap r] (Ab n)):H I 130 [Ap r,.int .i64 e] (.agg [.bool false,.sl 0 [],.int .i64 0]):=p (fn:=R6) (s:=(Q 4 (.box [.bool false,.sl 0 [],.int .i64 0]::(Q 34 [])))) (ex := .ret) rfl rfl (P (P (P (AQ (C a 400 [.r (Ab n),.b true] [4] (L n1 (L c1 a0))) (by nofun))))) (by nofun) rfl
theorem VY(r:Rn)(e n z u:Int)(c1:((((G (E n)).length:Nat):Int)==0)=false)(n1:H I 113 [Ap r] (Ab n))(hl2:W I (.loop R5) (Lm (cn n) e 0) (.exit 0) (Lm (cn n) e z))(n3:H I 163 [Ap (cn n),.int .i64 z] (Ab u)):H I 130 [Ap r,.int .i64 e] (.agg [.bool (B (u<0)),.sl ((G (E u)).length) (lm (G (E u))),.int .i64 (D R (e-z))]):=p (fn:=R6) (s:=(Q 4 (.box [.bool (B (u<0)),.sl ((G (E u)).length) (lm (G (E u))),.int .i64 (D R (e-z))]::(Q 34 [])))) (ex := .ret) rfl rfl (P (P (P (W.seq (C a 400 [.r (Ab n),.b false] [1,2,4,5] (L n1 (L c1 a0))) (W.seq (W.block hl2) (C a 400 [.r (Ab u)] [4] (L n3 a0))))))) (by nofun) rfl
theorem Ars(r t:Rn)(e f X Y Z n m:Int)(n1:H I 104 [Ap r,.int .i64 (D R ((if f>e then f else e)-e))] (Ab X))(n2:H I 104 [Ap t,.int .i64 (D R ((if f>e then f else e)-f))] (Ab Y))(n3:H I 111 [Ab X,Ab Y] (Ab Z))(n4:H I 130 [Ab Z,.int .i64 (D R ((if f>e then f else e)+1))] (.agg [.bool (B (n<0)),.sl ((G (E n)).length) (lm (G (E n))),.int .i64 m])):H I 133 [.agg [.bool r.1,.sl r.2.length (lm r.2),.int .i64 e],.agg [.bool t.1,.sl t.2.length (lm t.2),.int .i64 f]] (.agg [.bool (B (n<0)),.sl ((G (E n)).length) (lm (G (E n))),.int .i64 m]):=i (fn:=UB) a rfl 400 rfl [.r (Ab X),.r (Ab Y),.r (Ab Z),.r (.agg [.bool (B (n<0)),.sl ((G (E n)).length) (lm (G (E n))),.int .i64 m])] (L n1 (L n2 (L n3 (L n4 a0))))
theorem Azf(r t:Rn)(e f X Y c:Int)(n1:H I 84 [Ap r,.int .i64 f] (C8 X))(n2:H I 84 [Ap t,.int .i64 e] (C8 Y))(n3:H I 83 [Ab X,Ab Y] (.int .i64 c)):H I 33 [.agg [.bool r.1,.sl r.2.length (lm r.2),.int .i64 e],.agg [.bool t.1,.sl t.2.length (lm t.2),.int .i64 f]] (.int .i64 c):=i (fn:=aI) a rfl 400 rfl [.r (C8 X),.r (C8 Y),.r (.int .i64 c)] (L n1 (L n2 (L n3 a0)))
theorem Azg{a b X Y:Int}(ha:a=X\/a = -X)(hb:b=Y\/b = -Y)(hX:0<=X)(hY:0<=Y) :
  (B8 a<B8 b->Cw a b = -1)/\(B8 a>B8 b->Cw a b=1)/\(¬ B8 a<B8 b->¬ B8 a>B8 b->(B8 a<0->Cw a b = -Cw X Y)/\(¬ B8 a<0->Cw a b=Cw X Y)):=by
 unfold B8 Cw;grind
theorem QU(a b:Int) : -1<=Cw a b/\Cw a b<=1:=by unfold Cw;grind
theorem Art(neg:Bool)(xs:List Int):rv neg xs=Aa xs\/rv neg xs = -Aa xs:=by unfold rv;cases neg <;> simp
theorem Sj{na nb:Bool}{xs ys:List Int}(hx:AI xs)(hy:AI ys)(h1:xs.length<=1048576)(h2:ys.length<=1048576):H I 83 [.agg [.bool na,sL lm xs],.agg [.bool nb,sL lm ys]] (.int .i64 (Cw (rv na xs) (rv nb ys))):=by
 obtain⟨a1,a2,a3⟩:=Azg (Art na xs) (Art nb ys) (AK hx) (AK hy);have s1:=Ge (neg:=na) hx h1;have s2:=Ge (neg:=nb) hy h2;by_cases c1:B8 (rv na xs)<B8 (rv nb ys)
 ·rw[a1 c1];exact zH na nb xs ys _ _ (by rw[decide_eq_true_eq];exact c1) s1 s2
 by_cases c2:B8 (rv na xs)>B8 (rv nb ys)
 ·rw[a2 c2];exact zI na nb xs ys _ _ (by rw[decide_eq_false_iff_not];exact c1) (by rw[decide_eq_true_eq];exact c2) s1 s2
 obtain⟨a4,a5⟩:=a3 c1 c2;have t1:=Bn xs;have t2:=Bn ys;have hc:=N5 (Fp hx) (Fp hy) (by omega);rw[DS,DS] at hc;by_cases c3:B8 (rv na xs)<0
 ·have hb:=QU (Aa xs) (Aa ys);have k:=zJ na nb xs ys _ _ _ (by rw[decide_eq_false_iff_not];exact c1) (by rw[decide_eq_false_iff_not];exact c2) (by rw[decide_eq_true_eq];exact c3) s1 s2 (DI (by omega)) (DI (by omega)) hc;rw[AW (by omega) (by omega),Int.zero_sub] at k;rw[a4 c3];exact k
 ·rw[a5 c3];exact zK na nb xs ys _ _ _ (by rw[decide_eq_false_iff_not];exact c1) (by rw[decide_eq_false_iff_not];exact c2) (by rw[decide_eq_false_iff_not];exact c3) s1 s2 (DI (by omega)) (DI (by omega)) hc
theorem zN{na nb:Bool}{xs ys:List Int}(hx:AI xs)(hy:AI ys)(h1:xs.length<=1048576)(h2:ys.length<=1048576):H I 103 [.agg [.bool na,sL lm xs],.agg [.bool nb,sL lm ys]] (.int .i64 (Cw (rv na xs) (rv nb ys))):=by
 have s1:=CZ (neg:=na) hx h1;have s2:=CZ (neg:=nb) hy h2;have l1:=Es (neg:=na) hx;have l2:=Es (neg:=nb) hy;have k1:=I9 (Cj (rv na xs).natAbs) (Cj (rv nb ys).natAbs) (by omega);have k2:=I9 (Cj (rv nb ys).natAbs) (Cj (rv na xs).natAbs) (by omega);rw[Cs,Cs] at k1 k2;by_cases c1:rv na xs<0
 ·by_cases c2:rv nb ys<0
  ·have e:Cw (rv na xs) (rv nb ys)=Cw ((rv nb ys).natAbs:Int) ((rv na xs).natAbs:Int):=by unfold Cw;grind
   rw[e];exact mT na nb _ _ xs ys _ _ _ (decide_eq_true c1) (decide_eq_true c2) s1 s2 k2
  ·have e:Cw (rv na xs) (rv nb ys) = -1:=by unfold Cw;grind
   rw[e];exact mU na nb _ _ xs ys _ _ (decide_eq_true c1) (decide_eq_false c2) s1 s2
 ·by_cases c2:rv nb ys<0
  ·have e:Cw (rv na xs) (rv nb ys)=1:=by unfold Cw;grind
   rw[e];exact mV na nb _ _ xs ys _ _ (decide_eq_false c1) (decide_eq_true c2) s1 s2
  ·have e:Cw (rv na xs) (rv nb ys)=Cw ((rv na xs).natAbs:Int) ((rv nb ys).natAbs:Int):=by unfold Cw;grind
   rw[e];exact mW na nb _ _ xs ys _ _ _ (decide_eq_false c1) (decide_eq_false c2) s1 s2 k1
theorem eO{ms:List Int}(hu:AI ms):∀ k,k<=ms.length->Aa (ms.take k)=0->∀ i,i<k->ms.getD i 0=0:=by
 intro k;induction k with
 | zero=>intro _ _ i hi;omega
 | succ k ih =>
  intro hk hv i hi;have ht:=Du ms k (by omega);have hp:=Cc k;have hm:=AA hu k;have h1:=(NG (Dm hu k) (A1 (Aw hp) hm.1)).1 (by rw[<- ht];exact hv);rcases Ck i k with g | g
  ·exact ih (by omega) h1.1 i g
  ·have:i=k:=by omega
   subst this;rcases GI.1 h1.2 with z | z
   ·omega
   ·exact z
theorem A4o{m:Bool}{ms:List Int}{s:Int}{k:Nat}(hk:k<=ms.length)(hN:ms.length<=1048576)(hz:∀ i,i<k->ms.getD i 0=0) :
  W I (.loop EM) (CC m (k:Nat) s ms false 0) (.exit 0) (CC m (k:Nat) s ms false (k:Nat)):=by
 have h:=W.up (prog:=I) (c:=EM) (ex := .exit 0) (fin:=CC m (k:Nat) s ms false (k:Nat)) (fun i=>CC m (k:Nat) s ms false (i:Nat)) k (by nofun) ?_ ?_ 0 (Bf _)
 ·exact h
 ·intro i hi;have ei:D R ((i:Int)+1)=((i+1:Nat):Int):=by rw[AW (by omega) (by omega)];omega
  have k1:=X_ m (k:Nat) s ms false (i:Nat) (by simp;omega) (by simp;omega) rfl (by omega);rw[ei,F,hz i hi] at k1;exact k1
 ·exact Sh m _ s ms false _ (by simp)
theorem A4p{m:Bool}{ms:List Int}{kk:Int}{s k:Nat}(hu:AI ms)(hs:s<32)(hN:ms.length<=1048576)(hk:k<=ms.length):∀ (r i:Nat),i+r=ms.length-k ->
  W I (.loop E') (CM m kk (s:Nat) ms false i (lm ((Ao i).map (Cy (ms.drop k) s))) ((k+i:Nat):Int)) (.exit 2) (CM m kk (s:Nat) ms false (ms.length-k) (lm ((Ao (ms.length-k)).map (Cy (ms.drop k) s))) (ms.length:Nat)):=by
 intro r;induction r with
 | zero =>
  intro i hi;have hi':i=ms.length-k:=by omega
  subst hi';have e0:((k+(ms.length-k):Nat):Int)=(ms.length:Nat):=by omega
  rw[e0];exact Al (Si m kk _ ms false _ _ _ (by simp)) (by nofun)
 | succ r ih =>
  intro i hi;have ei:D R (((k+i:Nat):Int)+1)=((k+(i+1):Nat):Int):=by rw[AW (by omega) (by omega)];omega
  have hx:=AA hu (k+i);have hy:=AA hu (k+i+1);have gx:(ms.drop k).getD i 0=ms.getD (k+i) 0:=by simp[Z,AX]
  have gy:(ms.drop k).getD (i+1) 0=ms.getD (k+i+1) 0:=by simp[Z,AX,CO]
  have em:min (A (s:Int)) (Aj .u64)=s:=by rw[F];show min s 64=s;omega
  have hR:Cy (ms.drop k) s i=(ms.getD (k+i+1) 0*4294967296+ms.getD (k+i) 0) / 2^s % 4294967296:=by
   rw[V5 hx hs];unfold Cy;rw[gx,gy]
  have hstep:W I E' (CM m kk (s:Nat) ms false i (lm ((Ao i).map (Cy (ms.drop k) s))) ((k+i:Nat):Int)) .norm (CM m kk (s:Nat) ms false (i+1) (lm ((Ao (i+1)).map (Cy (ms.drop k) s))) ((k+(i+1):Nat):Int)):=by
   have el:lm ((Ao (i+1)).map (Cy (ms.drop k) s))=lm ((Ao i).map (Cy (ms.drop k) s))++([.int .u32 (Cy (ms.drop k) s i)]:List AV):=by
    rw[FX,DR,Cz,FF,G8]
   rw[el,hR];by_cases h1:k+i+1<ms.length
   ·have kk1:=Ya m kk (s:Nat) ms false i (lm ((Ao i).map (Cy (ms.drop k) s))) ((k+i:Nat):Int) (by simp;omega) (by rw[ei];simp;omega) (by omega) (by rw[ei];omega) (by omega) (by omega);rw[ei,F,F,em] at kk1;have w1:D U ((T (Aj .u64) (D U (ms.getD (k+i) 0)) ||| T (Aj .u64) (D U ((D U (ms.getD (k+(i+1)) 0))*2^(min (A 32) (Aj .u64))))).toNat)=ms.getD (k+i+1) 0*4294967296+ms.getD (k+i) 0:=by
     rw[Of,Cx (n:=ms.getD (k+(i+1)) 0) (by rw[<- CO];omega),<- CO];exact Li hy hx
    have hpos:0<=ms.getD (k+i+1) 0*4294967296+ms.getD (k+i) 0:=by omega
    rw[w1,t _ (by have:=B7 s;omega),Ds] at kk1;exact kk1
   ·have hz:ms.getD (k+i+1) 0=0:=Bv (by omega);have kk1:=Yb m kk (s:Nat) ms false i (lm ((Ao i).map (Cy (ms.drop k) s))) ((k+i:Nat):Int) (by simp;omega) (by rw[ei];simp;omega) (by omega) (by omega) (by omega);rw[ei,F,em,Cx (n:=ms.getD (k+i) 0) (by omega),t _ (by have:=B7 s;omega),Ds] at kk1;rw[hz,DF,Db];exact kk1
  exact W.loop hstep (ih (i+1) (by omega))
theorem eQ{N:Int}(h0:N ≠ 0){z:Nat}(hd:(2:Int)^z∣N):z / 32<(G N.natAbs).length:=by
 apply Nat.lt_of_not_le;intro hle;have h1:=D4 (Cj N.natAbs).1;rw[Cs] at h1;have h2:=Fq hle;have h3:=G9 z;have h4:=B7 (z % 32);have h5:=Ah (show (1:Int)<=2^(z % 32) by omega) (Aw (Cc (z / 32)));rw[Dp,<- h3] at h5;obtain⟨q,hq⟩:=hd;have hq0:q ≠ 0:=by intro h;rw[h,AG] at hq;exact h0 hq
 have h6:(N.natAbs:Int)=2^z*(q.natAbs:Int):=by
  rw[hq,BA,Dj,Ky (Aw (B7 z))]
 have h7:=Ah (show (1:Int)<=(q.natAbs:Int) by omega) (Aw (B7 z));rw[Dp,<- h6] at h7;omega
theorem Tg{N:Int}(h0:N ≠ 0){n:Nat}(hd:(2:Int)^n∣N)(hn:(n:Int)<=9223372036854775807)(hN:(G N.natAbs).length<=1048576):H I 163 [Ab N,.int .i64 (n:Nat)] (Ab (N / 2^n)):=by
 have hin:=eQ h0 hd;have e1:D R (o (n:Int) 32)=((n / 32:Nat):Int):=by
  rw[B0 (by omega),AW (by omega) (by omega)];omega
 have e2:D U (f (n:Int) 32)=((n % 32:Nat):Int):=by
  rw[Bc (by omega),B1];omega
 have hs:n % 32<32:=G5 _ (by decide);have tu:AI (G N.natAbs):=BC _;have hlb:=CZ (neg:=decide (N<0)) tu hN;rw[Fr] at hlb;have hp:=G9 n;have hP:=Cc (n / 32);have hS:=B7 (n % 32);have hval:=Cs N.natAbs;generalize hms:G N.natAbs=ms at *
 have hall:=V6 (ms:=ms) hs (show n / 32<=ms.length by omega);have ux:AI ((Ao (ms.length-n / 32)).map (Cy (ms.drop (n / 32)) (n % 32))):=Mv fun i=>(NE (E7 tu _) hs i).2.2.2;have hmk:=DD (neg:=decide (N<0)) ux (by simp;omega);have hlen:((Ao (ms.length-n / 32)).map (Cy (ms.drop (n / 32)) (n % 32))).length=ms.length-n / 32:=by simp
 have hb:=A4p (m:=decide (N<0)) (ms:=ms) (kk:=((n / 32:Nat):Int)) (s:=n % 32) (k:=n / 32) tu hs hN (by omega) (ms.length-n / 32) 0 (by omega);generalize hQ:(Ao (ms.length-n / 32)).map (Cy (ms.drop (n / 32)) (n % 32))=Q at *
 (first|rw[<- hlen] at hb|(unfold sL at hb;rw[<- hlen] at hb));have hm0:=EK (ms.getD (n / 32) 0) (show (2:Int)^(n % 32) ≠ 0 by omega);have hm1:=DU (ms.getD (n / 32) 0) hS;have ht0:=AK (Dm tu (n / 32));have ht1:=Fv tu (n / 32);have hl:0<=4294967296^(n / 32)*(ms.getD (n / 32) 0 % 2^(n % 32))+Aa (ms.take (n / 32))/\4294967296^(n / 32)*(ms.getD (n / 32) 0 % 2^(n % 32))+Aa (ms.take (n / 32))<2^n:=by
  rw[hp];generalize (4294967296:Int)^(n / 32)=P at *
  generalize ms.getD (n / 32) 0 % 2^(n % 32)=z at *
  generalize (2:Int)^(n % 32)=S at *
  have a:=A1 (Aw hP) hm0;have b:=Ah (show z+1<=S by omega) (Aw hP);rw[C1,Dp] at b;omega
 have hdm:(2:Int)^n∣(N.natAbs:Int):=Int.dvd_natAbs.2 hd;have hv2:(N.natAbs:Int)=2^n*Aa Q+(4294967296^(n / 32)*(ms.getD (n / 32) 0 % 2^(n % 32))+Aa (ms.take (n / 32))):=by rw[<- hval,hall,hp];grind
 have hl0:4294967296^(n / 32)*(ms.getD (n / 32) 0 % 2^(n % 32))+Aa (ms.take (n / 32))=0:=by
  have h1:(N.natAbs:Int) % 2^n=0:=Int.emod_eq_zero_of_dvd hdm;rw[hv2,Ij,T0,FT hl.1 hl.2] at h1;exact h1
 have hz1:ms.getD (n / 32) 0 % 2^(n % 32)=0/\Aa (ms.take (n / 32))=0:=by
  have a:=A1 (Aw hP) hm0;have b:4294967296^(n / 32)*(ms.getD (n / 32) 0 % 2^(n % 32))=0:=by omega
  rcases GI.1 b with z | z
  ·omega
  ·exact⟨z,by omega⟩
 rw[hl0,B2] at hv2;have ha:=A4o (m:=decide (N<0)) (ms:=ms) (s:=((n % 32:Nat):Int)) (k:=n / 32) (by omega) hN (eO tu _ (by omega) hz1.2);have emask:D A4 ((D A4 (1*2^(min (A (D U (f (n:Int) 32))) (Aj .u32))))-1)=2^(n % 32)-1:=by
  have:min (A ((n % 32:Nat):Int)) (Aj .u32)=n % 32:=by rw[F];show min (n % 32) 32=n % 32;omega
  have h31:(2:Int)^(n % 32)<=2147483648:=FP (show n % 32<=31 by omega);rw[e2,this,CR,Ds,Ds];omega
 have ec2:D A4 ((T (Aj .u32) (ms.getD (A (D R (o (n:Int) 32))) 0) &&& T (Aj .u32) (D A4 ((D A4 (1*2^(min (A (D U (f (n:Int) 32))) (Aj .u32))))-1))).toNat)=0:=by
  rw[emask,e1,F,Y_ (AA tu _) (by omega)];exact hz1.1
 have c1:decide ((D R (o (n:Int) 32))<(ms.length:Int))=true:=by rw[e1];simp;omega
 have hb2:W I (.loop E') (CM (B (N<0)) (D R (o (n:Int) 32)) (D U (f (n:Int) 32)) ms false 0 [] (D R (o (n:Int) 32))) (.exit 2) (CM (B (N<0)) (D R (o (n:Int) 32)) (D U (f (n:Int) 32)) ms false Q.length (lm Q) (ms.length:Nat)):=by
  rw[e1,e2];exact hb
 have ha2:W I (.loop EM) (CC (B (N<0)) (D R (o (n:Int) 32)) (D U (f (n:Int) 32)) ms false 0) (.exit 0) (CC (B (N<0)) (D R (o (n:Int) 32)) (D U (f (n:Int) 32)) ms false ((n / 32:Nat):Int)):=by
  rw[e1,e2];exact ha
 have hres:rv (B (N<0)) Q=N / 2^n:=by
  have hpn:=B7 n;by_cases hneg:N<0
  ·rw[decide_eq_true hneg];have:N=2^n*(-Aa Q):=by rw[DY];omega
   show -Aa Q=_;conv=>rhs;rw[this]
   rw[BN _ (by omega)]
  ·rw[decide_eq_false hneg];have:N=2^n*Aa Q:=by omega
   show Aa Q=_;conv=>rhs;rw[this]
   rw[BN _ (by omega)]
 rw[hres] at hmk;have hlm:(G N.natAbs)=ms:=hms;unfold Ab;rw[hlm];by_cases hneg:N<0
 ·exact VV _ (B (N<0)) false ms ms Q (n:Nat) _ _ _ c1 (by rw[ec2];rfl) (decide_eq_true hneg) rfl hlb ha2 hb2 (by rw[e1];omega) (by rw[e2];omega) hmk
 ·exact VW _ (B (N<0)) false ms ms Q (n:Nat) _ _ _ c1 (by rw[ec2];rfl) (decide_eq_false hneg) hlb ha2 hb2 (by rw[e1];omega) (by rw[e2];omega) hmk
theorem Aru(n:Int):(cn n).2.length=(G n.natAbs).length:=rfl
theorem Arv(n:Int):AI (cn n).2:=BC _
theorem Azh{ms:List Int}(hu:AI ms){z:Nat}(hz:z / 32<ms.length):ms.getD (z / 32) 0 / 2^(z % 32) % 2=Aa ms / 2^z % 2:=by
 have h1:=Df ms (show z / 32<=ms.length by omega);have e32:=QF (show z % 32<=32 by omega);rw[AD] at e32;have eT:(2:Int)^(32-z % 32)=2*2^(31-z % 32):=by rw[show 32-z % 32=(31-z % 32)+1 by omega,Ay];omega
 have h2:Aa (ms.drop (z / 32))=ms.getD (z / 32) 0+2^(z % 32)*(2*2^(31-z % 32))*Aa (ms.drop (z / 32+1)):=by
  rw[<- eT,<- e32,CU hz,Z,Ae hz];rfl
 have ht0:=AK (Dm hu (z / 32));have ht1:=Fv hu (z / 32);have hp:=G9 z;have hP:=Cc (z / 32);have hS:=B7 (z % 32);have hb0:=EK (ms.getD (z / 32) 0) (show (2:Int)^(z % 32) ≠ 0 by omega);have hb1:=DU (ms.getD (z / 32) 0) hS;have hx:=Gj (ms.getD (z / 32) 0) (2^(z % 32));rw[hp,h1,h2];clear h1 h2 hp e32 eT;generalize Aa (ms.take (z / 32))=T at *
 generalize Aa (ms.drop (z / 32+1))=R at *
 generalize ms.getD (z / 32) 0=x at *
 generalize (4294967296:Int)^(z / 32)=P at *
 generalize (2:Int)^(31-z % 32)=U at *
 generalize (2:Int)^(z % 32)=S at *
 generalize x / S=a at *
 generalize x % S=b at *
 have e:T+P*(x+S*(2*U)*R)=(T+P*b)+P*S*(a+2*(U*R)):=by rw[<- hx];grind
 have hPS:=BE hP hS;have c1:=A1 (Aw hP) hb0;have c2:=Ah (show b+1<=S by omega) (Aw hP);rw[C1,Dp] at c2;rw[e,HH _ _ (by omega),DN (by omega) (by omega),Db,T0]
theorem Arw{p:Int}(hp:0<=p/\p<4294967296):(D A4 ((T (Aj .u32) p &&& T (Aj .u32) 1).toNat)==0)=decide (p % 2=0):=by
 have h:=Y_ hp (s:=1) (by decide);rw[show ((2:Int)^1-1)=1 by decide,show ((2:Int)^1)=2 by decide] at h;rw[h,ZH,beq_iff_eq,decide_eq_true_eq]
theorem zO{x:Int}(hx:0<=x/\x<4294967296){s:Nat}(hs:s<32):(D A4 ((T (Aj .u32) (d x (2^(min (A (s:Int)) (Aj .u32)))) &&& T (Aj .u32) 1).toNat)==0)=decide (x / 2^s % 2=0):=by
 have em:min (A (s:Int)) (Aj .u32)=s:=by rw[F];show min s 32=s;omega
 have hp:=B7 s;rw[em,t _ (by omega)];have h1:=IV hx.1 (Aw hp);have h2:=Int.ediv_le_self (2^s) hx.1;exact Arw ⟨h1,by omega⟩
def Fe:Int->Nat->Nat
 | _,0=>0
 | N,e+1=>if N % 2=0 then Fe (N / 2) e+1 else 0
theorem Kj:∀ (e:Nat) (N:Int),Fe N e<=e
 | 0,_=>Am _
 | e+1,N=>by
  simp only[Fe];split
  ·have:=Kj e (N / 2);omega
  ·omega
theorem I0:∀ (e:Nat) (N:Int),(2:Int)^Fe N e∣N
 | 0,N=>⟨N,by simp[Fe]⟩
 | e+1,N=>by
  simp only[Fe];split
  ·obtain⟨q,hq⟩:=I0 e (N / 2);refine⟨q,?_⟩;rw[Ay,AB,AD 2 q,<- AB,<- hq];omega
  ·exact⟨N,by simp⟩
theorem PP:∀ e:Nat,Fe 0 e=e
 | 0=>rfl
 | e+1=>by simp only[Fe];rw[if_pos (by decide),show (0:Int) / 2=0 by decide,PP e]
def dyA(n e:Int):AV := .agg [.bool (B (n<0)),.sl (G n.natAbs).length (lm (G n.natAbs)),.int .i64 e]
theorem Pc{N:Int}(h0:N ≠ 0){e:Nat}(he:e<=1000000)(hN:(G N.natAbs).length<1048576):∀ (r z:Nat),z+r=e->(2:Int)^z∣N ->
  W I (.loop R5) (Lm (cn N) (e:Nat) (z:Nat)) (.exit 0) (Lm (cn N) (e:Nat) ((z+Fe (N / 2^z) r:Nat):Int)):=by
 intro r;induction r with
 | zero =>
  intro z hz _;exact Al (Arr (cn N) (e:Nat) (z:Nat) (by simp;omega)) (by nofun)
 | succ r ih =>
  intro z hz hd;have hin:=eQ h0 hd;have e1:D R (o (z:Int) 32)=((z / 32:Nat):Int):=by
   rw[B0 (by omega),AW (by omega) (by omega)];omega
  have e2:D U (f (z:Int) 32)=((z % 32:Nat):Int):=by
   rw[Bc (by omega),B1];omega
  have ei:D R ((z:Int)+1)=((z+1:Nat):Int):=by rw[AW (by omega) (by omega)];omega
  have hs:z % 32<32:=G5 _ (by decide);have c1:decide ((z:Int)<(e:Int))=true:=by rw[decide_eq_true_eq];omega
  have hb:=Azh (BC N.natAbs) hin;rw[Cs] at hb;obtain⟨q,hq⟩:=hd;have hpz:=B7 z;have hq1:N / 2^z=q:=by
   conv=>lhs;rw[hq]
   exact BN _ (by omega)
  have hq2:(N.natAbs:Int) / 2^z=(q.natAbs:Int):=by
   have:(N.natAbs:Int)=2^z*(q.natAbs:Int):=by rw[hq,BA,Dj,Ky (Aw hpz)]
   rw[this];exact BN _ (by omega)
  rw[hq2] at hb;have ht:=zO (AA (BC N.natAbs) (z / 32)) hs;have ct:(D A4 ((T (Aj .u32) (d ((cn N).2.getD (A (D R (o (z:Int) 32))) 0) (2^(min (A (D U (f (z:Int) 32))) (Aj .u32)))) &&& T (Aj .u32) 1).toNat)==0)=decide (q % 2=0):=by
   rw[e1,e2,F];refine ht.trans ?_;rw[hb,decide_eq_decide];omega
  have hlen:(cn N).2.length=(G N.natAbs).length:=rfl;rw[hq1];by_cases h2:q % 2=0
  ·have er:Fe q (r+1)=Fe (q / 2) r+1:=by simp only[Fe];rw[if_pos h2]
   have hq3:N=2^(z+1)*(q / 2):=by rw[Ay,AB,show 2*(q / 2)=q by omega];exact hq
   have hq4:N / 2^(z+1)=q / 2:=by
    conv=>lhs;rw[hq3]
    exact BN _ (by have:=B7 (z+1);omega)
   have hr:=ih (z+1) (by omega) ⟨q / 2,hq3⟩;rw[hq4] at hr;have k:=Arp (cn N) (e:Nat) (z:Nat) c1 (by rw[ct,decide_eq_true_eq];exact h2) (by rw[e1];omega) (by rw[e2];omega);rw[ei] at k;rw[er,show z+(Fe (q / 2) r+1)=z+1+Fe (q / 2) r by omega];exact W.loop k hr
  ·have er:Fe q (r+1)=0:=by simp only[Fe];rw[if_neg h2]
   rw[er,FB];exact Al (Arq (cn N) (e:Nat) (z:Nat) c1 (by rw[ct,decide_eq_false_iff_not];exact h2) (by rw[e1];omega) (by rw[e2];omega)) (by nofun)
theorem Zv{N:Int}{e:Nat}(hN:(G N.natAbs).length<1048576)(he:e<=1000000):H I 130 [Ab N,.int .i64 (e:Nat)] (dyA (N / 2^Fe N e) ((e-Fe N e:Nat):Int)):=by
 have h1:=Is (neg:=(cn N).1) (xs:=(cn N).2) (Arv N) (by rw[Aru];omega);rw[show rv (cn N).1 (cn N).2=N from At N] at h1;by_cases h0:N=0
 ·subst h0;rw[PP,Auu,Lt];exact VX (cn 0) (e:Nat) 0 rfl h1
 ·have hl:=Pc h0 he hN e 0 (by omega) (by simp);rw[Da,Int.ediv_one,BR] at hl;have hle:=Kj e N;have hs:=Tg h0 (I0 e N) (by omega) (by omega);have k:=VY (cn N) (e:Nat) N _ _ (by rw[beq_eq_false_iff_ne];have:=DO N.natAbs;omega) h1 hl hs;have ew:D R ((e:Int)-((Fe N e:Nat):Int))=((e-Fe N e:Nat):Int):=by rw[AW (by omega) (by omega)];omega
  rw[ew] at k;exact k
def E_(o:Bool)(ps:List (List Rn))(n:Int)(k:Int)(rs:List Rn)(d:Int)(i:Int):Ak:=(Q 2 (.val (.bool o)::(Q 1 (.val (sL pc rs)::(.val (.int .i64 d)::(.val (.int .i64 i)::(.val (sL pp ps)::(.val (.int .i64 n)::(.val (.int .i64 k)::(Q 19 []))))))))))
theorem zP(o:Bool)(ps:List (List Rn))(n:Int)(k:Int)(rs:List Rn)(d:Int)(i:Int)(z:Int)(c1:B (i<=d)=true)(c2:B (z>256)=true)(n1:0<=i/\i<(rs.length:Int))(n2:H I 177 [Ap (rs.getD (A i) z0)] (.int .i64 z)):W I HM (E_ o ps n k rs d i) .ret (E_ true ps n k rs d i):=(C CT 400 [.b true,.v (Ap (rs.getD (A i) z0)),.r (.int .i64 z),.b true] [2,4,5,6,7,8,9] (L c1 (L n1 (L (B3 n1) (L n2 (L c2 a0))))))
theorem zQ(o:Bool)(ps:List (List Rn))(n:Int)(k:Int)(rs:List Rn)(d:Int)(i:Int)(z:Int)(c1:B (i<=d)=true)(c2:B (z>256)=false)(n1:0<=i/\i<(rs.length:Int))(n2:H I 177 [Ap (rs.getD (A i) z0)] (.int .i64 z)):W I HM (E_ o ps n k rs d i) .norm (E_ o ps n k rs d (D R (i+1))):=(C CT 400 [.b true,.v (Ap (rs.getD (A i) z0)),.r (.int .i64 z),.b false] [2,4,5,6,7,8,9] (L c1 (L n1 (L (B3 n1) (L n2 (L c2 a0))))))
theorem zU(o:Bool)(ps:List (List Rn))(n:Int)(k:Int)(rs:List Rn)(d:Int)(i:Int)(c1:B (i<=d)=false):W I HM (E_ o ps n k rs d i) (.exit 2) (E_ o ps n k rs d i):=(C CT 400 [.b false] [2,4,5,6,7,8,9] (L c1 a0))
def M9:ICode:=e [oB 10 .lss 9 8] (.seq (.cond 10 .skip (.exit 0)) (.seq (.block 1 (e [oA 11 7 9 1,S 12 (.ld 11 11 1 true),X 4 12] (e [X 13 4,r 14 53 [13],X 5 14] (.seq (e [X 15 5,oI 16 .gtr 15 16] (.cond 16 (e [S 2 (.mov (cb true))] .ret) .skip)) (e [S 6 (.mov (ci 0))] (.block 2 (.loop (.seq (e [X 17 6,X 18 5,oB 19 .leq 17 18] (.cond 19 .skip (.exit 2))) (.seq (.block 3 (e [X 22 4,X 23 6,oA 24 22 23 2,oL 25 24 24 2,r 26 177 [25],oI 27 .gtr 26 256] (.cond 27 (e [S 2 (.mov (cb true))] .ret) .skip))) (rg [X 20 6,oI 21 .add 20 1,X 6 21])))))))))) (rg [oI 28 .add 9 1,X 9 28])))
def G_(o:Bool)(ps:List (List Rn))(n:Int)(k:Int):Ak:=(Q 2 (.val (.bool o)::(Q 4 (.val (sL pp ps)::(.val (.int .i64 n)::(.val (.int .i64 k)::(Q 19 [])))))))
theorem Arx(o:Bool)(ps:List (List Rn))(n:Int)(k:Int)(d:Int)(c1:B (k<n)=true)(c2:B (d>16)=true)(n1:0<=k/\k<(ps.length:Int))(n2:H I 53 [.sl ((ps.getD (A k) []).length) (pc (ps.getD (A k) []))] (.int .i64 d)):W I M9 (G_ o ps n k) .ret (G_ true ps n k):=(P (W.seq (C (t:=(Q 2 (.val (.bool o)::(Q 4 (.val (sL pp ps)::(vi n::(vi k::(Q 19 [])))))))) CT 400 [.b true] [2,7,8,9] (L c1 a0)) (AQ (De (P (P (P (AQ (C CT 400 [.v (.sl ((ps.getD (A k) []).length) (pc (ps.getD (A k) []))),.r (.int .i64 d),.b true] [2,7,8,9] (L n1 (L (Fh n1) (L n2 (L c2 a0))))) (by nofun)))))) (by nofun))))
theorem Ary(o:Bool)(ps:List (List Rn))(n:Int)(k:Int)(d i:Int)(c1:B (k<n)=true)(c2:B (d>16)=false)(n1:0<=k/\k<(ps.length:Int))(n2:H I 53 [.sl ((ps.getD (A k) []).length) (pc (ps.getD (A k) []))] (.int .i64 d))(hl3:W I (.loop HM) (E_ o ps n k (ps.getD (A k) []) d 0) (.exit 2) (E_ o ps n k (ps.getD (A k) []) d i)):W I M9 (G_ o ps n k) .norm (G_ o ps n (D R (k+1))):=(P (W.seq (C (t:=(Q 2 (.val (.bool o)::(Q 4 (.val (sL pp ps)::(vi n::(vi k::(Q 19 [])))))))) CT 400 [.b true] [2,7,8,9] (L c1 a0)) (W.seq (Ci (P (P (P (W.seq (C CT 400 [.v (.sl ((ps.getD (A k) []).length) (pc (ps.getD (A k) []))),.r (.int .i64 d),.b false] [2,4,5,6,7,8,9] (L n1 (L (Fh n1) (L n2 (L c2 a0))))) (W.block hl3)))))) (C CT 400 [] [2,7,8,9] a0))))
theorem Arz(o:Bool)(ps:List (List Rn))(n:Int)(k:Int)(c1:B (k<n)=false):W I M9 (G_ o ps n k) (.exit 0) (G_ o ps n k):=(P (AQ (C CT 400 [.b false] [2,7,8,9] (L c1 a0)) (by nofun)))
def qY(o:Bool)(ps:List (List Rn))(n:Int)(k:Int):Ak:=(Q 2 (.val (.bool o)::(Q 4 (.val (sL pp ps)::(.val (.int .i64 n)::(.val (.int .i64 k)::(Q 19 [])))))))
theorem zW(o:Bool)(ps:List (List Rn))(n:Int)(k:Int)(d i:Int)(c1:B (k<n)=true)(c2:B (d>16)=false)(n1:0<=k/\k<(ps.length:Int))(n2:H I 53 [.sl ((ps.getD (A k) []).length) (pc (ps.getD (A k) []))] (.int .i64 d))(hl3:W I (.loop HM) (E_ o ps n k (ps.getD (A k) []) d 0) .ret (E_ true ps n k (ps.getD (A k) []) d i)):W I qG (qY o ps n k) .ret (qY true ps n k):=(P (W.seq (C (t:=(Q 2 (.val (.bool o)::(Q 4 (.val (sL pp ps)::(vi n::(vi k::(Q 19 [])))))))) CT 400 [.b true] [2,7,8,9] (L c1 a0)) (AQ (De (P (P (P (W.seq (C CT 400 [.v (.sl ((ps.getD (A k) []).length) (pc (ps.getD (A k) []))),.r (.int .i64 d),.b false] [2,4,5,6,7,8,9] (L n1 (L (Fh n1) (L n2 (L c2 a0))))) (De (cO (t':=(Q 2 (.val (.bool true)::(Q 4 (.val (sL pp ps)::(.val (.int .i64 n)::(.val (.int .i64 k)::(Q 19 [])))))))) [2,7,8,9] hl3 (by kernel_rfl)))))))) (by nofun))))
theorem nC(ps:List (List Rn))(n k:Int)(hl1:W I (.loop M9) (G_ false ps (ps.length:Int) 0) (.exit 0) (G_ false ps n k)):H I 147 [sL pp ps] (.bool false):=p (fn:=RA) (s:=(Q 2 (.val (.bool false)::(Q 26 [])))) (ex := .ret) rfl rfl (Ar (W.seq (C CT 400 [] [2,7,8,9] a0) (W.seq (W.block hl1) (C CT 400 [] [2] a0)))) (by nofun) rfl
theorem nD(ps:List (List Rn))(n k:Int)(hl1:W I (.loop M9) (G_ false ps (ps.length:Int) 0) .ret (G_ true ps n k)):H I 147 [sL pp ps] (.bool true):=p (fn:=RA) (s:=(Q 2 (.val (.bool true)::(Q 4 (.val (sL pp ps)::(.val (.int .i64 n)::(.val (.int .i64 k)::(Q 19 [])))))))) (ex := .ret) rfl rfl (Ar (W.seq (C CT 400 [] [2,7,8,9] a0) (AQ (De hl1) (by nofun)))) (by nofun) rfl
def NU(x:Int):Bool:=decide (256<(G x.natAbs).length)
def C'(p:List Int):Bool:=decide (17<(Y p).length) || (Y p).any NU
theorem nE{p:List Int}{f:Int->Bool}(h:p.any f=false)(i:Nat)(hi:i<p.length):f (p.getD i 0)=false:=by
 rw[Ph] at h;rw[Z,Ae hi];simpa using h _ (Dc hi)
theorem zX{p:List Int}{f:Int->Bool}(h:p.any f=true):∃ i,i<p.length/\f (p.getD i 0)=true:=by
 obtain⟨x,hx,hf⟩:=Yy.1 h;obtain⟨i,hi,rfl⟩:=Hf.1 hx;refine⟨i,hi,?_⟩;rw[Z,Ae hi];simpa using hf
section
variable {rs:List Rn} {ps:List (List Rn)} {n k:Int}
theorem VZ(hg:∀ r∈rs,u 1048576 r)(hN:rs.length<=1048576) :
  (C' (M rs)=false->(Y (M rs)).length<=17->W I (.loop HM) (E_ false ps n k rs (((l (M rs) rs.length:Nat):Int)-1) 0) (.exit 2) (E_ false ps n k rs (((l (M rs) rs.length:Nat):Int)-1) (l (M rs) rs.length:Nat))) /\
  (C' (M rs)=true->(Y (M rs)).length<=17->∃ j:Nat,W I (.loop HM) (E_ false ps n k rs (((l (M rs) rs.length:Nat):Int)-1) 0) .ret (E_ true ps n k rs (((l (M rs) rs.length:Nat):Int)-1) (j:Nat))):=by
 have hle:=Gn (M rs) rs.length;have hlen:(Y (M rs)).length=l (M rs) rs.length:=by rw[Fs,s]
 have step:∀ t:Nat,t<l (M rs) rs.length->NU (O (rs.getD t z0))=false->W I HM (E_ false ps n k rs (((l (M rs) rs.length:Nat):Int)-1) (t:Nat)) .norm (E_ false ps n k rs (((l (M rs) rs.length:Nat):Int)-1) ((t+1:Nat):Int)):=by
  intro t ht hb;have ei:D R ((t:Int)+1)=((t+1:Nat):Int):=by rw[AW (by omega) (by omega)];omega
  obtain⟨g1,g2⟩:=A' hg t;have k2:=zQ false ps n k rs (((l (M rs) rs.length:Nat):Int)-1) (t:Nat) (((G (O (rs.getD t z0)).natAbs).length:Nat):Int) (by simp;omega) (by unfold NU at hb;simp only[decide_eq_false_iff_not] at hb |-;omega) (by omega) (by rw[F];exact V4 g1 g2);rwa [ei] at k2
 refine⟨fun hl _ => ?_,fun hl h17 => ?_⟩
 ·unfold C' at hl;rw[MG] at hl;have h:=EN (prog:=I) (c:=HM) (ex := .exit 2) (fun t=>E_ false ps n k rs (((l (M rs) rs.length:Nat):Int)-1) (t:Nat)) (l (M rs) rs.length) (by nofun) (zU false ps n k rs _ _ (by simp;omega)) 0 (Bf _) (fun t _ h2=>step t h2 (by
   have:=nE hl.2 t (by omega);rwa [CX,C3] at this))
  exact h
 ·unfold C' at hl;rw[decide_eq_false (by omega),Wu] at hl;obtain⟨i,hi,hf⟩:=zX hl;rcases H8 (fun j=>NU (O (rs.getD j z0))) (l (M rs) rs.length) _ 0 (by rw[BR]) with h | ⟨j,_,h2,h3,h4⟩
  ·have:=h i (by omega) (by omega);rw[CX,C3] at hf;rw[hf] at this;cases this
  ·obtain⟨g1,g2⟩:=A' hg j;have k1:=zP false ps n k rs (((l (M rs) rs.length:Nat):Int)-1) (j:Nat) (((G (O (rs.getD j z0)).natAbs).length:Nat):Int) (by simp;omega) (by unfold NU at h3;simp only[decide_eq_true_eq] at h3 |-;omega) (by omega) (by rw[F];exact V4 g1 g2);exact⟨j,EN (prog:=I) (c:=HM) (ex := .ret) (fun t=>E_ false ps n k rs (((l (M rs) rs.length:Nat):Int)-1) (t:Nat)) j (by nofun) k1 0 (Bf _) (fun t _ h6=>step t (by omega) (h4 t (by omega) h6))⟩
end
theorem LM{α:Type}{l:List (List α)}{i:Nat}(h:i<l.length):l.getD i []∈l:=by
 rw[Z,Ae h];exact Dc h
theorem Th{ps:List (List Rn)}(hg:∀ p∈ps,(∀ r∈p,u 1048576 r)/\p.length<=1048576)(hN:ps.length<=1048576):H I 147 [sL pp ps] (.bool (ps.any fun p=>C' (M p))):=by
 have hdeg:∀ t,t<ps.length->H I 53 [.sl (ps.getD t []).length (pc (ps.getD t []))] (.int .i64 (((l (M (ps.getD t [])) (ps.getD t []).length:Nat):Int)-1)):=fun t ht=>GB (hg _ (LM ht)).1 (hg _ (LM ht)).2;have step:∀ t:Nat,t<ps.length->C' (M (ps.getD t []))=false->W I M9 (G_ false ps (ps.length:Nat) (t:Nat)) .norm (G_ false ps (ps.length:Nat) ((t+1:Nat):Int)):=by
  intro t ht hl;have ei:D R ((t:Int)+1)=((t+1:Nat):Int):=by rw[AW (by omega) (by omega)];omega
  obtain⟨g1,g2⟩:=hg _ (LM ht);have hlen:(Y (M (ps.getD t []))).length=l (M (ps.getD t [])) (ps.getD t []).length:=by rw[Fs,s]
  have h17:(Y (M (ps.getD t []))).length<=17:=by
   unfold C' at hl;rw[MG,decide_eq_false_iff_not] at hl;omega
  have k2:=Ary false ps (ps.length:Nat) (t:Nat) (((l (M (ps.getD t [])) (ps.getD t []).length:Nat):Int)-1) _ (by simp;omega) (by rw[decide_eq_false_iff_not];omega) (by omega) (by rw[F];exact hdeg t ht) (by rw[F];exact (VZ g1 g2).1 hl h17);rwa [ei] at k2
 rcases H8 (fun j=>C' (M (ps.getD j []))) ps.length _ 0 (by rw[BR]) with h | ⟨j,_,h2,h3,h4⟩
 ·have hany:(ps.any fun p=>C' (M p))=false:=by
   rw[Ph];intro p hp;obtain⟨i,hi,rfl⟩:=Hf.1 hp;have:=h i (by omega) hi;rw[Z,Ae hi] at this;simpa using this
  rw[hany];exact nC ps _ _ (EN (prog:=I) (c:=M9) (ex := .exit 0) (fun t=>G_ false ps (ps.length:Nat) (t:Nat)) ps.length (by nofun) (Arz false ps _ _ (by simp)) 0 (Bf _) (fun t _ h6=>step t h6 (h t (by omega) h6)))
 ·have hany:(ps.any fun p=>C' (M p))=true:=by
   rw[Yy];exact⟨_,LM h2,h3⟩
  rw[hany];obtain⟨g1,g2⟩:=hg _ (LM h2);have hlen:(Y (M (ps.getD j []))).length=l (M (ps.getD j [])) (ps.getD j []).length:=by rw[Fs,s]
  have out:W I M9 (G_ false ps (ps.length:Nat) (j:Nat)) .ret (G_ true ps (ps.length:Nat) (j:Nat)):=by
   by_cases h17:(Y (M (ps.getD j []))).length<=17
   ·obtain⟨i,hi⟩:=(VZ (ps:=ps) (n:=(ps.length:Nat)) (k:=(j:Nat)) g1 g2).2 h3 h17;exact zW false ps (ps.length:Nat) (j:Nat) (((l (M (ps.getD j [])) (ps.getD j []).length:Nat):Int)-1) _ (by simp;omega) (by rw[decide_eq_false_iff_not];omega) (by omega) (by rw[F];exact hdeg j h2) (by rw[F];exact hi)
   ·exact Arx false ps (ps.length:Nat) (j:Nat) (((l (M (ps.getD j [])) (ps.getD j []).length:Nat):Int)-1) (by simp;omega) (by rw[decide_eq_true_eq];omega) (by omega) (by rw[F];exact hdeg j h2)
  exact nD ps _ _ (EN (prog:=I) (c:=M9) (ex := .ret) (fun t=>G_ false ps (ps.length:Nat) (t:Nat)) j (by nofun) out 0 (Bf _) (fun t _ h6=>step t (by omega) (h4 t (by omega) h6)))
def KU(o:Bool)(ts:List Rn)(i:Int):Ak:=(Q 2 (.val (.bool o)::(.val (sL pc ts)::(.val (.int .i64 i)::(Q 17 [])))))
theorem Azi(o:Bool)(ts:List Rn)(i:Int)(z:Bool)(c1:B (i<(ts.length:Int))=true)(c2:(z)=true)(n1:0<=i/\i<(ts.length:Int))(n2:H I 107 [Ap (ts.getD (A i) z0)] (.bool z)):W I Qs (KU o ts i) .ret (KU true ts i):=(C En 400 [.b true,.v (Ap (ts.getD (A i) z0)),.r (.bool z),.b true] [2,3,4] (L c1 (L n1 (L (B3 n1) (L n2 (L c2 a0))))))
theorem Azj(o:Bool)(ts:List Rn)(i:Int)(z:Bool)(c1:B (i<(ts.length:Int))=true)(c2:(z)=false)(n1:0<=i/\i<(ts.length:Int))(n2:H I 107 [Ap (ts.getD (A i) z0)] (.bool z)):W I Qs (KU o ts i) .norm (KU o ts (D R (i+1))):=(C En 400 [.b true,.v (Ap (ts.getD (A i) z0)),.r (.bool z),.b false] [2,3,4] (L c1 (L n1 (L (B3 n1) (L n2 (L c2 a0))))))
theorem Azk(o:Bool)(ts:List Rn)(i:Int)(c1:B (i<(ts.length:Int))=false):W I Qs (KU o ts i) (.exit 0) (KU o ts i):=(C En 400 [.b false] [2,3,4] (L c1 a0))
theorem eR(rs ts:List Rn)(c1:(B ((D R ((ts.length:Int)-1))>16))=true)(n1:H I 46 [sL pc rs] (.fresh 2 ts.length (pc ts))):H I 58 [sL pc rs] (.bool true):=p (fn:=Um) (s:=(Q 2 (.val (.bool true)::(Q 19 [])))) (ex := .ret) rfl rfl (P (P (Ar (AQ (C En 400 [.r (.fresh 2 ts.length (pc ts)),.b true] [2] (L n1 (L c1 a0))) (by nofun))))) (by nofun) rfl
theorem eU(rs ts:List Rn)(i:Int)(c1:(B ((D R ((ts.length:Int)-1))>16))=false)(n1:H I 46 [sL pc rs] (.fresh 2 ts.length (pc ts)))(hl2:W I (.loop Qs) (KU false ts 0) (.exit 0) (KU false ts i)):H I 58 [sL pc rs] (.bool false):=p (fn:=Um) (s:=(Q 2 (.val (.bool false)::(Q 19 [])))) (ex := .ret) rfl rfl (P (P (Ar (W.seq (C En 400 [.r (.fresh 2 ts.length (pc ts)),.b false] [2,3,4] (L n1 (L c1 a0))) (W.seq (W.block hl2) (C En 400 [] [2] a0)))))) (by nofun) rfl
theorem eV(rs ts:List Rn)(i:Int)(c1:(B ((D R ((ts.length:Int)-1))>16))=false)(n1:H I 46 [sL pc rs] (.fresh 2 ts.length (pc ts)))(hl2:W I (.loop Qs) (KU false ts 0) .ret (KU true ts i)):H I 58 [sL pc rs] (.bool true):=p (fn:=Um) (s:=(Q 2 (.val (.bool true)::(.val (sL pc ts)::(.val (.int .i64 i)::(Q 17 [])))))) (ex := .ret) rfl rfl (P (P (Ar (W.seq (C En 400 [.r (.fresh 2 ts.length (pc ts)),.b false] [2,3,4] (L n1 (L c1 a0))) (AQ (De hl2) (by nofun)))))) (by nofun) rfl
theorem Azl(rs ts:List Rn)(n1:H I 46 [sL pc rs] (.fresh 2 ts.length (pc ts))):H I 21 [sL pc rs] (.int .i64 (D R ((ts.length:Int)-1))):=i (fn:=aC) En rfl 400 rfl [.r (.fresh 2 ts.length (pc ts))] (L n1 a0)
def Ti(n:Int)(x:Int):Ak:=(Q 4 (.val (.int .i64 n)::(.val (.int .u32 x)::(Q 23 []))))
theorem Azm(n:Int)(x:Int)(c1:B (x>0)=true):W I aL (Ti n x) .norm (Ti (D R (n+1)) (d x (2^(min (A 1) (Aj .u32))))):=(C En 400 [.b true] [4,5] (L c1 (L (show ¬ (1:Int)<0 from (by decide)) a0)))
theorem qZ(n:Int)(x:Int)(c1:B (x>0)=false):W I aL (Ti n x) (.exit 0) (Ti n x):=(C En 400 [.b false] [4,5] (L c1 a0))
theorem zY(b:Bool)(xs ms:List Int)(c1:((ms.length:Int)==0)=true)(n1:H I 99 [sL lm xs] (.fresh 1 ms.length (lm ms))):H I 51 [.agg [.bool b,sL lm xs]] (.int .i64 0):=p (fn:=Xl) (s:=(Q 2 (.val (.int .i64 0)::(Q 26 [])))) (ex := .ret) rfl rfl (P (P (P (Ar (AQ (C En 400 [.r (.fresh 1 ms.length (lm ms)),.b true] [2] (L n1 (L c1 a0))) (by nofun)))))) (by nofun) rfl
theorem zZ(b:Bool)(xs ms:List Int)(n x:Int)(c1:((ms.length:Int)==0)=false)(n1:H I 99 [sL lm xs] (.fresh 1 ms.length (lm ms)))(n2:0<=(D R ((ms.length:Int)-1))/\(D R ((ms.length:Int)-1))<(ms.length:Int))(hl3:W I (.loop aL) (Ti (D R (32*(D R ((ms.length:Int)-1)))) (ms.getD (A (D R ((ms.length:Int)-1))) 0)) (.exit 0) (Ti n x)):H I 51 [.agg [.bool b,sL lm xs]] (.int .i64 n):=p (fn:=Xl) (s:=(Q 2 (.val (.int .i64 n)::(Q 26 [])))) (ex := .ret) rfl rfl (P (P (P (Ar (W.seq (C En 400 [.r (.fresh 1 ms.length (lm ms)),.b false,.v (.int .u32 (ms.getD (A (D R ((ms.length:Int)-1))) 0))] [4,5] (L n1 (L c1 (L n2 (L (y n2) a0))))) (W.seq (W.block hl3) (C En 400 [] [2] a0))))))) (by nofun) rfl
theorem WU{xs:List Int}(hu:AI xs)(neg:Bool):decide (256<(Y xs).length)=NU (rv neg xs):=by
 unfold NU;rw[L5 (neg:=neg) hu]
theorem Zw{rs:List Rn}(hg:∀ r∈rs,u 1048576 r)(hN:rs.length<=1048576):H I 58 [sL pc rs] (.bool (C' (M rs))):=by
 have htr:=ED hg hN;have hl:=Bn (M rs);rw[s] at hl;have hf:∀ x∈Y (M rs),AY 1048576 x:=FN (C4 hg);have gts:=JE hf;have hvs:=AH (Y (M rs));have hpk:pk (Y (M rs))=pc ((Y (M rs)).map cn):=rfl;(first|rw[hpk,<- N (f:=cn)] at htr|(rw[hpk] at htr;unfold sL at htr;rw[<- N (f:=cn)] at htr));have hlm:((Y (M rs)).map cn).length=(Y (M rs)).length:=N ..;have hgd:∀ t,O (((Y (M rs)).map cn).getD t z0)=(Y (M rs)).getD t 0:=fun t=>by rw[<- C3,hvs]
 generalize (Y (M rs)).map cn=ts at *
 have e1:D R ((ts.length:Int)-1)=(ts.length:Int)-1:=AW (by omega) (by omega);have hcall:∀ t,H I 107 [.agg [.bool (ts.getD t z0).1,.sl (ts.getD t z0).2.length (lm (ts.getD t z0).2)]] (.bool (NU ((Y (M rs)).getD t 0))):=fun t=>by
  obtain⟨g1,g2⟩:=A' gts t;have h:=cE (neg:=(ts.getD t z0).1) (xs:=(ts.getD t z0).2) g2;rw[WU g1 (ts.getD t z0).1,show rv (ts.getD t z0).1 (ts.getD t z0).2=O (ts.getD t z0) from rfl,hgd] at h;exact h
 have step:∀ t:Nat,t<ts.length->NU ((Y (M rs)).getD t 0)=false->W I Qs (KU false ts (t:Nat)) .norm (KU false ts ((t+1:Nat):Int)):=by
  intro t ht hb;have ei:D R ((t:Int)+1)=((t+1:Nat):Int):=by rw[AW (by omega) (by omega)];omega
  have hc:=hcall t;rw[hb] at hc;have k2:=Azj false ts (t:Nat) false (by simp;omega) rfl (by omega) (by rw[F];exact hc);rwa [ei] at k2
 by_cases h17:(Y (M rs)).length<=17
 ·have c1:decide (D R ((ts.length:Int)-1)>16)=false:=by rw[e1,decide_eq_false_iff_not];omega
  rcases H8 (fun j=>NU ((Y (M rs)).getD j 0)) ts.length _ 0 (by rw[BR]) with h | ⟨j,_,h2,h3,h4⟩
  ·have hf:C' (M rs)=false:=by
    unfold C';rw[decide_eq_false (by omega),Wu,Ph];intro x hx;obtain⟨i,hi,rfl⟩:=Hf.1 hx;have:=h i (by omega) (by omega);rw[Z,Ae hi] at this;simpa using this
   rw[hf];exact eU rs ts _ c1 htr (EN (prog:=I) (c:=Qs) (ex := .exit 0) (fun t=>KU false ts (t:Nat)) ts.length (by nofun) (Azk false ts _ (by simp)) 0 (Bf _) (fun t _ h6=>step t h6 (h t (by omega) h6)))
  ·have hf:C' (M rs)=true:=by
    unfold C';rw[decide_eq_false (by omega),Wu,Yy];refine⟨(Y (M rs)).getD j 0,?_,h3⟩;rw[Z,Ae (by omega)];exact Dc _
   rw[hf];have hc:=hcall j;rw[h3] at hc;have out:=Azi false ts (j:Nat) true (by simp;omega) rfl (by omega) (by rw[F];exact hc);exact eV rs ts _ c1 htr (EN (prog:=I) (c:=Qs) (ex := .ret) (fun t=>KU false ts (t:Nat)) j (by nofun) out 0 (Bf _) (fun t _ h6=>step t (by omega) (h4 t (by omega) h6)))
 ·have hf:C' (M rs)=true:=by unfold C';rw[decide_eq_true (by omega)];rfl
  rw[hf];exact eR rs ts (by rw[e1,decide_eq_true_eq];omega) htr
theorem Pd{rs:List Rn}(hg:∀ r∈rs,u 1048576 r)(hN:rs.length<=1048576):H I 21 [sL pc rs] (.int .i64 (((Y (M rs)).length:Nat)-1:Int)):=by
 have htr:=ED hg hN;have hl:=Bn (M rs);rw[s] at hl;have hpk:pk (Y (M rs))=pc ((Y (M rs)).map cn):=rfl;(first|rw[hpk,<- N (f:=cn)] at htr|(rw[hpk] at htr;unfold sL at htr;rw[<- N (f:=cn)] at htr));have h:=Azl rs _ htr;rw[AW (by omega) (by rw[N];omega),N] at h;exact h
theorem nF{x:Nat}(h:x ≠ 0):C9 x=C9 (x / 2)+1:=by
 unfold C9;rw[if_neg h];by_cases h2:x / 2=0
 ·have:x=1:=by omega
  subst this;decide
 ·rw[if_neg h2,GA x 1 (by simpa using h2)]
theorem eX:∀ (f x:Nat) (n:Nat),x<=f->x<4294967296->n+C9 x<=2251799813685248->W I (.loop aL) (Ti (n:Nat) (x:Nat)) (.exit 0) (Ti ((n+C9 x:Nat):Int) 0):=by
 intro f;induction f with
 | zero =>
  intro x n hx _ _;have:x=0:=by omega
  subst this;exact Al (qZ _ _ (by simp)) (by nofun)
 | succ f ih =>
  intro x n hx hb hn;by_cases h0:x=0
  ·subst h0;exact Al (qZ _ _ (by simp)) (by nofun)
  ·have k:=Azm (n:Nat) (x:Nat) (by simp;omega);have e1:d (x:Int) (2^(min (A 1) (Aj .u32)))=((x / 2:Nat):Int):=jR x 1 (by omega);rw[e1,AW (by omega) (by omega),show (n:Int)+1=((n+1:Nat):Int) by omega] at k;have hbl:=nF h0;have h:=ih (x / 2) (n+1) (by omega) (by omega) (by omega);rw[show n+1+C9 (x / 2)=n+C9 x by omega] at h;exact W.loop k h
theorem PQ{neg:Bool}{xs:List Int}(hu:AI xs)(hN:xs.length<=35184372088832):H I 51 [.agg [.bool neg,sL lm xs]] (.int .i64 ((C9 (rv neg xs).natAbs:Nat):Int)):=by
 have hm:=DI (xs:=xs) hN;rw[L5 (neg:=neg) hu] at hm;have l1:=Es (neg:=neg) hu;generalize rv neg xs=a at *
 by_cases h0:a.natAbs=0
 ·have h:=zY neg xs _ (by rw[h0];rfl) hm;rw[show C9 a.natAbs=0 by unfold C9;rw[if_pos h0]];exact h
 ·obtain⟨t1,x,t2,t3,t4,t5⟩:=XD h0;have e1:D R ((((G a.natAbs).length:Nat):Int)-1)=(((G a.natAbs).length-1:Nat):Int):=by rw[AW (by omega) (by omega)];omega
  have hlog:BZ x<32:=(Jv t3).2 t4;have hbx:C9 x=BZ x+1:=by unfold C9;rw[if_neg t3]
  have e3:D R (32*(((G a.natAbs).length-1:Nat):Int))=((32*((G a.natAbs).length-1):Nat):Int):=by rw[AW (by omega) (by omega)];omega
  have hl:=eX x x (32*((G a.natAbs).length-1)) (Am _) t4 (by omega);have h:=zZ neg xs (G a.natAbs) _ _ (by rw[beq_eq_false_iff_ne];omega) hm (by rw[e1];omega) (by rw[e1,F,t2,e3];exact hl);have e2:C9 a.natAbs=32*((G a.natAbs).length-1)+C9 x:=by
   rw[hbx];unfold C9;rw[if_neg h0,GA a.natAbs (32*((G a.natAbs).length-1)) (by rw[t5];exact t3),t5];omega
  rw[e2];exact h
theorem MA{n k:Nat}(h:n<32*k):AY k ((2:Int)^n):=by
 unfold AY;rw[Kx];show 2^n<4294967296^k;rw[show (4294967296:Nat)=2^32 by decide,<- A5c];exact PF (by decide) h
theorem Yc{a b:Nat}(ha:a<=4096)(hb:b<=4096):D R ((if (b:Int)>(a:Int) then (b:Int) else (a:Int))-(a:Int))=((max a b-a:Nat):Int):=by
 split <;> rw[AW (by omega) (by omega)] <;> omega
theorem Yd{a b:Nat}(ha:a<=4096)(hb:b<=4096):D R ((if (b:Int)>(a:Int) then (b:Int) else (a:Int))-(b:Int))=((max a b-b:Nat):Int):=by
 split <;> rw[AW (by omega) (by omega)] <;> omega
theorem Asa{a b:Nat}(ha:a<=4096)(hb:b<=4096):D R ((if (b:Int)>(a:Int) then (b:Int) else (a:Int))+1)=((max a b+1:Nat):Int):=by
 split <;> rw[AW (by omega) (by omega)] <;> omega
theorem eY{a b c:Int}(hc:0<c):Cw (a*c) (b*c)=Cw a b:=by
 unfold Cw;have h1:a*c<b*c↔a<b:=nH hc;have h2:b*c<a*c↔b<a:=nH hc;simp only[h1,h2]
theorem Asb(X Y:Int)(a b:Nat):Cw (X*2^(max a b-a)) (Y*2^(max a b-b))=Cw (X*2^b) (Y*2^a):=by
 have h:=eY (a:=X*2^(max a b-a)) (b:=Y*2^(max a b-b)) (B7 (min a b));rw[<- h,AB,AB,<- B4,<- B4,show max a b-a+min a b=b by omega,show max a b-b+min a b=a by omega]
def A5(r:Rn)(e:Int):AV := .agg [.bool r.1,.sl r.2.length (lm r.2),.int .i64 e]
theorem Tj{r:Rn}(hr:u 200 r){n:Nat}(hn:n<=4096):H I 104 [Ap r,.int .i64 (n:Nat)] (Ab (O r*2^n))/\H I 84 [Ap r,.int .i64 (n:Nat)] (C8 (O r*2^n))/\AY 330 (O r*2^n):=by
 have h2:=hr.2;exact⟨O1 hr.1 n (by omega) (by omega),LB hr.1 n (by omega),(hr.fits.mul (MA (k:=129) (by omega))).mono (by omega)⟩
def CF(x:Int)(a:Nat)(y:Int)(b:Nat):Int:=Cw (x*2^b) (y*2^a)
def If(x:Int)(a:Nat)(y:Int)(b:Nat):Int:=x*2^(max a b-a)+y*2^(max a b-b)
def QV(x:Int)(a:Nat)(y:Int)(b:Nat):Int:=If x a y b / 2^Fe (If x a y b) (max a b+1)
def NV(x:Int)(a:Nat)(y:Int)(b:Nat):Nat:=max a b+1-Fe (If x a y b) (max a b+1)
section
variable {r t:Rn} (hr:u 200 r) (ht:u 200 t) {a b:Nat} (ha:a<=4096) (hb:b<=4096)
include hr ht ha hb
theorem JL:H I 55 [A5 r (a:Nat),A5 t (b:Nat)] (.int .i64 (CF (O r) a (O t) b)):=by
 obtain⟨x1,_,x3⟩:=Tj hr (n:=max a b-a) (by omega);obtain⟨y1,_,y3⟩:=Tj ht (n:=max a b-b) (by omega);have g1:=AZ x3;have g2:=AZ y3;have p:=zN (na:=(cn (O r*2^(max a b-a))).1) (nb:=(cn (O t*2^(max a b-b))).1) g1.1 g2.1 (by have:=g1.2;omega) (by have:=g2.2;omega);rw[show ∀ n,rv (cn n).1 (cn n).2=n from At,show ∀ n,rv (cn n).1 (cn n).2=n from At,Asb] at p;exact Aze r t (a:Nat) (b:Nat) _ _ _ (by rw[Yc ha hb];exact x1) (by rw[Yd ha hb];exact y1) p
theorem II:H I 33 [A5 r (a:Nat),A5 t (b:Nat)] (.int .i64 (CF (O r) a (O t) b)):=by
 obtain⟨_,x2,x4⟩:=Tj hr (n:=b) hb;obtain⟨_,y2,y4⟩:=Tj ht (n:=a) ha;have g3:=AZ x4;have g4:=AZ y4;have q:=Sj (na:=(cn (O r*2^b)).1) (nb:=(cn (O t*2^a)).1) g3.1 g4.1 (by have:=g3.2;omega) (by have:=g4.2;omega);rw[show ∀ n,rv (cn n).1 (cn n).2=n from At,show ∀ n,rv (cn n).1 (cn n).2=n from At] at q;exact Azf r t (a:Nat) (b:Nat) _ _ _ x2 y2 q
theorem Aaa:AY 331 (If (O r) a (O t) b):=by
 obtain⟨_,_,x3⟩:=Tj hr (n:=max a b-a) (by omega);obtain⟨_,_,y3⟩:=Tj ht (n:=max a b-b) (by omega);exact x3.add y3
theorem QW:H I 133 [A5 r (a:Nat),A5 t (b:Nat)] (dyA (QV (O r) a (O t) b) ((NV (O r) a (O t) b:Nat):Int)):=by
 obtain⟨x1,_,x3⟩:=Tj hr (n:=max a b-a) (by omega);obtain⟨y1,_,y3⟩:=Tj ht (n:=max a b-b) (by omega);have hX:=x3.len;have hY:=y3.len;have p:=vZ (a:=O r*2^(max a b-a)) (b:=O t*2^(max a b-b)) (by omega) (by omega);have hZl:=(Aaa hr ht ha hb).len;have k1:=Zv (N:=If (O r) a (O t) b) (e:=max a b+1) (by omega) (by omega);exact Ars r t (a:Nat) (b:Nat) _ _ _ _ _ (by rw[Yc ha hb];exact x1) (by rw[Yd ha hb];exact y1) p (by rw[Asa ha hb];exact k1)
end
def I1(rs:List Rn)(ss:List Rn)(n:Int)(m:Int)(k:Nat)(os:List Rn)(l:Int)(i:Int):Ak:=(.val (sL pc rs)::(.val (sL pc ss)::(Q 3 (.val (.int .i64 n)::(.val (.int .i64 m)::(.own 2 k (pc os)::(Q 12 (.val (.int .i64 l)::(.val (.int .i64 i)::(Q 30 []))))))))))
theorem Asc(rs:List Rn)(ss:List Rn)(n:Int)(m:Int)(k:Nat)(os:List Rn)(l:Int)(i:Int)(c1:B (i<l)=true)(c2:B (i<n)=true)(c3:B (i<m)=true)(n1:0<=i/\i<(rs.length:Int))(n2:0<=i/\i<(k:Int))(n3:os.length=k)(n4:(os.set (A i) (rs.getD (A i) z0)).length=k)(n5:0<=i/\i<(ss.length:Int))(n6:H I 111 [Ap ((os.set (A i) (rs.getD (A i) z0)).getD (A i) z0),Ap (ss.getD (A i) z0)] (Ab ((O ((os.set (A i) (rs.getD (A i) z0)).getD (A i) z0))+(O (ss.getD (A i) z0))))):W I Nx (I1 rs ss n m k os l i) .norm (I1 rs ss n m k ((os.set (A i) (rs.getD (A i) z0)).set (A i) (cn ((O ((os.set (A i) (rs.getD (A i) z0)).getD (A i) z0))+(O (ss.getD (A i) z0))))) l (D R (i+1))):=(C CT 400 [.b true,.b true,.v (Ap (rs.getD (A i) z0)),.l (pc (os.set (A i) (rs.getD (A i) z0))),.b true,.v (Ap ((os.set (A i) (rs.getD (A i) z0)).getD (A i) z0)),.v (Ap (ss.getD (A i) z0)),.r (Ab ((O ((os.set (A i) (rs.getD (A i) z0)).getD (A i) z0))+(O (ss.getD (A i) z0)))),.l (pc ((os.set (A i) (rs.getD (A i) z0)).set (A i) (cn ((O ((os.set (A i) (rs.getD (A i) z0)).getD (A i) z0))+(O (ss.getD (A i) z0))))))] [0,1,5,6,7,20,21] (L c1 (L c2 (L n1 (L (B3 n1) (L n2 (L (Ft (r:=rs.getD (A i) z0) n3 n2) (L c3 (L n2 (L (FM n4 n2) (L n5 (L (B3 n5) (L n6 (L n2 (L (Ft (r:=cn ((O ((os.set (A i) (rs.getD (A i) z0)).getD (A i) z0))+(O (ss.getD (A i) z0)))) n4 n2) a0)))))))))))))))
theorem Asd(rs:List Rn)(ss:List Rn)(n:Int)(m:Int)(k:Nat)(os:List Rn)(l:Int)(i:Int)(c1:B (i<l)=true)(c2:B (i<n)=true)(c3:B (i<m)=false)(n1:0<=i/\i<(rs.length:Int))(n2:0<=i/\i<(k:Int))(n3:os.length=k):W I Nx (I1 rs ss n m k os l i) .norm (I1 rs ss n m k (os.set (A i) (rs.getD (A i) z0)) l (D R (i+1))):=(C CT 400 [.b true,.b true,.v (Ap (rs.getD (A i) z0)),.l (pc (os.set (A i) (rs.getD (A i) z0))),.b false] [0,1,5,6,7,20,21] (L c1 (L c2 (L n1 (L (B3 n1) (L n2 (L (Ft (r:=rs.getD (A i) z0) n3 n2) (L c3 a0))))))))
theorem Ase(rs:List Rn)(ss:List Rn)(n:Int)(m:Int)(k:Nat)(os:List Rn)(l:Int)(i:Int)(c1:B (i<l)=true)(c2:B (i<n)=false)(c3:B (i<m)=true)(n1:0<=i/\i<(k:Int))(n2:os.length=k)(n3:0<=i/\i<(ss.length:Int))(n4:H I 111 [Ap (os.getD (A i) z0),Ap (ss.getD (A i) z0)] (Ab ((O (os.getD (A i) z0))+(O (ss.getD (A i) z0))))):W I Nx (I1 rs ss n m k os l i) .norm (I1 rs ss n m k (os.set (A i) (cn ((O (os.getD (A i) z0))+(O (ss.getD (A i) z0))))) l (D R (i+1))):=(C CT 400 [.b true,.b false,.b true,.v (Ap (os.getD (A i) z0)),.v (Ap (ss.getD (A i) z0)),.r (Ab ((O (os.getD (A i) z0))+(O (ss.getD (A i) z0)))),.l (pc (os.set (A i) (cn ((O (os.getD (A i) z0))+(O (ss.getD (A i) z0))))))] [0,1,5,6,7,20,21] (L c1 (L c2 (L c3 (L n1 (L (FM n2 n1) (L n3 (L (B3 n3) (L n4 (L n1 (L (Ft (r:=cn ((O (os.getD (A i) z0))+(O (ss.getD (A i) z0)))) n2 n1) a0)))))))))))
theorem Asf(rs:List Rn)(ss:List Rn)(n:Int)(m:Int)(k:Nat)(os:List Rn)(l:Int)(i:Int)(c1:B (i<l)=false):W I Nx (I1 rs ss n m k os l i) (.exit 0) (I1 rs ss n m k os l i):=(C CT 400 [.b false] [0,1,5,6,7,20,21] (L c1 a0))
def GG(rs ss:List Rn)(a b j:Nat):Rn:=if j<b then cn (O (if j<a then rs.getD j z0 else z0)+O (ss.getD j z0)) else (if j<a then rs.getD j z0 else z0)
theorem Aab{rs ss:List Rn}{a b:Nat}(ha:a<=rs.length)(hb:b<=ss.length)(hN:rs.length<=1048576)(hM:ss.length<=1048576)(hr:∀ r∈rs,u 1048575 r)(hs:∀ r∈ss,u 1048575 r) :
  W I (.loop Nx) (I1 rs ss a b (max a b) (Aq (max a b) z0) (max a b:Nat) 0) (.exit 0) (I1 rs ss a b (max a b) ((Ao (max a b)).map (GG rs ss a b)) (max a b:Nat) (max a b:Nat)):=by
 have h:=W.up (prog:=I) (c:=Nx) (ex := .exit 0) (fin:=I1 rs ss a b (max a b) ((Ao (max a b)).map (GG rs ss a b)) (max a b:Nat) (max a b:Nat))
  (fun i=>I1 rs ss a b (max a b) (E6 (GG rs ss a b) i (max a b-i)) (max a b:Nat) (i:Nat)) (max a b) (by nofun) ?_ ?_ 0 (Bf _)
 ·simp only[Mq,Ls] at h;exact h
 ·intro i hi;obtain⟨r,hr'⟩:∃ r,max a b-i=r+1:=⟨max a b-i-1,by omega⟩;have e2:max a b-(i+1)=r:=by omega
  have ei:D R ((i:Int)+1)=((i+1:Nat):Int):=by rw[AW (by omega) (by omega)];omega
  have hlen:(E6 (GG rs ss a b) i (r+1)).length=max a b:=by rw[JY];omega
  have hz:=jD (GG rs ss a b) i r;have hset:=N8 (GG rs ss a b) i r;obtain⟨gr1,gr2⟩:=A' hr i;obtain⟨gs1,gs2⟩:=A' hs i;simp only[hr',e2];generalize E6 (GG rs ss a b) i (r+1)=os at *
  by_cases h1:i<a <;> by_cases h2:i<b
  ·have ho:(os.set i (rs.getD i z0)).getD i z0=rs.getD i z0:=by simp[Z,show i<os.length by omega]
   have k:=Asc rs ss a b (max a b) os (max a b:Nat) (i:Nat) (by simp;omega) (by simp;omega) (by simp;omega) (by omega) (by omega) hlen (by simpa using hlen) (by omega) (by
    simp only[F,ho];exact O0 gr1 gs1 (by omega) (by omega))
   refine k.to rfl ?_;simp only[F,ei,ho,Rl];rw[<- hset];simp only[GG,if_pos h1,if_pos h2]
  ·have k:=Asd rs ss a b (max a b) os (max a b:Nat) (i:Nat) (by simp;omega) (by simp;omega) (by simp;omega) (by omega) (by omega) hlen;refine k.to rfl ?_;simp only[F,ei];rw[<- hset];simp only[GG,if_pos h1,if_neg h2]
  ·have k:=Ase rs ss a b (max a b) os (max a b:Nat) (i:Nat) (by simp;omega) (by simp;omega) (by simp;omega) (by omega) hlen (by omega) (by
    simp only[F,hz];exact O0 (L7 0).1 gs1 (by decide) (by omega))
   refine k.to rfl ?_;simp only[F,ei,hz];rw[<- hset];simp only[GG,if_neg h1,if_pos h2]
  ·omega
 ·have k:=Asf rs ss a b (max a b) ((Ao (max a b)).map (GG rs ss a b)) (max a b:Nat) (max a b:Nat) (by simp);simp only[Lt,Mr];exact k
theorem Asg(rs ss os ts:List Rn)(drs dss:Int)(k M:Nat)(n1:H I 53 [sL pc rs] (.int .i64 drs))(n2:H I 53 [sL pc ss] (.int .i64 dss))(n3:0<=(if (D R (dss+1))>(D R (drs+1)) then (D R (dss+1)) else (D R (drs+1)))/\(if (D R (dss+1))>(D R (drs+1)) then (D R (dss+1)) else (D R (drs+1)))<=1048576)(hl4:W I (.loop Nx) ((.val (sL pc rs)::(.val (sL pc ss)::(Q 3 (.val (.int .i64 (D R (drs+1)))::(.val (.int .i64 (D R (dss+1)))::(.own 2 (A (if (D R (dss+1))>(D R (drs+1)) then (D R (dss+1)) else (D R (drs+1)))) (Co [.bool false,.sl 0 []] (A (if (D R (dss+1))>(D R (drs+1)) then (D R (dss+1)) else (D R (drs+1)))))::(Q 12 (.val (.int .i64 (((A (if (D R (dss+1))>(D R (drs+1)) then (D R (dss+1)) else (D R (drs+1)))):Nat):Int))::(.val (.int .i64 0)::(Q 30 []))))))))))) (.exit 0) (I1 rs ss (D R (drs+1)) (D R (dss+1)) M os M M))(n5:H I 66 [.sl M (pc os)] (.fresh 2 k (pc ts))):H I 149 [sL pc rs,sL pc ss] (.fresh 2 k (pc ts)):=p (fn:=UJ) (s:=(Q 4 (.own 2 k (pc ts)::(Q 47 [])))) (ex := .ret) rfl rfl (P (P (Ar (W.seq (C CT 400 [.r (.int .i64 drs),.r (.int .i64 dss)] [0,1,5,6,7,20,21] (L n1 (L n2 (L n3 a0)))) (W.seq (W.block hl4) (C CT 400 [.r (.fresh 2 k (pc ts))] [4] (L n5 a0))))))) (by nofun) rfl
theorem JM(xs:List Int){j:Nat}(h:l xs xs.length<=j):xs.getD j 0=0:=by
 rcases Ck j xs.length with g | g
 ·exact Mm xs xs.length j h g
 ·exact Bv g
theorem nI(rs ss:List Rn)(j:Nat):O (GG rs ss (l (M rs) rs.length) (l (M ss) ss.length) j)=(M rs).getD j 0+(M ss).getD j 0:=by
 have h1:=C3 rs j;have h2:=C3 ss j;unfold GG;by_cases g1:j<l (M rs) rs.length <;> by_cases g2:j<l (M ss) ss.length
 ·rw[if_pos g1,if_pos g2,At,h1,h2]
 ·have:=JM (M ss) (j:=j) (by rw[s];omega);rw[if_pos g1,if_neg g2,h1,this,B2]
 ·have:=JM (M rs) (j:=j) (by rw[s];omega);rw[if_neg g1,if_pos g2,At,Vn,h2,this]
 ·have k1:=JM (M ss) (j:=j) (by rw[s];omega);have k2:=JM (M rs) (j:=j) (by rw[s];omega);rw[if_neg g1,if_neg g2,Vn,k1,k2];rfl
theorem eZ{K:Nat}{rs ss:List Rn}(hr:∀ r∈rs,u K r)(hs:∀ r∈ss,u K r)(a b j:Nat):u (K+1) (GG rs ss a b j):=by
 have h1:=A' hr j;have h2:=A' hs j;unfold GG;split
 ·split
  ·exact AZ (h1.fits.add h2.fits)
  ·exact AZ ((L7 K).fits.add h2.fits)
 ·split
  ·exact h1.mono (by omega)
  ·exact L7 _
theorem nJ{K:Nat}{rs ss:List Rn}(hr:∀ r∈rs,u K r)(hs:∀ r∈ss,u K r)(hK:K<1048576)(hN:rs.length<=1048576)(hM:ss.length<=1048576) :
  H I 149 [sL pc rs,sL pc ss] (.fresh 2 (DQ (M rs) (M ss)).length (pk (DQ (M rs) (M ss)))):=by
 have hr':∀ r∈rs,u 1048575 r:=fun r h=>(hr r h).mono (by omega);have hs':∀ r∈ss,u 1048575 r:=fun r h=>(hs r h).mono (by omega);have d1:=GB (fun r h=>(hr r h).mono (by omega)) hN;have d2:=GB (fun r h=>(hs r h).mono (by omega)) hM;have l1:=Gn (M rs) rs.length;have l2:=Gn (M ss) ss.length;have hl:=Aab l1 l2 hN hM hr' hs';have hg:∀ r∈(Ao (max (l (M rs) rs.length) (l (M ss) ss.length))).map (GG rs ss (l (M rs) rs.length) (l (M ss) ss.length)),u 1048576 r:=Ms fun i _=>(eZ hr hs _ _ i).mono (by omega);have ht:=Hx hg (by simp;omega);have e:Y (M ((Ao (max (l (M rs) rs.length) (l (M ss) ss.length))).map (GG rs ss (l (M rs) rs.length) (l (M ss) ss.length))))=DQ (M rs) (M ss):=by
  rw[<- PA];apply FL;intro j;rw[CY,IR];split
  ·exact nI rs ss j
  ·rename_i h;rw[JM (M rs) (j:=j) (by rw[s];omega),JM (M ss) (j:=j) (by rw[s];omega)];rfl
 rw[e] at ht;have e1:D R ((((l (M rs) rs.length:Nat):Int)-1)+1)=((l (M rs) rs.length:Nat):Int):=by rw[AW (by omega) (by omega)];omega
 have e2:D R ((((l (M ss) ss.length:Nat):Int)-1)+1)=((l (M ss) ss.length:Nat):Int):=by rw[AW (by omega) (by omega)];omega
 have e3:(if ((l (M ss) ss.length:Nat):Int)>((l (M rs) rs.length:Nat):Int) then ((l (M ss) ss.length:Nat):Int) else ((l (M rs) rs.length:Nat):Int))=((max (l (M rs) rs.length) (l (M ss) ss.length):Nat):Int):=by split <;> omega
 (first|rw[N,BY] at ht|(unfold sL at ht;rw[N,BY] at ht));exact Asg rs ss _ _ _ _ _ (max (l (M rs) rs.length) (l (M ss) ss.length)) d1 d2 (by rw[e1,e2,e3];omega) (by rw[e1,e2,e3,F,N7];exact hl) ht
def BD(fs:List Rn)(r:Rn)(e:Int)(t:Rn)(f:Int):AV := .agg [sL pc fs,.bool r.1,.sl r.2.length (lm r.2),.int .i64 e,.bool t.1,.sl t.2.length (lm t.2),.int .i64 f]
def rtB(fs:List Rn)(r:Rn)(e:Int)(t:Rn)(f:Int):Reg := .box [sL pc fs,.bool r.1,.sl r.2.length (lm r.2),.int .i64 e,.bool t.1,.sl t.2.length (lm t.2),.int .i64 f]
theorem Aac(r:Rn)(e z:Int)(c1:B (e>=0)=true)(c2:B (e<=1024)=true)(n1:H I 102 [Ap r] (.int .i64 z)):H I 64 [A5 r e] (.bool (B (z<=1024))):=i (fn:=Uo) a rfl 400 rfl [.b true,.b true,.r (.int .i64 z)] (L c1 (L c2 (L n1 a0)))
theorem Aad(r:Rn)(e:Int)(c1:B (e>=0)=true)(c2:B (e<=1024)=false):H I 64 [A5 r e] (.bool false):=i (fn:=Uo) a rfl 400 rfl [.b true,.b false] (L c1 (L c2 a0))
theorem Aae(r:Rn)(e:Int)(c1:B (e>=0)=false):H I 64 [A5 r e] (.bool false):=i (fn:=Uo) a rfl 400 rfl [.b false,.b false] (L c1 (L Ff a0))
theorem nL(rs:List Rn)(b:Bool)(c1:(b)=false)(n1:H I 147 [.sl 1 [sL pc rs]] (.bool b)):H I 148 [sL pc rs] (.tup [sL pc rs,.int .i64 0]):=i (fn:=UI) a rfl 400 rfl [.r (.bool b),.b false] (L n1 (L c1 a0))
theorem nM(rs ss:List Rn)(b:Bool)(c1:(b)=true)(n1:H I 147 [.sl 2 [sL pc rs,sL pc ss]] (.bool b)):H I 100 [sL pc rs,sL pc ss] (.tup [.sl 0 [],.int .i64 2]):=i (fn:=Rx) a rfl 400 rfl [.r (.bool b),.b true] (L n1 (L c1 a0))
theorem nN(rs ss us:List Rn)(b:Bool)(e:Int)(c1:(b)=false)(n1:H I 147 [.sl 2 [sL pc rs,sL pc ss]] (.bool b))(n2:H I 149 [sL pc rs,sL pc ss] (.fresh 2 us.length (pc us)))(n3:H I 148 [sL pc us] (.tup [sL pc us,.int .i64 e])):H I 100 [sL pc rs,sL pc ss] (.tup [sL pc us,.int .i64 e]):=i (fn:=Rx) a rfl 400 rfl [.r (.bool b),.b false,.r (.fresh 2 us.length (pc us)),.r (.tup [sL pc us,.int .i64 e])] (L n1 (L c1 (L n2 (L n3 a0))))
theorem rA(rs us:List Rn)(e:Int)(n1:H I 100 [sL pc rs,.sl 0 []] (.tup [sL pc us,.int .i64 e])):H I 52 [sL pc rs] (.bool (e==0)):=i (fn:=aM) a rfl 400 rfl [.r (.tup [sL pc us,.int .i64 e])] (L n1 a0)
theorem Aaf(fs:List Rn)(r t:Rn)(e f:Int)(d:Int)(b:Bool)(c1:(b)=true)(c2:B (d<1)=true)(n1:H I 52 [sL pc fs] (.bool b))(n2:H I 53 [sL pc fs] (.int .i64 d)):H I 18 [BD fs r e t f] (.bool false):=i (fn:=Nu) a rfl 400 rfl [.r (.bool b),.b false,.r (.int .i64 d),.b true,.b true,.b true] (L n1 (L (Fb c1) (L n2 (L c2 (L G0 (L G0 a0))))))
theorem Aag(fs:List Rn)(r t:Rn)(e f:Int)(ts:List Rn)(d c s:Int)(b v1 v2:Bool)(c1:(b)=true)(c2:B (d<1)=false)(c3:(v1)=true)(c4:(v2)=true)(c5:(c==0)=true)(n1:H I 52 [sL pc fs] (.bool b))(n2:H I 53 [sL pc fs] (.int .i64 d))(n3:H I 64 [A5 r e] (.bool v1))(n4:H I 64 [A5 t f] (.bool v2))(n5:H I 55 [A5 r e,A5 t f] (.int .i64 c))(n6:H I 66 [sL pc fs] (.fresh 2 ts.length (pc ts)))(n7:H I 65 [sL pc ts,A5 r e] (.int .i64 s)):H I 18 [BD fs r e t f] (.bool (s==0)):=i (fn:=Nu) a rfl 400 rfl [.r (.bool b),.b false,.r (.int .i64 d),.b false,.r (.bool v1),.b false,.r (.bool v2),.b false,.r (.int .i64 c),.b true,.r (.fresh 2 ts.length (pc ts)),.r (.int .i64 s)] (L n1 (L (Fb c1) (L n2 (L c2 (L n3 (L (Fb c3) (L n4 (L (Fb c4) (L n5 (L c5 (L n6 (L n7 a0))))))))))))
theorem Aah(fs:List Rn)(r t:Rn)(e f:Int)(d c:Int)(b v1 v2:Bool)(c1:(b)=true)(c2:B (d<1)=false)(c3:(v1)=true)(c4:(v2)=true)(c5:(c==0)=false)(c6:(c==1)=true)(n1:H I 52 [sL pc fs] (.bool b))(n2:H I 53 [sL pc fs] (.int .i64 d))(n3:H I 64 [A5 r e] (.bool v1))(n4:H I 64 [A5 t f] (.bool v2))(n5:H I 55 [A5 r e,A5 t f] (.int .i64 c)):H I 18 [BD fs r e t f] (.bool false):=i (fn:=Nu) a rfl 400 rfl [.r (.bool b),.b false,.r (.int .i64 d),.b false,.r (.bool v1),.b false,.r (.bool v2),.b false,.r (.int .i64 c),.b false,.b true] (L n1 (L (Fb c1) (L n2 (L c2 (L n3 (L (Fb c3) (L n4 (L (Fb c4) (L n5 (L c5 (L c6 a0)))))))))))
theorem Aai(fs:List Rn)(r t:Rn)(e f:Int)(ls:List (List Rn))(d c x y:Int)(b v1 v2:Bool)(c1:(b)=true)(c2:B (d<1)=false)(c3:(v1)=true)(c4:(v2)=true)(c5:(c==0)=false)(c6:(c==1)=false)(n1:H I 52 [sL pc fs] (.bool b))(n2:H I 53 [sL pc fs] (.int .i64 d))(n3:H I 64 [A5 r e] (.bool v1))(n4:H I 64 [A5 t f] (.bool v2))(n5:H I 55 [A5 r e,A5 t f] (.int .i64 c))(n6:H I 67 [sL pc fs] (.fresh 1 ls.length (pp ls)))(n7:H I 68 [sL pp ls,A5 r e] (.int .i64 x))(n8:H I 68 [sL pp ls,A5 t f] (.int .i64 y)):H I 18 [BD fs r e t f] (.bool ((D R (x-y))==1)):=i (fn:=Nu) a rfl 400 rfl [.r (.bool b),.b false,.r (.int .i64 d),.b false,.r (.bool v1),.b false,.r (.bool v2),.b false,.r (.int .i64 c),.b false,.b false,.r (.fresh 1 ls.length (pp ls)),.r (.int .i64 x),.r (.int .i64 y)] (L n1 (L (Fb c1) (L n2 (L c2 (L n3 (L (Fb c3) (L n4 (L (Fb c4) (L n5 (L c5 (L c6 (L n6 (L n7 (L n8 a0))))))))))))))
theorem Aaj(fs:List Rn)(r t:Rn)(e f:Int)(d:Int)(b v1 v2:Bool)(c1:(b)=true)(c2:B (d<1)=false)(c3:(v1)=true)(c4:(v2)=false)(n1:H I 52 [sL pc fs] (.bool b))(n2:H I 53 [sL pc fs] (.int .i64 d))(n3:H I 64 [A5 r e] (.bool v1))(n4:H I 64 [A5 t f] (.bool v2)):H I 18 [BD fs r e t f] (.bool false):=i (fn:=Nu) a rfl 400 rfl [.r (.bool b),.b false,.r (.int .i64 d),.b false,.r (.bool v1),.b false,.r (.bool v2),.b true] (L n1 (L (Fb c1) (L n2 (L c2 (L n3 (L (Fb c3) (L n4 (L (YO c4) a0))))))))
theorem Aak(fs:List Rn)(r t:Rn)(e f:Int)(d:Int)(b v1:Bool)(c1:(b)=true)(c2:B (d<1)=false)(c3:(v1)=false)(n1:H I 52 [sL pc fs] (.bool b))(n2:H I 53 [sL pc fs] (.int .i64 d))(n3:H I 64 [A5 r e] (.bool v1)):H I 18 [BD fs r e t f] (.bool false):=i (fn:=Nu) a rfl 400 rfl [.r (.bool b),.b false,.r (.int .i64 d),.b false,.r (.bool v1),.b true,.b true] (L n1 (L (Fb c1) (L n2 (L c2 (L n3 (L (YO c3) (L G0 a0)))))))
theorem Aal(fs:List Rn)(r t:Rn)(e f:Int)(b:Bool)(c1:(b)=false)(n1:H I 52 [sL pc fs] (.bool b)):H I 18 [BD fs r e t f] (.bool false):=i (fn:=Nu) a rfl 400 rfl [.r (.bool b),.b true,.b true,.b true,.b true] (L n1 (L (YO c1) (L G0 (L G0 (L G0 a0)))))
theorem Ash(fs:List Rn)(r t:Rn)(e f:Int)(c:Int)(n1:H I 55 [A5 r e,A5 t f] (.int .i64 c)):H I 125 [BD fs r e t f] (.bool (c==0)):=i (fn:=U9) a rfl 400 rfl [.r (.int .i64 c)] (L n1 a0)
theorem Aam(fs:List Rn)(r t:Rn)(e f:Int)(q:Rn)(g c_rq:Int)(b:Bool)(c1:(b)=true)(n1:H I 125 [BD fs r e t f] (.bool b))(n2:H I 55 [A5 r e,A5 q g] (.int .i64 c_rq)):H I 76 [BD fs r e t f,A5 q g] (.int .i64 c_rq):=i (fn:=MJ) a rfl 400 rfl [.r (.bool b),.b true,.r (.int .i64 c_rq)] (L n1 (L c1 (L n2 a0)))
theorem Aan(fs:List Rn)(r t:Rn)(e f:Int)(q:Rn)(g c_qr:Int)(b:Bool)(c1:(b)=false)(c2:B (c_qr<=0)=true)(n1:H I 125 [BD fs r e t f] (.bool b))(n2:H I 55 [A5 q g,A5 r e] (.int .i64 c_qr)):H I 76 [BD fs r e t f,A5 q g] (.int .i64 1):=i (fn:=MJ) a rfl 400 rfl [.r (.bool b),.b false,.r (.int .i64 c_qr),.b true] (L n1 (L c1 (L n2 (L c2 a0))))
theorem Aao(fs:List Rn)(r t:Rn)(e f:Int)(q:Rn)(g c_qr c_qt:Int)(b:Bool)(c1:(b)=false)(c2:B (c_qr<=0)=false)(c3:B (c_qt>0)=true)(n1:H I 125 [BD fs r e t f] (.bool b))(n2:H I 55 [A5 q g,A5 r e] (.int .i64 c_qr))(n3:H I 55 [A5 q g,A5 t f] (.int .i64 c_qt)):H I 76 [BD fs r e t f,A5 q g] (.int .i64 (-1)):=i (fn:=MJ) a rfl 400 rfl [.r (.bool b),.b false,.r (.int .i64 c_qr),.b false,.r (.int .i64 c_qt),.b true] (L n1 (L c1 (L n2 (L c2 (L n3 (L c3 a0))))))
theorem Aap(fs:List Rn)(r t:Rn)(e f:Int)(q:Rn)(g c_qr c_qt s_t:Int)(b:Bool)(c1:(b)=false)(c2:B (c_qr<=0)=false)(c3:B (c_qt>0)=false)(c4:(c_qt==0)=true)(c5:(s_t==0)=true)(n1:H I 125 [BD fs r e t f] (.bool b))(n2:H I 55 [A5 q g,A5 r e] (.int .i64 c_qr))(n3:H I 55 [A5 q g,A5 t f] (.int .i64 c_qt))(n4:H I 65 [sL pc fs,A5 t f] (.int .i64 s_t)):H I 76 [BD fs r e t f,A5 q g] (.int .i64 0):=i (fn:=MJ) a rfl 400 rfl [.r (.bool b),.b false,.r (.int .i64 c_qr),.b false,.r (.int .i64 c_qt),.b false,.r (.int .i64 s_t),.b true,.b true] (L n1 (L c1 (L n2 (L c2 (L n3 (L c3 (L n4 (L c4 (L c5 a0)))))))))
theorem Aaq(fs:List Rn)(r t:Rn)(e f:Int)(q:Rn)(g c_qr c_qt s_t:Int)(b:Bool)(c1:(b)=false)(c2:B (c_qr<=0)=false)(c3:B (c_qt>0)=false)(c4:(c_qt==0)=true)(c5:(s_t==0)=false)(n1:H I 125 [BD fs r e t f] (.bool b))(n2:H I 55 [A5 q g,A5 r e] (.int .i64 c_qr))(n3:H I 55 [A5 q g,A5 t f] (.int .i64 c_qt))(n4:H I 65 [sL pc fs,A5 t f] (.int .i64 s_t)):H I 76 [BD fs r e t f,A5 q g] (.int .i64 (-1)):=i (fn:=MJ) a rfl 400 rfl [.r (.bool b),.b false,.r (.int .i64 c_qr),.b false,.r (.int .i64 c_qt),.b false,.r (.int .i64 s_t),.b true,.b false] (L n1 (L c1 (L n2 (L c2 (L n3 (L c3 (L n4 (L c4 (L c5 a0)))))))))
theorem Aar(fs:List Rn)(r t:Rn)(e f:Int)(q:Rn)(g c_qr c_qt s_t s_q:Int)(b:Bool)(c1:(b)=false)(c2:B (c_qr<=0)=false)(c3:B (c_qt>0)=false)(c4:(c_qt==0)=false)(c5:(s_q==0)=true)(n1:H I 125 [BD fs r e t f] (.bool b))(n2:H I 55 [A5 q g,A5 r e] (.int .i64 c_qr))(n3:H I 55 [A5 q g,A5 t f] (.int .i64 c_qt))(n4:H I 65 [sL pc fs,A5 t f] (.int .i64 s_t))(n5:H I 65 [sL pc fs,A5 q g] (.int .i64 s_q)):H I 76 [BD fs r e t f,A5 q g] (.int .i64 0):=i (fn:=MJ) a rfl 400 rfl [.r (.bool b),.b false,.r (.int .i64 c_qr),.b false,.r (.int .i64 c_qt),.b false,.r (.int .i64 s_t),.b false,.r (.int .i64 s_q),.b true] (L n1 (L c1 (L n2 (L c2 (L n3 (L c3 (L n4 (L c4 (L n5 (L c5 a0))))))))))
theorem Aas(fs:List Rn)(r t:Rn)(e f:Int)(q:Rn)(g c_qr c_qt s_t s_q:Int)(b:Bool)(c1:(b)=false)(c2:B (c_qr<=0)=false)(c3:B (c_qt>0)=false)(c4:(c_qt==0)=false)(c5:(s_q==0)=false)(c6:(s_q==s_t)=true)(n1:H I 125 [BD fs r e t f] (.bool b))(n2:H I 55 [A5 q g,A5 r e] (.int .i64 c_qr))(n3:H I 55 [A5 q g,A5 t f] (.int .i64 c_qt))(n4:H I 65 [sL pc fs,A5 t f] (.int .i64 s_t))(n5:H I 65 [sL pc fs,A5 q g] (.int .i64 s_q)):H I 76 [BD fs r e t f,A5 q g] (.int .i64 (-1)):=i (fn:=MJ) a rfl 400 rfl [.r (.bool b),.b false,.r (.int .i64 c_qr),.b false,.r (.int .i64 c_qt),.b false,.r (.int .i64 s_t),.b false,.r (.int .i64 s_q),.b false,.b true] (L n1 (L c1 (L n2 (L c2 (L n3 (L c3 (L n4 (L c4 (L n5 (L c5 (L c6 a0)))))))))))
theorem Aat(fs:List Rn)(r t:Rn)(e f:Int)(q:Rn)(g c_qr c_qt s_t s_q:Int)(b:Bool)(c1:(b)=false)(c2:B (c_qr<=0)=false)(c3:B (c_qt>0)=false)(c4:(c_qt==0)=false)(c5:(s_q==0)=false)(c6:(s_q==s_t)=false)(n1:H I 125 [BD fs r e t f] (.bool b))(n2:H I 55 [A5 q g,A5 r e] (.int .i64 c_qr))(n3:H I 55 [A5 q g,A5 t f] (.int .i64 c_qt))(n4:H I 65 [sL pc fs,A5 t f] (.int .i64 s_t))(n5:H I 65 [sL pc fs,A5 q g] (.int .i64 s_q)):H I 76 [BD fs r e t f,A5 q g] (.int .i64 1):=i (fn:=MJ) a rfl 400 rfl [.r (.bool b),.b false,.r (.int .i64 c_qr),.b false,.r (.int .i64 c_qt),.b false,.r (.int .i64 s_t),.b false,.r (.int .i64 s_q),.b false,.b false] (L n1 (L c1 (L n2 (L c2 (L n3 (L c3 (L n4 (L c4 (L n5 (L c5 (L c6 a0)))))))))))
theorem Aau(fs:List Rn)(r t:Rn)(e f:Int)(b:Bool)(c1:(b)=true)(n1:H I 125 [BD fs r e t f] (.bool b)):H I 82 [BD fs r e t f] (BD fs r e t f):=i (fn:=Uq) a rfl 400 rfl [.r (.bool b),.b true] (L n1 (L c1 a0))
theorem Aav(fs:List Rn)(r t:Rn)(e f:Int)(n m s:Int)(b:Bool)(c1:(b)=false)(c2:B (s<=0)=true)(n1:H I 125 [BD fs r e t f] (.bool b))(n2:H I 133 [A5 r e,A5 t f] (A5 (cn n) m))(n3:H I 76 [BD fs r e t f,A5 (cn n) m] (.int .i64 s)):H I 82 [BD fs r e t f] (BD fs r e (cn n) m):=i (fn:=Uq) a rfl 400 rfl [.r (.bool b),.b false,.r (A5 (cn n) m),.r (.int .i64 s),.b true] (L n1 (L c1 (L n2 (L n3 (L c2 a0)))))
theorem Aaw(fs:List Rn)(r t:Rn)(e f:Int)(n m s:Int)(b:Bool)(c1:(b)=false)(c2:B (s<=0)=false)(n1:H I 125 [BD fs r e t f] (.bool b))(n2:H I 133 [A5 r e,A5 t f] (A5 (cn n) m))(n3:H I 76 [BD fs r e t f,A5 (cn n) m] (.int .i64 s)):H I 82 [BD fs r e t f] (BD fs (cn n) m t f):=i (fn:=Uq) a rfl 400 rfl [.r (.bool b),.b false,.r (A5 (cn n) m),.r (.int .i64 s),.b false] (L n1 (L c1 (L n2 (L n3 (L c2 a0)))))
theorem V'(r:Rn)(e n:Int)(n1:H I 113 [Ap r] (Ab n)):H I 106 [A5 r e] (A5 (cn n) e):=i (fn:=Ut) a rfl 400 rfl [.r (Ab n)] (L n1 a0)
theorem rB(fs:List Rn)(r t:Rn)(e f:Int)(ts:List Rn)(n m u v:Int)(n1:H I 66 [sL pc fs] (.fresh 2 ts.length (pc ts)))(n2:H I 106 [A5 r e] (A5 (cn n) m))(n3:H I 106 [A5 t f] (A5 (cn u) v)):H I 57 [BD fs r e t f] (BD ts (cn n) m (cn u) v):=i (fn:=aP) a rfl 400 rfl [.r (.fresh 2 ts.length (pc ts)),.r (A5 (cn n) m),.r (A5 (cn u) v)] (L n1 (L n2 (L n3 a0)))
theorem Aax(fs:List Rn)(r t:Rn)(e f:Int)(gs:List Rn)(n1:H I 114 [sL pc fs] (sL pc gs)):H I 75 [BD fs r e t f] (BD gs r e t f):=i (fn:=Xq) a rfl 400 rfl [.r (sL pc gs)] (L n1 a0)
theorem Aay(fs:List Rn)(r t:Rn)(e f:Int)(gs:List Rn)(n1:H I 114 [sL pc fs] (.fresh 2 gs.length (pc gs))):H I 75 [BD fs r e t f] (BD gs r e t f):=i (fn:=Xq) a rfl 400 rfl [.r (.fresh 2 gs.length (pc gs))] (L n1 a0)
theorem Aaz(r:Rn)(e z:Int)(c1:B (e>=0)=true)(c2:B (e<=1024)=true)(n1:H I 51 [Ap r] (.int .i64 z)):H I 61 [A5 r e] (.bool (B (z<=1024))):=i (fn:=Un) a rfl 400 rfl [.b true,.b true,.r (.int .i64 z)] (L c1 (L c2 (L n1 a0)))
theorem Aba(r:Rn)(e:Int)(c1:B (e>=0)=true)(c2:B (e<=1024)=false):H I 61 [A5 r e] (.bool false):=i (fn:=Un) a rfl 400 rfl [.b true,.b false] (L c1 (L c2 a0))
theorem Abb(r:Rn)(e:Int)(c1:B (e>=0)=false):H I 61 [A5 r e] (.bool false):=i (fn:=Un) a rfl 400 rfl [.b false,.b false] (L c1 (L Ff a0))
theorem Azn(rs:List Rn)(r:Rn)(e v s:Int)(n1:H I 80 [sL pc rs,Ap r,.int .i64 e] (Ab v))(n2:H I 79 [Ab v] (.int .i64 s)):H I 62 [sL pc rs,A5 r e] (.bool (s==0)):=i (fn:=aQ) a rfl 400 rfl [.r (Ab v),.r (.int .i64 s)] (L n1 (L n2 a0))
theorem Azo(rs:List Rn)(ls:List (List Rn))(r t:Rn)(e f x y:Int)(n1:H I 108 [sL pc rs] (.fresh 1 ls.length (pp ls)))(n2:H I 110 [sL pp ls,A5 r e] (.int .i64 x))(n3:H I 110 [sL pp ls,A5 t f] (.int .i64 y)):H I 63 [sL pc rs,A5 r e,A5 t f] (.int .i64 (D R (x-y))):=i (fn:=aR) a rfl 400 rfl [.r (.fresh 1 ls.length (pp ls)),.r (.int .i64 x),.r (.int .i64 y)] (L n1 (L n2 (L n3 a0)))
theorem Abc(fs:List Rn)(r t:Rn)(e f:Int)(b:Bool)(c1:(b)=true)(n1:H I 58 [sL pc fs] (.bool b)):H I 17 [BD fs r e t f] (.bool false):=i (fn:=Nt) a rfl 400 rfl [.r (.bool b),.b true,.b true,.b true,.b true] (L n1 (L c1 (L G0 (L G0 (L G0 a0)))))
theorem Abd(fs:List Rn)(r t:Rn)(e f:Int)(d:Int)(b:Bool)(c1:(b)=false)(c2:B (d<1)=true)(n1:H I 58 [sL pc fs] (.bool b))(n2:H I 21 [sL pc fs] (.int .i64 d)):H I 17 [BD fs r e t f] (.bool false):=i (fn:=Nt) a rfl 400 rfl [.r (.bool b),.b false,.r (.int .i64 d),.b true,.b true,.b true] (L n1 (L c1 (L n2 (L c2 (L G0 (L G0 a0))))))
theorem Abe(fs:List Rn)(r t:Rn)(e f:Int)(d c:Int)(b v1 v2 z:Bool)(c1:(b)=false)(c2:B (d<1)=false)(c3:(v1)=true)(c4:(v2)=true)(c5:(c==0)=true)(n1:H I 58 [sL pc fs] (.bool b))(n2:H I 21 [sL pc fs] (.int .i64 d))(n3:H I 61 [A5 r e] (.bool v1))(n4:H I 61 [A5 t f] (.bool v2))(n5:H I 33 [A5 r e,A5 t f] (.int .i64 c))(n6:H I 62 [sL pc fs,A5 r e] (.bool z)):H I 17 [BD fs r e t f] (.bool z):=i (fn:=Nt) a rfl 400 rfl [.r (.bool b),.b false,.r (.int .i64 d),.b false,.r (.bool v1),.b false,.r (.bool v2),.b false,.r (.int .i64 c),.b true,.r (.bool z)] (L n1 (L c1 (L n2 (L c2 (L n3 (L (Fb c3) (L n4 (L (Fb c4) (L n5 (L c5 (L n6 a0)))))))))))
theorem Abf(fs:List Rn)(r t:Rn)(e f:Int)(d c x:Int)(b v1 v2:Bool)(c1:(b)=false)(c2:B (d<1)=false)(c3:(v1)=true)(c4:(v2)=true)(c5:(c==0)=false)(c6:(c==(-1))=true)(n1:H I 58 [sL pc fs] (.bool b))(n2:H I 21 [sL pc fs] (.int .i64 d))(n3:H I 61 [A5 r e] (.bool v1))(n4:H I 61 [A5 t f] (.bool v2))(n5:H I 33 [A5 r e,A5 t f] (.int .i64 c))(n6:H I 63 [sL pc fs,A5 r e,A5 t f] (.int .i64 x)):H I 17 [BD fs r e t f] (.bool (x==1)):=i (fn:=Nt) a rfl 400 rfl [.r (.bool b),.b false,.r (.int .i64 d),.b false,.r (.bool v1),.b false,.r (.bool v2),.b false,.r (.int .i64 c),.b false,.b true,.r (.int .i64 x)] (L n1 (L c1 (L n2 (L c2 (L n3 (L (Fb c3) (L n4 (L (Fb c4) (L n5 (L c5 (L c6 (L n6 a0))))))))))))
theorem Abg(fs:List Rn)(r t:Rn)(e f:Int)(d c:Int)(b v1 v2:Bool)(c1:(b)=false)(c2:B (d<1)=false)(c3:(v1)=true)(c4:(v2)=true)(c5:(c==0)=false)(c6:(c==(-1))=false)(n1:H I 58 [sL pc fs] (.bool b))(n2:H I 21 [sL pc fs] (.int .i64 d))(n3:H I 61 [A5 r e] (.bool v1))(n4:H I 61 [A5 t f] (.bool v2))(n5:H I 33 [A5 r e,A5 t f] (.int .i64 c)):H I 17 [BD fs r e t f] (.bool false):=i (fn:=Nt) a rfl 400 rfl [.r (.bool b),.b false,.r (.int .i64 d),.b false,.r (.bool v1),.b false,.r (.bool v2),.b false,.r (.int .i64 c),.b false,.b false] (L n1 (L c1 (L n2 (L c2 (L n3 (L (Fb c3) (L n4 (L (Fb c4) (L n5 (L c5 (L c6 a0)))))))))))
theorem Abh(fs:List Rn)(r t:Rn)(e f:Int)(d:Int)(b v1 v2:Bool)(c1:(b)=false)(c2:B (d<1)=false)(c3:(v1)=true)(c4:(v2)=false)(n1:H I 58 [sL pc fs] (.bool b))(n2:H I 21 [sL pc fs] (.int .i64 d))(n3:H I 61 [A5 r e] (.bool v1))(n4:H I 61 [A5 t f] (.bool v2)):H I 17 [BD fs r e t f] (.bool false):=i (fn:=Nt) a rfl 400 rfl [.r (.bool b),.b false,.r (.int .i64 d),.b false,.r (.bool v1),.b false,.r (.bool v2),.b true] (L n1 (L c1 (L n2 (L c2 (L n3 (L (Fb c3) (L n4 (L (YO c4) a0))))))))
theorem Abi(fs:List Rn)(r t:Rn)(e f:Int)(d:Int)(b v1:Bool)(c1:(b)=false)(c2:B (d<1)=false)(c3:(v1)=false)(n1:H I 58 [sL pc fs] (.bool b))(n2:H I 21 [sL pc fs] (.int .i64 d))(n3:H I 61 [A5 r e] (.bool v1)):H I 17 [BD fs r e t f] (.bool false):=i (fn:=Nt) a rfl 400 rfl [.r (.bool b),.b false,.r (.int .i64 d),.b false,.r (.bool v1),.b true,.b true] (L n1 (L c1 (L n2 (L c2 (L n3 (L (YO c3) (L G0 a0)))))))
theorem Azp(fs:List Rn)(r t:Rn)(e f:Int)(gs:List Rn)(n1:H I 73 [sL pc fs] (sL pc gs)):H I 20 [BD fs r e t f] (BD gs r e t f):=i (fn:=aB) a rfl 400 rfl [.r (sL pc gs)] (L n1 a0)
theorem Abj(fs:List Rn)(r t:Rn)(e f:Int)(q:Rn)(g c_qr c_qt c_rt:Int)(c1:(c_rt==0)=false)(c2:B (c_qr<=0)=true)(n1:H I 33 [A5 q g,A5 r e] (.int .i64 c_qr))(n2:H I 33 [A5 q g,A5 t f] (.int .i64 c_qt))(n3:H I 33 [A5 r e,A5 t f] (.int .i64 c_rt)):H I 27 [BD fs r e t f,A5 q g] (.int .i64 1):=i (fn:=OR) a rfl 400 rfl [.r (.int .i64 c_qr),.r (.int .i64 c_qt),.r (.int .i64 c_rt),.b false,.b true] (L n1 (L n2 (L n3 (L c1 (L c2 a0)))))
theorem Abk(fs:List Rn)(r t:Rn)(e f:Int)(q:Rn)(g c_qr c_qt c_rt:Int)(c1:(c_rt==0)=false)(c2:B (c_qr<=0)=false)(c3:B (c_qt>0)=true)(n1:H I 33 [A5 q g,A5 r e] (.int .i64 c_qr))(n2:H I 33 [A5 q g,A5 t f] (.int .i64 c_qt))(n3:H I 33 [A5 r e,A5 t f] (.int .i64 c_rt)):H I 27 [BD fs r e t f,A5 q g] (.int .i64 (-1)):=i (fn:=OR) a rfl 400 rfl [.r (.int .i64 c_qr),.r (.int .i64 c_qt),.r (.int .i64 c_rt),.b false,.b false,.b true] (L n1 (L n2 (L n3 (L c1 (L c2 (L c3 a0))))))
theorem Abl(fs:List Rn)(r t:Rn)(e f:Int)(q:Rn)(g c_qr c_qt c_rt v w s_t s_q:Int)(c1:(c_rt==0)=false)(c2:B (c_qr<=0)=false)(c3:B (c_qt>0)=false)(c4:(s_q==0)=true)(n1:H I 33 [A5 q g,A5 r e] (.int .i64 c_qr))(n2:H I 33 [A5 q g,A5 t f] (.int .i64 c_qt))(n3:H I 33 [A5 r e,A5 t f] (.int .i64 c_rt))(n4:H I 80 [sL pc fs,Ap q,.int .i64 g] (Ab v))(n5:H I 79 [Ab v] (.int .i64 s_q))(n6:H I 80 [sL pc fs,Ap t,.int .i64 f] (Ab w))(n7:H I 79 [Ab w] (.int .i64 s_t)):H I 27 [BD fs r e t f,A5 q g] (.int .i64 0):=i (fn:=OR) a rfl 400 rfl [.r (.int .i64 c_qr),.r (.int .i64 c_qt),.r (.int .i64 c_rt),.b false,.b false,.b false,.r (Ab v),.r (.int .i64 s_q),.r (Ab w),.r (.int .i64 s_t),.b true] (L n1 (L n2 (L n3 (L c1 (L c2 (L c3 (L n4 (L n5 (L n6 (L n7 (L c4 a0)))))))))))
theorem Abm(fs:List Rn)(r t:Rn)(e f:Int)(q:Rn)(g c_qr c_qt c_rt v w s_t s_q:Int)(c1:(c_rt==0)=false)(c2:B (c_qr<=0)=false)(c3:B (c_qt>0)=false)(c4:(s_q==0)=false)(c5:(s_t==0)=true)(n1:H I 33 [A5 q g,A5 r e] (.int .i64 c_qr))(n2:H I 33 [A5 q g,A5 t f] (.int .i64 c_qt))(n3:H I 33 [A5 r e,A5 t f] (.int .i64 c_rt))(n4:H I 80 [sL pc fs,Ap q,.int .i64 g] (Ab v))(n5:H I 79 [Ab v] (.int .i64 s_q))(n6:H I 80 [sL pc fs,Ap t,.int .i64 f] (Ab w))(n7:H I 79 [Ab w] (.int .i64 s_t)):H I 27 [BD fs r e t f,A5 q g] (.int .i64 1):=i (fn:=OR) a rfl 400 rfl [.r (.int .i64 c_qr),.r (.int .i64 c_qt),.r (.int .i64 c_rt),.b false,.b false,.b false,.r (Ab v),.r (.int .i64 s_q),.r (Ab w),.r (.int .i64 s_t),.b false,.b true] (L n1 (L n2 (L n3 (L c1 (L c2 (L c3 (L n4 (L n5 (L n6 (L n7 (L c4 (L c5 a0))))))))))))
theorem Abn(fs:List Rn)(r t:Rn)(e f:Int)(q:Rn)(g c_qr c_qt c_rt v w s_t s_q:Int)(c1:(c_rt==0)=false)(c2:B (c_qr<=0)=false)(c3:B (c_qt>0)=false)(c4:(s_q==0)=false)(c5:(s_t==0)=false)(c6:(s_q==s_t)=true)(n1:H I 33 [A5 q g,A5 r e] (.int .i64 c_qr))(n2:H I 33 [A5 q g,A5 t f] (.int .i64 c_qt))(n3:H I 33 [A5 r e,A5 t f] (.int .i64 c_rt))(n4:H I 80 [sL pc fs,Ap q,.int .i64 g] (Ab v))(n5:H I 79 [Ab v] (.int .i64 s_q))(n6:H I 80 [sL pc fs,Ap t,.int .i64 f] (Ab w))(n7:H I 79 [Ab w] (.int .i64 s_t)):H I 27 [BD fs r e t f,A5 q g] (.int .i64 (-1)):=i (fn:=OR) a rfl 400 rfl [.r (.int .i64 c_qr),.r (.int .i64 c_qt),.r (.int .i64 c_rt),.b false,.b false,.b false,.r (Ab v),.r (.int .i64 s_q),.r (Ab w),.r (.int .i64 s_t),.b false,.b false,.b true] (L n1 (L n2 (L n3 (L c1 (L c2 (L c3 (L n4 (L n5 (L n6 (L n7 (L c4 (L c5 (L c6 a0)))))))))))))
theorem Abo(fs:List Rn)(r t:Rn)(e f:Int)(q:Rn)(g c_qr c_qt c_rt v w s_t s_q:Int)(c1:(c_rt==0)=false)(c2:B (c_qr<=0)=false)(c3:B (c_qt>0)=false)(c4:(s_q==0)=false)(c5:(s_t==0)=false)(c6:(s_q==s_t)=false)(n1:H I 33 [A5 q g,A5 r e] (.int .i64 c_qr))(n2:H I 33 [A5 q g,A5 t f] (.int .i64 c_qt))(n3:H I 33 [A5 r e,A5 t f] (.int .i64 c_rt))(n4:H I 80 [sL pc fs,Ap q,.int .i64 g] (Ab v))(n5:H I 79 [Ab v] (.int .i64 s_q))(n6:H I 80 [sL pc fs,Ap t,.int .i64 f] (Ab w))(n7:H I 79 [Ab w] (.int .i64 s_t)):H I 27 [BD fs r e t f,A5 q g] (.int .i64 1):=i (fn:=OR) a rfl 400 rfl [.r (.int .i64 c_qr),.r (.int .i64 c_qt),.r (.int .i64 c_rt),.b false,.b false,.b false,.r (Ab v),.r (.int .i64 s_q),.r (Ab w),.r (.int .i64 s_t),.b false,.b false,.b false] (L n1 (L n2 (L n3 (L c1 (L c2 (L c3 (L n4 (L n5 (L n6 (L n7 (L c4 (L c5 (L c6 a0)))))))))))))
def Ig(o:Bool)(rs:List Rn)(i:Int):Ak:=(.val (sL pc rs)::(Q 1 (.val (.bool o)::(.val (.int .i64 i)::(Q 24 [])))))
theorem Azq(o:Bool)(rs:List Rn)(i:Int)(z:Int)(c1:B (i<(rs.length:Int))=true)(c2:B (z>100)=true)(n1:0<=i/\i<(rs.length:Int))(n2:H I 51 [Ap (rs.getD (A i) z0)] (.int .i64 z)):W I Ns (Ig o rs i) .ret (Ig false rs i):=(C a 400 [.b true,.v (Ap (rs.getD (A i) z0)),.r (.int .i64 z),.b true,.b true] [0,2,3] (L c1 (L n1 (L (B3 n1) (L n2 (L c2 (L G0 a0)))))))
theorem Azr(o:Bool)(rs:List Rn)(i:Int)(z:Int)(c1:B (i<(rs.length:Int))=true)(c2:B (z>100)=false)(c3:(B ((((rs.getD (A i) z0).2.length:Nat):Int)>5))=true)(n1:0<=i/\i<(rs.length:Int))(n2:H I 51 [Ap (rs.getD (A i) z0)] (.int .i64 z)):W I Ns (Ig o rs i) .ret (Ig false rs i):=(C a 400 [.b true,.v (Ap (rs.getD (A i) z0)),.r (.int .i64 z),.b false,.v (.sl ((rs.getD (A i) z0).2.length) (lm (rs.getD (A i) z0).2)),.b true] [0,2,3] (L c1 (L n1 (L (B3 n1) (L n2 (L c2 (L n1 (L (X8 n1) (L c3 a0)))))))))
theorem Azs(o:Bool)(rs:List Rn)(i:Int)(z:Int)(c1:B (i<(rs.length:Int))=true)(c2:B (z>100)=false)(c3:(B ((((rs.getD (A i) z0).2.length:Nat):Int)>5))=false)(n1:0<=i/\i<(rs.length:Int))(n2:H I 51 [Ap (rs.getD (A i) z0)] (.int .i64 z)):W I Ns (Ig o rs i) .norm (Ig o rs (D R (i+1))):=(C a 400 [.b true,.v (Ap (rs.getD (A i) z0)),.r (.int .i64 z),.b false,.v (.sl ((rs.getD (A i) z0).2.length) (lm (rs.getD (A i) z0).2)),.b false] [0,2,3] (L c1 (L n1 (L (B3 n1) (L n2 (L c2 (L n1 (L (X8 n1) (L c3 a0)))))))))
theorem Azt(o:Bool)(rs:List Rn)(i:Int)(c1:B (i<(rs.length:Int))=false):W I Ns (Ig o rs i) (.exit 0) (Ig o rs i):=(C a 400 [.b false] [0,2,3] (L c1 a0))
theorem fA(rs:List Rn)(c1:B ((rs.length:Int)>9)=true):H I 13 [sL pc rs] (.bool false):=p (fn:=Ui) (s:=(Q 2 (.val (.bool false)::(Q 25 [])))) (ex := .ret) rfl rfl (P (Ar (AQ (C a 400 [.b true] [2] (L c1 a0)) (by nofun)))) (by nofun) rfl
theorem fB(rs:List Rn)(i:Int)(c1:B ((rs.length:Int)>9)=false)(hl1:W I (.loop Ns) (Ig false rs 0) .ret (Ig false rs i)):H I 13 [sL pc rs] (.bool false):=p (fn:=Ui) (s:=(.val (sL pc rs)::(Q 1 (.val (.bool false)::(.val (.int .i64 i)::(Q 24 [])))))) (ex := .ret) rfl rfl (P (Ar (W.seq (C a 400 [.b false] [0,2,3] (L c1 a0)) (AQ (De hl1) (by nofun))))) (by nofun) rfl
theorem fD(rs:List Rn)(i:Int)(c1:B ((rs.length:Int)>9)=false)(hl1:W I (.loop Ns) (Ig false rs 0) (.exit 0) (Ig false rs i)):H I 13 [sL pc rs] (.bool true):=p (fn:=Ui) (s:=(Q 2 (.val (.bool true)::(Q 25 [])))) (ex := .ret) rfl rfl (P (Ar (W.seq (C a 400 [.b false] [0,2,3] (L c1 a0)) (W.seq (W.block hl1) (C a 400 [] [2] a0))))) (by nofun) rfl
def V_(o:Bool)(r:Rn)(i:Int):Ak:=(Q 2 (.box [.bool r.1,.sl r.2.length (lm r.2)]::(.box [.bool r.1,.sl r.2.length (lm r.2)]::(.val (.bool o)::(.val (.int .i64 i)::(Q 32 []))))))
theorem Azu(o:Bool)(r:Rn)(i:Int)(c1:B (i<(r.2.length:Int))=true)(c2:((r.2.getD (A i) 0) != (r.2.getD (A i) 0))=false)(n1:0<=i/\i<(r.2.length:Int)):W I aF (V_ o r i) .norm (V_ o r (D R (i+1))):=(C a 400 [.b true,.v (.int .u32 (r.2.getD (A i) 0)),.v (.int .u32 (r.2.getD (A i) 0)),.b false] [2,3,4,5] (L c1 (L n1 (L (y n1) (L n1 (L (y n1) (L c2 a0)))))))
theorem Azv(o:Bool)(r:Rn)(i:Int)(c1:B (i<(r.2.length:Int))=false):W I aF (V_ o r i) (.exit 0) (V_ o r i):=(C a 400 [.b false] [2,3,4,5] (L c1 a0))
theorem Abp(r:Rn)(i:Int)(c1:(r.1==r.1)=true)(c2:((r.2.length:Int) != (r.2.length:Int))=false)(hl1:W I (.loop aF) (V_ false r 0) (.exit 0) (V_ false r i)):H I 28 [Ap r,Ap r] (.bool true):=p (fn:=aG) (s:=(Q 4 (.val (.bool true)::(Q 33 [])))) (ex := .ret) rfl rfl (P (Ar (W.seq (C a 400 [.b false,.b false] [2,3,4,5] (L (show (!(r.1==r.1))=false from (by rw [c1];rfl)) (L c2 a0))) (W.seq (W.block hl1) (C a 400 [] [4] a0))))) (by nofun) rfl
def TXA:Cp:=TZB
theorem nO:B_ I TXA:=mS
end Go.Proofs.YtajompaehjkgkaaGreat
