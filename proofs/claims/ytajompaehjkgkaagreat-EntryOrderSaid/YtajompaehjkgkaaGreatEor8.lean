/- Texts of the proof of EntryOrder: part 8 of 14. -/
import Derived.Test.YtajompaehjkgkaaGreatEor7
namespace Go.Ai
open Int renaming mul_assoc->AK,mul_ne_zero->AS,mul_sub->Fy,natAbs->E
open List renaming eq_nil_of_length_eq_zero->A5,length->Bl,length_pos_iff->Ak,map_congr_left->GM
open Nat renaming le_max_right->Azs,le_refl->Ao,le_trans->Bm,lt_of_le_of_lt->DF,lt_pow_self->Xr,max->Ach
def Dv(g t:LI):Prop:=∃ (c:Int) (k:LI),c ≠ 0/\∀ x,c*Aa t x=Aa g x*Aa k x
theorem Dv.refl(g:LI):Dv g g:=⟨1,[1],by decide,fun x=>by simp [Aa]⟩
theorem Dv.zero(g:LI):Dv g []:=⟨1,[],by decide,fun x=>by simp [Aa]⟩
theorem Dv.trans{a b c:LI}(h1:Dv a b)(h2:Dv b c):Dv a c:=by
 obtain⟨m,k,hm,h⟩:=h1;obtain⟨n,l,hn,g⟩:=h2;refine⟨m*n,Bs k l,AS hm hn,fun x => ?_⟩;have h':=h x;have g':=g x;rw[AX,AK,g'];rw[<- AK,h'];grind
theorem Oj{g s t r:LI}{m:Int}(u v:LI)(hm:m ≠ 0)(h1:Dv g s)(h2:Dv g t)(h:∀ x,m*Aa r x=Aa u x*Aa s x+Aa v x*Aa t x):Dv g r:=by
 obtain⟨c,k,hc,hk⟩:=h1;obtain⟨d,l,hd,hl⟩:=h2;refine⟨c*d*m,Ec (As d (Bs u k)) (As c (Bs v l)),AS (AS hc hd) hm,fun x => ?_⟩;rw[BY,A0,A0,AX,AX];have a:=hk x;have b:=hl x;have e:=h x;rw[AK,e];generalize Aa s x=s at *
 generalize Aa t x=t at *
 generalize Aa g x=g at *
 generalize Aa k x=k at *
 generalize Aa l x=l at *
 generalize Aa u x=u at *
 generalize Aa v x=v at *
 have e1:c*d*(u*s+v*t)=d*u*(c*s)+c*v*(d*t):=by grind
 rw[e1,a,b];grind
theorem Dv.scaled{g s r:LI}{m n:Int}(hm:m ≠ 0)(h1:Dv g s)(h:∀ x,m*Aa r x=n*Aa s x):Dv g r :=
 Oj [n] [] hm h1 h1 fun x=>by rw[h x];simp[Aa]
theorem Dv.left{g f t:LI}{m n:Int}(_:m ≠ 0)(hn:n ≠ 0)(h1:Dv g t)(h:∀ x,m*Aa f x=n*Aa g x):Dv f t:=by
 obtain⟨c,k,hc,hk⟩:=h1;refine⟨n*c,As m k,AS hn hc,fun x => ?_⟩;have a:=hk x;have b:=h x;rw[A0];have e1:n*c*Aa t x=n*(c*Aa t x):=by grind
 rw[e1,a];have e2:n*(Aa g x*Aa k x)=(n*Aa g x)*Aa k x:=by grind
 rw[e2,<- b];grind
theorem aK{g s:LI}(t:LI)(h:Dv g s){r:LI}(hr:∀ x,Aa r x=Aa s x*Aa t x):Dv g r :=
 Oj (m:=1) t [] (by decide) h h fun x=>by rw[hr x];simp[Aa];grind
theorem By{p:LI}(h:BH p)(h0:p ≠ []):Y p ≠ []:=by rw [h];exact h0
theorem KT{p q:LI}(hp:Y p ≠ [])(hq:Y q ≠ []):(Y (Bs p q)).length=(Y p).length+(Y q).length-1:=by
 have e:Y (Bs p q)=Y (Bs (Y p) (Y q)):=Ft fun x=>by rw[AX,AX,DR,DR]
 rw[e];have lp:=Hg p;have lq:=Hg q;generalize Y p=P at *
 generalize Y q=Q at *
 have h1:=Ak.2 hp;have h2:=Ak.2 hq;obtain⟨t1,t2⟩:=RT P Q hp hq;have t3:(Bs P Q).getD (P.length+Q.length-2) 0 ≠ 0:=by rw[t1];exact AS (En lp hp) (En lq hq)
 rw[M0];have a1:¬ (Bs P Q).length<=P.length+Q.length-2:=fun h=>t3 (B3 h);have a2:¬ P.length+Q.length-1<(Bs P Q).length:=fun h=>by
  have hne:Bs P Q ≠ []:=by intro h0;rw[h0] at h;simp at h
  exact En (show BH (Bs P Q) from M0 P Q) hne (t2 _ (by omega))
 omega
theorem Pn{p q:LI}(hp:Y p ≠ [])(h:∀ x,Aa p x*Aa q x=0):∀ x,Aa q x=0:=by
 intro x;by_cases hq:Y q=[]
 ·exact Ee hq x
 ·have h1:=KT hp hq;have h2:Y (Bs p q)=Y []:=Ft fun x=>by rw[AX,h x];rfl
  rw[h2] at h1;have:=Ak.2 hp;have:=Ak.2 hq;have h0:(Y []).length=0:=rfl;rw[h0] at h1;omega
theorem T1{p:LI}(hp:Y p ≠ [])(q r:LI)(h:∀ x,Aa p x*Aa q x=Aa p x*Aa r x):∀ x,Aa q x=Aa r x:=by
 intro x;have:=Pn (q:=My q r) hp (fun x=>by rw[FC,Fy,h x];omega) x;rw[FC] at this;omega
theorem Dv.length{g t:LI}(h:Dv g t)(ht:Y t ≠ []):(Y g).length<=(Y t).length/\Y g ≠ []:=by
 obtain⟨c,k,hc,hk⟩:=h;have e:Y (As c t)=Y (Bs g k):=Ft fun x=>by rw[A0,AX];exact hk x
 rw[Jg hc] at e;have e2:=congrArg Bl e;rw[y] at e2;have ht1:=Ak.2 ht;by_cases hg:Y g=[]
 ·have:Y (Bs g k)=Y []:=Ft fun x=>by rw[AX,Ee hg];simp[Aa]
  have h0:(Y []).length=0:=rfl;rw[this,h0] at e2;omega
 ·by_cases hk0:Y k=[]
  ·have:Y (Bs g k)=Y []:=Ft fun x=>by rw[AX,Ee hk0];simp[Aa]
   have h0:(Y []).length=0:=rfl;rw[this,h0] at e2;omega
  ·rw[KT hg hk0] at e2;have:=Ak.2 hk0;exact⟨by omega,hg⟩
def F4(g s t:LI):Prop:=Dv g s/\Dv g t/\∃ (c:Int) (u v:LI),c ≠ 0/\∀ x,c*Aa g x=Aa u x*Aa s x+Aa v x*Aa t x
theorem F4.comm{g s t:LI}(h:F4 g s t):F4 g t s:=by
 obtain⟨a,b,c,u,v,hc,h⟩:=h;exact⟨b,a,c,v,u,hc,fun x=>by rw[h x];omega⟩
theorem F4.dv{g s t f:LI}(h:F4 g s t)(h1:Dv f s)(h2:Dv f t):Dv f g:=by
 obtain⟨_,_,c,u,v,hc,h⟩:=h;exact Oj u v hc h1 h2 h
theorem YU(s:LI):F4 s s []:=⟨Dv.refl s,Dv.zero s,1,[1],[],by decide,fun x=>by simp [Aa]⟩
theorem F4.length{f g s t:LI}(h1:F4 f s t)(h2:F4 g s t)(hf:Y f ≠ []):(Y f).length=(Y g).length:=by
 have a:=(h1.dv h2.1 h2.2.1).length hf;have b:=(h2.dv h1.1 h1.2.1).length a.2;omega
theorem F4.step{g r d e q:LI}{a m:Int}(ha:a ≠ 0)(hm:m ≠ 0)(hr:∀ x,a*Aa r x=Aa q x*Aa d x+m*Aa e x)(h:F4 g d e):F4 g r d:=by
 obtain⟨h1,h2,c,u,v,hc,h⟩:=h;refine⟨Oj q [m] ha h1 h2 (fun x=>by rw[hr x];simp[Aa]),h1,c*m,As a v,My (As m u) (Bs v q),AS hc hm,fun x => ?_⟩;have e1:=hr x;have e2:=h x;rw[A0,FC,A0,AX];generalize Aa g x=g at *
 generalize Aa d x=d at *
 generalize Aa e x=e at *
 generalize Aa r x=r at *
 generalize Aa q x=q at *
 generalize Aa u x=u at *
 generalize Aa v x=v at *
 have e3:c*m*g=m*(c*g):=by grind
 rw[e3,e2];have e4:a*v*r=v*(a*r):=by grind
 rw[e4,e1];grind
theorem F4.scaled{g s t s' t':LI}{m n k l:Int}(hm:m ≠ 0)(hn:n ≠ 0)(hk:k ≠ 0)(hl:l ≠ 0)(h1:∀ x,m*Aa s' x=n*Aa s x)(h2:∀ x,k*Aa t' x=l*Aa t x)(h:F4 g s t):F4 g s' t':=by
 obtain⟨a,b,c,u,v,hc,h⟩:=h;refine⟨a.scaled hm h1,b.scaled hk h2,c*(n*l),As (m*l) u,As (k*n) v,AS hc (AS hn hl),fun x => ?_⟩;have e1:=h1 x;have e2:=h2 x;have e3:=h x;rw[A0,A0];generalize Aa g x=g at *
 generalize Aa s x=s at *
 generalize Aa t x=t at *
 generalize Aa s' x=s' at *
 generalize Aa t' x=t' at *
 generalize Aa u x=u at *
 generalize Aa v x=v at *
 have e4:c*(n*l)*g=n*l*(c*g):=by grind
 rw[e4,e3];have e5:m*l*u*s'=l*u*(m*s'):=by grind
 have e6:k*n*v*t'=n*v*(k*t'):=by grind
 rw[e5,e6,e1,e2];grind
theorem F4.gscaled{g g' s t:LI}{m n:Int}(hm:m ≠ 0)(hn:n ≠ 0)(h1:∀ x,m*Aa g' x=n*Aa g x)(h:F4 g s t):F4 g' s t:=by
 obtain⟨a,b,c,u,v,hc,h⟩:=h;refine⟨a.left hm hn h1,b.left hm hn h1,c*m,As n u,As n v,AS hc hm,fun x => ?_⟩;have e1:=h1 x;have e2:=h x;rw[A0,A0,AK,e1];have e3:c*(n*Aa g x)=n*(c*Aa g x):=by grind
 rw[e3,e2];grind
theorem IY(p:LI):∃ m:Int,m ≠ 0/\∀ x,Aa p x=m*Aa (prim p) x:=by
 by_cases h:Y p=[]
 ·refine⟨1,by decide,fun x => ?_⟩;rw[Ee h,DY.2 (Dn.1 h)];rfl
 ·have:=Ki h;refine⟨(w p:Int),by omega,fun x => ?_⟩;rw[<- A0,Nq,DR]
theorem oH{r d:LI}(hl:d.length<=r.length)(ht:top d ≠ 0):∃ (a m:Int) (q:LI),a ≠ 0/\m ≠ 0/\∀ x,a*Aa r x=Aa q x*Aa d x+m*Aa (DZ r d) x:=by
 obtain⟨m,hm,h⟩:=IY (CQ r d ((top d).natAbs:Int) (sg (top d)*top r) r.length);refine⟨((top d).natAbs:Int),m,Dz (r.length-d.length) [sg (top d)*top r],by omega,hm,fun x => ?_⟩;have h1:=h x;rw[Tz hl] at h1;have e:Aa (DZ r d) x=Aa (prim (CQ r d ((top d).natAbs:Int) (sg (top d)*top r) r.length)) x:=rfl;rw[e,<- h1,D9];simp only[Aa];grind
theorem oI{d:LI}(ht:top d ≠ 0):∀ (f:Nat) (r:LI),∃ (a m:Int) (q:LI),a ≠ 0/\m ≠ 0/\∀ x,a*Aa r x=Aa q x*Aa d x+m*Aa (E1 f r d) x:=by
 intro f;induction f with
 | zero=>intro r;exact⟨1,1,[],by decide,by decide,fun x=>by simp[Aa,E1]⟩
 | succ f ih =>
  intro r;simp only[E1];split
  ·rename_i hl;obtain⟨a,m,q,ha,hm,h⟩:=oH hl ht;obtain⟨b,n,s,hb,hn,g⟩:=ih (DZ r d);refine⟨b*a,m*n,Ec (As b q) (As m s),AS hb ha,AS hm hn,fun x => ?_⟩;have h':=h x;have g':=g x;rw[BY,A0,A0,AK,h'];generalize Aa (E1 f (DZ r d) d) x=z at *
   generalize Aa (DZ r d) x=y at *
   have e:b*(Aa q x*Aa d x+m*y)=b*(Aa q x*Aa d x)+m*(b*y):=by grind
   rw[e,g'];grind
  ·exact⟨1,1,[],by decide,by decide,fun x=>by simp[Aa]⟩
theorem YV:∀ (f:Nat) (x y:LI),y.length<=f->y.length<=x.length->BH x->BH y->F4 (IW f x y) x y:=by
 intro f;induction f with
 | zero =>
  intro x y h1 _ _ _;have:y=[]:=A5 (by omega);subst this;exact YU x
 | succ f ih =>
  intro x y h1 h2 lx ly;simp only[IW];split
  ·rename_i h;subst h;exact YU x
  ·rename_i h;have ht:top y ≠ 0:=En ly h;obtain⟨r1,r2,_⟩:=V3 h (K:=Ach 1 (y.map E).sum) (fun i=>by
    have h3:(y.getD i 0).natAbs<=(y.map E).sum:=by
     clear ht h h1 h2 ly ih;induction y generalizing i with
     | nil=>simp
     | cons c y ih => 
      cases i with
      | zero=>simp
      | succ i=>have:=ih i;simp at this |-;omega
    unfold Bv;have h4:(y.map E).sum<=Ach 1 (y.map E).sum:=Azs _ _;exact DF (Bm h3 h4) (Xr (by decide))) x.length x (Ach 1 (x.map E).sum) (Ao _) lx (fun i=>by
    have h3:(x.getD i 0).natAbs<=(x.map E).sum:=by
     clear ht h h1 h2 lx ih;induction x generalizing i with
     | nil=>simp
     | cons c y ih => 
      cases i with
      | zero=>simp
      | succ i=>have:=ih i;simp at this |-;omega
    unfold Bv;have h4:(x.map E).sum<=Ach 1 (x.map E).sum:=Azs _ _;exact DF (Bm h3 h4) (Xr (by decide)))
   obtain⟨a,m,q,ha,hm,e⟩:=oI ht x.length x;exact F4.step ha hm e (ih y (BC x y) (by unfold BC;omega) (by unfold BC;omega) ly r1)
def PQ(x y:LI):LI:=if y.length<=x.length then IW y.length x y else IW x.length y x
theorem Aib{x y:LI}(lx:BH x)(ly:BH y):F4 (PQ x y) x y:=by
 unfold PQ;split
 ·exact YV _ _ _ (Ao _) (by assumption) lx ly
 ·exact (YV _ _ _ (Ao _) (by omega) ly lx).comm
theorem YW(p:LI):∃ m:Int,m ≠ 0/\∀ x,Aa (j p) x=m*Aa p x:=by
 unfold j;split
 ·exact⟨-1,by decide,fun x=>by rw[KR];omega⟩
 ·exact⟨1,by decide,fun x=>by omega⟩
theorem LL(p:LI):(j p).length=p.length:=by
 unfold j;split
 ·exact El p
 ·rfl
def B5(s t:LI):LI:=j (PQ (prim s) (prim t))
theorem Fi(s t:LI):F4 (B5 s t) s t:=by
 have h:=Aib (C2 s) (C2 t);obtain⟨m,hm,h1⟩:=IY s;obtain⟨n,hn,h2⟩:=IY t;obtain⟨k,hk,h3⟩:=YW (PQ (prim s) (prim t));have h4:=h.scaled (s':=s) (t':=t) (m:=1) (n:=m) (k:=1) (l:=n) (by decide) hm (by decide) hn (fun x=>by rw[h1 x];omega) (fun x=>by rw[h2 x];omega);exact h4.gscaled (m:=1) (n:=k) (by decide) hk (fun x=>by unfold B5;rw[h3 x];omega)
theorem IZ{p:LI}(h:BH p):BH (Cp p):=by
 have e:Cp p=As (-1) p:=by
  unfold Cp As;apply GM;intro x _;omega
 rw[e];exact nV (by decide) h
theorem Po{p:LI}(h:BH p):BH (j p):=by
 unfold j;split
 ·exact IZ h
 ·exact h
theorem Nv:∀ (f:Nat) (x y:LI),prim x=x->prim y=y->prim (IW f x y)=IW f x y:=by
 intro f;induction f with
 | zero=>intro x y h _;exact h
 | succ f ih =>
  intro x y hx hy;simp only[IW];split
  ·exact hx
  ·exact ih y _ hy (Jh _ _ _ hx)
theorem T2{x y:LI}(hx:prim x=x)(hy:prim y=y):prim (PQ x y)=PQ x y:=by
 unfold PQ;split
 ·exact Nv _ _ _ hx hy
 ·exact Nv _ _ _ hy hx
theorem YX(p:LI):w (Cp p)=w p:=by
 have e:Cp p=As (-1) p:=by
  unfold Cp As;apply GM;intro x _;omega
 rw[e,Jf];simp
theorem YY(p:LI):w (j p)=w p:=by
 unfold j;split
 ·exact YX p
 ·rfl
theorem D0(s t:LI):BH (B5 s t):=Po (C6 (T2 (Ch s) (Ch t)))
theorem KA{p:LI}(h:BH p)(hc:w p=1):prim p=p:=by rw [Vy hc];exact h
theorem Gi{s t:LI}(h:Y s ≠ []):B5 s t ≠ []:=by
 have:=((Fi s t).1.length h).2;intro h0;rw[h0] at this;exact this rfl
theorem Kl{s t:LI}(h:Y s ≠ []):w (B5 s t)=1:=by
 have h1:=Gi (t:=t) h;unfold B5 at *
 rw[YY];have h2:PQ (prim s) (prim t) ≠ []:=by
  intro h0;rw[h0] at h1;exact h1 rfl
 have h3:=T2 (Ch s) (Ch t);rw[<- h3];exact M7 (by rw[C6 h3];exact h2)
theorem dH{p:LI}(h:BH p)(h0:p ≠ []):0<top (j p):=by
 have h1:=En h h0;unfold j;split
 ·rename_i hn;unfold top at *
  rw[El,HQ];omega
 ·rename_i hn;unfold top at *;omega
theorem Km{s t:LI}(h:Y s ≠ []):0<top (B5 s t):=by
 have h1:=Gi (t:=t) h;unfold B5 at *
 refine dH (C6 (T2 (Ch s) (Ch t))) ?_;intro h0;rw[h0] at h1;exact h1 rfl
theorem oJ{s t:LI}{K:Nat}(h:Y s ≠ [])(hl:s.length<=9)(hK:Kb K s):Kb (K+3) (B5 s t)/\(B5 s t).length<=(Y s).length:=by
 have hg:=(Fi s t).1;have h1:=(hg.length h).1;have hle:=D0 s t;rw[hle] at h1;obtain⟨c,k,hc,hk⟩:=hg;have:=BA s;exact⟨U0 hc (Kl h) h hl (by omega) hK hk,h1⟩
theorem Azt(y:LI):∃ K,Kb K y:=⟨(y.map E).sum,fun i=>by
 have h3:(y.getD i 0).natAbs<=(y.map E).sum:=by
  induction y generalizing i with
  | nil=>simp
  | cons c y ih => 
   cases i with
   | zero=>simp
   | succ i=>have:=ih i;simp at this |-;omega
 unfold Bv;exact DF h3 (Xr (by decide))⟩
theorem oK{x y:LI}(hx:BH x)(hy0:y ≠ []):BH (BC x y)/\(BC x y).length<y.length:=by
 obtain⟨K,hK⟩:=Azt y;obtain⟨J,hJ⟩:=Azt x;obtain⟨a,b,_⟩:=V3 hy0 hK x.length x J (Ao _) hx hJ;exact⟨a,b⟩
end Go.Ai
namespace Go.Proofs.YtajompaehjkgkaaGreat
open Go.Ai
set_option maxRecDepth 100000
open Go.Ai.AV renaming fresh->P,sl->H
open Go.IntKind renaming i64->O,wrap->I
open Int renaming gcd->Dr,mul_comm->AE,mul_ediv_cancel'->JM,mul_neg->EY,natAbs_natCast->BW,ofNat_dvd_left->Hl,toNat_natCast->R
open List renaming append_nil->Mp,drop_length->Ev,eq_nil_of_length_eq_zero->A5,ext_getElem?->GI,getD_eq_getElem?_getD->Z,getElem?_append_left->AZ,getElem?_append_right->Bk,getElem?_drop->Bu,getElem?_eq_getElem->Ad,getElem?_map->Cs,getElem?_set_ne->F9,getElem?_set_self->ZG,getElem?_take_of_lt->B8,length_append->AY,length_drop->CV,length_map->Q,length_pos_iff->Ak,length_set->Ba,length_take->AD,set_set->SL,take_of_length_le->CS
open Nat renaming add_mul->DE,le_mul_of_pos_right->C7,le_of_dvd->Ut,le_refl->Ao,le_trans->Bm,lt_trichotomy->TM,mul_comm->CY,mul_le_mul_left->z,mul_le_mul_right->AJ,mul_pos->GS,mul_succ->Sh,one_mul->FL,pow_pos->DH,sub_add_cancel->Nr,zero_le->AN,zero_mul->LX
def Gj(E rs:List Rn)(i:Nat):List Rn:=E.take i++rs.drop i
theorem Pp(E rs:List Rn):Gj E rs 0=rs:=by simp [Gj]
theorem Pq{E rs:List Rn}(h:E.length=rs.length):Gj E rs rs.length=E:=by
 unfold Gj;rw[Ev,Mp,CS (by omega)]
theorem Ij{E rs:List Rn}(h:E.length=rs.length)(i:Nat):(Gj E rs i).length=rs.length:=by
 unfold Gj;rw[AY,AD,CV];omega
theorem Ol{E rs:List Rn}(h:E.length=rs.length){i:Nat}(hi:i<rs.length):(Gj E rs i).getD i z0=rs.getD i z0:=by
 unfold Gj;rw[Z,Z,Bk (by rw[AD];omega),AD,Bu];congr 2;omega
theorem Om{E rs:List Rn}(h:E.length=rs.length){i:Nat}(hi:i<rs.length):(Gj E rs i).set i (E.getD i z0)=Gj E rs (i+1):=by
 have hpi:E[i]? = some (E.getD i z0):=by rw[Z,Ad (by omega)];rfl
 apply GI;intro t;have hl:=Ij h i;unfold Gj at *
 rcases TM t i with g | g | g
 ·rw[F9 (by omega),AZ (by rw[AD];omega),AZ (by rw[AD];omega),B8 g,B8 (by omega)]
 ·subst g;rw[ZG (by omega),AZ (by rw[AD];omega),B8 (by omega),hpi]
 ·rw[F9 (by omega),Bk (by rw[AD];omega),Bk (by rw[AD];omega),AD,AD,Bu,Bu];congr 1;omega
theorem FQ(p:LI)(i:Nat):L ((p.map cn).getD i z0)=p.getD i 0:=by rw [<- CU,s]
theorem FG{p:LI}{i:Nat}(h:i<p.length):(p.map cn).getD i z0=cn (p.getD i 0):=by
 rw[Z,Cs,Z,Ad h];rfl
theorem AR{K:Nat}{p:LI}(h:Kb K p):∀ r∈p.map cn,AU K r:=Vs h.mem
theorem dI{rs:List Rn}{i:Nat}{r:Rn}(h:i<rs.length):(rs.set i r).getD i z0=r:=by
 simp[Z,h]
theorem M9{x y:Rn}{J K:Nat}(hx:AU J x)(hy:AU K y)(h:J+K<=1048576):RQ 112 [Az x,Az y] (Ag (L x*L y)):=Vx hx.1 hy.1 (by have:=hx.2;have:=hy.2;omega)
theorem oL{x y:Rn}{J K:Nat}(hx:AU J x)(hy:AU K y)(h:J<1048576)(h2:K<1048576):RQ 127 [Az x,Az y] (Ag (L x-L y)):=Aff hx.1 hy.1 (by have:=hx.2;omega) (by have:=hy.2;omega)
section
variable {p d:LI} {J Kd:Nat}
theorem YZ{a b:Int}{t:Rn}(hp:Kb J p)(hd:Kb Kd d)(ha:Bv Kd a)(hb:Bv J b)(hS:J+Kd+1<1048576)(hl:d.length<=p.length)(hN:p.length<=1048576) :
  Ap (.loop MX) (HB (d.map cn) p.length (p.map cn) t (cn a) (cn b) ((p.length-d.length:Nat):Int) (p.length:Nat) 0) (.exit 2)
   (HB (d.map cn) p.length ((CQ p d a b p.length).map cn) t (cn a) (cn b) ((p.length-d.length:Nat):Int) (p.length:Nat) (p.length:Nat)):=by
 have hE:((CQ p d a b p.length).map cn).length=(p.map cn).length:=by rw[Q,Q,ED]
 have hpl:(p.map cn).length=p.length:=Q ..;have h:=CE.up (prog:=DK) (c:=MX) (ex := .exit 2) (fin:=HB (d.map cn) p.length ((CQ p d a b p.length).map cn) t (cn a) (cn b) ((p.length-d.length:Nat):Int) (p.length:Nat) (p.length:Nat))
  (fun i=>HB (d.map cn) p.length (Gj ((CQ p d a b p.length).map cn) (p.map cn) i) t (cn a) (cn b) ((p.length-d.length:Nat):Int) (p.length:Nat) (i:Nat)) p.length (by nofun) ?_ ?_ 0 (AN _)
 ·rw[Pp] at h;exact h
 ·intro i hi;have ei:I O ((i:Int)+1)=((i+1:Nat):Int):=by rw[Bg (by omega) (by omega)];omega
  have hml:=Ij hE i;have hget:=Ol hE (i:=i) (by omega);have hEi:((CQ p d a b p.length).map cn).getD i z0=cn ((CQ p d a b p.length).getD i 0):=FG (by rw[ED];exact hi);have hest:=Hi p d a b p.length i;rw[if_pos hi] at hest;have hset:=Om hE (i:=i) (by omega);rw[hEi] at hset;have gp:=Bo (AR hp) i;have ga:=B4 ha;have gb:=B4 hb;have u:=FQ p i;generalize Gj ((CQ p d a b p.length).map cn) (p.map cn) i=M at *
  by_cases hat:p.length-d.length<=i
  ·rw[if_pos hat] at hest;have ea:I O ((i:Int)-((p.length-d.length:Nat):Int))=((i-(p.length-d.length):Nat):Int):=by rw[Bg (by omega) (by omega)];omega
   have gq:=Bo (AR hd) (i-(p.length-d.length));have vq:=FQ d (i-(p.length-d.length));have m1:=M9 gp ga (by omega);have m2:=M9 gb gq (by omega);have f1:Bv (J+Kd) (L ((p.map cn).getD i z0)*L (cn a)):=gp.fits.mul (by rw[A6];exact ha);have f2:Bv (J+Kd) (L (cn b)*L ((d.map cn).getD (i-(p.length-d.length)) z0)):=Bv.mul (by rw[A6];exact hb) gq.fits;have m3:=oL (B4 f1) (B4 f2) (by omega) (by omega);rw[A6 (L (cn b)*L ((d.map cn).getD (i-(p.length-d.length)) z0))] at m3;have k:=Ahr (d.map cn) p.length M t (cn a) (cn b) ((p.length-d.length:Nat):Int) (p.length:Nat) (i:Nat) (by simp;omega) (by rw[decide_eq_true_eq];omega) (by omega) (by omega) (by rw[Ba];omega) (by rw[ea,Q];omega)
    (by rw[R,hget];exact m1) (by rw[ea,R];exact m2) (by
     simp only[ea,R,hget];rw[dI (by omega)];exact m3)
   refine k.to rfl ?_;simp only[ea,ei,R,hget];rw[dI (by omega),SL,A6 (L ((p.map cn).getD i z0)*L (cn a)),u,vq,A6,A6,AE (p.getD i 0) a,<- hest];rw[hset]
  ·rw[if_neg hat] at hest;have m1:=M9 gp ga (by omega);have k:=Ahs (d.map cn) p.length M t (cn a) (cn b) ((p.length-d.length:Nat):Int) (p.length:Nat) (i:Nat) (by simp;omega) (by rw[decide_eq_false_iff_not];omega) (by omega) (by omega) (by rw[R,hget];exact m1);refine k.to rfl ?_;simp only[ei,R,hget];rw[u,A6,AE (p.getD i 0) a,<- hest,hset]
 ·rw[show Gj ((CQ p d a b p.length).map cn) (p.map cn) p.length=(CQ p d a b p.length).map cn by have h:=Pq hE;rw[hpl] at h;exact h];exact Aht (d.map cn) p.length _ t _ _ _ _ _ (by simp)
theorem A6f{a b:Int}(h:a ≠ 0):0<Dr a b:=by
 rw[Dr];exact Nat.gcd_pos_of_pos_left _ (by omega)
theorem Aic(hp:Kb J p)(hd:Kb Kd d)(hS:J+Kd+1<1048576)(hd0:d ≠ [])(ht:top d ≠ 0)(hl:d.length<=p.length)(hN:p.length<=1048576) :
  Ap SX (Lu (d.map cn) p.length (p.map cn) (cn (top d))) .norm (Lu (d.map cn) (DZ p d).length ((DZ p d).map cn) (cn (top d))):=by
 have hdl:=Ak.2 hd0;have e1:I O ((p.length:Int)-1)=((p.length-1:Nat):Int):=by rw[Bg (by omega) (by omega)];omega
 have e2:I O ((p.length:Int)-(((d.map cn).length:Nat):Int))=((p.length-d.length:Nat):Int):=by rw[Q,Bg (by omega) (by omega)];omega
 have gt:=B4 (Fa hd);have gl:=Bo (AR hp) (p.length-1);have vl:L ((p.map cn).getD (p.length-1) z0)=top p:=FQ p (p.length-1);have hgp:=A6f (a:=top d) (b:=top p) ht;have hgcd:=cW (na:=(cn (top d)).1) (nb:=((p.map cn).getD (p.length-1) z0).1) gt.1 gl.1 (by have:=gt.2;omega) (by have:=gl.2;omega);rw[show rv (cn (top d)).1 (cn (top d)).2=top d from A6 _,show rv ((p.map cn).getD (p.length-1) z0).1 ((p.map cn).getD (p.length-1) z0).2=top p from vl] at hgcd;have hd1:((Dr (top d) (top p):Nat):Int)∣top d:=Int.gcd_dvd_left ..;have hd2:((Dr (top d) (top p):Nat):Int)∣top p:=Int.gcd_dvd_right ..;have hd3:((Dr (top d) (top p):Nat):Int)∣(((top d).natAbs:Nat):Int):=Int.dvd_natAbs.2 hd1;have hgle:Bv Kd ((Dr (top d) (top p):Nat):Int):=by
  have:=Fa hd;unfold Bv at *
  rw[BW];have:=Ut (by omega) (Hl.1 hd1);omega
 have gg:=B4 hgle;have habs:=Vw (neg:=(cn (top d)).1) gt.1 (by have:=gt.2;omega);rw[show rv (cn (top d)).1 (cn (top d)).2=top d from A6 _] at habs;have gab:=B4 (RS (Fa hd));have q1:=RO (na:=(cn (((top d).natAbs:Nat):Int)).1) (nb:=(cn ((Dr (top d) (top p):Nat):Int)).1) gab.1 gg.1 (by rw[show rv (cn ((Dr (top d) (top p):Nat):Int)).1 (cn ((Dr (top d) (top p):Nat):Int)).2=(Dr (top d) (top p):Nat) from A6 _];omega) (by have:=gab.2;omega) (by have:=gg.2;omega);rw[show rv (cn ((Dr (top d) (top p):Nat):Int)).1 (cn ((Dr (top d) (top p):Nat):Int)).2=(Dr (top d) (top p):Nat) from A6 _,show rv (cn (((top d).natAbs:Nat):Int)).1 (cn (((top d).natAbs:Nat):Int)).2=((top d).natAbs:Nat) from A6 _] at q1;have q2:=RO (na:=((p.map cn).getD (p.length-1) z0).1) (nb:=(cn ((Dr (top d) (top p):Nat):Int)).1) gl.1 gg.1 (by rw[show rv (cn ((Dr (top d) (top p):Nat):Int)).1 (cn ((Dr (top d) (top p):Nat):Int)).2=(Dr (top d) (top p):Nat) from A6 _];omega) (by have:=gl.2;omega) (by have:=gg.2;omega);rw[show rv (cn ((Dr (top d) (top p):Nat):Int)).1 (cn ((Dr (top d) (top p):Nat):Int)).2=(Dr (top d) (top p):Nat) from A6 _,show rv ((p.map cn).getD (p.length-1) z0).1 ((p.map cn).getD (p.length-1) z0).2=top p from vl] at q2;have hG:(0:Int)<((Dr (top d) (top p):Nat):Int):=by omega
 have x1:=JM hd3;have x2:=JM hd2;rw[Nt hG hd3] at q1;rw[Nt hG hd2] at q2;have hsg:=Ka (neg:=(cn (top d)).1) gt.1 (by have:=gt.2;omega);rw[show rv (cn (top d)).1 (cn (top d)).2=top d from A6 _] at hsg;have fa:Bv Kd ((((top d).natAbs:Nat):Int) / ((Dr (top d) (top p):Nat):Int)):=by
  rcases Vz (RS (Fa hd)) (Dr (top d) (top p)) with g | g
  ·exact g
  ·exact absurd hd3 g
 have fb:Bv J (top p / ((Dr (top d) (top p):Nat):Int)):=by
  rcases Vz (Fa hp) (Dr (top d) (top p)) with g | g
  ·exact g
  ·exact absurd hd2 g
 generalize hGd:((Dr (top d) (top p):Nat):Int)=G at *
 generalize hx:(((top d).natAbs:Nat):Int) / G=x at *
 generalize hy:top p / G=y at *
 have pst:∀ b:Int,G*b=sg (top d)*top p->DZ p d=prim (CQ p d x b p.length):=by
  intro b hb;have h:=WA (r:=p) (d:=d) (c:=1) (g:=G) (a:=x) (b:=b) (by decide) hG x1 hb;rwa [show As 1 d=d by unfold As;simp] at h
 have fin:∀ b:Int,G*b=sg (top d)*top p->Bv J b->RQ 115 [H p.length (pc ((CQ p d x b p.length).map cn))] (P 2 ((DZ p d).map cn).length (pc ((DZ p d).map cn))):=by
  intro b hb fb';have hK:=Uv hp hd fa fb' p.length;have h:=EL (rs:=(CQ p d x b p.length).map cn) (AR hK) (by omega) (by rw[Q,ED];exact hN);(first|rw[s,<- pst b hb,Q,ED] at h|(rw[s,<- pst b hb] at h;unfold sL at h;rw[Q,ED] at h));rw[Q];exact h
 by_cases hneg:top d<0
 ·have hng:=cK (neg:=(cn y).1) (xs:=(cn y).2) (BV _) (by have:=fb.len;rw[IL];omega);rw[show rv (cn y).1 (cn y).2=y from A6 _] at hng;have hb:G * -y=sg (top d)*top p:=by unfold sg;rw[if_pos hneg,EY,x2];omega
  have hin:=YZ (t:=cn (top d)) hp hd fa fb.neg hS hl hN;have k:=Azm (d.map cn) p.length (p.map cn) (cn (top d)) _ _ _ _ G _ x y (-y) _ _ (BQ (top d)) _ _ _ (by rw[decide_eq_true_eq,Q];omega) (by unfold BQ;rw[if_pos hneg];rfl) (by rw[e1];omega) (by rw[Q]) (by rw[e1,R];exact hgcd) habs q1 (by rw[e1,R];exact q2) hsg hng (by rw[e2];exact hin) (fin (-y) hb fb.neg);(first|rw[Q] at k|(unfold sL at k;rw[Q] at k));exact k
 ·have hb:G*y=sg (top d)*top p:=by unfold sg;rw[if_neg hneg,x2];omega
  have hin:=YZ (t:=cn (top d)) hp hd fa fb hS hl hN;have k:=Azn (d.map cn) p.length (p.map cn) (cn (top d)) _ _ _ _ G _ x y _ _ (BQ (top d)) _ _ _ (by rw[decide_eq_true_eq,Q];omega) (by unfold BQ;rw[if_neg hneg];split <;> rfl) (by rw[e1];omega) (by rw[Q]) (by rw[e1,R];exact hgcd) habs q1 (by rw[e1,R];exact q2) hsg (by rw[e2];exact hin) (fin y hb fb);(first|rw[Q] at k|(unfold sL at k;rw[Q] at k));exact k
end
theorem Aid{d:LI}{Kd:Nat}(hd:Kb Kd d)(hd0:d ≠ [])(ht:top d ≠ 0):∀ (f:Nat) (p:LI) (J:Nat),p.length<=f->Kb J p->J+(p.length+1-d.length)*(Kd+1)<1048576->p.length<=1048576 ->
  Ap (.loop SX) (Lu (d.map cn) p.length (p.map cn) (cn (top d))) (.exit 0) (Lu (d.map cn) (E1 f p d).length ((E1 f p d).map cn) (cn (top d))):=by
 have hdl:=Ak.2 hd0;intro f;induction f with
 | zero =>
  intro p J hf _ _ _;exact Ah (oB (d.map cn) p.length (p.map cn) (cn (top d)) (by rw[decide_eq_false_iff_not,Q];omega))
 | succ f ih =>
  intro p J hf hJ hS hN;simp only[E1];split
  ·rename_i hl;have hplen:=K6 hd0 hl;have e:((DZ p d).length+1-d.length)+1<=p.length+1-d.length:=by omega
   have:=AJ (Kd+1) e;rw[DE,FL] at this;have h1:=Aic hJ hd (by
    have h2:1*(Kd+1)<=(p.length+1-d.length)*(Kd+1):=AJ _ (by omega);omega) hd0 ht hl hN
   exact CE.loop h1 (ih (DZ p d) (J+Kd+1) (by omega) (V0 hJ hd) (by omega) (by omega))
  ·rename_i hl;exact Ah (oB (d.map cn) p.length (p.map cn) (cn (top d)) (by rw[decide_eq_false_iff_not,Q];omega))
theorem Lw{rs ss:List Rn}{J K:Nat}(hr:∀ r∈rs,AU J r)(hs:∀ r∈ss,AU K r)(hJ:J<1048576)(hK:K<1048576)(hn:rs.length<=1048576)(hm:ss.length<=1048576)(h0:prim (N ss) ≠ [])(hS:J+((prim (N rs)).length+1-(prim (N ss)).length)*(K+1)<1048576) :
  RQ 118 [sL pc rs,sL pc ss] (P 2 (BC (prim (N rs)) (prim (N ss))).length (pk (BC (prim (N rs)) (prim (N ss))))):=by
 have p1:=EL hr hJ hn;have p2:=EL hs hK hm;have k1:Kb J (prim (N rs)):=(J8 (Dk hr)).prim;have k2:Kb K (prim (N ss)):=(J8 (Dk hs)).prim;have l1:(prim (N rs)).length<=rs.length:=by rw[Cg];have:=BA (N rs);rwa [AW] at this
 have l2:(prim (N ss)).length<=ss.length:=by rw[Cg];have:=BA (N ss);rwa [AW] at this
 have hl:=Ak.2 h0;have ht:top (prim (N ss)) ≠ 0:=En (C2 _) h0;have hlp:=Aid k2 h0 ht (prim (N rs)).length (prim (N rs)) J (Ao _) k1 hS (by omega);have e1:I O (((((prim (N ss)).map cn).length:Nat):Int)-1)=(((prim (N ss)).length-1:Nat):Int):=by rw[Q,Bg (by omega) (by omega)];omega
 have p1':RQ 115 [sL pc rs] (P 2 ((prim (N rs)).map cn).length (pc ((prim (N rs)).map cn))):=by rw[Q];exact p1
 have p2':RQ 115 [sL pc ss] (P 2 ((prim (N ss)).map cn).length (pc ((prim (N ss)).map cn))):=by rw[Q];exact p2
 have k:=Azo rs ss _ _ ((BC (prim (N rs)) (prim (N ss))).map cn) (cn (top (prim (N ss)))) (BC (prim (N rs)) (prim (N ss))).length p1' p2' (by rw[e1,Q];omega) (by
  rw[e1,R,FG (show (prim (N ss)).length-1<(prim (N ss)).length by omega),Q];exact hlp)
 exact k
theorem dJ:∀ (f:Nat) (x y:LI) (M:Nat),0<M->y.length<=f->y.length<=x.length->x.length<=1048576->prim x=x->prim y=y->Kb (M-1) x->Kb (M-1) y->M*Kk x.length y.length<=500000 ->
  ∃ bs,Ap (.loop S') (Lv (x.map cn) (y.map cn)) (.exit 0) (Lv ((IW f x y).map cn) bs):=by
 intro f;induction f with
 | zero =>
  intro x y M _ h1 _ _ _ _ _ _ _;have:y=[]:=A5 (by omega);subst this;exact⟨_,Ah (oD _ _ (by simp))⟩
 | succ f ih =>
  intro x y M hM h1 h2 h3 px py kx ky hphi;simp only[IW];split
  ·rename_i h;subst h;exact⟨_,Ah (oD _ _ (by simp))⟩
  ·rename_i h;have hyl:=Ak.2 h;obtain⟨r1,r2,r3⟩:=Mc hM (C6 px) h kx ky h2;have hM':0<M*(x.length-y.length+2):=GS hM (by omega);have hMle:M<=M*(x.length-y.length+2):=C7 M (by omega);have hbig:M*(x.length-y.length+2)<=500000:=by
    refine Bm (z _ ?_) hphi;unfold Kk;exact C7 _ (DH (by decide))
   have hrem:=Lw (rs:=x.map cn) (ss:=y.map cn) (AR kx) (AR ky) (by omega) (by omega) (by rw[Q];exact h3) (by rw[Q];omega) (by rw[s,py];exact h) (by
    rw[s,s,px,py,Nr hM,show x.length+1-y.length=x.length-y.length+1 by omega,CY _ M];have:M*(x.length-y.length+2)=M*(x.length-y.length+1)+M:=by rw[<- Sh]
    omega)
   rw[s,s,px,py] at hrem;have hrem':RQ 118 [H (x.map cn).length (pc (x.map cn)),H (y.map cn).length (pc (y.map cn))] (P 2 ((BC x y).map cn).length (pc ((BC x y).map cn))):=by
    have hlm:((BC x y).map cn).length=(BC x y).length:=Q ..;rw[hlm];exact hrem
   have k:=oC (x.map cn) (y.map cn) _ (by simp;omega) hrem';obtain⟨bs,hb⟩:=ih y (BC x y) (M*(x.length-y.length+2)) hM' (by omega) (by omega) (by omega) py (Jh _ _ _ px) (ky.mono (by omega)) r3 (Md r2 hphi);exact⟨bs,CE.loop k hb⟩
def Pr(f:Nat)(args:List AV)(p:LI):Prop:=RQ f args (P 2 (p.map cn).length (pc (p.map cn)))\/RQ f args (H (p.map cn).length (pc (p.map cn)))
theorem U1{p:LI}{K:Nat}(hk:Kb K p)(hK:K<=1048576)(hN:p.length<=1048576) :
  (top p<0->RQ 155 [H (p.map cn).length (pc (p.map cn))] (P 2 ((j p).map cn).length (pc ((j p).map cn))))/\(¬ top p<0->RQ 155 [H (p.map cn).length (pc (p.map cn))] (H (p.map cn).length (pc (p.map cn)))):=by
 have h:=YQ (rs:=p.map cn) (fun r hr=>(AR hk r hr).mono hK) (by rw[Q];exact hN);rw[s] at h;refine⟨fun hn => ?_,h.2⟩;have h1:=h.1 hn;have e:j p=Cp p:=by unfold j;rw[if_pos hn]
 have hl:((Cp p).map cn).length=(p.map cn).length:=by rw[Q,Q,El]
 rw[e,hl];exact h1
theorem RV{p:LI}(h:¬ top p<0):j p=p:=by unfold j;rw [if_neg h]
theorem Nw:∀ (f:Nat) (x y:LI) (M:Nat),0<M->y.length<=f->y.length<=x.length->BH x->BH y->Kb (M-1) x->Kb (M-1) y->Kb (M*Kk x.length y.length-1) (IW f x y)/\(IW f x y).length<=x.length:=by
 intro f;induction f with
 | zero =>
  intro x y M hM _ h2 _ _ kx _;refine⟨kx.mono ?_,Ao _⟩;have:M*1<=M*Kk x.length y.length:=z _ (by unfold Kk;exact GS (by omega) (DH (by decide)));omega
 | succ f ih =>
  intro x y M hM h1 h2 lx ly kx ky;simp only[IW];split
  ·refine⟨kx.mono ?_,Ao _⟩;have:M*1<=M*Kk x.length y.length:=z _ (by unfold Kk;exact GS (by omega) (DH (by decide)));omega
  ·rename_i h;have hyl:=Ak.2 h;obtain⟨r1,r2,r3⟩:=Mc hM lx h kx ky h2;have hM':0<M*(x.length-y.length+2):=GS hM (by omega);have hMle:M<=M*(x.length-y.length+2):=C7 M (by omega);obtain⟨a,b⟩:=ih y (BC x y) (M*(x.length-y.length+2)) hM' (by omega) (by omega) ly r1 (ky.mono (by omega)) r3;exact⟨a.mono (Nat.sub_le_sub_right (Md r2 (Ao _)) 1),by omega⟩
theorem SE{rs ss:List Rn}{g:LI}{bs:List Rn}{K:Nat}(hr:∀ r∈rs,AU K r)(hs:∀ r∈ss,AU K r)(hK:K<1048576)(hn:rs.length<=1048576)(hm:ss.length<=1048576){Kg:Nat}(hg:Kb Kg g)(hKg:Kg<=1048576)(hgl:g.length<=1048576)
  (hl:Ap (.loop S') (Lv ((prim (N rs)).map cn) ((prim (N ss)).map cn)) (.exit 0) (Lv (g.map cn) bs)) :
  Pr 135 [sL pc rs,sL pc ss] (j g):=by
 have p1:=EL hr hK hn;have p2:=EL hs hK hm;have p1':RQ 115 [sL pc rs] (P 2 ((prim (N rs)).map cn).length (pc ((prim (N rs)).map cn))):=by rw[Q];exact p1
 have p2':RQ 115 [sL pc ss] (P 2 ((prim (N ss)).map cn).length (pc ((prim (N ss)).map cn))):=by rw[Q];exact p2
 obtain⟨q1,q2⟩:=U1 hg hKg hgl;by_cases h:top g<0
 ·exact .inl (xO rs ss _ _ (g.map cn) bs _ p1' p2' hl (q1 h))
 ·rw[RV h];exact .inr (xP rs ss _ _ (g.map cn) bs p1' p2' hl (q2 h))
theorem U2{rs ss:List Rn}{K c:Nat}(hr:∀ r∈rs,AU K r)(hs:∀ r∈ss,AU K r)(hn:rs.length<=c)(hm:ss.length<=c)(hc:c<=1048576)(hS:(K+1)*(2*3^c)<=500000) :
  Pr 135 [sL pc rs,sL pc ss] (j (PQ (prim (N rs)) (prim (N ss)))):=by
 have h3:0<3^c:=DH (by decide);have hK:K+1<=500000:=by
  have:(K+1)*1<=(K+1)*(2*3^c):=z _ (by omega);omega
 have k1:Kb K (prim (N rs)):=(J8 (Dk hr)).prim;have k2:Kb K (prim (N ss)):=(J8 (Dk hs)).prim;have l1:(prim (N rs)).length<=rs.length:=by rw[Cg];have:=BA (N rs);rwa [AW] at this
 have l2:(prim (N ss)).length<=ss.length:=by rw[Cg];have:=BA (N ss);rwa [AW] at this
 unfold PQ;split
 ·rename_i hl;have hphi:(K+1)*Kk (prim (N rs)).length (prim (N ss)).length<=500000:=Bm (z _ (Rc hl (by omega))) hS;obtain⟨bs,hb⟩:=dJ (prim (N ss)).length (prim (N rs)) (prim (N ss)) (K+1) (by omega) (Ao _) hl (by omega) (Ch _) (Ch _) k1 k2 hphi;obtain⟨s1,s2⟩:=Nw (prim (N ss)).length (prim (N rs)) (prim (N ss)) (K+1) (by omega) (Ao _) hl (C2 _) (C2 _) k1 k2;exact SE hr hs (by omega) (by omega) (by omega) s1 (by omega) (by omega) hb
 ·rename_i hl;have hphi:(K+1)*Kk (prim (N ss)).length (prim (N rs)).length<=500000:=Bm (z _ (Rc (by omega) (by omega))) hS;obtain⟨bs,hb⟩:=dJ (prim (N rs)).length (prim (N ss)) (prim (N rs)) (K+1) (by omega) (Ao _) (by omega) (by omega) (Ch _) (Ch _) k2 k1 hphi;obtain⟨s1,s2⟩:=Nw (prim (N rs)).length (prim (N ss)) (prim (N rs)) (K+1) (by omega) (Ao _) (by omega) (C2 _) (C2 _) k2 k1;have hy0:prim (N ss) ≠ []:=by intro h;rw[h] at hl;simp at hl
  have hsw:BC (prim (N rs)) (prim (N ss))=prim (N rs):=by
   unfold BC;cases hx:(prim (N rs)).length with
   | zero=>rfl
   | succ n=>simp only[E1];rw[if_neg hl]
  have hrem:=Lw (rs:=(prim (N rs)).map cn) (ss:=(prim (N ss)).map cn) (AR k1) (AR k2) (by omega) (by omega) (by rw[Q];omega) (by rw[Q];omega) (by rw[s,Ch];exact hy0) (by
   rw[s,s,Ch,Ch,show (prim (N rs)).length+1-(prim (N ss)).length=0 by omega,LX];omega)
  rw[s,s,Ch,Ch,hsw] at hrem;have hrem':RQ 118 [H ((prim (N rs)).map cn).length (pc ((prim (N rs)).map cn)),H ((prim (N ss)).map cn).length (pc ((prim (N ss)).map cn))] (P 2 ((prim (N rs)).map cn).length (pc ((prim (N rs)).map cn))):=by
   have hlm:((prim (N rs)).map cn).length=(prim (N rs)).length:=Q ..;(first|rw[hlm] at hrem |-|(unfold sL at hrem;rw[hlm] at hrem |-));exact hrem
  have k:=oC ((prim (N rs)).map cn) ((prim (N ss)).map cn) _ (by rw[decide_eq_true_eq,Q];omega) hrem';exact SE hr hs (by omega) (by omega) (by omega) s1 (by omega) (by omega) (CE.loop k hb)
end Go.Proofs.YtajompaehjkgkaaGreat
namespace Go.Ai
open Classical renaming byContradiction->A1
open Int renaming add_mul->Gw,add_zero->BJ,mul_assoc->AK,mul_eq_zero->EH,mul_ne_zero->AS,mul_zero->AG,natAbs_natCast->BW,zero_mul->BU
open List renaming eq_nil_of_length_eq_zero->A5,getD_cons_succ->Ix,length->Bl,length_pos_iff->Ak,range->Aq,replicate->l
open Nat renaming add_mul->DE,mul_le_mul_left->z,one_mul->FL
open Or renaming inr->S8
theorem dK{p q:LI}(h:∀ x,Aa p x=Aa q x)(x:Int):Aa (At p) x=Aa (At q) x :=
 G_ (fun i=>by rw[Dx,Dx,Dq h]) x
theorem Y_(a:Int)(p:LI)(x:Int):Aa (At (a::p)) x=Aa p x+x*Aa (At p) x:=by
 have h:∀ i,(At (a::p)).getD i 0=(Ec p (0::At p)).getD i 0:=by
  intro i;rw[DS,Dx,Ix];cases i with
  | zero=>simp
  | succ i=>rw[Ix,Dx];push_cast;grind
 rw[G_ h x,BY];simp[Aa]
theorem Aie(p q:LI)(x:Int):Aa (At (Ec p q)) x=Aa (At p) x+Aa (At q) x:=by
 rw[<- BY];exact G_ (fun i=>by rw[DS,Dx,Dx,Dx,DS,Gw]) x
theorem HW(c:Int)(p:LI)(x:Int):Aa (At (As c p)) x=c*Aa (At p) x:=by
 rw[<- A0];exact G_ (fun i=>by rw[m,Dx,Dx,m,AK]) x
theorem Aif:At []=[]:=rfl
theorem dL(p q:LI)(x:Int):Aa (At (Bs p q)) x=Aa (At p) x*Aa q x+Aa p x*Aa (At q) x:=by
 induction p with
 | nil=>simp[Bs,Aif,Aa]
 | cons a p ih =>
  simp only[Bs];rw[Aie,HW,Y_,Y_,ih,AX];simp only[Aa];generalize Aa (At p) x=A at *
  generalize Aa (At q) x=B at *
  grind
theorem MA{r p q:LI}(h:∀ x,Aa r x=Aa p x*Aa q x)(x:Int):Aa (At r) x=Aa (At p) x*Aa q x+Aa p x*Aa (At q) x:=by
 rw[<- dL];exact dK (fun x=>by rw[h x,AX]) x
theorem Ps{p q:LI}{c d:Int}(h:∀ x,c*Aa p x=d*Aa q x)(x:Int):c*Aa (At p) x=d*Aa (At q) x:=by
 rw[<- HW,<- HW];exact dK (fun x=>by rw[A0,A0,h x]) x
theorem V6(p:LI):(At p).length<=p.length-1:=by
 unfold At;have:=BA ((Aq (p.length-1)).map fun j=>p.getD (j+1) 0*((j+1:Nat):Int));simpa using this
theorem Za{K:Nat}{p:LI}(h:Kb K p)(hl:p.length<=1048576):Kb (K+2) (At p):=fun i=>by
 rw[Dx];by_cases hi:i<1048576
 ·refine ((h (i+1)).mul (k:=1) ?_).mono (by omega);unfold Bv;rw[BW];omega
 ·rw[B3 (xs:=p) (by omega),BU];exact HP _
def HX(h:LI):Nat->LI
 | 0=>[1]
 | k+1=>Bs (HX h k) h
theorem dM(h:LI):∀ (k:Nat) (x:Int),Aa (At (HX h k)) x*Aa h x=(k:Int)*Aa (HX h k) x*Aa (At h) x
 | 0,x=>by simp[HX,At,Aa,Y,b]
 | k+1,x=>by
  have ih:=dM h k x;simp only[HX];rw[dL,AX];push_cast;generalize Aa (At (HX h k)) x=A at *
  generalize Aa (HX h k) x=B at *
  generalize Aa (At h) x=C at *
  generalize Aa h x=H at *
  have:(A*H+B*C)*H=(A*H)*H+B*C*H:=by grind
  rw[this,ih];grind
theorem Pt{h:LI}(hh:Y h ≠ []):∀ k,Y (HX h k) ≠ []/\(Y (HX h k)).length=k*((Y h).length-1)+1
 | 0=>by
  have e:Y (HX h 0)=[1]:=rfl;rw[e];simp
 | k+1=>by
  obtain⟨a,b⟩:=Pt hh k;have h1:=Ak.2 hh;have e:=KT a hh;have e2:(Y (HX h (k+1))).length=(k+1)*((Y h).length-1)+1:=by
   simp only[HX];rw[e,b,DE,FL];omega
  refine⟨?_,e2⟩;intro h0;rw[h0] at e2;simp at e2
theorem iJ{a G f h:LI}{c:Int}(ha:Y a ≠ [])(hG:F4 G a (At a))(hc:c ≠ 0)(hf:∀ x,c*Aa a x=Aa G x*Aa f x)(h1:Dv h f)(h2:Dv h (At f)):(Y h).length=1:=by
 obtain⟨g1,⟨c2,e,hc2,he⟩,c3,u,v,hc3,hb⟩:=hG;have hG0:Y G ≠ []:=(g1.length ha).2;have hf0:Y f ≠ []:=by
  intro h0;have:Y a=Y []:=by
   apply Ft;intro x;have h3:=hf x;rw[Ee h0,AG] at h3;rcases EH.1 h3 with g | g
   ·exact absurd g hc
   ·exact g
  exact ha this
 have hh0:Y h ≠ []:=(h1.length hf0).2;have hC:∀ x,c*c2*c3=c2*Aa u x*Aa f x+c*Aa v x*Aa e x:=by
  have h3:=T1 hG0 [c*c2*c3] (Ec (As c2 (Bs u f)) (As c (Bs v e))) (fun x=>by
   have a1:=hf x;have a2:=he x;have a3:=hb x;rw[BY,A0,A0,AX,AX];simp only[Aa];generalize Aa G x=G at *
   generalize Aa f x=f at *
   generalize Aa e x=e at *
   generalize Aa u x=u at *
   generalize Aa v x=v at *
   generalize Aa (At a) x=a' at *
   generalize Aa a x=a at *
   have e1:G*(c*c2*c3+x*0)=c*c2*(c3*G):=by grind
   rw[e1,a3];have e2:c*c2*(u*a+v*a')=c2*u*(c*a)+c*v*(c2*a'):=by grind
   rw[e2,a1,a2];grind)
  intro x;have h4:=h3 x;rw[BY,A0,A0,AX,AX] at h4;simp only[Aa,AG,BJ] at h4;grind
 have hd:∀ x,c*(Aa G x*Aa e x)=c2*(Aa (At G) x*Aa f x+Aa G x*Aa (At f) x):=by
  intro x;have a1:=MA (r:=As c a) (p:=G) (q:=f) (fun x=>by rw[A0];exact hf x) x;rw[HW] at a1;have a2:=he x;rw[<- a1,<- a2];grind
 obtain⟨c4,t,hc4,ht⟩:=h1;obtain⟨c5,w,hc5,hw⟩:=h2;have hft:∀ x,c4*Aa (At f) x=Aa (At h) x*Aa t x+Aa h x*Aa (At t) x:=by
  intro x;have a1:=MA (r:=As c4 f) (p:=h) (q:=t) (fun x=>by rw[A0];exact ht x) x;rw[HW] at a1;exact a1
 have hk:∀ k,Dv (HX h k) G:=by
  intro k;induction k with
  | zero=>exact⟨1,G,by decide,fun x=>by simp[HX,Aa]⟩
  | succ k ih =>
   obtain⟨ck,s,hck,hs⟩:=ih;obtain⟨p1,_⟩:=Pt hh0 k;have hGs:∀ x,ck*Aa (At G) x=Aa (At (HX h k)) x*Aa s x+Aa (HX h k) x*Aa (At s) x:=by
    intro x;have a1:=MA (r:=As ck G) (p:=HX h k) (q:=s) (fun x=>by rw[A0];exact hs x) x;rw[HW] at a1;exact a1
   have hes:∀ x,c4*c5*c*(Aa e x*Aa s x)=Aa h x*(c2*((k:Int)*Aa s x*(c4*Aa w x-c5*Aa (At t) x)+c5*(Aa (At s) x*Aa t x)+c4*(Aa s x*Aa w x))):=by
    have h3:=T1 (p:=Bs (HX h k) h) (by
      intro h0;have:=KT p1 hh0;rw[h0] at this;have:=Ak.2 p1;have:=Ak.2 hh0;simp at *
      omega) (As (c4*c5*c) (Bs e s)) (Bs h (As c2 (Ec (Ec (Bs (As (k:Int) s) (My (As c4 w) (As c5 (At t)))) (As c5 (Bs (At s) t))) (As c4 (Bs s w))))) (fun x=>by
     have a1:=hd x;have a2:=ht x;have a3:=hw x;have a4:=hft x;have a5:=hs x;have a6:=hGs x;have a7:=dM h k x;simp only[AX,A0,BY,FC];generalize Aa (At (HX h k)) x=P' at *
     generalize Aa (At G) x=G' at *
     generalize Aa (At f) x=f' at *
     generalize Aa (At h) x=h' at *
     generalize Aa (At t) x=t' at *
     generalize Aa (At s) x=s' at *
     generalize Aa (HX h k) x=P at *
     generalize Aa G x=G at *
     generalize Aa f x=f at *
     generalize Aa e x=e at *
     generalize Aa h x=h at *
     generalize Aa t x=t at *
     generalize Aa w x=w at *
     generalize Aa s x=s at *
     have b1:P*h*(c4*c5*c*(e*s))=c4*c5*h*(c*((P*s)*e)):=by grind
     rw[b1,<- a5];have b2:c4*c5*h*(c*(ck*G*e))=c4*c5*h*ck*(c*(G*e)):=by grind
     rw[b2,a1];have b3:c4*c5*h*ck*(c2*(G'*f+G*f'))=c5*c2*((ck*G')*h*(c4*f)+(ck*G)*h*(c4*f')):=by grind
     rw[b3,a6,a5,a2];have b4:(P'*s+P*s')*h*(h*t)=(P'*h)*s*h*t+P*s'*h*h*t:=by grind
     rw[b4,a7];have b5:(k:Int)*P*h'*s*h*t=(k:Int)*P*s*h*(h'*t):=by grind
     have b6:h'*t=c4*f'-h*t':=by omega
     rw[b5,b6];have b7:c5*c2*((k:Int)*P*s*h*(c4*f'-h*t')+P*s'*h*h*t+P*s*h*(c4*f'))=c2*((k:Int)*P*s*h*(c4*(c5*f')-c5*(h*t'))+c5*(P*s'*h*h*t)+P*s*h*(c4*(c5*f'))):=by grind
     rw[b7,a3];grind)
    intro x;have h4:=h3 x;simp only[AX,A0,BY,FC] at h4;exact h4
   have d1:Dv h (Bs e s):=⟨c4*c5*c,As c2 (Ec (Ec (Bs (As (k:Int) s) (My (As c4 w) (As c5 (At t)))) (As c5 (Bs (At s) t))) (As c4 (Bs s w))),AS (AS hc4 hc5) hc,fun x=>by
    simp only[AX,A0,BY,FC];exact hes x⟩
   have d2:Dv h (Bs f s):=aK s ⟨c4,t,hc4,ht⟩ (fun x=>AX _ _ x);have d3:Dv h s:=Oj (m:=c*c2*c3) (As c2 u) (As c v) (AS (AS hc hc2) hc3) d2 d1 (fun x=>by
    rw[hC x];simp only[AX,A0];grind)
   obtain⟨c6,s2,hc6,hs2⟩:=d3;refine⟨c6*ck,s2,AS hc6 hck,fun x => ?_⟩;have a1:=hs x;have a2:=hs2 x;simp only[HX];rw[AX,AK,a1];have b1:c6*(Aa (HX h k) x*Aa s x)=Aa (HX h k) x*(c6*Aa s x):=by grind
   rw[b1,a2];grind
 have hh1:=Ak.2 hh0;apply A1;intro hn;have h3:=((hk (Y G).length).length hG0).1;rw[(Pt hh0 _).2] at h3;have:(Y G).length*1<=(Y G).length*((Y h).length-1):=z _ (by omega);omega
def S(p:LI):LI :=
 if (j (prim p)).length<2\/(B5 (j (prim p)) (At (j (prim p)))).length<2 then j (prim p)
 else prim (HV (B5 (j (prim p)) (At (j (prim p)))) ((j (prim p)).length-(B5 (j (prim p)) (At (j (prim p)))).length+1) (j (prim p)) (l ((j (prim p)).length-(B5 (j (prim p)) (At (j (prim p)))).length+1) 0))
theorem On{g:LI}(h:g.length=1):∃ c,g=[c]:=by
 match g,h with
 | [c],_=>exact⟨c,rfl⟩
theorem WE{a:LI}(la:BH a)(h0:a ≠ [])(ca:w a=1)(ta:0<top a)(f:LI)
  (hf:f=if a.length<2\/(B5 a (At a)).length<2 then a else prim (HV (B5 a (At a)) (a.length-(B5 a (At a)).length+1) a (l (a.length-(B5 a (At a)).length+1) 0))) :
  BH f/\w f=1/\0<top f/\f ≠ []/\f.length=a.length-(B5 a (At a)).length+1/\∃ c d:Int,c ≠ 0/\d ≠ 0/\∀ x,c*Aa a x=d*(Aa (B5 a (At a)) x*Aa f x):=by
 have hta:Y a ≠ []:=By la h0;have hG:=Fi a (At a);have lG:=D0 a (At a);have nG:=Gi (t:=At a) hta;have tG:=Km (t:=At a) hta;have hGl:=(hG.1.length hta).1;rw[lG,la] at hGl;have hal:=Ak.2 h0;have hgl:=Ak.2 nG;generalize B5 a (At a)=G at *
 by_cases hs:a.length<2\/G.length<2
 ·rw[if_pos hs] at hf;subst hf;have hG1:G.length=1:=by omega
  obtain⟨c,rfl⟩:=On hG1;refine⟨la,ca,ta,h0,by omega,c,1,?_,by decide,fun x=>by simp[Aa]⟩;have:top [c]=c:=rfl;omega
 ·rw[if_neg hs] at hf;obtain⟨c',r',c1,r1,r2,r3⟩:=WC (p:=a) (q:=G) nG tG hGl;generalize HV G (a.length-G.length+1) a (l (a.length-G.length+1) 0)=o at *
  have to:=cY c1 ta nG tG hGl r2 r3 r1;have hr0:Y r'=[]:=by
   apply A1;intro hn;have hd:Dv G r':=Oj (m:=1) [c'] (Cp o) (by decide) hG.1 (Dv.refl G) (fun x=>by
    have:=r3 x;rw[KR];simp only[Aa];grind)
   have h1:=(hd.length hn).1;rw[lG] at h1;have hl1:=Ak.2 hn;have h2:=En (Hg r') hn;rw[Dl,r1 _ (by omega)] at h2;exact h2 rfl
  have ho0:o ≠ []:=by intro h1;rw[h1] at r2;simp at r2
  have lo:BH o:=Uu (S8 (by unfold top at to;omega));obtain⟨m,hm,hpe⟩:=IY o;subst hf;refine⟨C2 o,M7 (By lo ho0),SB to,?_,by rw[Cg,lo,r2],c',m,by omega,hm,fun x => ?_⟩
  ·intro h1;rw[DY,<- Dn,lo] at h1;exact ho0 h1
  ·rw[r3 x,Ee hr0,hpe x];grind
theorem Rh{p:LI}(hp:Y p ≠ []):BH (j (prim p))/\j (prim p) ≠ []/\w (j (prim p))=1/\0<top (j (prim p))/\(j (prim p)).length=(Y p).length/\∃ m:Int,m ≠ 0/\∃ n:Int,n ≠ 0/\∀ x,n*Aa p x=m*Aa (j (prim p)) x:=by
 have h1:prim p ≠ []:=by intro h;rw[DY,<- Dn] at h;exact hp h
 obtain⟨m,hm,h2⟩:=IY p;obtain⟨n,hn,h3⟩:=YW (prim p);refine⟨Po (C2 p),?_,by rw[YY];exact M7 hp,dH (C2 p) h1,by rw[LL,Cg],m,hm,n,hn,fun x=>by rw[h2 x,h3 x];grind⟩;intro h;have:=congrArg Bl h;rw[LL] at this;exact h1 (A5 this)
theorem Xg{f:LI}(lf:BH f)(cf:w f=1)(tf:0<top f):j (prim f)=f:=by
 rw[KA lf cf];unfold j;rw[if_neg (by omega)]
theorem Ci{p:LI}(hp:Y p ≠ []):BH (S p)/\w (S p)=1/\0<top (S p)/\S p ≠ []/\Dv (S p) p /\
  (S p).length+(B5 (j (prim p)) (At (j (prim p)))).length=(Y p).length+1/\F4 (B5 (j (prim p)) (At (j (prim p)))) p (At p)/\(B5 (S p) (At (S p))).length=1:=by
 obtain⟨la,h0,ca,ta,hl,m,hm,n,hn,hpe⟩:=Rh hp;obtain⟨lf,cf,tf,f0,fl,c,d,hc,hd,hcd⟩:=WE la h0 ca ta (S p) rfl;have hta:Y (j (prim p)) ≠ []:=By la h0;have hG:=Fi (j (prim p)) (At (j (prim p)));have lG:=D0 (j (prim p)) (At (j (prim p)));have nG:=Gi (t:=At (j (prim p))) hta;have hGl:=(hG.1.length hta).1;rw[lG,la] at hGl;have hder:∀ x,n*Aa (At p) x=m*Aa (At (j (prim p))) x:=Ps hpe;generalize j (prim p)=a at *
 generalize B5 a (At a)=G at *
 generalize S p=f at *
 have hal:=Ak.2 h0;have hgl:=Ak.2 nG;refine⟨lf,cf,tf,f0,?_,by omega,?_,?_⟩
 ·have h1:Dv f a:=⟨c,As d G,hc,fun x=>by rw[hcd x,A0];grind⟩;exact h1.scaled hn hpe
 ·exact hG.scaled hn hm hn hm hpe hder
 ·have hK:=Fi f (At f);have nK:=Gi (t:=At f) (By lf f0);have lK:=D0 f (At f);have h1:=iJ (h:=B5 f (At f)) (f:=As d f) (c:=c) hta hG hc (fun x=>by rw[hcd x,A0];grind)
   (hK.1.scaled (m:=1) (n:=d) (by decide) (fun x=>by rw[A0];omega)) (hK.2.1.scaled (m:=1) (n:=d) (by decide) (fun x=>by rw[HW];omega))
  rwa [lK] at h1
theorem oO{f:LI}(lf:BH f)(cf:w f=1)(tf:0<top f)(h:(B5 f (At f)).length<2):S f=f:=by
 unfold S;rw[Xg lf cf tf];exact if_pos (S8 h)
theorem Pu{p:LI}(hp:Y p ≠ []):S (S p)=S p:=by
 obtain⟨lf,cf,tf,f0,_,_,_,h1⟩:=Ci hp;exact oO lf cf tf (by omega)
theorem Aig{p:LI}{K:Nat}(hp:Y p ≠ [])(hl:p.length<=9)(hK:Kb K p):Kb (K+3) (S p)/\(S p).length<=(Y p).length:=by
 obtain⟨lf,cf,tf,f0,hd,_,_,_⟩:=Ci hp;have h1:=(hd.length hp).1;rw[lf] at h1;obtain⟨c,k,hc,hk⟩:=hd;have:=BA p;exact⟨U0 hc cf hp hl (by omega) hK hk,h1⟩
theorem KB(t:LI):Dv [1] t:=⟨1,t,by decide,fun x=>by simp [Aa]⟩
end Go.Ai
namespace Go.Proofs.YtajompaehjkgkaaGreat
open Go.Ai
set_option maxRecDepth 100000
open BitVec renaming ofInt->T,or_comm->Xd
open Bool renaming eq_iff_iff->UY
open Decidable renaming decide->A
open Go.Ai.AV renaming agg->o,bool->B,fresh->P,int->F,sl->H,tup->Ar
open Go.Ai.Reg renaming box->Ay,own->X,val->C
open Go.IntKind renaming bits->An,i64->O,u32->Ae,u64->U,wrap->I
open Go.Proofs.Tryz renaming prog->Mv
open Int renaming add_comm->Ma,add_mul_ediv_left->VZ,add_mul_emod_self_left->WY,add_zero->BJ,ediv_eq_zero_of_lt->HJ,ediv_nonneg->Lc,ediv_one->jQ,emod_eq_of_lt->GK,emod_lt_of_pos->EU,emod_nonneg->Gm,fdiv->d,fdiv_eq_ediv_of_nonneg->q,le_of_lt->Aw,lt_trichotomy->G3,mul_add->CT,mul_assoc->AK,mul_comm->AE,mul_ediv_add_emod->Hk,mul_ediv_cancel_left->Cc,mul_eq_zero->EH,mul_le_mul_of_nonneg_left->Al,mul_lt_mul_right->yL,mul_neg->EY,mul_neg_of_pos_of_neg->Hp,mul_nonneg->AA,mul_one->Dh,mul_pos->Bp,mul_pow->Zi,mul_zero->AG,natAbs->E,natAbs_mul->BS,natAbs_of_nonneg->MN,natAbs_pow->Qa,natCast_mul->DI,one_mul->Dt,pow_add->BB,pow_pos->G2,pow_succ->A7,pow_zero->Dj,sub_zero->F8,tdiv->Ax,tdiv_eq_ediv_of_nonneg->BK,tmod->AB,tmod_eq_emod_of_nonneg->B1,toNat->D,toNat_natCast->R,zero_add->Ed,zero_mul->BU
open List renaming drop_eq_getElem_cons->B2,eq_nil_of_length_eq_zero->A5,ext_getElem?->GI,getD_eq_getElem?_getD->Z,getElem?_append_left->AZ,getElem?_append_right->Bk,getElem?_drop->Bu,getElem?_eq_getElem->Ad,getElem?_eq_none->AI,getElem?_map->Cs,getElem?_set_self->ZG,getElem?_take_of_lt->B8,getElem_mem->AM,length->Bl,length_append->AY,length_drop->CV,length_map->Q,length_pos_iff->Ak,length_range->BE,length_replicate->Ew,length_set->Ba,length_take->AD,map_append->Ez,map_cons->Cx,map_map->A3y,map_nil->FW,map_replicate->AEj,map_set->Qc,mem_cons->BD,range->Aq,range_succ->Io,replicate->l
open Nat renaming add_assoc->DW,add_comm->Gt,add_mul->DE,add_zero->EJ,le_add_right->Si,le_mul_of_pos_right->C7,le_refl->Ao,le_trans->Bm,log2->Cu,log2_lt->Sk,lt_of_le_of_lt->DF,lt_of_not_le->JH,lt_or_ge->Ct,mod_lt->GO,mul_assoc->Fm,mul_comm->CY,mul_le_mul->BG,mul_le_mul_left->z,mul_le_mul_right->AJ,mul_pos->GS,mul_succ->Sh,one_mul->FL,pow_add->De,pow_le_pow_right->BM,pow_lt_pow_right->Tv,pow_mul->AEg,pow_pos->DH,pow_succ->Gx,sub_add_cancel->Nr,sub_self->Wh,sub_zero->NQ,zero_add->Cb,zero_le->AN,zero_mul->LX
noncomputable section
theorem xS{E rs:List Rn}{m:Nat}(hl:E.length=rs.length)(h:∀ x,x<m->E.getD x z0=rs.getD x z0):Gj E rs m=rs:=by
 apply GI;intro t;unfold Gj;by_cases ht:t<m
 ·by_cases hm:t<E.length
  ·have:=h t ht;rw[Z,Z,Ad hm,Ad (by omega)] at this;rw[AZ (by rw[AD];omega),B8 ht,Ad hm,Ad (by omega)];simpa using this
  ·rw[AI (by rw[AY,AD,CV];omega),AI (by omega)]
 ·by_cases hm:m<=E.length
  ·rw[Bk (by rw[AD];omega),AD,Bu];congr 1;omega
  ·rw[AI (by rw[AY,AD,CV];omega),AI (by omega)]
theorem xT{E rs:List Rn}{m:Nat}(hl:E.length=rs.length)(hm:m<=rs.length)(h:∀ x,m<=x->E.getD x z0=rs.getD x z0):Gj E rs m=E:=by
 apply GI;intro t;unfold Gj;by_cases ht:t<m
 ·rw[AZ (by rw[AD];omega),B8 ht]
 ·rw[Bk (by rw[AD];omega),AD,Bu,show m+(t-min m E.length)=t by omega];by_cases hm:t<E.length
  ·have:=h t (by omega);rw[Z,Z,Ad hm,Ad (by omega)] at this;rw[Ad hm,Ad (by omega)];simpa using this.symm
  ·rw[AI (by omega),AI (by omega)]
section
variable {p q:LI} {J Kq:Nat}
theorem V7{c:Int}(hp:Kb J p)(hc:Bv Kq c):Kb (J+Kq) (As c p):=fun i=>by
 rw[m,Gt];exact hc.mul (hp i)
theorem ADm{t:Int}{l:Rn}{qs os:List Rn}{kq:Nat}{j:Int}(hp:Kb J p)(ht:Bv Kq t)(hS:J+Kq<1048576)(hN:p.length<=1048576) :
  Ap (.loop RD) (K7 qs p.length (p.map cn) (cn t) kq os j l (p.length:Nat) 0) (.exit 2) (K7 qs p.length ((As t p).map cn) (cn t) kq os j l (p.length:Nat) (p.length:Nat)):=by
 have hE:((As t p).map cn).length=(p.map cn).length:=by rw[Q,Q,y]
 have hpl:(p.map cn).length=p.length:=Q ..;have h:=CE.up (prog:=DK) (c:=RD) (ex := .exit 2) (fin:=K7 qs p.length ((As t p).map cn) (cn t) kq os j l (p.length:Nat) (p.length:Nat))
  (fun i=>K7 qs p.length (Gj ((As t p).map cn) (p.map cn) i) (cn t) kq os j l (p.length:Nat) (i:Nat)) p.length (by nofun) ?_ ?_ 0 (AN _)
 ·rw[Pp] at h;exact h
 ·intro i hi;have ei:I O ((i:Int)+1)=((i+1:Nat):Int):=by rw[Bg (by omega) (by omega)];omega
  have hml:=Ij hE i;have hget:=Ol hE (i:=i) (by omega);have hEi:((As t p).map cn).getD i z0=cn ((As t p).getD i 0):=FG (by rw[y];exact hi);have hset:=Om hE (i:=i) (by omega);rw[hEi,m] at hset;have gp:=Bo (AR hp) i;have gt:=B4 ht;have u:=FQ p i;have m1:=M9 gp gt (by omega);generalize Gj ((As t p).map cn) (p.map cn) i=M at *
  have k:=Ahu qs p.length M (cn t) kq os j l (p.length:Nat) (i:Nat) (by simp;omega) (by omega) (by omega) (by rw[R,hget];exact m1);refine k.to rfl ?_;simp only[ei,R,hget];rw[u,A6,AE,hset]
 ·rw[show Gj ((As t p).map cn) (p.map cn) p.length=(As t p).map cn by have h:=Pq hE;rw[hpl] at h;exact h];exact Ahv _ _ _ _ _ _ _ _ _ _ (by simp)
theorem ADn{t:Int}{l:Rn}{qs rs:List Rn}{k:Nat}{j:Int}(hp:Kb J p)(ht:Bv Kq t)(hS:J+Kq<1048576)(hN:p.length<=1048576) :
  Ap (.loop RE) (K8 qs k rs (cn t) p.length (p.map cn) j l (p.length:Nat) 0) (.exit 4) (K8 qs k rs (cn t) p.length ((As t p).map cn) j l (p.length:Nat) (p.length:Nat)):=by
 have hE:((As t p).map cn).length=(p.map cn).length:=by rw[Q,Q,y]
 have hpl:(p.map cn).length=p.length:=Q ..;have h:=CE.up (prog:=DK) (c:=RE) (ex := .exit 4) (fin:=K8 qs k rs (cn t) p.length ((As t p).map cn) j l (p.length:Nat) (p.length:Nat))
  (fun i=>K8 qs k rs (cn t) p.length (Gj ((As t p).map cn) (p.map cn) i) j l (p.length:Nat) (i:Nat)) p.length (by nofun) ?_ ?_ 0 (AN _)
 ·rw[Pp] at h;exact h
 ·intro i hi;have ei:I O ((i:Int)+1)=((i+1:Nat):Int):=by rw[Bg (by omega) (by omega)];omega
  have hml:=Ij hE i;have hget:=Ol hE (i:=i) (by omega);have hEi:((As t p).map cn).getD i z0=cn ((As t p).getD i 0):=FG (by rw[y];exact hi);have hset:=Om hE (i:=i) (by omega);rw[hEi,m] at hset;have gp:=Bo (AR hp) i;have gt:=B4 ht;have u:=FQ p i;have m1:=M9 gp gt (by omega);generalize Gj ((As t p).map cn) (p.map cn) i=M at *
  have k:=Ahw qs k rs (cn t) p.length M j l (p.length:Nat) (i:Nat) (by simp;omega) (by omega) (by omega) (by rw[R,hget];exact m1);refine k.to rfl ?_;simp only[ei,R,hget];rw[u,A6,AE,hset]
 ·rw[show Gj ((As t p).map cn) (p.map cn) p.length=(As t p).map cn by have h:=Pq hE;rw[hpl] at h;exact h];exact Ahx _ _ _ _ _ _ _ _ _ _ (by simp)
theorem ADo{t:Rn}{l:Int}{os:List Rn}{kq j Jp:Nat}(hp:Kb Jp p)(hq:Kb Kq q)(hl:Bv J l)(hS:J+Kq<1048576)(hJp:Jp<1048576)(hN:p.length<=1048576)(hj:j+q.length<=p.length) :
  Ap (.loop RF) (K9 (q.map cn) p.length (p.map cn) t kq os (j:Nat) (cn l) (q.length:Nat) 0) (.exit 6) (K9 (q.map cn) p.length ((HU p q l j).map cn) t kq os (j:Nat) (cn l) (q.length:Nat) (q.length:Nat)):=by
 have hE:((HU p q l j).map cn).length=(p.map cn).length:=by rw[Q,Q,Hw]
 have hpl:(p.map cn).length=p.length:=Q ..;have gE:∀ x,x<p.length->((HU p q l j).map cn).getD x z0=cn (p.getD x 0-l*(Dz j q).getD x 0):=fun x hx=>by
  rw[FG (by rw[Hw];exact hx),Ns _ _ _ _ _ hj]
 have eout:∀ x,(x<j\/j+q.length<=x)->((HU p q l j).map cn).getD x z0=(p.map cn).getD x z0:=by
  intro x hx;by_cases h:x<p.length
  ·rw[gE x h,FG h,Cw];rcases hx with hx | hx
   ·rw[if_neg (by omega),AG,F8]
   ·rw[if_pos (by omega),B3 (xs:=q) (show q.length<=x-j by omega),AG,F8]
  ·rw[Z,Z,AI (by omega),AI (by omega)]
 have h:=CE.up (prog:=DK) (c:=RF) (ex := .exit 6) (fin:=K9 (q.map cn) p.length ((HU p q l j).map cn) t kq os (j:Nat) (cn l) (q.length:Nat) (q.length:Nat))
  (fun i=>K9 (q.map cn) p.length (Gj ((HU p q l j).map cn) (p.map cn) (j+i)) t kq os (j:Nat) (cn l) (q.length:Nat) (i:Nat)) q.length (by nofun) ?_ ?_ 0 (AN _)
 ·rw[EJ,xS hE (fun x hx=>eout x (.inl hx))] at h;exact h
 ·intro i hi;have ei:I O ((i:Int)+1)=((i+1:Nat):Int):=by rw[Bg (by omega) (by omega)];omega
  have eji:I O ((j:Int)+(i:Int))=((j+i:Nat):Int):=by rw[Bg (by omega) (by omega)];omega
  have hml:=Ij hE (j+i);have hget:=Ol hE (i:=j+i) (by omega);have hEi:=gE (j+i) (by omega);rw[Cw,if_pos (by omega),show j+i-j=i by omega] at hEi;have hset:=Om hE (i:=j+i) (by omega);rw[hEi] at hset;have gp:=Bo (AR hp) (j+i);have gq:=Bo (AR hq) i;have gl:=B4 hl;have u:=FQ p (j+i);have vq:=FQ q i;have m1:=M9 gl gq (by omega);have f1:Bv (J+Kq) (L (cn l)*L ((q.map cn).getD i z0)):=Bv.mul (by rw[A6];exact hl) gq.fits;have m2:=oL gp (B4 f1) (by omega) (by omega);rw[A6 (L (cn l)*L ((q.map cn).getD i z0))] at m2;generalize Gj ((HU p q l j).map cn) (p.map cn) (j+i)=M at *
  have k:=Ahy (q.map cn) p.length M t kq os (j:Nat) (cn l) (q.length:Nat) (i:Nat) (by simp;omega) (by rw[eji];omega) (by omega) (by rw[Q];omega) (by rw[R];exact m1) (by rw[eji,R,R,hget];exact m2);refine k.to rfl ?_;simp only[ei,eji,R,hget];rw[u,vq,A6,hset,DW]
 ·rw[xT hE (by omega) (fun x hx=>eout x (.inr hx))];exact Ahz _ _ _ _ _ _ _ _ _ _ (by simp)
theorem Aih{l:Int}(hp:Kb (J+Kq) p)(hq:Kb Kq q)(hl:Bv J l)(k:Nat)(hk:k+q.length<=p.length):Kb (J+Kq+1) (HU p q l k):=fun i=>by
 rw[Ns _ _ _ _ _ hk,Cw];split
 ·exact (hp i).add (hl.mul (hq _)).neg
 ·rw[AG,F8];exact (hp i).mono (by omega)
theorem Aci{l:Int}(hp:Kb J p)(hl:Bv J l)(k:Nat):Kb J (p.set k l):=fun i=>by
 by_cases h:i=k
 ·subst h;by_cases hi:i<p.length
  ·rw[Z,ZG hi];exact hl
  ·rw[B3 (by rw[Ba];omega)];exact HP _
 ·rw[CA (by omega)];exact hp i
end
theorem Aii{q:LI}{Kq:Nat}(hq:Kb Kq q)(hq0:q ≠ []):∀ (k:Nat) (r out:LI) (J:Nat),Kb J r->Kb J out->J+k*(Kq+1)<1048576->k<=out.length->out.length+q.length=r.length+1->r.length<=1048576 ->
  (∃ r',Ap (.loop Yn) (T0 (q.map cn) r.length (r.map cn) (cn (top q)) out.length (out.map cn) ((k:Int)-1)) (.exit 0) (T0 (q.map cn) r.length r' (cn (top q)) out.length ((HV q k r out).map cn) (-1)))/\Kb (J+k*(Kq+1)) (HV q k r out)/\(HV q k r out).length=out.length:=by
 have hql:=Ak.2 hq0;intro k;induction k with
 | zero =>
  intro r out J _ ho _ _ _ _;exact⟨⟨_,Ah (Azq _ _ _ _ _ _ _ (by simp))⟩,ho.mono (by omega),rfl⟩
 | succ k ih =>
  intro r out J hr ho hS hk hl hN;simp only[HV];have hS':J+Kq+1+k*(Kq+1)<1048576:=by rw[DE,FL] at hS;omega
  have el:Bv J (r.getD (k+q.length-1) 0):=hr _;have e1:((k+1:Nat):Int)-1=(k:Int):=by omega
  have e2:I O (I O ((k:Int)+(((q.map cn).length:Nat):Int))-1)=((k+q.length-1:Nat):Int):=by
   rw[Q,Bg (n:=(k:Int)+(q.length:Nat)) (by omega) (by omega),Bg (by omega) (by omega)];omega
  have e3:(r.map cn).getD (k+q.length-1) z0=cn (r.getD (k+q.length-1) 0):=FG (by omega);have e4:I O ((k:Int)-1)=(k:Int)-1:=Bg (by omega) (by omega);have ft:Bv Kq (top q):=hq _;generalize hlead:r.getD (k+q.length-1) 0=l at *
  have hps:=V7 hr ft;have hpo:=V7 ho ft;have la:=ADm (l:=cn l) (qs:=q.map cn) (os:=out.map cn) (kq:=out.length) (j:=(k:Nat)) hr ft (by omega) hN;have lb:=ADn (l:=cn l) (qs:=q.map cn) (rs:=(As (top q) r).map cn) (k:=r.length) (j:=(k:Nat)) ho ft (by omega) (by omega);have hlc:=ADo (t:=cn (top q)) (l:=l) (os:=((As (top q) out).set k l).map cn) (kq:=out.length) (j:=k) (p:=As (top q) r) (J:=J) hps hq el (by omega) (by omega) (by rw[y];exact hN) (by rw[y];omega);rw[y] at hlc;obtain⟨⟨r',hr'⟩,kb,len⟩:=ih (HU (As (top q) r) q l k) ((As (top q) out).set k l) (J+Kq+1) (Aih hps hq el k (by rw[y];omega)) (Aci (hpo.mono (by omega)) (el.mono (by omega)) k) hS' (by rw[Ba,y];omega) (by rw[Ba,y,Hw,y];exact hl) (by rw[Hw,y];exact hN);rw[Ba,y,Hw,y] at hr';refine⟨⟨r',?_⟩,kb.mono (by rw[DE,FL];omega),by rw[len,Ba,y]⟩;have hset:((As (top q) out).map cn).set k (cn l)=((As (top q) out).set k l).map cn:=by rw[Qc]
  have k1:=Azp (q.map cn) r.length (r.map cn) (cn (top q)) out.length (out.map cn) (k:Nat) ((As (top q) r).map cn) ((HU (As (top q) r) q l k).map cn) ((As (top q) out).map cn) _ _ _ _ _ _ (by simp) (by rw[e2];omega) (Q ..)
   (by rw[e2,R,e3];exact la) (by rw[e2,R,e3];exact lb) (by omega) (by rw[Q,y]) (by rw[e2,R,R,e3,hset,Q];exact hlc)
  rw[e2,R,R,e3,hset,e4] at k1;rw[e1];exact CE.loop k1 hr'
theorem Azu:cn 0=z0:=rfl
theorem aL{p q:LI}{J K:Nat}(hp:Kb J p)(hq:Kb K q)(lp:BH p)(hq0:q ≠ [])(hl:q.length<=p.length)(hN:p.length<=1000000)(hS:J+(p.length-q.length+1)*(K+1)<1048576) :
  RQ 156 [H (p.map cn).length (pc (p.map cn)),H (q.map cn).length (pc (q.map cn))] (P 2 ((prim (HV q (p.length-q.length+1) p (l (p.length-q.length+1) 0))).map cn).length (pc ((prim (HV q (p.length-q.length+1) p (l (p.length-q.length+1) 0))).map cn))):=by
 have hql:=Ak.2 hq0;have htr:=Kf (rs:=p.map cn) (fun r h=>(AR hp r h).mono (show J<=1048576 by omega)) (by rw[Q];omega);rw[s,lp] at htr;have htr':RQ 66 [H (p.map cn).length (pc (p.map cn))] (P 2 (p.map cn).length (pc (p.map cn))):=by (first|rw[Q] at htr |-|(unfold sL at htr;rw[Q] at htr |-));exact htr
 obtain⟨⟨r',hlp⟩,kb,len⟩:=Aii hq hq0 (p.length-q.length+1) p (l (p.length-q.length+1) 0) J hp (fun i=>by rw[DQ];exact HP _) hS (by simp) (by simp;omega) (by omega);rw[Ew] at hlp len;have e1:I O ((((q.map cn).length:Nat):Int)-1)=((q.length-1:Nat):Int):=by rw[Q,Bg (by omega) (by omega)];omega
 have e2:I O (I O ((((p.map cn).length:Nat):Int)-(((q.map cn).length:Nat):Int))+1)=((p.length-q.length+1:Nat):Int):=by
  rw[Q,Q,Bg (n:=(p.length:Int)-(q.length:Nat)) (by omega) (by omega),Bg (by omega) (by omega)];omega
 have e3:I O (((p.length-q.length+1:Nat):Int)-1)=((p.length-q.length+1:Nat):Int)-1:=Bg (by omega) (by omega);have hz:(l (p.length-q.length+1) (0:Int)).map cn=l (p.length-q.length+1) z0:=by rw[AEj,Azu]
 have hpr:=EL (rs:=(HV q (p.length-q.length+1) p (l (p.length-q.length+1) 0)).map cn) (AR kb) (by omega) (by rw[Q];omega);rw[s] at hpr;have hpr':=hpr;unfold sL at hpr';rw[show ∀ o:LI,(o.map cn).length=o.length from fun o=>Q ..,len] at hpr';have k:=Azr (p.map cn) (q.map cn) (p.map cn) ((prim (HV q (p.length-q.length+1) p (l (p.length-q.length+1) 0))).map cn) r' ((HV q (p.length-q.length+1) p (l (p.length-q.length+1) 0)).map cn) (cn (top q)) p.length (p.length-q.length+1) (-1) htr' (by rw[e1,Q];omega) (by rw[e2];omega) (by
   rw[e1,e2,R,R,e3,QO,<- hz,FG (show q.length-1<q.length by omega),show (p.map cn).length=p.length from Q ..];exact hlp) (by
   have hlm:((prim (HV q (p.length-q.length+1) p (l (p.length-q.length+1) 0))).map cn).length=(prim (HV q (p.length-q.length+1) p (l (p.length-q.length+1) 0))).length:=Q ..;rw[hlm];exact hpr')
 exact k
theorem xU{rs:List Rn}{K c:Nat}(hr:∀ r∈rs,AU K r)(hn:rs.length<=c)(hc:c<=9)(hS:(K+3)*(2*3^c)<=500000):Pr 114 [sL pc rs] (S (N rs)):=by
 have h3:0<3^c:=DH (by decide);have hK:K+3<=250000:=by
  have:(K+3)*2<=(K+3)*(2*3^c):=z _ (by omega);omega
 have p1:=EL hr (by omega) (by omega);have p1':RQ 115 [sL pc rs] (P 2 ((prim (N rs)).map cn).length (pc ((prim (N rs)).map cn))):=by rw[Q];exact p1
 have k1:Kb K (prim (N rs)):=(J8 (Dk hr)).prim;have l1:(prim (N rs)).length<=rs.length:=by rw[Cg];have:=BA (N rs);rwa [AW] at this
 obtain⟨q1,q2⟩:=U1 k1 (by omega) (by omega);have ka:Kb K (j (prim (N rs))):=by
  unfold j;split
  ·intro i;rw[HQ];exact (k1 i).neg
  ·exact k1
 have la:=LL (prim (N rs));have lda:BH (j (prim (N rs))):=Po (C2 _);have hpp:(¬ top (prim (N rs))<0)->j (prim (N rs))=prim (N rs):=RV;have hder:=SC (rs:=(j (prim (N rs))).map cn) (AR ka) (by omega) (by rw[Q];omega);rw[s] at hder;have hder':RQ 116 [H ((j (prim (N rs))).map cn).length (pc ((j (prim (N rs))).map cn))] (P 2 ((At (j (prim (N rs)))).map cn).length (pc ((At (j (prim (N rs)))).map cn))):=by
  have hlm:((At (j (prim (N rs)))).map cn).length=(At (j (prim (N rs)))).length:=Q ..;rw[hlm];exact hder
 have kd:Kb (K+2) (At (j (prim (N rs)))):=Za ka (by omega);have ld:(At (j (prim (N rs)))).length<=c:=by have:=V6 (j (prim (N rs)));omega
 have hcom:=U2 (rs:=(j (prim (N rs))).map cn) (ss:=(At (j (prim (N rs)))).map cn) (K:=K+2) (c:=c) (fun r h=>(AR ka r h).mono (by omega)) (AR kd) (by rw[Q];omega) (by rw[Q];exact ld) (by omega) hS;rw[s,s] at hcom;change Pr 135 _ (B5 (j (prim (N rs))) (At (j (prim (N rs))))) at hcom;have hdiv:2<=(B5 (j (prim (N rs))) (At (j (prim (N rs))))).length->RQ 156 [H ((j (prim (N rs))).map cn).length (pc ((j (prim (N rs))).map cn)),H ((B5 (j (prim (N rs))) (At (j (prim (N rs))))).map cn).length (pc ((B5 (j (prim (N rs))) (At (j (prim (N rs))))).map cn))]
   (P 2 ((prim (HV (B5 (j (prim (N rs))) (At (j (prim (N rs))))) ((j (prim (N rs))).length-(B5 (j (prim (N rs))) (At (j (prim (N rs))))).length+1) (j (prim (N rs))) (l ((j (prim (N rs))).length-(B5 (j (prim (N rs))) (At (j (prim (N rs))))).length+1) 0))).map cn).length (pc ((prim (HV (B5 (j (prim (N rs))) (At (j (prim (N rs))))) ((j (prim (N rs))).length-(B5 (j (prim (N rs))) (At (j (prim (N rs))))).length+1) (j (prim (N rs))) (l ((j (prim (N rs))).length-(B5 (j (prim (N rs))) (At (j (prim (N rs))))).length+1) 0))).map cn))):=by
  intro h2;have hp0:Y (N rs) ≠ []:=by
   intro h0;have:prim (N rs)=[]:=DY.2 (Dn.1 h0);rw[this] at h2;exact absurd h2 (by decide)
  obtain⟨a1,a2,_,_,_,_⟩:=Rh hp0;obtain⟨b1,b2⟩:=oJ (t:=At (j (prim (N rs)))) (By a1 a2) (by omega) ka;rw[a1] at b2;exact aL ka b1 lda (by intro h0;rw[h0] at h2;exact absurd h2 (by decide)) b2 (by omega) (by
   have h4:(j (prim (N rs))).length-(B5 (j (prim (N rs))) (At (j (prim (N rs))))).length+1<=10:=by omega
   have h5:=AJ (K+3+1) h4;have h6:3^2<=3^c:=BM (by decide) (by omega);have h7:(K+3)*18<=(K+3)*(2*3^c):=z _ (by omega);omega)
 unfold S;by_cases hs:(j (prim (N rs))).length<2
 ·rw[if_pos (.inl hs)];by_cases ht:top (prim (N rs))<0
  ·exact .inr (aA rs _ _ (by rw[decide_eq_true_eq,Q];omega) p1' (q1 ht))
  ·rw[hpp ht] at hs |-;exact .inr (aH rs _ (by rw[decide_eq_true_eq,Q];omega) p1' (q2 ht))
 ·by_cases hg:(B5 (j (prim (N rs))) (At (j (prim (N rs))))).length<2
  ·rw[if_pos (.inr hg)];by_cases ht:top (prim (N rs))<0
   ·rcases hcom with h | h
    ·exact .inr (aB rs _ _ _ _ (by rw[decide_eq_false_iff_not,Q];omega) (by rw[decide_eq_true_eq,Q];omega) p1' (q1 ht) hder' h)
    ·exact .inr (aD rs _ _ _ _ (by rw[decide_eq_false_iff_not,Q];omega) (by rw[decide_eq_true_eq,Q];omega) p1' (q1 ht) hder' h)
   ·rw[hpp ht] at *
    rcases hcom with h | h
    ·exact .inr (aF rs _ _ _ (by rw[decide_eq_false_iff_not,Q];omega) (by rw[decide_eq_true_eq,Q];omega) p1' (q2 ht) hder' h)
    ·exact .inr (aI rs _ _ _ (by rw[decide_eq_false_iff_not,Q];omega) (by rw[decide_eq_true_eq,Q];omega) p1' (q2 ht) hder' h)
  ·rw[if_neg (by omega)];have hdiv:=hdiv (by omega);by_cases ht:top (prim (N rs))<0
   ·rcases hcom with h | h
    ·exact .inl (aC rs _ _ _ _ _ (by rw[decide_eq_false_iff_not,Q];omega) (by rw[decide_eq_false_iff_not,Q];omega) p1' (q1 ht) hder' h hdiv)
    ·exact .inl (aE rs _ _ _ _ _ (by rw[decide_eq_false_iff_not,Q];omega) (by rw[decide_eq_false_iff_not,Q];omega) p1' (q1 ht) hder' h hdiv)
   ·rw[hpp ht] at *
    rcases hcom with h | h
    ·exact .inl (aG rs _ _ _ _ (by rw[decide_eq_false_iff_not,Q];omega) (by rw[decide_eq_false_iff_not,Q];omega) p1' (q2 ht) hder' h hdiv)
    ·exact .inl (aJ rs _ _ _ _ (by rw[decide_eq_false_iff_not,Q];omega) (by rw[decide_eq_false_iff_not,Q];omega) p1' (q2 ht) hder' h hdiv)
def oP(p:LI):AV := H (p.map cn).length (pc (p.map cn))
def plF(p:LI):AV := P 2 (p.map cn).length (pc (p.map cn))
theorem EN{f:Nat}{args:List AV}{X:LI}(h:RQ f args (P 2 X.length (pk X))):RQ f args (P 2 (X.map cn).length (pc (X.map cn))):=by
 rw[Q];exact h
theorem oQ(p:LI):L ((p.map cn).getD (p.length-1) z0)=top p:=FQ p (p.length-1)
theorem Pv{p:LI}{K:Nat}(hk:Kb K p)(hL:BH p)(hK:K<=1048576)(hN:p.length<=1048576) :
  (top p<0->RQ 120 [oP p] (plF (j p)))/\(¬ top p<0->RQ 120 [oP p] (oP p)):=by
 have hg:∀ r∈p.map cn,AU 1048576 r:=fun r hr=>(AR hk r hr).mono hK;have hlm:(p.map cn).length=p.length:=Q ..;by_cases h0:0<p.length
 ·have e1:I O ((((p.map cn).length:Nat):Int)-1)=((p.length-1:Nat):Int):=by rw[hlm,Bg (by omega) (by omega)];omega
  obtain⟨g1,g2⟩:=Bo hg (p.length-1);have hs:=Hd (neg:=((p.map cn).getD (p.length-1) z0).1) g1 g2;have ht:L ((p.map cn).getD (p.length-1) z0)=top p:=oQ p;rw[show rv ((p.map cn).getD (p.length-1) z0).1 ((p.map cn).getD (p.length-1) z0).2=top p from ht] at hs;refine⟨fun h => ?_,fun h => ?_⟩
  ·have hn:=dC hg (by omega);rw[s,IZ hL] at hn;have e:j p=Cp p:=by unfold j;rw[if_pos h]
   unfold oP plF;rw[e];exact wW _ _ (by rw[decide_eq_true_eq];omega) (by rw[e1,R,ht,decide_eq_true_eq];unfold BQ;rw[if_pos h];decide) (by rw[e1];omega) (by rw[e1,R,ht];exact hs) (EN hn)
  ·exact wX _ (by rw[decide_eq_true_eq];omega) (by rw[e1,R,ht,decide_eq_false_iff_not];unfold BQ;rw[if_neg h];split <;> decide) (by rw[e1];omega) (by rw[e1,R,ht];exact hs)
 ·have hz:p=[]:=A5 (by omega);subst hz;refine⟨fun h=>absurd h (by decide),fun _=>wY [] (by decide)⟩
theorem xV(n:Int):L (false,(cn n).2)=(n.natAbs:Int):=by
 show rv false (M n.natAbs)=_;unfold rv;rw[C9];simp
theorem Zb{x y:Rn}{J K:Nat}(hx:AU J x)(hy:AU K y)(h:J+K<=1048576):RQ 96 [o [B x.1,H x.2.length (lm x.2)],Az y] (Ag (L x*L y)):=Ni hx.1 hy.1 (by have:=hx.2;have:=hy.2;omega)
theorem Azv{x y:Rn}{J K:Nat}(hx:AU J x)(hy:AU K y)(h:J<1048576)(h2:K<1048576):RQ 129 [Az x,Az y] (Ag (L x-L y)):=Wz hx.1 hy.1 (by have:=hx.2;omega) (by have:=hy.2;omega)
def PX(p d:LI)(a b:Int)(j:Nat):Int:=if p.length-d.length<=j then a*p.getD j 0-b*d.getD (j-(p.length-d.length)) 0 else a*p.getD j 0
theorem oS(p d:LI)(a b:Int)(n:Nat):((Aq n).map fun j=>cn (PX p d a b j))=(CQ p d a b n).map cn:=by
 unfold CQ PX;rw[A3y];rfl
section
variable {p d:LI} {J Kd:Nat}
theorem U3{b:Int}(hp:Kb J p)(hd:Kb Kd d)(hb:Bv J b)(hS:J+Kd+1<1000000)(hd0:d ≠ [])(hl:d.length<=p.length)(hN:p.length<=1048576) :
  Ap (.loop MY) (Hf (p.map cn) (d.map cn) (cn (top d)) (cn b) ((p.length-d.length:Nat):Int) 0 [] 0) (.exit 2)
   (Hf (p.map cn) (d.map cn) (cn (top d)) (cn b) ((p.length-d.length:Nat):Int) (p.length-1) (pc ((CQ p d ((top d).natAbs:Int) b (p.length-1)).map cn)) ((p.length-1:Nat):Int)):=by
 have hdl:=Ak.2 hd0;have hlm:(p.map cn).length=p.length:=Q ..;have hld:(d.map cn).length=d.length:=Q ..;have e1:I O ((((p.map cn).length:Nat):Int)-1)=((p.length-1:Nat):Int):=by rw[hlm,Bg (by omega) (by omega)];omega
 have h:=CE.up (prog:=DK) (c:=MY) (ex := .exit 2) (fin:=Hf (p.map cn) (d.map cn) (cn (top d)) (cn b) ((p.length-d.length:Nat):Int) (p.length-1) (pc ((CQ p d ((top d).natAbs:Int) b (p.length-1)).map cn)) ((p.length-1:Nat):Int))
  (fun i=>Hf (p.map cn) (d.map cn) (cn (top d)) (cn b) ((p.length-d.length:Nat):Int) i (pc ((Aq i).map fun j=>cn (PX p d ((top d).natAbs:Int) b j))) (i:Nat)) (p.length-1) (by nofun) ?_ ?_ 0 (AN _)
 ·exact h
 ·intro i hi;have ei:I O ((i:Int)+1)=((i+1:Nat):Int):=by rw[Bg (by omega) (by omega)];omega
  have gp:=Bo (AR hp) i;have ga:AU Kd (false,(cn (top d)).2):=by
   have:=B4 (Fa hd);exact⟨this.1,this.2⟩
  have gb:=B4 hb;have u:=FQ p i;have m1:=Zb ga gp (by omega);have va:=xV (top d);by_cases hat:p.length-d.length<=i
  ·have ea:I O ((i:Int)-((p.length-d.length:Nat):Int))=((i-(p.length-d.length):Nat):Int):=by rw[Bg (by omega) (by omega)];omega
   have gq:=Bo (AR hd) (i-(p.length-d.length));have vq:=FQ d (i-(p.length-d.length));have m2:=Zb gb gq (by omega);have f1:Bv (Kd+J) (L (false,(cn (top d)).2)*L ((p.map cn).getD i z0)):=ga.fits.mul gp.fits;have f2:Bv (J+Kd) (L (cn b)*L ((d.map cn).getD (i-(p.length-d.length)) z0)):=gb.fits.mul gq.fits;have m3:=Azv (B4 f1) (B4 f2) (by omega) (by omega);rw[A6 (L (false,(cn (top d)).2)*_),A6 (L (cn b)*L ((d.map cn).getD (i-(p.length-d.length)) z0))] at m3;have k:=Ahb (p.map cn) (d.map cn) (cn (top d)) (cn b) ((p.length-d.length:Nat):Int) i (pc ((Aq i).map fun j=>cn (PX p d ((top d).natAbs:Int) b j))) (i:Nat) (by rw[e1,decide_eq_true_eq];omega) (by rw[decide_eq_true_eq];omega) (by omega) (by rw[ea];omega) (by omega)
    (by rw[R];exact m1) (by rw[ea,R];exact m2) (by rw[ea,R,R];exact m3)
   refine k.to rfl ?_;rw[ea,R,R,ei];rw[<- Gh (PX p d ((top d).natAbs:Int) b) i];unfold PX;rw[if_pos hat,va,u,A6,vq]
  ·have k:=Ahc (p.map cn) (d.map cn) (cn (top d)) (cn b) ((p.length-d.length:Nat):Int) i (pc ((Aq i).map fun j=>cn (PX p d ((top d).natAbs:Int) b j))) (i:Nat) (by rw[e1,decide_eq_true_eq];omega) (by rw[decide_eq_false_iff_not];omega) (by omega) (by omega)
    (by rw[R];exact m1)
   refine k.to rfl ?_;rw[R,ei];rw[<- Gh (PX p d ((top d).natAbs:Int) b) i];unfold PX;rw[if_neg hat,va,u]
 ·show CE _ _ (Hf _ _ _ _ _ _ (pc ((Aq (p.length-1)).map fun j=>cn (PX p d ((top d).natAbs:Int) b j))) _) _ _;rw[oS];exact Ahd _ _ _ _ _ _ _ _ (by rw[e1,decide_eq_false_iff_not];omega)
theorem oU(hp:Kb J p)(hd:Kb Kd d)(hS:J+Kd+1<1000000)(hd0:d ≠ [])(hl:d.length<=p.length)(hN:p.length<=1048576) :
  Ap SY (Lr (p.map cn) (d.map cn) (cn (top d))) .norm (Lr ((DZ p d).map cn) (d.map cn) (cn (top d))):=by
 have hdl:=Ak.2 hd0;have hlm:(p.map cn).length=p.length:=Q ..;have hld:(d.map cn).length=d.length:=Q ..;have e1:I O ((((p.map cn).length:Nat):Int)-1)=((p.length-1:Nat):Int):=by rw[hlm,Bg (by omega) (by omega)];omega
 have e2:I O ((((p.map cn).length:Nat):Int)-(((d.map cn).length:Nat):Int))=((p.length-d.length:Nat):Int):=by rw[hlm,hld,Bg (by omega) (by omega)];omega
 have gt:=B4 (Fa hd);have gl:=Bo (AR hp) (p.length-1);have vl:=oQ p;have hs:=Hd (neg:=(cn (top d)).1) gt.1 (by have:=gt.2;omega);rw[show rv (cn (top d)).1 (cn (top d)).2=top d from A6 _] at hs;have hT:∀ b,Bv J b->b=sg (top d)*top p->RQ 46 [H (p.length-1) (pc ((CQ p d ((top d).natAbs:Int) b (p.length-1)).map cn))] (P 2 ((Y (CQ p d ((top d).natAbs:Int) b (p.length-1))).map cn).length (pc ((Y (CQ p d ((top d).natAbs:Int) b (p.length-1))).map cn)))
   /\ RQ 86 [H ((Y (CQ p d ((top d).natAbs:Int) b (p.length-1))).map cn).length (pc ((Y (CQ p d ((top d).natAbs:Int) b (p.length-1))).map cn))] (P 2 ((DZ p d).map cn).length (pc ((DZ p d).map cn))):=by
  intro b fb hb;have kE:Kb (J+Kd+1) (CQ p d ((top d).natAbs:Int) b (p.length-1)):=Uv hp hd (RS (Fa hd)) fb _;have hlE:=ED p d ((top d).natAbs:Int) b (p.length-1);have htl:=BA (CQ p d ((top d).natAbs:Int) b (p.length-1));refine⟨?_,?_⟩
  ·have h:=EX (rs:=(CQ p d ((top d).natAbs:Int) b (p.length-1)).map cn) (fun r hr=>(AR kE r hr).mono (by omega)) (by rw[Q];omega);(first|rw[s,Q,hlE] at h|(rw[s] at h;unfold sL at h;rw[Q,hlE] at h));exact EN h
  ·have h:=IX (rs:=(Y (CQ p d ((top d).natAbs:Int) b (p.length-1))).map cn) (AR kE.trim) (by omega) (by rw[Q];omega);rw[s] at h;have e:prim (Y (CQ p d ((top d).natAbs:Int) b (p.length-1)))=DZ p d:=by
    rw[YO hd0 hl,<- hb];exact Oh (Dl _)
   rw[e] at h;exact EN h
 by_cases hneg:top d<0
 ·have hng:=Vv (neg:=((p.map cn).getD (p.length-1) z0).1) gl.1 (by have:=gl.2;omega);rw[show rv ((p.map cn).getD (p.length-1) z0).1 ((p.map cn).getD (p.length-1) z0).2=top p from vl] at hng;have hb : -(top p)=sg (top d)*top p:=by unfold sg;rw[if_pos hneg];omega
  obtain⟨t1,t2⟩:=hT _ (Fa hp).neg hb;exact Ayo (p.map cn) (d.map cn) (cn (top d)) ((CQ p d ((top d).natAbs:Int) (-(top p)) (p.length-1)).map cn) _ _ (p.length-1) ((p.length-1:Nat):Int) (by rw[decide_eq_true_eq];omega) (by rw[A6,decide_eq_true_eq];unfold BQ;rw[if_pos hneg];decide) (by rw[e1];omega) (by rw[A6];exact hs) (by rw[e1,R,vl];exact hng)
   (by rw[e1,e2,R,vl];exact U3 hp hd (Fa hp).neg hS hd0 hl hN) t1 t2
 ·have hb:top p=sg (top d)*top p:=by unfold sg;rw[if_neg hneg];omega
  obtain⟨t1,t2⟩:=hT _ (Fa hp) hb;have hu:(p.map cn).getD (p.length-1) z0=cn (top p):=FG (by omega);exact Ayp (p.map cn) (d.map cn) (cn (top d)) ((CQ p d ((top d).natAbs:Int) (top p) (p.length-1)).map cn) _ _ (p.length-1) ((p.length-1:Nat):Int) (by rw[decide_eq_true_eq];omega) (by rw[A6,decide_eq_false_iff_not];unfold BQ;rw[if_neg hneg];split <;> decide) (by rw[e1];omega) (by rw[A6];exact hs)
   (by rw[e1,e2,R,hu];exact U3 hp hd (Fa hp) hS hd0 hl hN) t1 t2
end
theorem oV{d:LI}{Kd:Nat}(hd:Kb Kd d)(hd0:d ≠ []):∀ (f:Nat) (p:LI) (J:Nat),p.length<=f->Kb J p->J+(p.length+1-d.length)*(Kd+1)<1000000->p.length<=1048576 ->
  Ap (.loop SY) (Lr (p.map cn) (d.map cn) (cn (top d))) (.exit 0) (Lr ((E1 f p d).map cn) (d.map cn) (cn (top d))):=by
 have hdl:=Ak.2 hd0;intro f;induction f with
 | zero =>
  intro p J hf _ _ _;exact Ah (nQ (p.map cn) (d.map cn) (cn (top d)) (by rw[decide_eq_false_iff_not,Q,Q];omega))
 | succ f ih =>
  intro p J hf hJ hS hN;simp only[E1];split
  ·rename_i hl;have hplen:=K6 hd0 hl;have e:((DZ p d).length+1-d.length)+1<=p.length+1-d.length:=by omega
   have:=AJ (Kd+1) e;rw[DE,FL] at this;have h1:=oU hJ hd (by
    have h2:1*(Kd+1)<=(p.length+1-d.length)*(Kd+1):=AJ _ (by omega);omega) hd0 hl hN
   exact CE.loop h1 (ih (DZ p d) (J+Kd+1) (by omega) (V0 hJ hd) (by omega) (by omega))
  ·rename_i hl;exact Ah (nQ (p.map cn) (d.map cn) (cn (top d)) (by rw[decide_eq_false_iff_not,Q,Q];omega))
theorem iK{x y:LI}(hy:Y y ≠ []):BC x (Y y)=BC x (prim y):=by
 unfold BC;rw[<- Nq y,iE (by have:=Ki hy;omega)]
theorem T3{rs ss:List Rn}{J K:Nat}(hr:∀ r∈rs,AU J r)(hs:∀ r∈ss,AU K r)(hJ:J<1000000)(hK:K<1000000)(hn:rs.length<=1048576)(hm:ss.length<=1048576)(h0:Y (N ss) ≠ [])(hS:J+((Y (N rs)).length+1-(Y (N ss)).length)*(K+1)<1000000) :
  RQ 119 [sL pc rs,sL pc ss] (oP (BC (prim (N rs)) (prim (N ss)))):=by
 have p1:=IX hr hJ hn;have p2:=EX (fun r h=>(hs r h).mono (show K<=1048576 by omega)) hm;have k1:Kb J (prim (N rs)):=(J8 (Dk hr)).prim;have k2:Kb K (Y (N ss)):=(J8 (Dk hs)).trim;have l1:(prim (N rs)).length<=rs.length:=by rw[Cg];have:=BA (N rs);rwa [AW] at this
 have l2:(Y (N ss)).length<=ss.length:=by have:=BA (N ss);rwa [AW] at this
 have hl:=Ak.2 h0;have hlp:=oV k2 h0 (prim (N rs)).length (prim (N rs)) J (Ao _) k1 (by rw[Cg];exact hS) (by omega);have e1:I O (((((Y (N ss)).map cn).length:Nat):Int)-1)=(((Y (N ss)).length-1:Nat):Int):=by rw[Q,Bg (by omega) (by omega)];omega
 rw[<- iK h0];exact Ayq rs ss _ _ ((BC (prim (N rs)) (Y (N ss))).map cn) (cn (top (Y (N ss)))) (EN p1) (EN p2) (by rw[e1,Q];omega) (by
  rw[e1,R,FG (show (Y (N ss)).length-1<(Y (N ss)).length by omega)];exact hlp)
theorem Zc:∀ (f:Nat) (x y:LI) (M:Nat),0<M->y.length<=f->y.length<=x.length->x.length<=1048576->prim x=x->prim y=y->Kb (M-1) x->Kb (M-1) y->M*Kk x.length y.length<=500000 ->
  ∃ bs,Ap (.loop SU) (Ls (x.map cn) (y.map cn)) (.exit 0) (Ls ((IW f x y).map cn) bs):=by
 intro f;induction f with
 | zero =>
  intro x y M _ h1 _ _ _ _ _ _ _;have:y=[]:=A5 (by omega);subst this;exact⟨_,Ah (nS _ _ (by simp))⟩
 | succ f ih =>
  intro x y M hM h1 h2 h3 px py kx ky hphi;simp only[IW];split
  ·rename_i h;subst h;exact⟨_,Ah (nS _ _ (by simp))⟩
  ·rename_i h;have hyl:=Ak.2 h;obtain⟨r1,r2,r3⟩:=Mc hM (C6 px) h kx ky h2;have hM':0<M*(x.length-y.length+2):=GS hM (by omega);have hMle:M<=M*(x.length-y.length+2):=C7 M (by omega);have hbig:M*(x.length-y.length+2)<=500000:=by
    refine Bm (z _ ?_) hphi;unfold Kk;exact C7 _ (DH (by decide))
   have hrem:=T3 (rs:=x.map cn) (ss:=y.map cn) (AR kx) (AR ky) (by omega) (by omega) (by rw[Q];exact h3) (by rw[Q];omega) (by rw[s,C6 py];exact h) (by
    rw[s,s,C6 px,C6 py,Nr hM,show x.length+1-y.length=x.length-y.length+1 by omega,CY _ M];have:M*(x.length-y.length+2)=M*(x.length-y.length+1)+M:=by rw[<- Sh]
    omega)
   rw[s,s,px,py] at hrem;have k:=nR (x.map cn) (y.map cn) _ (by simp;omega) hrem;obtain⟨bs,hb⟩:=ih y (BC x y) (M*(x.length-y.length+2)) hM' (by omega) (by omega) (by omega) py (Jh _ _ _ px) (ky.mono (by omega)) r3 (Md r2 hphi);exact⟨bs,CE.loop k hb⟩
theorem SF{rs ss:List Rn}{g:LI}{bs:List Rn}{K:Nat}(hr:∀ r∈rs,AU K r)(hs:∀ r∈ss,AU K r)(hK:K<1000000)(hn:rs.length<=1048576)(hm:ss.length<=1048576){Kg:Nat}(hg:Kb Kg g)(hgL:BH g)(hKg:Kg<=1048576)(hgl:g.length<=1048576)
  (hl:Ap (.loop SU) (Ls ((prim (N rs)).map cn) ((prim (N ss)).map cn)) (.exit 0) (Ls (g.map cn) bs)) :
  Pr 70 [sL pc rs,sL pc ss] (j g):=by
 have p1:=IX hr hK hn;have p2:=IX hs hK hm;obtain⟨q1,q2⟩:=Pv hg hgL hKg hgl;by_cases h:top g<0
 ·exact .inl (Ahe rs ss _ _ (g.map cn) bs _ (EN p1) (EN p2) hl (q1 h))
 ·rw[RV h];exact .inr (Ahf rs ss _ _ (g.map cn) bs (EN p1) (EN p2) hl (q2 h))
theorem U4{rs ss:List Rn}{K c:Nat}(hr:∀ r∈rs,AU K r)(hs:∀ r∈ss,AU K r)(hn:rs.length<=c)(hm:ss.length<=c)(hc:c<=1048576)(hS:(K+1)*(2*3^c)<=500000) :
  Pr 70 [sL pc rs,sL pc ss] (j (PQ (prim (N rs)) (prim (N ss)))):=by
 have h3:0<3^c:=DH (by decide);have hK:K+1<=500000:=by
  have:(K+1)*1<=(K+1)*(2*3^c):=z _ (by omega);omega
 have k1:Kb K (prim (N rs)):=(J8 (Dk hr)).prim;have k2:Kb K (prim (N ss)):=(J8 (Dk hs)).prim;have l1:(prim (N rs)).length<=rs.length:=by rw[Cg];have:=BA (N rs);rwa [AW] at this
 have l2:(prim (N ss)).length<=ss.length:=by rw[Cg];have:=BA (N ss);rwa [AW] at this
 unfold PQ;split
 ·rename_i hl;have hphi:(K+1)*Kk (prim (N rs)).length (prim (N ss)).length<=500000:=Bm (z _ (Rc hl (by omega))) hS;obtain⟨bs,hb⟩:=Zc (prim (N ss)).length (prim (N rs)) (prim (N ss)) (K+1) (by omega) (Ao _) hl (by omega) (Ch _) (Ch _) k1 k2 hphi;obtain⟨s1,s2⟩:=Nw (prim (N ss)).length (prim (N rs)) (prim (N ss)) (K+1) (by omega) (Ao _) hl (C2 _) (C2 _) k1 k2;exact SF hr hs (by omega) (by omega) (by omega) s1 (C6 (Nv _ _ _ (Ch _) (Ch _))) (by omega) (by omega) hb
 ·rename_i hl;have hphi:(K+1)*Kk (prim (N ss)).length (prim (N rs)).length<=500000:=Bm (z _ (Rc (by omega) (by omega))) hS;obtain⟨bs,hb⟩:=Zc (prim (N rs)).length (prim (N ss)) (prim (N rs)) (K+1) (by omega) (Ao _) (by omega) (by omega) (Ch _) (Ch _) k2 k1 hphi;obtain⟨s1,s2⟩:=Nw (prim (N rs)).length (prim (N ss)) (prim (N rs)) (K+1) (by omega) (Ao _) (by omega) (C2 _) (C2 _) k2 k1;have hy0:prim (N ss) ≠ []:=by intro h;rw[h] at hl;simp at hl
  have hsw:BC (prim (N rs)) (prim (N ss))=prim (N rs):=by
   unfold BC;cases hx:(prim (N rs)).length with
   | zero=>rfl
   | succ n=>simp only[E1];rw[if_neg hl]
  have hrem:=T3 (rs:=(prim (N rs)).map cn) (ss:=(prim (N ss)).map cn) (AR k1) (AR k2) (by omega) (by omega) (by rw[Q];omega) (by rw[Q];omega) (by rw[s,C2];exact hy0) (by
   rw[s,s,C2,C2,show (prim (N rs)).length+1-(prim (N ss)).length=0 by omega,LX];omega)
  rw[s,s,Ch,Ch,hsw] at hrem;have k:=nR ((prim (N rs)).map cn) ((prim (N ss)).map cn) _ (by rw[decide_eq_true_eq,Q];omega) hrem;exact SF hr hs (by omega) (by omega) (by omega) s1 (C6 (Nv _ _ _ (Ch _) (Ch _))) (by omega) (by omega) (CE.loop k hb)
section
variable {p d:LI} {J Kd:Nat}
theorem Azw{t:Int}{l:Rn}{rs ds:List Rn}{q:Int}(hp:Kb J p)(ht:Bv Kd t)(hS:J+Kd<1000000)(hN:p.length<=1048576) :
  Ap (.loop RB) (K5 rs ds (cn t) p.length (p.map cn) l q 0) (.exit 2) (K5 rs ds (cn t) p.length ((As t p).map cn) l q (p.length:Nat)):=by
 have hE:((As t p).map cn).length=(p.map cn).length:=by rw[Q,Q,y]
 have hpl:(p.map cn).length=p.length:=Q ..;have h:=CE.up (prog:=DK) (c:=RB) (ex := .exit 2) (fin:=K5 rs ds (cn t) p.length ((As t p).map cn) l q (p.length:Nat))
  (fun i=>K5 rs ds (cn t) p.length (Gj ((As t p).map cn) (p.map cn) i) l q (i:Nat)) p.length (by nofun) ?_ ?_ 0 (AN _)
 ·rw[Pp] at h;exact h
 ·intro i hi;have ei:I O ((i:Int)+1)=((i+1:Nat):Int):=by rw[Bg (by omega) (by omega)];omega
  have hml:=Ij hE i;have hget:=Ol hE (i:=i) (by omega);have hEi:((As t p).map cn).getD i z0=cn ((As t p).getD i 0):=FG (by rw[y];exact hi);have hset:=Om hE (i:=i) (by omega);rw[hEi,m] at hset;have gp:=Bo (AR hp) i;have gt:=B4 ht;have u:=FQ p i;have m1:=Zb gp gt (by omega);generalize Gj ((As t p).map cn) (p.map cn) i=M at *
  have k:=Ahg rs ds (cn t) p.length M l q (i:Nat) (by simp;omega) (by omega) (by omega) (by rw[R,hget];exact m1);refine k.to rfl ?_;simp only[ei,R,hget];rw[u,A6,AE,hset]
 ·rw[show Gj ((As t p).map cn) (p.map cn) p.length=(As t p).map cn by have h:=Pq hE;rw[hpl] at h;exact h];exact Ahh _ _ _ _ _ _ _ _ (by simp)
theorem Azx{b:Int}{k:Nat}{os:List Rn}(hp:Kb J p)(hd:Kb Kd d)(hb:Bv J b)(hS:J+Kd+1<1000000)(hd0:d ≠ [])(hl:d.length<=p.length)(hN:p.length<=1048576) :
  Ap (.loop ON) (Ih (p.map cn) (d.map cn) (cn (top d)) k os (cn b) ((p.length-d.length:Nat):Int) 0 [] 0) (.exit 4)
   (Ih (p.map cn) (d.map cn) (cn (top d)) k os (cn b) ((p.length-d.length:Nat):Int) (p.length-1) (pc ((CQ p d (top d) b (p.length-1)).map cn)) ((p.length-1:Nat):Int)):=by
 have hdl:=Ak.2 hd0;have hlm:(p.map cn).length=p.length:=Q ..;have hld:(d.map cn).length=d.length:=Q ..;have e1:I O ((((p.map cn).length:Nat):Int)-1)=((p.length-1:Nat):Int):=by rw[hlm,Bg (by omega) (by omega)];omega
 have h:=CE.up (prog:=DK) (c:=ON) (ex := .exit 4) (fin:=Ih (p.map cn) (d.map cn) (cn (top d)) k os (cn b) ((p.length-d.length:Nat):Int) (p.length-1) (pc ((CQ p d (top d) b (p.length-1)).map cn)) ((p.length-1:Nat):Int))
  (fun i=>Ih (p.map cn) (d.map cn) (cn (top d)) k os (cn b) ((p.length-d.length:Nat):Int) i (pc ((Aq i).map fun j=>cn (PX p d (top d) b j))) (i:Nat)) (p.length-1) (by nofun) ?_ ?_ 0 (AN _)
 ·exact h
 ·intro i hi;have ei:I O ((i:Int)+1)=((i+1:Nat):Int):=by rw[Bg (by omega) (by omega)];omega
  have gp:=Bo (AR hp) i;have ga:=B4 (Fa hd);have gb:=B4 hb;have u:=FQ p i;have m1:=Zb ga gp (by omega);have va:=A6 (top d);by_cases hat:p.length-d.length<=i
  ·have ea:I O ((i:Int)-((p.length-d.length:Nat):Int))=((i-(p.length-d.length):Nat):Int):=by rw[Bg (by omega) (by omega)];omega
   have gq:=Bo (AR hd) (i-(p.length-d.length));have vq:=FQ d (i-(p.length-d.length));have m2:=Zb gb gq (by omega);have f1:Bv (Kd+J) (L (cn (top d))*L ((p.map cn).getD i z0)):=ga.fits.mul gp.fits;have f2:Bv (J+Kd) (L (cn b)*L ((d.map cn).getD (i-(p.length-d.length)) z0)):=gb.fits.mul gq.fits;have m3:=Azv (B4 f1) (B4 f2) (by omega) (by omega);rw[A6 (L (cn (top d))*_),A6 (L (cn b)*L ((d.map cn).getD (i-(p.length-d.length)) z0))] at m3;have k:=Ahi (p.map cn) (d.map cn) (cn (top d)) k os (cn b) ((p.length-d.length:Nat):Int) i (pc ((Aq i).map fun j=>cn (PX p d (top d) b j))) (i:Nat) (by rw[e1,decide_eq_true_eq];omega) (by rw[decide_eq_true_eq];omega) (by omega) (by rw[ea];omega) (by omega)
    (by rw[R];exact m1) (by rw[ea,R];exact m2) (by rw[ea,R,R];exact m3)
   refine k.to rfl ?_;rw[ea,R,R,ei];rw[<- Gh (PX p d (top d) b) i];unfold PX;rw[if_pos hat,va,u,A6,vq]
  ·have k:=Ahj (p.map cn) (d.map cn) (cn (top d)) k os (cn b) ((p.length-d.length:Nat):Int) i (pc ((Aq i).map fun j=>cn (PX p d (top d) b j))) (i:Nat) (by rw[e1,decide_eq_true_eq];omega) (by rw[decide_eq_false_iff_not];omega) (by omega) (by omega)
    (by rw[R];exact m1)
   refine k.to rfl ?_;rw[R,ei];rw[<- Gh (PX p d (top d) b) i];unfold PX;rw[if_neg hat,va,u]
 ·show CE _ _ (Ih _ _ _ _ _ _ _ _ (pc ((Aq (p.length-1)).map fun j=>cn (PX p d (top d) b j))) _) _ _;rw[oS];exact Ahk _ _ _ _ _ _ _ _ _ _ (by rw[e1,decide_eq_false_iff_not];omega)
end
theorem oW{d:LI}{Kd:Nat}(hd:Kb Kd d)(hd0:d ≠ []):∀ (f:Nat) (r out:LI) (J:Nat),r.length<=f->Kb J r->Kb J out->J+(r.length+1-d.length)*(Kd+1)<1000000->r.length+1<=out.length+d.length->out.length<=1048576->r.length<=1048576 ->
  (∃ r',Ap (.loop Yf) (Ty (r.map cn) (d.map cn) (cn (top d)) out.length (out.map cn)) (.exit 0) (Ty r' (d.map cn) (cn (top d)) out.length ((M8 d f r out).map cn)))/\Kb (J+(r.length+1-d.length)*(Kd+1)) (M8 d f r out)/\(M8 d f r out).length=out.length:=by
 have hdl:=Ak.2 hd0;have hld:(d.map cn).length=d.length:=Q ..;intro f;induction f with
 | zero =>
  intro r out J hf _ ho _ _ _ _;exact⟨⟨_,Ah (nT (r.map cn) (d.map cn) (cn (top d)) out.length (out.map cn) (by rw[decide_eq_false_iff_not,Q,Q];omega))⟩,ho.mono (Si _ _),rfl⟩
 | succ f ih =>
  intro r out J hf hJ ho hS hlo hN1 hN;have hlm:(r.map cn).length=r.length:=Q ..;simp only[M8];split
  ·rename_i hl;have e1:I O ((((r.map cn).length:Nat):Int)-1)=((r.length-1:Nat):Int):=by rw[hlm,Bg (by omega) (by omega)];omega
   have e2:I O ((((r.map cn).length:Nat):Int)-(((d.map cn).length:Nat):Int))=((r.length-d.length:Nat):Int):=by rw[hlm,hld,Bg (by omega) (by omega)];omega
   have hlen:=Oi hd0 hl;have e:((Y (CQ r d (top d) (top r) (r.length-1))).length+1-d.length)+1<=r.length+1-d.length:=by omega
   have hmul:=AJ (Kd+1) e;rw[DE,FL] at hmul;have hsz:J+Kd+1<1000000:=by omega
   have kE:Kb (J+Kd+1) (CQ r d (top d) (top r) (r.length-1)):=Uv hJ hd (Fa hd) (Fa hJ) _;have hlE:=ED r d (top d) (top r) (r.length-1);have hps:=V7 ho (Fa hd);have ht:=EX (rs:=(CQ r d (top d) (top r) (r.length-1)).map cn) (fun x hx=>(AR kE x hx).mono (by omega)) (by rw[Q];omega);(first|rw[s,Q,hlE] at ht|(rw[s] at ht;unfold sL at ht;rw[Q,hlE] at ht));have hu:(r.map cn).getD (r.length-1) z0=cn (top r):=FG (by omega);have hset:((As (top d) out).map cn).set (r.length-d.length) (cn (top r))=((As (top d) out).set (r.length-d.length) (top r)).map cn:=by rw[Qc]
   obtain⟨⟨r',hr'⟩,kb,len⟩:=ih (Y (CQ r d (top d) (top r) (r.length-1))) ((As (top d) out).set (r.length-d.length) (top r)) (J+Kd+1) (by omega) kE.trim (Aci (hps.mono (by omega)) ((Fa hJ).mono (by omega)) _) (by omega) (by rw[Ba,y];omega) (by rw[Ba,y];exact hN1) (by omega);rw[Ba,y] at hr' len;refine⟨⟨r',CE.loop ?_ hr'⟩,kb.mono (by omega),len⟩;have k:=Ayr (r.map cn) (d.map cn) (cn (top d)) out.length (out.map cn) ((As (top d) out).map cn) ((CQ r d (top d) (top r) (r.length-1)).map cn) _ (r.length-1) (out.length:Nat) ((r.length-1:Nat):Int) (by rw[decide_eq_true_eq];omega) (by rw[e1];omega)
    (by rw[e1,e2,R,hu];exact Azw ho (Fa hd) (by omega) hN1) (by rw[e2];omega) (by rw[Q,y])
    (by rw[e1,e2,R,R,hu];exact Azx hJ hd (Fa hJ) hsz hd0 hl hN) (EN ht)
   rw[e1,e2,R,R,hu,hset] at k;exact k
  ·rename_i hl;exact⟨⟨_,Ah (nT (r.map cn) (d.map cn) (cn (top d)) out.length (out.map cn) (by rw[decide_eq_false_iff_not,Q,Q];omega))⟩,ho.mono (Si _ _),rfl⟩
theorem xW{p q:LI}{J K:Nat}(hp:Kb J p)(hq:Kb K q)(lp:BH p)(lq:BH q)(hq0:q ≠ [])(tq:0<top q)(tp:0<top p)(hl:q.length<=p.length)(hN:p.length<=1000000)(hS:J+(p.length+1-q.length)*(K+1)<1000000) :
  RQ 123 [H (p.map cn).length (pc (p.map cn)),H (q.map cn).length (pc (q.map cn))] (oP (prim (M8 q p.length p (l (p.length-q.length+1) 0)))):=by
 have hql:=Ak.2 hq0;have hlp:(p.map cn).length=p.length:=Q ..;have hlq:(q.map cn).length=q.length:=Q ..;have h1:1*(K+1)<=(p.length+1-q.length)*(K+1):=AJ _ (by omega);have t1:=EX (rs:=p.map cn) (fun r h=>(AR hp r h).mono (show J<=1048576 by omega)) (by omega);have t2:=EX (rs:=q.map cn) (fun r h=>(AR hq r h).mono (show K<=1048576 by omega)) (by omega);rw[s,lp] at t1;rw[s,lq] at t2;have hz:(l (p.length-q.length+1) (0:Int)).map cn=l (p.length-q.length+1) z0:=by rw[AEj,Azu]
 obtain⟨⟨r',hlp2⟩,kb,len⟩:=oW hq hq0 p.length p (l (p.length-q.length+1) 0) J (Ao _) hp (fun i=>by rw[DQ];exact HP _) hS (by simp;omega) (by simp;omega) (by omega);rw[Ew] at hlp2 len;obtain⟨c',r1,a1,a2,_,a4⟩:=Re (p:=p) hq0 tq hl;have tO:=cY a1 tp hq0 tq hl len a4 a2;generalize M8 q p.length p (l (p.length-q.length+1) 0)=o at *
 have e1:I O ((((q.map cn).length:Nat):Int)-1)=((q.length-1:Nat):Int):=by rw[hlq,Bg (by omega) (by omega)];omega
 have e2:I O (I O ((((p.map cn).length:Nat):Int)-(((q.map cn).length:Nat):Int))+1)=((p.length-q.length+1:Nat):Int):=by
  rw[hlp,hlq,Bg (n:=(p.length:Int)-(q.length:Nat)) (by omega) (by omega),Bg (by omega) (by omega)];omega
 have t3:=EX (rs:=o.map cn) (fun r h=>(AR kb r h).mono (by omega)) (by rw[Q];omega);(first|rw[s,Q,len] at t3|(rw[s] at t3;unfold sL at t3;rw[Q,len] at t3));have htl:=BA o;have p3:=IX (rs:=(Y o).map cn) (AR kb.trim) (by omega) (by rw[Q];omega);rw[s,Oh (Dl o)] at p3;have hpl:(prim o).length<=o.length:=by rw[Cg];exact htl
 have hps:=(Pv (p:=prim o) kb.prim (C2 o) (by omega) (by omega)).2 (by have:=SB tO;omega);exact Ays (p.map cn) (q.map cn) (p.map cn) (q.map cn) r' (o.map cn) _ _ (cn (top q)) (p.length-q.length+1) (EN t1) (EN t2) (by rw[e1,hlq];omega) (by rw[e2];omega)
  (by rw[e1,e2,R,R,QO,<- hz,FG (show q.length-1<q.length by omega)];exact hlp2) (EN t3) (EN p3) hps
theorem Aij{p:LI}{c:Int}(hc:0<c)(hp:prim p=p)(hl:1<=p.length):prim (M8 [c] p.length p (l (p.length-1+1) 0))=p:=by
 obtain⟨c',r',a1,a2,_,a4⟩:=Re (p:=p) (d:=[c]) (by simp) (show 0<top [c] from hc) hl;have lq:BH [c]:=Uu (.inr (by show c ≠ 0;omega));have h:=Ux a1 hc (Uw (o2:=p) (r2:=[]) (c2:=c) lq (by simp) a4 (fun x=>by simp[Aa]) a2 (fun i _=>rfl));rw[hp] at h;exact h
theorem U5{rs:List Rn}{K c:Nat}(hr:∀ r∈rs,AU K r)(hn:rs.length<=c)(hc:c<=9)(hS:(K+3)*(2*3^c)<=500000):RQ 73 [sL pc rs] (oP (S (N rs))):=by
 have h3:0<3^c:=DH (by decide);have hK:K+3<=250000:=by
  have:(K+3)*2<=(K+3)*(2*3^c):=z _ (by omega);omega
 have p1:=EN (IX hr (by omega) (by omega));have k1:Kb K (prim (N rs)):=(J8 (Dk hr)).prim;have l1:(prim (N rs)).length<=rs.length:=by rw[Cg];have:=BA (N rs);rwa [AW] at this
 obtain⟨q1,q2⟩:=Pv k1 (C2 _) (by omega) (by omega);have ka:Kb K (j (prim (N rs))):=by
  unfold j;split
  ·intro i;rw[HQ];exact (k1 i).neg
  ·exact k1
 have la:=LL (prim (N rs));have lda:BH (j (prim (N rs))):=Po (C2 _);have hpp:(¬ top (prim (N rs))<0)->j (prim (N rs))=prim (N rs):=RV;have hder:=dB (rs:=(j (prim (N rs))).map cn) (AR ka) (by omega) (by rw[Q];omega);rw[s] at hder;have hder':=EN hder;have kd:Kb (K+2) (At (j (prim (N rs)))):=Za ka (by omega);have ld:(At (j (prim (N rs)))).length<=c:=by have:=V6 (j (prim (N rs)));omega
 have hcom:=U4 (rs:=(j (prim (N rs))).map cn) (ss:=(At (j (prim (N rs)))).map cn) (K:=K+2) (c:=c) (fun r h=>(AR ka r h).mono (by omega)) (AR kd) (by rw[Q];omega) (by rw[Q];exact ld) (by omega) hS;rw[s,s] at hcom;change Pr 70 _ (B5 (j (prim (N rs))) (At (j (prim (N rs))))) at hcom;have hover:2<=(j (prim (N rs))).length->RQ 123 [H ((j (prim (N rs))).map cn).length (pc ((j (prim (N rs))).map cn)),H ((B5 (j (prim (N rs))) (At (j (prim (N rs))))).map cn).length (pc ((B5 (j (prim (N rs))) (At (j (prim (N rs))))).map cn))] (oP (S (N rs))):=by
  intro h2;have hp0:Y (N rs) ≠ []:=by
   intro h0;have:prim (N rs)=[]:=DY.2 (Dn.1 h0);rw[this] at h2;exact absurd h2 (by decide)
  obtain⟨a1,a2,a3,a4,_,_⟩:=Rh hp0;have hta:Y (j (prim (N rs))) ≠ []:=By a1 a2;obtain⟨b1,b2⟩:=oJ (t:=At (j (prim (N rs)))) hta (by omega) ka;rw[a1] at b2;have nG:=Gi (t:=At (j (prim (N rs)))) hta;have lG:=D0 (j (prim (N rs))) (At (j (prim (N rs))));have tG:=Km (t:=At (j (prim (N rs)))) hta;have h:=xW ka b1 lda lG nG tG a4 b2 (by omega) (by
   have h4:(j (prim (N rs))).length+1-(B5 (j (prim (N rs))) (At (j (prim (N rs))))).length<=10:=by omega
   have h5:=AJ (K+3+1) h4;have h6:3^2<=3^c:=BM (by decide) (by omega);have h7:(K+3)*18<=(K+3)*(2*3^c):=z _ (by omega);omega)
  have e:prim (M8 (B5 (j (prim (N rs))) (At (j (prim (N rs))))) (j (prim (N rs))).length (j (prim (N rs))) (l ((j (prim (N rs))).length-(B5 (j (prim (N rs))) (At (j (prim (N rs))))).length+1) 0))=S (N rs):=by
   unfold S;by_cases hg:(B5 (j (prim (N rs))) (At (j (prim (N rs))))).length<2
   ·rw[if_pos (.inr hg)];have hgl:=Ak.2 nG;obtain⟨c,hc⟩:=On (show (B5 (j (prim (N rs))) (At (j (prim (N rs))))).length=1 by omega);rw[hc] at tG |-;exact Aij tG (KA a1 a3) (by omega)
   ·rw[if_neg (by omega)];exact (Azl lG nG tG b2).symm
  rw[e] at h;exact h
 by_cases hs:(j (prim (N rs))).length<2
 ·have e:S (N rs)=j (prim (N rs)):=by unfold S;rw[if_pos (.inl hs)]
  rw[e];by_cases ht:top (prim (N rs))<0
  ·exact gW rs _ _ (by rw[decide_eq_true_eq,Q];omega) p1 (q1 ht)
  ·rw[hpp ht] at hs |-;exact hH rs _ (by rw[decide_eq_true_eq,Q];omega) p1 (q2 ht)
 ·have hover:=hover (by omega);by_cases ht:top (prim (N rs))<0
  ·rcases hcom with h | h
   ·exact gX rs _ _ _ _ _ (by rw[decide_eq_false_iff_not,Q];omega) p1 (q1 ht) hder' h hover
   ·exact gY rs _ _ _ _ _ (by rw[decide_eq_false_iff_not,Q];omega) p1 (q1 ht) hder' h hover
  ·rw[hpp ht] at *
   rcases hcom with h | h
   ·exact gZ rs _ _ _ _ (by rw[decide_eq_false_iff_not,Q];omega) p1 (q2 ht) hder' h hover
   ·exact iA rs _ _ _ _ (by rw[decide_eq_false_iff_not,Q];omega) p1 (q2 ht) hder' h hover
def Ef:Nat->LI->LI->List (LI)
 | 0,_,_=>[]
 | f+1,a,b=>if b=[] then [] else b::Ef f b (Cp (BC a b))
def BR(p:LI):List (LI):=if S p=[] then [] else S p::Ef (S p).length (S p) (prim (At (S p)))
theorem Lx{p:LI}(h:prim p=p):prim (Cp p)=Cp p:=by
 by_cases h0:p=[]
 ·subst h0;rfl
 ·have hl:BH p:=C6 h;have h1:=M7 (xs:=p) (by rw[hl];exact h0);rw[h] at h1;exact KA (IZ hl) (by rw[YX];exact h1)
theorem Zd{K:Nat}{p:LI}(h:Kb K p):Kb K (Cp p):=fun i=>by rw [HQ];exact (h i).neg
def Cd(l:List (LI)):List (List Rn):=l.map fun p=>p.map cn
theorem oX(ls:List (List Rn))(rs:List Rn):pp ls++([sL pc rs]:List AV)=pp (ls++[rs]):=by simp [pp]
def oY(p:LI):Prop:=Kb 500000 p/\p.length<=9/\BH p
theorem iL:∀ (f:Nat) (x y:LI) (M:Nat),0<M->y.length<=x.length->x.length<=9->prim x=x->prim y=y->Kb (M-1) x->Kb (M-1) y->M*Kk x.length y.length<=500000 ->
  ∀ p∈Ef f x y,oY p:=by
 intro f;induction f with
 | zero=>intro x y M _ _ _ _ _ _ _ _ p hp;cases hp
 | succ f ih =>
  intro x y M hM h2 h3 px py kx ky hphi p hp;simp only[Ef] at hp;split at hp
  ·cases hp
  ·rename_i h;obtain⟨r1,r2,r3⟩:=Mc hM (C6 px) h kx ky h2;have hM':0<M*(x.length-y.length+2):=GS hM (by omega);have hMle:M<=M*(x.length-y.length+2):=C7 M (by omega);have hb:M*1<=M*Kk x.length y.length:=z _ (by unfold Kk;exact GS (by omega) (DH (by decide)));rcases BD.1 hp with rfl | hp
   ·exact⟨ky.mono (by omega),by omega,C6 py⟩
   ·exact ih y (Cp (BC x y)) (M*(x.length-y.length+2)) hM' (by rw[El];omega) (by omega) py (Lx (Jh _ _ _ px)) (ky.mono (by omega)) (Zd r3) (by rw[El];exact Md r2 hphi) p hp
theorem WF:∀ (f:Nat) (x y:LI),(Ef f x y).length<=f
 | 0,_,_=>Ao _
 | f+1,x,y=>by
  simp only[Ef];split
  ·simp
  ·have:=WF f y (Cp (BC x y));simp;omega
theorem oZ:∀ (f:Nat) (x y:LI) (M:Nat) (ls:List (List Rn)),0<M->y.length<=f->y.length<=x.length->x.length<=9->prim x=x->prim y=y->Kb (M-1) x->Kb (M-1) y->M*Kk x.length y.length<=500000->ls.length+f<=1000 ->
  ∃ as' bs',Ap (.loop Yp) (S9 (x.map cn) ls.length (pp ls) (y.map cn)) (.exit 0) (S9 as' (ls++Cd (Ef f x y)).length (pp (ls++Cd (Ef f x y))) bs'):=by
 intro f;induction f with
 | zero =>
  intro x y M ls _ h1 _ _ _ _ _ _ _ _;have:y=[]:=A5 (by omega);subst this;have e:ls++Cd (Ef 0 x [])=ls:=by simp[Cd,Ef]
  rw[e];exact⟨_,_,Ah (Acd _ _ _ _ (by simp))⟩
 | succ f ih =>
  intro x y M ls hM h1 h2 h3 px py kx ky hphi hls;simp only[Ef];split
  ·rename_i h;subst h;have e:ls++Cd []=ls:=by simp[Cd]
   rw[e];exact⟨_,_,Ah (Acd _ _ _ _ (by simp))⟩
  ·rename_i h;have hyl:=Ak.2 h;obtain⟨r1,r2,r3⟩:=Mc hM (C6 px) h kx ky h2;have hM':0<M*(x.length-y.length+2):=GS hM (by omega);have hMle:M<=M*(x.length-y.length+2):=C7 M (by omega);have hbig:M*(x.length-y.length+2)<=500000:=by
    refine Bm (z _ ?_) hphi;unfold Kk;exact C7 _ (DH (by decide))
   have hrem:=Lw (rs:=x.map cn) (ss:=y.map cn) (AR kx) (AR ky) (by omega) (by omega) (by rw[Q];omega) (by rw[Q];omega) (by rw[s,py];exact h) (by
    rw[s,s,px,py,Nr hM,show x.length+1-y.length=x.length-y.length+1 by omega,CY _ M];have:M*(x.length-y.length+2)=M*(x.length-y.length+1)+M:=by rw[<- Sh]
    omega)
   rw[s,s,px,py] at hrem;have hneg:=M6 (rs:=(BC x y).map cn) (fun r hr=>(AR r3 r hr).mono (by omega)) (by rw[Q];omega);rw[s] at hneg;have hneg':RQ 117 [H ((BC x y).map cn).length (pc ((BC x y).map cn))] (P 2 ((Cp (BC x y)).map cn).length (pc ((Cp (BC x y)).map cn))):=by
    have e:((Cp (BC x y)).map cn).length=((BC x y).map cn).length:=by rw[Q,Q,El]
    rw[e];exact hneg
   have k:=A5o (x.map cn) ls.length (pp ls) (y.map cn) _ _ (by simp;omega) (by omega) (EN hrem) hneg';rw[oX] at k;obtain⟨as',bs',hb⟩:=ih y (Cp (BC x y)) (M*(x.length-y.length+2)) (ls++[y.map cn]) hM' (by rw[El];omega) (by rw[El];omega) (by omega) py (Lx (Jh _ _ _ px)) (ky.mono (by omega)) (Zd r3) (by rw[El];exact Md r2 hphi) (by rw[AY];simp;omega);have e:ls++[y.map cn]++Cd (Ef f y (Cp (BC x y)))=ls++Cd (y::Ef f y (Cp (BC x y))):=by simp[Cd]
   rw[e] at hb;have el:(ls++[y.map cn]).length=ls.length+1:=by simp
   rw[el] at hb;exact⟨as',bs',CE.loop k hb⟩
theorem LM{rs:List Rn}(hr:∀ r∈rs,AU 5 r)(hn:rs.length<=9)(h0:S (N rs) ≠ []) :
  prim (S (N rs))=S (N rs)/\Kb 10 (S (N rs))/\Kb 10 (At (S (N rs)))/\(S (N rs)).length<=9/\(At (S (N rs))).length<=(S (N rs)).length-1/\(prim (At (S (N rs)))).length<=(At (S (N rs))).length /\
  11*Kk (S (N rs)).length (prim (At (S (N rs)))).length<=500000/\BH (S (N rs)):=by
 have ht:Y (N rs) ≠ []:=by
  intro h;have hz:prim (N rs)=[]:=by rw[DY,<- Dn];exact h
  apply h0;unfold S;rw[hz];rfl
 obtain⟨lf,cf,_,_,_,_,_,_⟩:=Ci ht;obtain⟨k1,k2⟩:=Aig ht (by rw[AW];exact hn) (J8 (Dk hr));have t1:=BA (N rs);rw[AW] at t1;have k3:=Za k1 (by omega);have d1:(At (S (N rs))).length<=(S (N rs)).length-1:=by
  unfold At;have:=BA ((Aq ((S (N rs)).length-1)).map fun j=>(S (N rs)).getD (j+1) 0*((j+1:Nat):Int));rwa [Q,BE] at this
 have d2:(prim (At (S (N rs)))).length<=(At (S (N rs))).length:=by rw[Cg];exact BA _
 refine⟨KA lf cf,k1.mono (by omega),k3.mono (by omega),by omega,d1,d2,?_,lf⟩;have:=Rc (n:=(S (N rs)).length) (m:=(prim (At (S (N rs)))).length) (c:=9) (by omega) (by omega);have h3:2*3^9=39366:=by decide
 omega
theorem Pw{rs:List Rn}(hr:∀ r∈rs,AU 5 r)(hn:rs.length<=9):∀ p∈BR (N rs),oY p:=by
 intro p hp;unfold BR at hp;split at hp
 ·cases hp
 ·rename_i h0;obtain⟨p1,k1,k2,l1,l2,l3,hphi,lf⟩:=LM hr hn h0;rcases BD.1 hp with rfl | hp
  ·exact⟨k1.mono (by omega),l1,lf⟩
  ·exact iL _ _ _ 11 (by decide) (by omega) l1 p1 (Ch _) k1 k2.prim hphi p hp
theorem Nx{rs:List Rn}(hr:∀ r∈rs,AU 5 r)(hn:rs.length<=9):(BR (N rs)).length<=10:=by
 unfold BR;split
 ·simp
 ·rename_i h0;obtain⟨_,_,_,l1,_⟩:=LM hr hn h0;have:=WF (S (N rs)).length (S (N rs)) (prim (At (S (N rs))));simp;omega
theorem WG{rs:List Rn}(hr:∀ r∈rs,AU 5 r)(hn:rs.length<=9):RQ 67 [sL pc rs] (P 1 (Cd (BR (N rs))).length (pp (Cd (BR (N rs))))):=by
 have hf:=xU hr hn (by omega) (by decide);by_cases h0:S (N rs)=[]
 ·have e:BR (N rs)=[]:=by unfold BR;rw[if_pos h0]
  rw[e];rw[h0] at hf;rcases hf with h | h
  ·exact nI rs [] (by decide) h
  ·exact nN rs [] (by decide) h
 ·obtain⟨p1,k1,k2,l1,l2,l3,hphi,lf⟩:=LM hr hn h0;have e:BR (N rs)=S (N rs)::Ef (S (N rs)).length (S (N rs)) (prim (At (S (N rs)))):=by unfold BR;rw[if_neg h0]
  have hd:=SC (rs:=(S (N rs)).map cn) (AR k1) (by omega) (by rw[Q];omega);rw[s] at hd;have hp:=EL (rs:=(At (S (N rs))).map cn) (AR k2) (by omega) (by rw[Q];omega);rw[s] at hp;obtain⟨as',bs',hl⟩:=oZ (S (N rs)).length (S (N rs)) (prim (At (S (N rs)))) 11 [(S (N rs)).map cn] (by decide) (by omega) (by omega) l1 p1 (Ch _) k1 k2.prim hphi (by simp;omega);have e2:[(S (N rs)).map cn]++Cd (Ef (S (N rs)).length (S (N rs)) (prim (At (S (N rs)))))=Cd (BR (N rs)):=by rw[e];simp[Cd]
  rw[e2] at hl;have c1:(((((S (N rs)).map cn).length:Nat):Int)==0)=false:=by
   rw[beq_eq_false_iff_ne,Q];have:=Ak.2 h0;omega
  rcases hf with h | h
  ·exact nJ rs _ _ _ as' bs' _ c1 h (EN hd) (EN hp) hl
  ·exact nO rs _ _ _ as' bs' _ c1 h (EN hd) (EN hp) hl
theorem xX(ls:List (List Rn))(us bs:List Rn){n:Nat}(hn:n=ls.length+2)(hN:n<=1048576):Bj (pp (ls++[us])++([sL pc bs]:List AV)) (D (I O ((n:Int)-2))*1) 1 true=some (sL pc us):=by
 have e:D (I O ((n:Int)-2))*1=ls.length:=by rw[Bg (by omega) (by omega)];omega
 rw[e];simp only[Bj,if_true];rw[AZ (by simp[pp])];simp[pp]
theorem iM:∀ (f:Nat) (x y:LI) (M:Nat) (ls:List (List Rn)),0<M->y.length<=f->y.length<=x.length->x.length<=9->prim x=x->prim y=y->Kb (M-1) x->Kb (M-1) y->M*Kk x.length y.length<=500000->ls.length+f<=1000 ->
  ∃ bs',Ap (.loop Ya) (QX (ls.length+1) (pp (ls++[x.map cn])) (y.map cn)) (.exit 0) (QX (ls++[x.map cn]++Cd (Ef f x y)).length (pp (ls++[x.map cn]++Cd (Ef f x y))) bs'):=by
 intro f;induction f with
 | zero =>
  intro x y M ls _ h1 _ _ _ _ _ _ _ _;have:y=[]:=A5 (by omega);subst this;have e:ls++[x.map cn]++Cd (Ef 0 x [])=ls++[x.map cn]:=by simp[Cd,Ef]
  rw[e,AY];exact⟨_,Ah (nP _ _ _ (by simp))⟩
 | succ f ih =>
  intro x y M ls hM h1 h2 h3 px py kx ky hphi hls;simp only[Ef];split
  ·rename_i h;subst h;have e:ls++[x.map cn]++Cd []=ls++[x.map cn]:=by simp[Cd]
   rw[e,AY];exact⟨_,Ah (nP _ _ _ (by simp))⟩
  ·rename_i h;have hyl:=Ak.2 h;obtain⟨r1,r2,r3⟩:=Mc hM (C6 px) h kx ky h2;have hM':0<M*(x.length-y.length+2):=GS hM (by omega);have hMle:M<=M*(x.length-y.length+2):=C7 M (by omega);have hbig:M*(x.length-y.length+2)<=500000:=by
    refine Bm (z _ ?_) hphi;unfold Kk;exact C7 _ (DH (by decide))
   have hrem:=T3 (rs:=x.map cn) (ss:=y.map cn) (AR kx) (AR ky) (by omega) (by omega) (by rw[Q];omega) (by rw[Q];omega) (by rw[s,C6 py];exact h) (by
    rw[s,s,C6 px,C6 py,Nr hM,show x.length+1-y.length=x.length-y.length+1 by omega,CY _ M];have:M*(x.length-y.length+2)=M*(x.length-y.length+1)+M:=by rw[<- Sh]
    omega)
   rw[s,s,px,py] at hrem;have hneg:=dC (rs:=(BC x y).map cn) (fun r hr=>(AR r3 r hr).mono (by omega)) (by rw[Q];omega);rw[s,IZ r1] at hneg;have hls1:(ls++[x.map cn]).length=ls.length+1:=by simp
   have e2:I O ((((ls.length+1+1):Nat):Int)-2)=(ls.length:Int):=by rw[Bg (by omega) (by omega)];omega
   have k:=Axw (ls.length+1) (pp (ls++[x.map cn])) (y.map cn) (x.map cn) ((BC x y).map cn) _ (by simp;omega) (by omega) (by rw[e2];omega) (xX ls (x.map cn) (y.map cn) (by omega) (by omega)) hrem (EN hneg);rw[oX] at k;obtain⟨bs',hb⟩:=ih y (Cp (BC x y)) (M*(x.length-y.length+2)) (ls++[x.map cn]) hM' (by rw[El];omega) (by rw[El];omega) (by omega) py (Lx (Jh _ _ _ px)) (ky.mono (by omega)) (Zd r3) (by rw[El];exact Md r2 hphi) (by rw[hls1];omega);have e:ls++[x.map cn]++[y.map cn]++Cd (Ef f y (Cp (BC x y)))=ls++[x.map cn]++Cd (y::Ef f y (Cp (BC x y))):=by simp[Cd]
   (first|rw[e,hls1] at hb|(rw[e] at hb;unfold sL at hb;rw[hls1] at hb));exact⟨bs',CE.loop k hb⟩
theorem pC{rs:List Rn}(hr:∀ r∈rs,AU 5 r)(hn:rs.length<=9):RQ 108 [sL pc rs] (P 1 (Cd (BR (N rs))).length (pp (Cd (BR (N rs))))):=by
 have hf:=U5 hr hn (by omega) (by decide);by_cases h0:S (N rs)=[]
 ·have e:BR (N rs)=[]:=by unfold BR;rw[if_pos h0]
  rw[e];rw[h0] at hf;exact wT rs [] (by decide) hf
 ·obtain⟨p1,k1,k2,l1,l2,l3,hphi,lf⟩:=LM hr hn h0;have e:BR (N rs)=S (N rs)::Ef (S (N rs)).length (S (N rs)) (prim (At (S (N rs)))):=by unfold BR;rw[if_neg h0]
  have hd:=dB (rs:=(S (N rs)).map cn) (AR k1) (by omega) (by rw[Q];omega);rw[s] at hd;have hp:=IX (rs:=(At (S (N rs))).map cn) (AR k2) (by omega) (by rw[Q];omega);rw[s] at hp;obtain⟨bs',hl⟩:=iM (S (N rs)).length (S (N rs)) (prim (At (S (N rs)))) 11 [] (by decide) (by omega) (by omega) l1 p1 (Ch _) k1 k2.prim hphi (by simp;omega);have e2:[]++[(S (N rs)).map cn]++Cd (Ef (S (N rs)).length (S (N rs)) (prim (At (S (N rs)))))=Cd (BR (N rs)):=by rw[e];simp[Cd]
  rw[e2] at hl;have c1:(((((S (N rs)).map cn).length:Nat):Int)==0)=false:=by
   rw[beq_eq_false_iff_ne,Q];have:=Ak.2 h0;omega
  exact wU rs _ _ _ bs' _ c1 hf (EN hd) (EN hp) hl
def T4(x:Int × Int)(s:Int):Int × Int:=(if s ≠ 0/\x.2 ≠ 0/\s ≠ x.2 then x.1+1 else x.1,if s ≠ 0 then s else x.2)
def Ji(l:List (LI))(N:Int)(e:Nat)(i:Nat):Int:=BQ (hv (l.getD i []) N (2^e))
def Cm(l:List (LI))(N:Int)(e:Nat):Nat->Int × Int
 | 0=>(0,0)
 | i+1=>T4 (Cm l N e i) (Ji l N e i)
theorem Me(l:List (LI))(N:Int)(e:Nat):∀ i:Nat,0<=(Cm l N e i).1/\(Cm l N e i).1<=(i:Int)
 | 0=>by simp[Cm]
 | i+1=>by
  have:=Me l N e i;simp only[Cm,T4];split <;> omega
theorem Oo{l:List (LI)}{i:Nat}(h:i<l.length):(Cd l).getD i []=(l.getD i []).map cn:=by
 unfold Cd;rw[Z,Cs,Z,Ad h];rfl
theorem GG(l:List (LI)):(Cd l).length=l.length:=Q ..
section
variable {l:List (LI)} {r:Rn} (hl:∀ p∈l,oY p) (hr:AU 300 r) (hN:l.length<=100) (e:Nat) (he:e<=8192)
include hl hr he
theorem A6g{i:Nat}(hi:i<l.length):RQ 65 [H ((Cd l).getD i []).length (pc ((Cd l).getD i [])),o [B r.1,H r.2.length (lm r.2),F O (e:Nat)]] (F O (Ji l (L r) e i)):=by
 rw[Oo hi];have hm:l.getD i []∈l:=by rw[Z,Ad hi];exact AM hi
 obtain⟨h1,h2,h3⟩:=hl _ hm;have h:=Us (rs:=(l.getD i []).map cn) (AR h1) hr e (by
  rw[Q];have h4:((l.getD i []).length+1)*(300+(e / 32+1)+1)<=10*560:=BG (by omega) (by omega);omega) (by omega)
 rw[s] at h;exact h
theorem Aik{i:Nat}(hi:i<l.length):∃ w:Int,RQ 80 [H ((Cd l).getD i []).length (pc ((Cd l).getD i [])),o [B r.1,H r.2.length (lm r.2)],F O (e:Nat)] (Ag w)/\RQ 79 [Ag w] (F O (Ji l (L r) e i)):=by
 rw[Oo hi];have hm:l.getD i []∈l:=by rw[Z,Ad hi];exact AM hi
 obtain⟨h1,h2,h3⟩:=hl _ hm;have hS:500000+2+(((l.getD i []).map cn).length+1)*(300+(e / 32+1)+1)<=1048576:=by
  rw[Q];have h4:((l.getD i []).length+1)*(300+(e / 32+1)+1)<=10*560:=BG (by omega) (by omega);omega
 have h:=W5 (rs:=(l.getD i []).map cn) (AR h1) hr e hS (by omega);rw[s,h3] at h;have hf:=YL (K:=500000) hr.fits e (ts:=l.getD i []) h1.mem;have hlen:(l.getD i []).length*(300+(e / 32+1)+1)<=9*560:=BG (by omega) (by omega);exact⟨_,h,cB (n:=hv (l.getD i []) (L r) (2^e)) (by have:=hf.len;omega)⟩
theorem J9(hN:l.length<=100):RQ 68 [H (Cd l).length (pp (Cd l)),o [B r.1,H r.2.length (lm r.2),F O (e:Nat)]] (F O (Cm l (L r) e l.length).1):=by
 have hpl:=GG l;have h:=CE.up (prog:=DK) (c:=Wk) (ex := .exit 0) (fin:=Nn (Cd l) r (e:Nat) (Cm l (L r) e l.length).1 (Cm l (L r) e l.length).2 (((Cd l).length:Nat):Int) (l.length:Nat))
  (fun i=>Nn (Cd l) r (e:Nat) (Cm l (L r) e i).1 (Cm l (L r) e i).2 (((Cd l).length:Nat):Int) (i:Nat)) l.length (by nofun) ?_ ?_ 0 (AN _)
 ·exact A5u (Cd l) r (e:Nat) _ _ _ h
 ·intro i hi;have ei:I O ((i:Int)+1)=((i+1:Nat):Int):=by rw[Bg (by omega) (by omega)];omega
  have hs:=A6g hl hr e he hi;have hb:=Me l (L r) e i;have w1:I O ((Cm l (L r) e i).1+1)=(Cm l (L r) e i).1+1:=Bg (by omega) (by omega);have c1:decide ((i:Int)<(((Cd l).length:Nat):Int))=true:=by rw[decide_eq_true_eq];omega
  simp only[Cm,T4];by_cases g1:Ji l (L r) e i=0
  ·rw[if_neg (fun h=>h.1 g1),if_neg (fun h=>h g1)];have k:=A5s (Cd l) r (e:Nat) (Cm l (L r) e i).1 (Cm l (L r) e i).2 (((Cd l).length:Nat):Int) (i:Nat) (Ji l (L r) e i) c1 (by rw[bne_eq_false_iff_eq];exact g1) (by omega) (by rw[R];exact hs);rwa [ei] at k
  ·by_cases g2:(Cm l (L r) e i).2=0
   ·rw[if_neg (fun h=>h.2.1 g2),if_pos g1];have k:=A5r (Cd l) r (e:Nat) (Cm l (L r) e i).1 (Cm l (L r) e i).2 (((Cd l).length:Nat):Int) (i:Nat) (Ji l (L r) e i) c1 (by rw[bne_iff_ne];exact g1) (by rw[bne_eq_false_iff_eq];exact g2) (by omega) (by rw[R];exact hs);rwa [ei] at k
   ·by_cases g3:Ji l (L r) e i=(Cm l (L r) e i).2
    ·rw[if_neg (fun h=>h.2.2 g3),if_pos g1];have k:=A5q (Cd l) r (e:Nat) (Cm l (L r) e i).1 (Cm l (L r) e i).2 (((Cd l).length:Nat):Int) (i:Nat) (Ji l (L r) e i) c1 (by rw[bne_iff_ne];exact g1) (by rw[bne_iff_ne];exact g2) (by rw[bne_eq_false_iff_eq];exact g3) (by omega) (by rw[R];exact hs);rwa [ei] at k
    ·rw[if_pos ⟨g1,g2,g3⟩,if_pos g1];have k:=A5p (Cd l) r (e:Nat) (Cm l (L r) e i).1 (Cm l (L r) e i).2 (((Cd l).length:Nat):Int) (i:Nat) (Ji l (L r) e i) c1 (by rw[bne_iff_ne];exact g1) (by rw[bne_iff_ne];exact g2) (by rw[bne_iff_ne];exact g3) (by omega) (by rw[R];exact hs);rwa [ei,w1] at k
 ·exact A5t (Cd l) r _ _ _ _ _ (by rw[decide_eq_false_iff_not];omega)
theorem dN(hN:l.length<=100):RQ 110 [H (Cd l).length (pp (Cd l)),o [B r.1,H r.2.length (lm r.2),F O (e:Nat)]] (F O (Cm l (L r) e l.length).1):=by
 have hpl:=GG l;have h:=CE.up (prog:=DK) (c:=Q5) (ex := .exit 0) (fin:=J6 (Cd l) r (e:Nat) (Cm l (L r) e l.length).1 (Cm l (L r) e l.length).2 (l.length:Nat))
  (fun i=>J6 (Cd l) r (e:Nat) (Cm l (L r) e i).1 (Cm l (L r) e i).2 (i:Nat)) l.length (by nofun) ?_ ?_ 0 (AN _)
 ·exact Ayc (Cd l) r (e:Nat) _ _ _ h
 ·intro i hi;have ei:I O ((i:Int)+1)=((i+1:Nat):Int):=by rw[Bg (by omega) (by omega)];omega
  obtain⟨w,hs,hs2⟩:=Aik hl hr e he hi;have hb:=Me l (L r) e i;have w1:I O ((Cm l (L r) e i).1+1)=(Cm l (L r) e i).1+1:=Bg (by omega) (by omega);have c1:decide ((i:Int)<(((Cd l).length:Nat):Int))=true:=by rw[decide_eq_true_eq];omega
  simp only[Cm,T4];by_cases g1:Ji l (L r) e i=0
  ·rw[if_neg (fun h=>h.1 g1),if_neg (fun h=>h g1)];have k:=Aya (Cd l) r (e:Nat) (Cm l (L r) e i).1 (Cm l (L r) e i).2 (i:Nat) w (Ji l (L r) e i) c1 (by rw[bne_eq_false_iff_eq];exact g1) (by omega) (by rw[R];exact hs) hs2;rwa [ei] at k
  ·by_cases g2:(Cm l (L r) e i).2=0
   ·rw[if_neg (fun h=>h.2.1 g2),if_pos g1];have k:=Axz (Cd l) r (e:Nat) (Cm l (L r) e i).1 (Cm l (L r) e i).2 (i:Nat) w (Ji l (L r) e i) c1 (by rw[bne_iff_ne];exact g1) (by rw[bne_eq_false_iff_eq];exact g2) (by omega) (by rw[R];exact hs) hs2;rwa [ei] at k
   ·by_cases g3:Ji l (L r) e i=(Cm l (L r) e i).2
    ·rw[if_neg (fun h=>h.2.2 g3),if_pos g1];have k:=Axy (Cd l) r (e:Nat) (Cm l (L r) e i).1 (Cm l (L r) e i).2 (i:Nat) w (Ji l (L r) e i) c1 (by rw[bne_iff_ne];exact g1) (by rw[bne_iff_ne];exact g2) (by rw[bne_eq_false_iff_eq];exact g3) (by omega) (by rw[R];exact hs) hs2;rwa [ei] at k
    ·rw[if_pos ⟨g1,g2,g3⟩,if_pos g1];have k:=Axx (Cd l) r (e:Nat) (Cm l (L r) e i).1 (Cm l (L r) e i).2 (i:Nat) w (Ji l (L r) e i) c1 (by rw[bne_iff_ne];exact g1) (by rw[bne_iff_ne];exact g2) (by rw[bne_iff_ne];exact g3) (by omega) (by rw[R];exact hs) hs2;rwa [ei,w1] at k
 ·exact Ayb (Cd l) r _ _ _ _ (by rw[decide_eq_false_iff_not];omega)
end
def TZB:C8:=TZA
theorem xY:Co DK TZB:=wV
theorem Ail(na nb:Bool)(xs ys:LI)(s t:Int)(c1:A (s<t)=true)(n1:RQ 79 [o [B na,sL lm xs]] (F O s))(n2:RQ 79 [o [B nb,sL lm ys]] (F O t)):RQ 83 [o [B na,sL lm xs],o [B nb,sL lm ys]] (F O (-1)):=i (fn:=iF Mv AAw) a rfl 400 rfl [.r (F O s),.r (F O t),bT] (JV n1 n2 c1)
theorem Aim(na nb:Bool)(xs ys:LI)(s t:Int)(c1:A (s<t)=false)(c2:A (s>t)=true)(n1:RQ 79 [o [B na,sL lm xs]] (F O s))(n2:RQ 79 [o [B nb,sL lm ys]] (F O t)):RQ 83 [o [B na,sL lm xs],o [B nb,sL lm ys]] (F O 1):=i (fn:=iF Mv AAw) a rfl 400 rfl [.r (F O s),.r (F O t),bF,bT] (JS n1 n2 c1 c2)
theorem Ain(na nb:Bool)(xs ys:LI)(s t c:Int)(c1:A (s<t)=false)(c2:A (s>t)=false)(c3:A (s<0)=true)(n1:RQ 79 [o [B na,sL lm xs]] (F O s))(n2:RQ 79 [o [B nb,sL lm ys]] (F O t))(n3:RQ 99 [sL lm xs] (P 1 ((Y xs).length) (lm (Y xs))))(n4:RQ 99 [sL lm ys] (P 1 ((Y ys).length) (lm (Y ys))))(n5:RQ 134 [H ((Y xs).length) (lm (Y xs)),H ((Y ys).length) (lm (Y ys))] (F O c)):RQ 83 [o [B na,sL lm xs],o [B nb,sL lm ys]] (F O (I O (0-c))):=i (fn:=iF Mv AAw) a rfl 400 rfl [.r (F O s),.r (F O t),bF,bF,.r (P 1 ((Y xs).length) (lm (Y xs))),.r (P 1 ((Y ys).length) (lm (Y ys))),.r (F O c),bT] (ND n1 n2 c1 c2 n3 n4 n5 c3)
theorem Aio(na nb:Bool)(xs ys:LI)(s t c:Int)(c1:A (s<t)=false)(c2:A (s>t)=false)(c3:A (s<0)=false)(n1:RQ 79 [o [B na,sL lm xs]] (F O s))(n2:RQ 79 [o [B nb,sL lm ys]] (F O t))(n3:RQ 99 [sL lm xs] (P 1 ((Y xs).length) (lm (Y xs))))(n4:RQ 99 [sL lm ys] (P 1 ((Y ys).length) (lm (Y ys))))(n5:RQ 134 [H ((Y xs).length) (lm (Y xs)),H ((Y ys).length) (lm (Y ys))] (F O c)):RQ 83 [o [B na,sL lm xs],o [B nb,sL lm ys]] (F O c):=i (fn:=iF Mv AAw) a rfl 400 rfl [.r (F O s),.r (F O t),bF,bF,.r (P 1 ((Y xs).length) (lm (Y xs))),.r (P 1 ((Y ys).length) (lm (Y ys))),.r (F O c),bF] (ND n1 n2 c1 c2 n3 n4 n5 c3)
theorem xZ(na nb m1 m2:Bool)(xs ys us vs:LI)(d:Int)(c1:(m1)=true)(c2:(m2)=true)(n1:RQ 143 [o [B na,sL lm xs]] (Ar [B m1,sL lm us]))(n2:RQ 143 [o [B nb,sL lm ys]] (Ar [B m2,sL lm vs]))(n3:RQ 151 [sL lm vs,sL lm us] (F O d)):RQ 103 [o [B na,sL lm xs],o [B nb,sL lm ys]] (F O d):=i (fn:=iF Mv Apj) a rfl 400 rfl [.r (Ar [B m1,sL lm us]),.r (Ar [B m2,sL lm vs]),bT,bF,bT,bF,bT,.r (F O d)] (ND n1 n2 c1 (N_ c2) c2 (N_ c1) c1 n3)
theorem yA(na nb m1 m2:Bool)(xs ys us vs:LI)(c1:(m1)=true)(c2:(m2)=false)(n1:RQ 143 [o [B na,sL lm xs]] (Ar [B m1,sL lm us]))(n2:RQ 143 [o [B nb,sL lm ys]] (Ar [B m2,sL lm vs])):RQ 103 [o [B na,sL lm xs],o [B nb,sL lm ys]] (F O (-1)):=i (fn:=iF Mv Apj) a rfl 400 rfl [.r (Ar [B m1,sL lm us]),.r (Ar [B m2,sL lm vs]),bT,bT] (JS n1 n2 c1 (Yx c2))
theorem yB(na nb m1 m2:Bool)(xs ys us vs:LI)(c1:(m1)=false)(c2:(m2)=true)(n1:RQ 143 [o [B na,sL lm xs]] (Ar [B m1,sL lm us]))(n2:RQ 143 [o [B nb,sL lm ys]] (Ar [B m2,sL lm vs])):RQ 103 [o [B na,sL lm xs],o [B nb,sL lm ys]] (F O 1):=i (fn:=iF Mv Apj) a rfl 400 rfl [.r (Ar [B m1,sL lm us]),.r (Ar [B m2,sL lm vs]),bF,bF,bT,bT] (JT n1 n2 c1 Fc c2 (Yx c1))
theorem yC(na nb m1 m2:Bool)(xs ys us vs:LI)(c:Int)(c1:(m1)=false)(c2:(m2)=false)(n1:RQ 143 [o [B na,sL lm xs]] (Ar [B m1,sL lm us]))(n2:RQ 143 [o [B nb,sL lm ys]] (Ar [B m2,sL lm vs]))(n3:RQ 151 [sL lm us,sL lm vs] (F O c)):RQ 103 [o [B na,sL lm xs],o [B nb,sL lm ys]] (F O c):=i (fn:=iF Mv Apj) a rfl 400 rfl [.r (Ar [B m1,sL lm us]),.r (Ar [B m2,sL lm vs]),bF,bF,bF,bF,bF,.r (F O c)] (ND n1 n2 c1 Fc c2 Fc c1 n3)
def MZ:ICode:=c Ass 91 500
def HC(m:Bool)(k:Int)(s:Int)(ms:LI)(lost:Bool)(i:Int):Aj:=(W 4 (Ay [B false,H 0 []]::(C (B m)::(C (sL lm ms)::(C (F O k)::(C (F U s)::(C (B lost)::(C (F O i)::(W 92 [])))))))))
theorem Aip(m:Bool)(k:Int)(s:Int)(ms:LI)(lost:Bool)(i:Int)(c1:A (i<k)=true)(c2:A (i<(ms.length:Int))=true)(c3:(lost)=false)(n1:0<=i/\i<(ms.length:Int)):Ap MZ (HC m k s ms lost i) .norm (HC m k s ms ((ms.getD (D i) 0) != 0) (I O (i+1))):=(J a [bT,bT,bF,.v (F Ae (ms.getD (D i) 0))] gA (JL c1 c2 c3 n1 (p n1)))
theorem Aiq(m:Bool)(k:Int)(s:Int)(ms:LI)(lost:Bool)(i:Int)(c1:A (i<k)=false):Ap MZ (HC m k s ms lost i) (.exit 0) (HC m k s ms lost i):=(J a [bF,bF] gA (J0 c1 Fc))
def LH:ICode:=c Ass 89 2036
def G6(m:Bool)(k:Int)(s:Int)(ms:LI)(lost:Bool)(n:Nat)(cs:List AV)(i:Int):Aj:=(W 4 (Ay [B false,H 0 []]::(C (B m)::(C (sL lm ms)::(C (F O k)::(C (F U s)::(C (B lost)::(W 1 (X 1 n cs::(C (F O i)::(W 90 [])))))))))))
theorem Air(m:Bool)(k:Int)(s:Int)(ms:LI)(lost:Bool)(n:Nat)(cs:List AV)(i:Int)(c1:A (i<(ms.length:Int))=true)(c2:A ((I O (i+1))<(ms.length:Int))=true)(n1:0<=i/\i<(ms.length:Int))(n2:0<=(I O (i+1))/\(I O (i+1))<(ms.length:Int))(n3:¬ s<0)(n4:n+1<=35184372088832):Ap LH (G6 m k s ms lost n cs i) .norm (G6 m k s ms lost (n+1) (cs++([F Ae (I Ae (d (I U ((T (An .u64) (I U (ms.getD (D i) 0)) ||| T (An .u64) (I U ((I U (ms.getD (D (I O (i+1))) 0))*2^(min (D 32) (An .u64))))).toNat)) (2^(min (D s) (An .u64)))))]:List AV)) (I O (i+1))):=(J a [bT,.v (F Ae (ms.getD (D i) 0)),bT,.v (F Ae (ms.getD (D (I O (i+1))) 0))] Yo (OS c1 n1 (p n1) c2 n2 (p n2) Jn n3 (show Bl ([F Ae (I Ae (d (I U ((T (An .u64) (I U (ms.getD (D i) 0)) ||| T (An .u64) (I U ((I U (ms.getD (D (I O (i+1))) 0))*2^(min (D 32) (An .u64))))).toNat)) (2^(min (D s) (An .u64)))))]:List AV)=1*1 from rfl) n4))
theorem Ais(m:Bool)(k:Int)(s:Int)(ms:LI)(lost:Bool)(n:Nat)(cs:List AV)(i:Int)(c1:A (i<(ms.length:Int))=true)(c2:A ((I O (i+1))<(ms.length:Int))=false)(n1:0<=i/\i<(ms.length:Int))(n2:¬ s<0)(n3:n+1<=35184372088832):Ap LH (G6 m k s ms lost n cs i) .norm (G6 m k s ms lost (n+1) (cs++([F Ae (I Ae (d (I U (ms.getD (D i) 0)) (2^(min (D s) (An .u64)))))]:List AV)) (I O (i+1))):=(J a [bT,.v (F Ae (ms.getD (D i) 0)),bF] Yo (Lm c1 n1 (p n1) c2 n2 (show Bl ([F Ae (I Ae (d (I U (ms.getD (D i) 0)) (2^(min (D s) (An .u64)))))]:List AV)=1*1 from rfl) n3))
theorem Ait(m:Bool)(k:Int)(s:Int)(ms:LI)(lost:Bool)(n:Nat)(cs:List AV)(i:Int)(c1:A (i<(ms.length:Int))=false):Ap LH (G6 m k s ms lost n cs i) (.exit 2) (G6 m k s ms lost n cs i):=(J a [bF] Yo (Jx c1))
theorem yD(neg m lost:Bool)(xs ms os:LI)(sh i1 i2 u:Int)(c1:A ((I O (Ax sh 32))<(ms.length:Int))=true)(c2:((I Ae ((T (An .u32) (ms.getD (D (I O (Ax sh 32))) 0) &&& T (An .u32) (I Ae ((I Ae (1*2^(min (D (I U (AB sh 32))) (An .u32))))-1))).toNat)) != 0)=false)(c3:(m)=true)(c4:(lost)=false)(n1:RQ 143 [o [B neg,sL lm xs]] (Ar [B m,sL lm ms]))(hl2:Ap (.loop MZ) (HC m (I O (Ax sh 32)) (I U (AB sh 32)) ms false 0) (.exit 0) (HC m (I O (Ax sh 32)) (I U (AB sh 32)) ms lost i1))(hl3:Ap (.loop LH) (G6 m (I O (Ax sh 32)) (I U (AB sh 32)) ms lost 0 ([]:List AV) (I O (Ax sh 32))) (.exit 2) (G6 m (I O (Ax sh 32)) (I U (AB sh 32)) ms lost os.length (lm os) i2))(n4:0<=(I O (Ax sh 32))/\(I O (Ax sh 32))<(ms.length:Int))(n5:¬ (I U (AB sh 32))<0)(n6:RQ 152 [B m,sL lm os] (Ag u)):RQ 163 [o [B neg,sL lm xs],F O sh] (Ag u):=OO Ass (W 4 (Ay [B (A (u<0)),H ((M (E u)).length) (lm (M (E u)))]::(W 98 []))) (CE.asc (CE.asc (CE.asc (Av (CE.seq (J a [.r (Ar [B m,sL lm ms])] gA (JV n1 G1 G1)) (CE.seq (CE.block hl2) (Av (CE.seq (J a [] Yo a0) (CE.seq (CE.block hl3) (J a [bT,.v (F Ae (ms.getD (D (I O (Ax sh 32))) 0)),bF,bT,bF,.r (Ag u)] [4] (ND c1 n4 (p n4) n5 c2 c3 c4 n6)))))))))))
theorem yE(neg m lost:Bool)(xs ms os:LI)(sh i1 i2 u:Int)(c1:A ((I O (Ax sh 32))<(ms.length:Int))=true)(c2:((I Ae ((T (An .u32) (ms.getD (D (I O (Ax sh 32))) 0) &&& T (An .u32) (I Ae ((I Ae (1*2^(min (D (I U (AB sh 32))) (An .u32))))-1))).toNat)) != 0)=false)(c3:(m)=false)(n1:RQ 143 [o [B neg,sL lm xs]] (Ar [B m,sL lm ms]))(hl2:Ap (.loop MZ) (HC m (I O (Ax sh 32)) (I U (AB sh 32)) ms false 0) (.exit 0) (HC m (I O (Ax sh 32)) (I U (AB sh 32)) ms lost i1))(hl3:Ap (.loop LH) (G6 m (I O (Ax sh 32)) (I U (AB sh 32)) ms lost 0 ([]:List AV) (I O (Ax sh 32))) (.exit 2) (G6 m (I O (Ax sh 32)) (I U (AB sh 32)) ms lost os.length (lm os) i2))(n4:0<=(I O (Ax sh 32))/\(I O (Ax sh 32))<(ms.length:Int))(n5:¬ (I U (AB sh 32))<0)(n6:RQ 152 [B m,sL lm os] (Ag u)):RQ 163 [o [B neg,sL lm xs],F O sh] (Ag u):=OO Ass (W 4 (Ay [B (A (u<0)),H ((M (E u)).length) (lm (M (E u)))]::(W 98 []))) (CE.asc (CE.asc (CE.asc (Av (CE.seq (J a [.r (Ar [B m,sL lm ms])] gA (JV n1 G1 G1)) (CE.seq (CE.block hl2) (Av (CE.seq (J a [] Yo a0) (CE.seq (CE.block hl3) (J a [bT,.v (F Ae (ms.getD (D (I O (Ax sh 32))) 0)),bF,bF,bF,.r (Ag u)] [4] (ND c1 n4 (p n4) n5 c2 c3 Fc n6)))))))))))
theorem A6h(r t:Rn)(e f X Y c:Int)(n1:RQ 104 [Az r,F O (I O ((if f>e then f else e)-e))] (Ag X))(n2:RQ 104 [Az t,F O (I O ((if f>e then f else e)-f))] (Ag Y))(n3:RQ 103 [Ag X,Ag Y] (F O c)):RQ 55 [o [B r.1,H r.2.length (lm r.2),F O e],o [B t.1,H t.2.length (lm t.2),F O f]] (F O c):=i (fn:=iF Mv A9n) a rfl 400 rfl [.r (Ag X),.r (Ag Y),.r (F O c)] (JV n1 n2 n3)
def Vj:ICode:=c Aqy 92 248
def NN(n:Rn)(e:Int)(z:Int):Aj:=(W 1 (C (F O e)::(Ay [B n.1,H n.2.length (lm n.2)]::(W 1 (Ay [B false,H 0 [],F O 0]::(C (F O z)::(W 33 [])))))))
theorem Azy(n:Rn)(e:Int)(z:Int)(c1:A (z<e)=true)(c2:((I Ae ((T (An .u32) (d (n.2.getD (D (I O (Ax z 32))) 0) (2^(min (D (I U (AB z 32))) (An .u32)))) &&& T (An .u32) 1).toNat))==0)=true)(n1:0<=(I O (Ax z 32))/\(I O (Ax z 32))<(n.2.length:Int))(n2:¬ (I U (AB z 32))<0):Ap Vj (NN n e z) .norm (NN n e (I O (z+1))):=(J a [bT,.v (F Ae (n.2.getD (D (I O (Ax z 32))) 0)),bT] [1,2,4,5] (Lm c1 G1 n1 (p n1) G1 n2 c2))
theorem Azz(n:Rn)(e:Int)(z:Int)(c1:A (z<e)=true)(c2:((I Ae ((T (An .u32) (d (n.2.getD (D (I O (Ax z 32))) 0) (2^(min (D (I U (AB z 32))) (An .u32)))) &&& T (An .u32) 1).toNat))==0)=false)(n1:0<=(I O (Ax z 32))/\(I O (Ax z 32))<(n.2.length:Int))(n2:¬ (I U (AB z 32))<0):Ap Vj (NN n e z) (.exit 0) (NN n e z):=(J a [bT,.v (F Ae (n.2.getD (D (I O (Ax z 32))) 0)),bF] [1,2,4,5] (Lm c1 G1 n1 (p n1) G1 n2 c2))
theorem A0a(n:Rn)(e:Int)(z:Int)(c1:A (z<e)=false):Ap Vj (NN n e z) (.exit 0) (NN n e z):=(J a [bF,bF] [1,2,4,5] (J0 c1 Fc))
theorem yF(r:Rn)(e n:Int)(c1:((((M (E n)).length:Nat):Int)==0)=true)(n1:RQ 113 [Az r] (Ag n)):RQ 130 [Az r,F O e] (o [B false,H 0 [],F O 0]):=OO Aqy (W 4 (Ay [B false,H 0 [],F O 0]::(W 34 []))) (CE.asc (CE.asc (CE.asc (A4 (J a [.r (Ag n),bT] [4] (J0 n1 c1))))))
theorem yG(r:Rn)(e n z u:Int)(c1:((((M (E n)).length:Nat):Int)==0)=false)(n1:RQ 113 [Az r] (Ag n))(hl2:Ap (.loop Vj) (NN (cn n) e 0) (.exit 0) (NN (cn n) e z))(n3:RQ 163 [Az (cn n),F O z] (Ag u)):RQ 130 [Az r,F O e] (o [B (A (u<0)),H ((M (E u)).length) (lm (M (E u))),F O (I O (e-z))]):=OO Aqy (W 4 (Ay [B (A (u<0)),H ((M (E u)).length) (lm (M (E u))),F O (I O (e-z))]::(W 34 []))) (CE.asc (CE.asc (CE.asc (CE.seq (J a [.r (Ag n),bF] [1,2,4,5] (J0 n1 c1)) (CE.seq (CE.block hl2) (J a [.r (Ag u)] [4] (Jx n3)))))))
theorem A0b(r t:Rn)(e f X Y Z n m:Int)(n1:RQ 104 [Az r,F O (I O ((if f>e then f else e)-e))] (Ag X))(n2:RQ 104 [Az t,F O (I O ((if f>e then f else e)-f))] (Ag Y))(n3:RQ 111 [Ag X,Ag Y] (Ag Z))(n4:RQ 130 [Ag Z,F O (I O ((if f>e then f else e)+1))] (o [B (A (n<0)),H ((M (E n)).length) (lm (M (E n))),F O m])):RQ 133 [o [B r.1,H r.2.length (lm r.2),F O e],o [B t.1,H t.2.length (lm t.2),F O f]] (o [B (A (n<0)),H ((M (E n)).length) (lm (M (E n))),F O m]):=i (fn:=iF Mv Arb) a rfl 400 rfl [.r (Ag X),.r (Ag Y),.r (Ag Z),.r (o [B (A (n<0)),H ((M (E n)).length) (lm (M (E n))),F O m])] (JS n1 n2 n3 n4)
theorem A6i(r t:Rn)(e f X Y c:Int)(n1:RQ 84 [Az r,F O f] (CR X))(n2:RQ 84 [Az t,F O e] (CR Y))(n3:RQ 83 [Ag X,Ag Y] (F O c)):RQ 33 [o [B r.1,H r.2.length (lm r.2),F O e],o [B t.1,H t.2.length (lm t.2),F O f]] (F O c):=i (fn:=iF Mv A8r) a rfl 400 rfl [.r (CR X),.r (CR Y),.r (F O c)] (JV n1 n2 n3)
def Tg:ICode:=c Asq 94 56
def Ly(n:Rn)(e:Int):Aj:=(W 2 (Ay [B false,H 0 [],F O 0]::(Ay [B n.1,H n.2.length (lm n.2)]::(C (F O e)::(W 28 [])))))
theorem A0c(n:Rn)(e:Int)(u:Int)(c1:A (e>0)=true)(c2:((n.2.length:Int)==0)=true)(n1:RQ 128 [Az n,F O 1] (Ag u)):Ap Tg (Ly n e) .norm (Ly (cn u) (I O (e-1))):=(J a [bT,bT,bT,bT,bT,.r (Ag u)] Sw (JT c1 c2 c1 c2 QH n1))
theorem A0d(n:Rn)(e:Int)(u:Int)(c1:A (e>0)=true)(c2:((n.2.length:Int)==0)=false)(c3:((I Ae ((T (An .u32) (n.2.getD (D 0) 0) &&& T (An .u32) 1).toNat))==0)=true)(n1:0<=(0:Int)/\(0:Int)<(n.2.length:Int))(n2:RQ 128 [Az n,F O 1] (Ag u)):Ap Tg (Ly n e) .norm (Ly (cn u) (I O (e-1))):=(J a [bT,bF,.v (F Ae (n.2.getD (D 0) 0)),bT,bF,bT,.r (Ag u)] Sw (ND c1 c2 n1 (p n1) c1 c2 c3 n2))
theorem A0e(n:Rn)(e:Int)(c1:A (e>0)=true)(c2:((n.2.length:Int)==0)=false)(c3:((I Ae ((T (An .u32) (n.2.getD (D 0) 0) &&& T (An .u32) 1).toNat))==0)=false)(n1:0<=(0:Int)/\(0:Int)<(n.2.length:Int)):Ap Tg (Ly n e) (.exit 0) (Ly n e):=(J a [bT,bF,.v (F Ae (n.2.getD (D 0) 0)),bT,bF,bF] Sw (Lm c1 c2 n1 (p n1) c1 c2 c3))
theorem A0f(n:Rn)(e:Int)(c1:A (e>0)=false):Ap Tg (Ly n e) (.exit 0) (Ly n e):=(J a [bF,bF] Sw (J0 c1 Fc))
theorem A0g(r:Rn)(e n u z:Int)(n1:RQ 97 [Az r] (Ag n))(hl2:Ap (.loop Tg) (Ly (cn n) e) (.exit 0) (Ly (cn u) z)):RQ 162 [o [B r.1,H r.2.length (lm r.2),F O e]] (o [B ((cn u).1),H ((cn u).2.length) (lm (cn u).2),F O z]):=OO Asq (W 2 (Ay [B ((cn u).1),H ((cn u).2.length) (lm (cn u).2),F O z]::(W 30 []))) (CE.asc (CE.seq (J a [.r (Ag n)] Sw (Jx n1)) (CE.seq (CE.block hl2) (J a [] [2] a0))))
theorem A0h(r t:Rn)(e f X Y Z n m:Int)(n1:RQ 84 [Az r,F O (I O ((if f>e then f else e)-e))] (CR X))(n2:RQ 84 [Az t,F O (I O ((if f>e then f else e)-f))] (CR Y))(n3:RQ 95 [Ag X,Ag Y] (Ag Z))(n4:RQ 162 [o [B (A (Z<0)),H ((M (E Z)).length) (lm (M (E Z))),F O (I O ((if f>e then f else e)+1))]] (o [B (A (n<0)),H ((M (E n)).length) (lm (M (E n))),F O m])):RQ 121 [o [B r.1,H r.2.length (lm r.2),F O e],o [B t.1,H t.2.length (lm t.2),F O f]] (o [B (A (n<0)),H ((M (E n)).length) (lm (M (E n))),F O m]):=i (fn:=iF Mv Aqi) a rfl 400 rfl [.r (CR X),.r (CR Y),.r (Ag Z),.r (o [B (A (n<0)),H ((M (E n)).length) (lm (M (E n))),F O m])] (JS n1 n2 n3 n4)
theorem A6j{a b X Y:Int}(ha:a=X\/a = -X)(hb:b=Y\/b = -Y)(hX:0<=X)(hY:0<=Y) :
  (BQ a<BQ b->CX a b = -1)/\(BQ a>BQ b->CX a b=1)/\(¬ BQ a<BQ b->¬ BQ a>BQ b->(BQ a<0->CX a b = -CX X Y)/\(¬ BQ a<0->CX a b=CX X Y)):=by
 unfold BQ CX;grind
theorem KU(a b:Int) : -1<=CX a b/\CX a b<=1:=by unfold CX;grind
theorem A0i(neg:Bool)(xs:LI):rv neg xs=Ab xs\/rv neg xs = -Ab xs:=by unfold rv;cases neg <;> simp
theorem Aiu{na nb:Bool}{xs ys:LI}(hx:A_ xs)(hy:A_ ys)(h1:xs.length<=1048576)(h2:ys.length<=1048576):RQ 83 [o [B na,sL lm xs],o [B nb,sL lm ys]] (F O (CX (rv na xs) (rv nb ys))):=by
 obtain⟨a1,a2,a3⟩:=A6j (A0i na xs) (A0i nb ys) (Bi hx) (Bi hy);have s1:=Hd (neg:=na) hx h1;have s2:=Hd (neg:=nb) hy h2;by_cases c1:BQ (rv na xs)<BQ (rv nb ys)
 ·rw[a1 c1];exact Ail na nb xs ys _ _ (by rw[decide_eq_true_eq];exact c1) s1 s2
 by_cases c2:BQ (rv na xs)>BQ (rv nb ys)
 ·rw[a2 c2];exact Aim na nb xs ys _ _ (by rw[decide_eq_false_iff_not];exact c1) (by rw[decide_eq_true_eq];exact c2) s1 s2
 obtain⟨a4,a5⟩:=a3 c1 c2;have t1:=BA xs;have t2:=BA ys;have hc:=QL (Gg hx) (Gg hy) (by omega);rw[EC,EC] at hc;by_cases c3:BQ (rv na xs)<0
 ·have hb:=KU (Ab xs) (Ab ys);have k:=Ain na nb xs ys _ _ _ (by rw[decide_eq_false_iff_not];exact c1) (by rw[decide_eq_false_iff_not];exact c2) (by rw[decide_eq_true_eq];exact c3) s1 s2 (E7 (by omega)) (E7 (by omega)) hc;rw[Bg (by omega) (by omega),Int.zero_sub] at k;rw[a4 c3];exact k
 ·rw[a5 c3];exact Aio na nb xs ys _ _ _ (by rw[decide_eq_false_iff_not];exact c1) (by rw[decide_eq_false_iff_not];exact c2) (by rw[decide_eq_false_iff_not];exact c3) s1 s2 (E7 (by omega)) (E7 (by omega)) hc
theorem Aiv{na nb:Bool}{xs ys:LI}(hx:A_ xs)(hy:A_ ys)(h1:xs.length<=1048576)(h2:ys.length<=1048576):RQ 103 [o [B na,sL lm xs],o [B nb,sL lm ys]] (F O (CX (rv na xs) (rv nb ys))):=by
 have s1:=DT (neg:=na) hx h1;have s2:=DT (neg:=nb) hy h2;have l1:=Fg (neg:=na) hx;have l2:=Fg (neg:=nb) hy;have k1:=K2 (Cv (rv na xs).natAbs) (Cv (rv nb ys).natAbs) (by omega);have k2:=K2 (Cv (rv nb ys).natAbs) (Cv (rv na xs).natAbs) (by omega);rw[C9,C9] at k1 k2;by_cases c1:rv na xs<0
 ·by_cases c2:rv nb ys<0
  ·have e:CX (rv na xs) (rv nb ys)=CX ((rv nb ys).natAbs:Int) ((rv na xs).natAbs:Int):=by unfold CX;grind
   rw[e];exact xZ na nb _ _ xs ys _ _ _ (decide_eq_true c1) (decide_eq_true c2) s1 s2 k2
  ·have e:CX (rv na xs) (rv nb ys) = -1:=by unfold CX;grind
   rw[e];exact yA na nb _ _ xs ys _ _ (decide_eq_true c1) (decide_eq_false c2) s1 s2
 ·by_cases c2:rv nb ys<0
  ·have e:CX (rv na xs) (rv nb ys)=1:=by unfold CX;grind
   rw[e];exact yB na nb _ _ xs ys _ _ (decide_eq_false c1) (decide_eq_true c2) s1 s2
  ·have e:CX (rv na xs) (rv nb ys)=CX ((rv na xs).natAbs:Int) ((rv nb ys).natAbs:Int):=by unfold CX;grind
   rw[e];exact yC na nb _ _ xs ys _ _ _ (decide_eq_false c1) (decide_eq_false c2) s1 s2 k1
theorem pD{ms:LI}(hu:A_ ms):∀ k,k<=ms.length->Ab (ms.take k)=0->∀ i,i<k->ms.getD i 0=0:=by
 intro k;induction k with
 | zero=>intro _ _ i hi;omega
 | succ k ih =>
  intro hk hv i hi;have ht:=Et ms k (by omega);have hp:=CH k;have hm:=AL hu k;have h1:=(QV (Em hu k) (AA (Aw hp) hm.1)).1 (by rw[<- ht];exact hv);rcases Ct i k with g | g
  ·exact ih (by omega) h1.1 i g
  ·have:i=k:=by omega
   subst this;rcases EH.1 h1.2 with z | z
   ·omega
   ·exact z
theorem ADp{m:Bool}{ms:LI}{s:Int}{k:Nat}(hk:k<=ms.length)(hN:ms.length<=1048576)(hz:∀ i,i<k->ms.getD i 0=0) :
  Ap (.loop MZ) (HC m (k:Nat) s ms false 0) (.exit 0) (HC m (k:Nat) s ms false (k:Nat)):=by
 have h:=CE.up (prog:=DK) (c:=MZ) (ex := .exit 0) (fin:=HC m (k:Nat) s ms false (k:Nat)) (fun i=>HC m (k:Nat) s ms false (i:Nat)) k (by nofun) ?_ ?_ 0 (AN _)
 ·exact h
 ·intro i hi;have ei:I O ((i:Int)+1)=((i+1:Nat):Int):=by rw[Bg (by omega) (by omega)];omega
  have k1:=Aip m (k:Nat) s ms false (i:Nat) (by simp;omega) (by simp;omega) rfl (by omega);rw[ei,R,hz i hi] at k1;exact k1
 ·exact Aiq m _ s ms false _ (by simp)
theorem ADq{m:Bool}{ms:LI}{kk:Int}{s k:Nat}(hu:A_ ms)(hs:s<32)(hN:ms.length<=1048576)(hk:k<=ms.length):∀ (r i:Nat),i+r=ms.length-k ->
  Ap (.loop LH) (G6 m kk (s:Nat) ms false i (lm ((Aq i).map (D6 (ms.drop k) s))) ((k+i:Nat):Int)) (.exit 2) (G6 m kk (s:Nat) ms false (ms.length-k) (lm ((Aq (ms.length-k)).map (D6 (ms.drop k) s))) (ms.length:Nat)):=by
 intro r;induction r with
 | zero =>
  intro i hi;have hi':i=ms.length-k:=by omega
  subst hi';have e0:((k+(ms.length-k):Nat):Int)=(ms.length:Nat):=by omega
  rw[e0];exact Ah (Ait m kk _ ms false _ _ _ (by simp))
 | succ r ih =>
  intro i hi;have ei:I O (((k+i:Nat):Int)+1)=((k+(i+1):Nat):Int):=by rw[Bg (by omega) (by omega)];omega
  have hx:=AL hu (k+i);have hy:=AL hu (k+i+1);have gx:(ms.drop k).getD i 0=ms.getD (k+i) 0:=by simp[Z,Bu]
  have gy:(ms.drop k).getD (i+1) 0=ms.getD (k+i+1) 0:=by simp[Z,Bu,DW]
  have em:min (D (s:Int)) (An .u64)=s:=by rw[R];show min s 64=s;omega
  have hR:D6 (ms.drop k) s i=(ms.getD (k+i+1) 0*4294967296+ms.getD (k+i) 0) / 2^s % 4294967296:=by
   rw[nC hx hs];unfold D6;rw[gx,gy]
  have hstep:Ap LH (G6 m kk (s:Nat) ms false i (lm ((Aq i).map (D6 (ms.drop k) s))) ((k+i:Nat):Int)) .norm (G6 m kk (s:Nat) ms false (i+1) (lm ((Aq (i+1)).map (D6 (ms.drop k) s))) ((k+(i+1):Nat):Int)):=by
   have el:lm ((Aq (i+1)).map (D6 (ms.drop k) s))=lm ((Aq i).map (D6 (ms.drop k) s))++([F Ae (D6 (ms.drop k) s i)]:List AV):=by
    rw[Io,Ez,Cx,FW,IF]
   rw[el,hR];by_cases h1:k+i+1<ms.length
   ·have kk1:=Air m kk (s:Nat) ms false i (lm ((Aq i).map (D6 (ms.drop k) s))) ((k+i:Nat):Int) (by simp;omega) (by rw[ei];simp;omega) (by omega) (by rw[ei];omega) (by omega) (by omega);rw[ei,R,R,em] at kk1;have w1:I U ((T (An .u64) (I U (ms.getD (k+i) 0)) ||| T (An .u64) (I U ((I U (ms.getD (k+(i+1)) 0))*2^(min (D 32) (An .u64))))).toNat)=ms.getD (k+i+1) 0*4294967296+ms.getD (k+i) 0:=by
     rw[Xd,CP (n:=ms.getD (k+(i+1)) 0) (by rw[<- DW];omega),<- DW];exact Ph hy hx
    have hpos:0<=ms.getD (k+i+1) 0*4294967296+ms.getD (k+i) 0:=by omega
    rw[w1,q _ (by have:=BX s;omega),Es] at kk1;exact kk1
   ·have hz:ms.getD (k+i+1) 0=0:=B3 (by omega);have kk1:=Ais m kk (s:Nat) ms false i (lm ((Aq i).map (D6 (ms.drop k) s))) ((k+i:Nat):Int) (by simp;omega) (by rw[ei];simp;omega) (by omega) (by omega) (by omega);rw[ei,R,em,CP (n:=ms.getD (k+i) 0) (by omega),q _ (by have:=BX s;omega),Es] at kk1;rw[hz,BU,Ed];exact kk1
  exact CE.loop hstep (ih (i+1) (by omega))
theorem pF{N:Int}(h0:N ≠ 0){z:Nat}(hd:(2:Int)^z∣N):z / 32<(M N.natAbs).length:=by
 apply JH;intro hle;have h1:=Eb (Cv N.natAbs).1;rw[C9] at h1;have h2:=GP hle;have h3:=Jb z;have h4:=BX (z % 32);have h5:=Al (show (1:Int)<=2^(z % 32) by omega) (Aw (CH (z / 32)));rw[Dh,<- h3] at h5;obtain⟨q,hq⟩:=hd;have hq0:q ≠ 0:=by intro h;rw[h,AG] at hq;exact h0 hq
 have h6:(N.natAbs:Int)=2^z*(q.natAbs:Int):=by
  rw[hq,BS,DI,MN (Aw (BX z))]
 have h7:=Al (show (1:Int)<=(q.natAbs:Int) by omega) (Aw (BX z));rw[Dh,<- h6] at h7;omega
theorem pG{N:Int}(h0:N ≠ 0){n:Nat}(hd:(2:Int)^n∣N)(hn:(n:Int)<=9223372036854775807)(hN:(M N.natAbs).length<=1048576):RQ 163 [Ag N,F O (n:Nat)] (Ag (N / 2^n)):=by
 have hin:=pF h0 hd;have e1:I O (Ax (n:Int) 32)=((n / 32:Nat):Int):=by
  rw[BK (by omega),Bg (by omega) (by omega)];omega
 have e2:I U (AB (n:Int) 32)=((n % 32:Nat):Int):=by
  rw[B1 (by omega),BF];omega
 have hs:n % 32<32:=GO _ (by decide);have tu:A_ (M N.natAbs):=BV _;have hlb:=DT (neg:=decide (N<0)) tu hN;rw[FB] at hlb;have hp:=Jb n;have hP:=CH (n / 32);have hS:=BX (n % 32);have hval:=C9 N.natAbs;generalize hms:M N.natAbs=ms at *
 have hall:=nD (ms:=ms) hs (show n / 32<=ms.length by omega);have ux:A_ ((Aq (ms.length-n / 32)).map (D6 (ms.drop (n / 32)) (n % 32))):=Tt fun i=>(Ur (FF tu _) hs i).2.2.2;have hmk:=Fh (neg:=decide (N<0)) ux (by simp;omega);have hlen:((Aq (ms.length-n / 32)).map (D6 (ms.drop (n / 32)) (n % 32))).length=ms.length-n / 32:=by simp
 have hb:=ADq (m:=decide (N<0)) (ms:=ms) (kk:=((n / 32:Nat):Int)) (s:=n % 32) (k:=n / 32) tu hs hN (by omega) (ms.length-n / 32) 0 (by omega);generalize hQ:(Aq (ms.length-n / 32)).map (D6 (ms.drop (n / 32)) (n % 32))=Q at *
 (first|rw[<- hlen] at hb|(unfold sL at hb;rw[<- hlen] at hb));have hm0:=Gm (ms.getD (n / 32) 0) (show (2:Int)^(n % 32) ≠ 0 by omega);have hm1:=EU (ms.getD (n / 32) 0) hS;have ht0:=Bi (Em tu (n / 32));have ht1:=GF tu (n / 32);have hl:0<=4294967296^(n / 32)*(ms.getD (n / 32) 0 % 2^(n % 32))+Ab (ms.take (n / 32))/\4294967296^(n / 32)*(ms.getD (n / 32) 0 % 2^(n % 32))+Ab (ms.take (n / 32))<2^n:=by
  rw[hp];generalize (4294967296:Int)^(n / 32)=P at *
  generalize ms.getD (n / 32) 0 % 2^(n % 32)=z at *
  generalize (2:Int)^(n % 32)=S at *
  have a:=AA (Aw hP) hm0;have b:=Al (show z+1<=S by omega) (Aw hP);rw[CT,Dh] at b;omega
 have hdm:(2:Int)^n∣(N.natAbs:Int):=Int.dvd_natAbs.2 hd;have hv2:(N.natAbs:Int)=2^n*Ab Q+(4294967296^(n / 32)*(ms.getD (n / 32) 0 % 2^(n % 32))+Ab (ms.take (n / 32))):=by rw[<- hval,hall,hp];grind
 have hl0:4294967296^(n / 32)*(ms.getD (n / 32) 0 % 2^(n % 32))+Ab (ms.take (n / 32))=0:=by
  have h1:(N.natAbs:Int) % 2^n=0:=Int.emod_eq_zero_of_dvd hdm;rw[hv2,Ma,WY,GK hl.1 hl.2] at h1;exact h1
 have hz1:ms.getD (n / 32) 0 % 2^(n % 32)=0/\Ab (ms.take (n / 32))=0:=by
  have a:=AA (Aw hP) hm0;have b:4294967296^(n / 32)*(ms.getD (n / 32) 0 % 2^(n % 32))=0:=by omega
  rcases EH.1 b with z | z
  ·omega
  ·exact⟨z,by omega⟩
 rw[hl0,BJ] at hv2;have ha:=ADp (m:=decide (N<0)) (ms:=ms) (s:=((n % 32:Nat):Int)) (k:=n / 32) (by omega) hN (pD tu _ (by omega) hz1.2);have emask:I Ae ((I Ae (1*2^(min (D (I U (AB (n:Int) 32))) (An .u32))))-1)=2^(n % 32)-1:=by
  have:min (D ((n % 32:Nat):Int)) (An .u32)=n % 32:=by rw[R];show min (n % 32) 32=n % 32;omega
  have h31:(2:Int)^(n % 32)<=2147483648:=Ho (show n % 32<=31 by omega);rw[e2,this,Dt,Es,Es];omega
 have ec2:I Ae ((T (An .u32) (ms.getD (D (I O (Ax (n:Int) 32))) 0) &&& T (An .u32) (I Ae ((I Ae (1*2^(min (D (I U (AB (n:Int) 32))) (An .u32))))-1))).toNat)=0:=by
  rw[emask,e1,R,wB (AL tu _) (by omega)];exact hz1.1
 have c1:decide ((I O (Ax (n:Int) 32))<(ms.length:Int))=true:=by rw[e1];simp;omega
 have hb2:Ap (.loop LH) (G6 (A (N<0)) (I O (Ax (n:Int) 32)) (I U (AB (n:Int) 32)) ms false 0 [] (I O (Ax (n:Int) 32))) (.exit 2) (G6 (A (N<0)) (I O (Ax (n:Int) 32)) (I U (AB (n:Int) 32)) ms false Q.length (lm Q) (ms.length:Nat)):=by
  rw[e1,e2];exact hb
 have ha2:Ap (.loop MZ) (HC (A (N<0)) (I O (Ax (n:Int) 32)) (I U (AB (n:Int) 32)) ms false 0) (.exit 0) (HC (A (N<0)) (I O (Ax (n:Int) 32)) (I U (AB (n:Int) 32)) ms false ((n / 32:Nat):Int)):=by
  rw[e1,e2];exact ha
 have hres:rv (A (N<0)) Q=N / 2^n:=by
  have hpn:=BX n;by_cases hneg:N<0
  ·rw[decide_eq_true hneg];have:N=2^n*(-Ab Q):=by rw[EY];omega
   show -Ab Q=_;conv=>rhs;rw[this]
   rw[Cc _ (by omega)]
  ·rw[decide_eq_false hneg];have:N=2^n*Ab Q:=by omega
   show Ab Q=_;conv=>rhs;rw[this]
   rw[Cc _ (by omega)]
 rw[hres] at hmk;have hlm:(M N.natAbs)=ms:=hms;unfold Ag;rw[hlm];by_cases hneg:N<0
 ·exact yD _ (A (N<0)) false ms ms Q (n:Nat) _ _ _ c1 (by rw[ec2];rfl) (decide_eq_true hneg) rfl hlb ha2 hb2 (by rw[e1];omega) (by rw[e2];omega) hmk
 ·exact yE _ (A (N<0)) false ms ms Q (n:Nat) _ _ _ c1 (by rw[ec2];rfl) (decide_eq_false hneg) hlb ha2 hb2 (by rw[e1];omega) (by rw[e2];omega) hmk
theorem Ze(n:Int):(cn n).2.length=(M n.natAbs).length:=rfl
theorem Ri(n:Int):A_ (cn n).2:=BV _
theorem Acj{ms:LI}(hu:A_ ms){z:Nat}(hz:z / 32<ms.length):ms.getD (z / 32) 0 / 2^(z % 32) % 2=Ab ms / 2^z % 2:=by
 have h1:=DC ms (show z / 32<=ms.length by omega);have e32:=Uo (show z % 32<=32 by omega);rw[AE] at e32;have eT:(2:Int)^(32-z % 32)=2*2^(31-z % 32):=by rw[show 32-z % 32=(31-z % 32)+1 by omega,A7];omega
 have h2:Ab (ms.drop (z / 32))=ms.getD (z / 32) 0+2^(z % 32)*(2*2^(31-z % 32))*Ab (ms.drop (z / 32+1)):=by
  rw[<- eT,<- e32,B2 hz,Z,Ad hz];rfl
 have ht0:=Bi (Em hu (z / 32));have ht1:=GF hu (z / 32);have hp:=Jb z;have hP:=CH (z / 32);have hS:=BX (z % 32);have hb0:=Gm (ms.getD (z / 32) 0) (show (2:Int)^(z % 32) ≠ 0 by omega);have hb1:=EU (ms.getD (z / 32) 0) hS;have hx:=Hk (ms.getD (z / 32) 0) (2^(z % 32));rw[hp,h1,h2];clear h1 h2 hp e32 eT;generalize Ab (ms.take (z / 32))=T at *
 generalize Ab (ms.drop (z / 32+1))=R at *
 generalize ms.getD (z / 32) 0=x at *
 generalize (4294967296:Int)^(z / 32)=P at *
 generalize (2:Int)^(31-z % 32)=U at *
 generalize (2:Int)^(z % 32)=S at *
 generalize x / S=a at *
 generalize x % S=b at *
 have e:T+P*(x+S*(2*U)*R)=(T+P*b)+P*S*(a+2*(U*R)):=by rw[<- hx];grind
 have hPS:=Bp hP hS;have c1:=AA (Aw hP) hb0;have c2:=Al (show b+1<=S by omega) (Aw hP);rw[CT,Dh] at c2;rw[e,VZ _ _ (by omega),HJ (by omega) (by omega),Ed,WY]
theorem Zf{p:Int}(hp:0<=p/\p<4294967296):(I Ae ((T (An .u32) p &&& T (An .u32) 1).toNat)==0)=decide (p % 2=0):=by
 have h:=wB hp (s:=1) (by decide);rw[show ((2:Int)^1-1)=1 by decide,show ((2:Int)^1)=2 by decide] at h;rw[h,UY,beq_iff_eq,decide_eq_true_eq]
theorem Aiw{x:Int}(hx:0<=x/\x<4294967296){s:Nat}(hs:s<32):(I Ae ((T (An .u32) (d x (2^(min (D (s:Int)) (An .u32)))) &&& T (An .u32) 1).toNat)==0)=decide (x / 2^s % 2=0):=by
 have em:min (D (s:Int)) (An .u32)=s:=by rw[R];show min s 32=s;omega
 have hp:=BX s;rw[em,q _ (by omega)];have h1:=Lc hx.1 (Aw hp);have h2:=Int.ediv_le_self (2^s) hx.1;exact Zf ⟨h1,by omega⟩
def Eg:Int->Nat->Nat
 | _,0=>0
 | N,e+1=>if N % 2=0 then Eg (N / 2) e+1 else 0
theorem Rj:∀ (e:Nat) (N:Int),Eg N e<=e
 | 0,_=>Ao _
 | e+1,N=>by
  simp only[Eg];split
  ·have:=Rj e (N / 2);omega
  ·omega
theorem Mf:∀ (e:Nat) (N:Int),(2:Int)^Eg N e∣N
 | 0,N=>⟨N,by simp[Eg]⟩
 | e+1,N=>by
  simp only[Eg];split
  ·obtain⟨q,hq⟩:=Mf e (N / 2);refine⟨q,?_⟩;rw[A7,AK,AE 2 q,<- AK,<- hq];omega
  ·exact⟨N,by simp⟩
theorem yH{e:Nat}{N:Int}(h:N % 2=0):N / 2^(Eg (N / 2) e+1)=N / 2 / 2^Eg (N / 2) e:=by
 obtain⟨q,hq⟩:=Mf e (N / 2);have hp:=BX (Eg (N / 2) e);have hN:N=2^(Eg (N / 2) e+1)*q:=by
  rw[A7,AK,AE 2 q,<- AK,<- hq];omega
 generalize Eg (N / 2) e=k at *
 have h1:N / 2^(k+1)=q:=by
  conv=>lhs;rw[hN]
  exact Cc _ (by have:=BX (k+1);omega)
 have h2:N / 2 / 2^k=q:=by
  conv=>lhs;rw[hq]
  exact Cc _ (by omega)
 rw[h1,h2]
theorem Zg:∀ e:Nat,Eg 0 e=e
 | 0=>rfl
 | e+1=>by simp only[Eg];rw[if_pos (by decide),show (0:Int) / 2=0 by decide,Zg e]
theorem Aix(N:Int)(h:N % 2=0):(M (N / 2).natAbs).length<=(M N.natAbs).length:=by
 apply O_;have:=Eb (Cv N.natAbs).1;rw[C9] at this;omega
theorem pH{N:Int}(h0:N ≠ 0):((M N.natAbs).getD 0 0 % 2=0)↔N % 2=0:=by
 have hl:0<(M N.natAbs).length:=by
  have:=D4 N.natAbs;omega
 have h:=Acj (BV N.natAbs) (z:=0) (by simpa using hl);rw[C9] at h;simp only[Nat.zero_div,Nat.zero_mod,Dj,jQ] at h;omega
theorem iN:∀ (e:Nat) (N:Int),(M N.natAbs).length<1048576->e<=1000000 ->
  Ap (.loop Tg) (Ly (cn N) (e:Nat)) (.exit 0) (Ly (cn (N / 2^Eg N e)) ((e-Eg N e:Nat):Int)):=by
 intro e;induction e with
 | zero =>
  intro N _ _;have e1:N / 2^Eg N 0=N:=by simp[Eg]
  rw[e1];exact Ah (A0f (cn N) ((0:Nat):Int) (by decide))
 | succ e ih =>
  intro N hN he;have ew:I O (((e+1:Nat):Int)-1)=(e:Int):=by rw[Bg (by omega) (by omega)];omega
  have hd:=YK (neg:=(cn N).1) (xs:=(cn N).2) (Ri N) 1 (by decide) (by rw[Ze];exact hN);rw[show rv (cn N).1 (cn N).2=N from A6 N,show (2:Int)^1=2 by decide] at hd;have c1:decide (((e+1:Nat):Int)>0)=true:=by rw[decide_eq_true_eq];omega
  have hlen:(cn N).2.length=(M N.natAbs).length:=rfl;by_cases h2:N % 2=0
  ·have er:Eg N (e+1)=Eg (N / 2) e+1:=by simp only[Eg];rw[if_pos h2]
   rw[er,yH h2,show e+1-(Eg (N / 2) e+1)=e-Eg (N / 2) e by omega];have r:=ih (N / 2) (by have:=Aix N h2;omega) (by omega);by_cases h0:N=0
   ·have k:=A0c (cn N) ((e+1:Nat):Int) (N / 2) c1 (by rw[h0];rfl) hd;rw[ew] at k;exact CE.loop k r
   ·have hl:0<(M N.natAbs).length:=by have:=D4 N.natAbs;omega
    have k:=A0d (cn N) ((e+1:Nat):Int) (N / 2) c1 (by rw[beq_eq_false_iff_ne];omega) (by rw[Zf (AL (Ri N) _),decide_eq_true_eq];exact (pH h0).2 h2) (by omega) hd;rw[ew] at k;exact CE.loop k r
  ·have h0:N ≠ 0:=by intro h;rw[h] at h2;exact h2 (by decide)
   have er:Eg N (e+1)=0:=by simp only[Eg];rw[if_neg h2]
   have hl:0<(M N.natAbs).length:=by have:=D4 N.natAbs;omega
   rw[er,Dj,jQ,NQ];exact Ah (A0e (cn N) ((e+1:Nat):Int) c1 (by rw[beq_eq_false_iff_ne];omega) (by rw[Zf (AL (Ri N) _),decide_eq_false_iff_not];exact fun h=>h2 ((pH h0).1 h)) (by omega))
def H3(n e:Int):AV := o [B (A (n<0)),H (M n.natAbs).length (lm (M n.natAbs)),F O e]
theorem pI{N:Int}{e:Nat}(hN:(M N.natAbs).length<1048576)(he:e<=1000000):RQ 162 [H3 N (e:Nat)] (H3 (N / 2^Eg N e) ((e-Eg N e:Nat):Int)):=by
 have h1:=Y9 (neg:=(cn N).1) (xs:=(cn N).2) (Ri N) (by rw[Ze];omega);rw[show rv (cn N).1 (cn N).2=N from A6 N] at h1;exact A0g (cn N) (e:Nat) N (N / 2^Eg N e) _ h1 (iN e N hN he)
theorem aM{N:Int}(h0:N ≠ 0){e:Nat}(he:e<=1000000)(hN:(M N.natAbs).length<1048576):∀ (r z:Nat),z+r=e->(2:Int)^z∣N ->
  Ap (.loop Vj) (NN (cn N) (e:Nat) (z:Nat)) (.exit 0) (NN (cn N) (e:Nat) ((z+Eg (N / 2^z) r:Nat):Int)):=by
 intro r;induction r with
 | zero =>
  intro z hz _;exact Ah (A0a (cn N) (e:Nat) (z:Nat) (by simp;omega))
 | succ r ih =>
  intro z hz hd;have hin:=pF h0 hd;have e1:I O (Ax (z:Int) 32)=((z / 32:Nat):Int):=by
   rw[BK (by omega),Bg (by omega) (by omega)];omega
  have e2:I U (AB (z:Int) 32)=((z % 32:Nat):Int):=by
   rw[B1 (by omega),BF];omega
  have ei:I O ((z:Int)+1)=((z+1:Nat):Int):=by rw[Bg (by omega) (by omega)];omega
  have hs:z % 32<32:=GO _ (by decide);have c1:decide ((z:Int)<(e:Int))=true:=by rw[decide_eq_true_eq];omega
  have hb:=Acj (BV N.natAbs) hin;rw[C9] at hb;obtain⟨q,hq⟩:=hd;have hpz:=BX z;have hq1:N / 2^z=q:=by
   conv=>lhs;rw[hq]
   exact Cc _ (by omega)
  have hq2:(N.natAbs:Int) / 2^z=(q.natAbs:Int):=by
   have:(N.natAbs:Int)=2^z*(q.natAbs:Int):=by rw[hq,BS,DI,MN (Aw hpz)]
   rw[this];exact Cc _ (by omega)
  rw[hq2] at hb;have ht:=Aiw (AL (BV N.natAbs) (z / 32)) hs;have ct:(I Ae ((T (An .u32) (d ((cn N).2.getD (D (I O (Ax (z:Int) 32))) 0) (2^(min (D (I U (AB (z:Int) 32))) (An .u32)))) &&& T (An .u32) 1).toNat)==0)=decide (q % 2=0):=by
   rw[e1,e2,R];refine ht.trans ?_;rw[hb,decide_eq_decide];omega
  have hlen:(cn N).2.length=(M N.natAbs).length:=rfl;rw[hq1];by_cases h2:q % 2=0
  ·have er:Eg q (r+1)=Eg (q / 2) r+1:=by simp only[Eg];rw[if_pos h2]
   have hq3:N=2^(z+1)*(q / 2):=by rw[A7,AK,show 2*(q / 2)=q by omega];exact hq
   have hq4:N / 2^(z+1)=q / 2:=by
    conv=>lhs;rw[hq3]
    exact Cc _ (by have:=BX (z+1);omega)
   have hr:=ih (z+1) (by omega) ⟨q / 2,hq3⟩;rw[hq4] at hr;have k:=Azy (cn N) (e:Nat) (z:Nat) c1 (by rw[ct,decide_eq_true_eq];exact h2) (by rw[e1];omega) (by rw[e2];omega);rw[ei] at k;rw[er,show z+(Eg (q / 2) r+1)=z+1+Eg (q / 2) r by omega];exact CE.loop k hr
  ·have er:Eg q (r+1)=0:=by simp only[Eg];rw[if_neg h2]
   rw[er,EJ];exact Ah (Azz (cn N) (e:Nat) (z:Nat) c1 (by rw[ct,decide_eq_false_iff_not];exact h2) (by rw[e1];omega) (by rw[e2];omega))
theorem iO{N:Int}{e:Nat}(hN:(M N.natAbs).length<1048576)(he:e<=1000000):RQ 130 [Ag N,F O (e:Nat)] (H3 (N / 2^Eg N e) ((e-Eg N e:Nat):Int)):=by
 have h1:=M4 (neg:=(cn N).1) (xs:=(cn N).2) (Ri N) (by rw[Ze];omega);rw[show rv (cn N).1 (cn N).2=N from A6 N] at h1;by_cases h0:N=0
 ·subst h0;rw[Zg,Int.zero_ediv,Wh];exact yF (cn 0) (e:Nat) 0 rfl h1
 ·have hl:=aM h0 he hN e 0 (by omega) (by simp);rw[Dj,jQ,Cb] at hl;have hle:=Rj e N;have hs:=pG h0 (Mf e N) (by omega) (by omega);have k:=yG (cn N) (e:Nat) N _ _ (by rw[beq_eq_false_iff_ne];have:=D4 N.natAbs;omega) h1 hl hs;have ew:I O ((e:Int)-((Eg N e:Nat):Int))=((e-Eg N e:Nat):Int):=by rw[Bg (by omega) (by omega)];omega
  rw[ew] at k;exact k
def kZ:ICode:=c A9j 91 500
def WH(n:Int)(x:Int):Aj:=(W 4 (C (F O n)::(C (F Ae x)::(W 23 []))))
theorem A6k(n:Int)(x:Int)(c1:A (x>0)=true):Ap kZ (WH n x) .norm (WH (I O (n+1)) (d x (2^(min (D 1) (An .u32))))):=(J M5 [bT] [4,5] (J0 c1 (show ¬ (1:Int)<0 from (by decide))))
theorem Ack(n:Int)(x:Int)(c1:A (x>0)=false):Ap kZ (WH n x) (.exit 0) (WH n x):=(J M5 [bF] [4,5] (Jx c1))
theorem Aiy(b:Bool)(xs ms:LI)(c1:((ms.length:Int)==0)=true)(n1:RQ 99 [sL lm xs] (P 1 ms.length (lm ms))):RQ 51 [o [B b,sL lm xs]] (F O 0):=OO A9j (W 2 (C (F O 0)::(W 26 []))) (CE.asc (CE.asc (CE.asc (Av (A4 (J M5 [.r (P 1 ms.length (lm ms)),bT] [2] (J0 n1 c1)))))))
theorem Aiz(b:Bool)(xs ms:LI)(n x:Int)(c1:((ms.length:Int)==0)=false)(n1:RQ 99 [sL lm xs] (P 1 ms.length (lm ms)))(n2:0<=(I O ((ms.length:Int)-1))/\(I O ((ms.length:Int)-1))<(ms.length:Int))(hl3:Ap (.loop kZ) (WH (I O (32*(I O ((ms.length:Int)-1)))) (ms.getD (D (I O ((ms.length:Int)-1))) 0)) (.exit 0) (WH n x)):RQ 51 [o [B b,sL lm xs]] (F O n):=OO A9j (W 2 (C (F O n)::(W 26 []))) (CE.asc (CE.asc (CE.asc (Av (CE.seq (J M5 [.r (P 1 ms.length (lm ms)),bF,.v (F Ae (ms.getD (D (I O ((ms.length:Int)-1))) 0))] [4,5] (JS n1 c1 n2 (p n2))) (CE.seq (CE.block hl3) (J M5 [] [2] a0)))))))
theorem yI{x:Nat}(h:x ≠ 0):F3 x=F3 (x / 2)+1:=by
 unfold F3;rw[if_neg h];by_cases h2:x / 2=0
 ·have:x=1:=by omega
  subst this;decide
 ·rw[if_neg h2,HS x 1 (by simpa using h2)]
theorem pJ:∀ (f x:Nat) (n:Nat),x<=f->x<4294967296->n+F3 x<=2251799813685248->Ap (.loop kZ) (WH (n:Nat) (x:Nat)) (.exit 0) (WH ((n+F3 x:Nat):Int) 0):=by
 intro f;induction f with
 | zero =>
  intro x n hx _ _;have:x=0:=by omega
  subst this;exact Ah (Ack _ _ (by simp))
 | succ f ih =>
  intro x n hx hb hn;by_cases h0:x=0
  ·subst h0;exact Ah (Ack _ _ (by simp))
  ·have k:=A6k (n:Nat) (x:Nat) (by simp;omega);have e1:d (x:Int) (2^(min (D 1) (An .u32)))=((x / 2:Nat):Int):=vB x 1 (by omega);rw[e1,Bg (by omega) (by omega),show (n:Int)+1=((n+1:Nat):Int) by omega] at k;have hbl:=yI h0;have h:=ih (x / 2) (n+1) (by omega) (by omega) (by omega);rw[show n+1+F3 (x / 2)=n+F3 x by omega] at h;exact CE.loop k h
theorem yJ{neg:Bool}{xs:LI}(hu:A_ xs)(hN:xs.length<=35184372088832):RQ 51 [o [B neg,sL lm xs]] (F O ((F3 (rv neg xs).natAbs:Nat):Int)):=by
 have hm:=E7 (xs:=xs) hN;rw[RM (neg:=neg) hu] at hm;have l1:=Fg (neg:=neg) hu;generalize rv neg xs=a at *
 by_cases h0:a.natAbs=0
 ·have h:=Aiy neg xs _ (by rw[h0];rfl) hm;rw[show F3 a.natAbs=0 by unfold F3;rw[if_pos h0]];exact h
 ·obtain⟨t1,x,t2,t3,t4,t5⟩:=cO h0;have e1:I O ((((M a.natAbs).length:Nat):Int)-1)=(((M a.natAbs).length-1:Nat):Int):=by rw[Bg (by omega) (by omega)];omega
  have hlog:Cu x<32:=(Sk t3).2 t4;have hbx:F3 x=Cu x+1:=by unfold F3;rw[if_neg t3]
  have e3:I O (32*(((M a.natAbs).length-1:Nat):Int))=((32*((M a.natAbs).length-1):Nat):Int):=by rw[Bg (by omega) (by omega)];omega
  have hl:=pJ x x (32*((M a.natAbs).length-1)) (Ao _) t4 (by omega);have h:=Aiz neg xs (M a.natAbs) _ _ (by rw[beq_eq_false_iff_ne];omega) hm (by rw[e1];omega) (by rw[e1,R,t2,e3];exact hl);have e2:F3 a.natAbs=32*((M a.natAbs).length-1)+F3 x:=by
   rw[hbx];unfold F3;rw[if_neg h0,HS a.natAbs (32*((M a.natAbs).length-1)) (by rw[t5];exact t3),t5];omega
  rw[e2];exact h
theorem yK{n k:Nat}(h:n<32*k):Bv k ((2:Int)^n):=by
 unfold Bv;rw[Qa];show 2^n<4294967296^k;rw[show (4294967296:Nat)=2^32 by decide,<- AEg];exact Tv (by decide) h
theorem V8{a b:Nat}(ha:a<=8192)(hb:b<=8192):I O ((if (b:Int)>(a:Int) then (b:Int) else (a:Int))-(a:Int))=((max a b-a:Nat):Int):=by
 split <;> rw[Bg (by omega) (by omega)] <;> omega
theorem V9{a b:Nat}(ha:a<=8192)(hb:b<=8192):I O ((if (b:Int)>(a:Int) then (b:Int) else (a:Int))-(b:Int))=((max a b-b:Nat):Int):=by
 split <;> rw[Bg (by omega) (by omega)] <;> omega
theorem pK{a b:Nat}(ha:a<=8192)(hb:b<=8192):I O ((if (b:Int)>(a:Int) then (b:Int) else (a:Int))+1)=((max a b+1:Nat):Int):=by
 split <;> rw[Bg (by omega) (by omega)] <;> omega
theorem pL{a b c:Int}(hc:0<c):CX (a*c) (b*c)=CX a b:=by
 unfold CX;have h1:a*c<b*c↔a<b:=yL hc;have h2:b*c<a*c↔b<a:=yL hc;simp only[h1,h2]
theorem A0j(X Y:Int)(a b:Nat):CX (X*2^(max a b-a)) (Y*2^(max a b-b))=CX (X*2^b) (Y*2^a):=by
 have h:=pL (a:=X*2^(max a b-a)) (b:=Y*2^(max a b-b)) (BX (min a b));rw[<- h,AK,AK,<- BB,<- BB,show max a b-a+min a b=b by omega,show max a b-b+min a b=a by omega]
def A2(r:Rn)(e:Int):AV := o [B r.1,H r.2.length (lm r.2),F O e]
theorem SG{r:Rn}(hr:AU 600 r){n:Nat}(hn:n<=8192):RQ 104 [Az r,F O (n:Nat)] (Ag (L r*2^n))/\RQ 84 [Az r,F O (n:Nat)] (CR (L r*2^n))/\Bv 860 (L r*2^n):=by
 have h2:=hr.2;exact⟨cU hr.1 n (by omega) (by omega),Um hr.1 n (by omega),(hr.fits.mul (yK (k:=257) (by omega))).mono (by omega)⟩
def BI(x:Int)(a:Nat)(y:Int)(b:Nat):Int:=CX (x*2^b) (y*2^a)
def JA(x:Int)(a:Nat)(y:Int)(b:Nat):Int:=x*2^(max a b-a)+y*2^(max a b-b)
def PR(x:Int)(a:Nat)(y:Int)(b:Nat):Int:=JA x a y b / 2^Eg (JA x a y b) (max a b+1)
def L7(x:Int)(a:Nat)(y:Int)(b:Nat):Nat:=max a b+1-Eg (JA x a y b) (max a b+1)
section
variable {r t:Rn} (hr:AU 600 r) (ht:AU 600 t) {a b:Nat} (ha:a<=8192) (hb:b<=8192)
include hr ht ha hb
theorem Kn:RQ 55 [A2 r (a:Nat),A2 t (b:Nat)] (F O (BI (L r) a (L t) b)):=by
 obtain⟨x1,_,x3⟩:=SG hr (n:=max a b-a) (by omega);obtain⟨y1,_,y3⟩:=SG ht (n:=max a b-b) (by omega);have g1:=B4 x3;have g2:=B4 y3;have p:=Aiv (na:=(cn (L r*2^(max a b-a))).1) (nb:=(cn (L t*2^(max a b-b))).1) g1.1 g2.1 (by have:=g1.2;omega) (by have:=g2.2;omega);rw[show ∀ n,rv (cn n).1 (cn n).2=n from A6,show ∀ n,rv (cn n).1 (cn n).2=n from A6,A0j] at p;exact A6h r t (a:Nat) (b:Nat) _ _ _ (by rw[V8 ha hb];exact x1) (by rw[V9 ha hb];exact y1) p
theorem Hx:RQ 33 [A2 r (a:Nat),A2 t (b:Nat)] (F O (BI (L r) a (L t) b)):=by
 obtain⟨_,x2,x4⟩:=SG hr (n:=b) hb;obtain⟨_,y2,y4⟩:=SG ht (n:=a) ha;have g3:=B4 x4;have g4:=B4 y4;have q:=Aiu (na:=(cn (L r*2^b)).1) (nb:=(cn (L t*2^a)).1) g3.1 g4.1 (by have:=g3.2;omega) (by have:=g4.2;omega);rw[show ∀ n,rv (cn n).1 (cn n).2=n from A6,show ∀ n,rv (cn n).1 (cn n).2=n from A6] at q;exact A6i r t (a:Nat) (b:Nat) _ _ _ x2 y2 q
theorem dO:Bv 861 (JA (L r) a (L t) b):=by
 obtain⟨_,_,x3⟩:=SG hr (n:=max a b-a) (by omega);obtain⟨_,_,y3⟩:=SG ht (n:=max a b-b) (by omega);exact x3.add y3
theorem Px:RQ 133 [A2 r (a:Nat),A2 t (b:Nat)] (H3 (PR (L r) a (L t) b) ((L7 (L r) a (L t) b:Nat):Int)):=by
 obtain⟨x1,_,x3⟩:=SG hr (n:=max a b-a) (by omega);obtain⟨y1,_,y3⟩:=SG ht (n:=max a b-b) (by omega);have hX:=x3.len;have hY:=y3.len;have p:=cM (a:=L r*2^(max a b-a)) (b:=L t*2^(max a b-b)) (by omega) (by omega);have hZl:=(dO hr ht ha hb).len;have k1:=iO (N:=JA (L r) a (L t) b) (e:=max a b+1) (by omega) (by omega);exact A0b r t (a:Nat) (b:Nat) _ _ _ _ _ (by rw[V8 ha hb];exact x1) (by rw[V9 ha hb];exact y1) p (by rw[pK ha hb];exact k1)
theorem yM:RQ 121 [A2 r (a:Nat),A2 t (b:Nat)] (H3 (PR (L r) a (L t) b) ((L7 (L r) a (L t) b:Nat):Int)):=by
 obtain⟨_,x2,x3⟩:=SG hr (n:=max a b-a) (by omega);obtain⟨_,y2,y3⟩:=SG ht (n:=max a b-b) (by omega);have q:=Pf (na:=(cn (L r*2^(max a b-a))).1) (nb:=(cn (L t*2^(max a b-b))).1) (B4 x3).1 (B4 y3).1 (by have:=(B4 x3).2;omega) (by have:=(B4 y3).2;omega);rw[show ∀ n,rv (cn n).1 (cn n).2=n from A6,show ∀ n,rv (cn n).1 (cn n).2=n from A6] at q;have hZl:=(dO hr ht ha hb).len;have k2:=pI (N:=JA (L r) a (L t) b) (e:=max a b+1) (by omega) (by omega);exact A0h r t (a:Nat) (b:Nat) _ _ _ _ _ (by rw[V8 ha hb];exact x2) (by rw[V9 ha hb];exact y2) q (by rw[pK ha hb];exact k2)
end
def Bw(fs:List Rn)(r:Rn)(e:Int)(t:Rn)(f:Int):AV := o [sL pc fs,B r.1,H r.2.length (lm r.2),F O e,B t.1,H t.2.length (lm t.2),F O f]
def IG(fs:List Rn)(r:Rn)(e:Int)(t:Rn)(f:Int):Reg := Ay [sL pc fs,B r.1,H r.2.length (lm r.2),F O e,B t.1,H t.2.length (lm t.2),F O f]
theorem A0k(fs:List Rn)(r t:Rn)(e f:Int)(c:Int)(n1:RQ 55 [A2 r e,A2 t f] (F O c)):RQ 125 [Bw fs r e t f] (B (c==0)):=i (fn:=iF Mv Aqp) a rfl 400 rfl [.r (F O c)] (Jx n1)
theorem Aja(fs:List Rn)(r t:Rn)(e f:Int)(q:Rn)(g c_qr:Int)(b:Bool)(c1:(b)=false)(c2:A (c_qr<=0)=true)(n1:RQ 125 [Bw fs r e t f] (B b))(n2:RQ 55 [A2 q g,A2 r e] (F O c_qr)):RQ 76 [Bw fs r e t f,A2 q g] (F O 1):=i (fn:=iF Mv AAp) a rfl 400 rfl [.r (B b),bF,.r (F O c_qr),bT] (JS n1 c1 n2 c2)
theorem Ajb(fs:List Rn)(r t:Rn)(e f:Int)(q:Rn)(g c_qr c_qt:Int)(b:Bool)(c1:(b)=false)(c2:A (c_qr<=0)=false)(c3:A (c_qt>0)=true)(n1:RQ 125 [Bw fs r e t f] (B b))(n2:RQ 55 [A2 q g,A2 r e] (F O c_qr))(n3:RQ 55 [A2 q g,A2 t f] (F O c_qt)):RQ 76 [Bw fs r e t f,A2 q g] (F O (-1)):=i (fn:=iF Mv AAp) a rfl 400 rfl [.r (B b),bF,.r (F O c_qr),bF,.r (F O c_qt),bT] (JT n1 c1 n2 c2 n3 c3)
theorem Ajc(fs:List Rn)(r t:Rn)(e f:Int)(q:Rn)(g c_qr c_qt s_t:Int)(b:Bool)(c1:(b)=false)(c2:A (c_qr<=0)=false)(c3:A (c_qt>0)=false)(c4:(c_qt==0)=true)(c5:(s_t==0)=true)(n1:RQ 125 [Bw fs r e t f] (B b))(n2:RQ 55 [A2 q g,A2 r e] (F O c_qr))(n3:RQ 55 [A2 q g,A2 t f] (F O c_qt))(n4:RQ 65 [sL pc fs,A2 t f] (F O s_t)):RQ 76 [Bw fs r e t f,A2 q g] (F O 0):=i (fn:=iF Mv AAp) a rfl 400 rfl [.r (B b),bF,.r (F O c_qr),bF,.r (F O c_qt),bF,.r (F O s_t),bT,bT] (Qx n1 c1 n2 c2 n3 c3 n4 c4 c5)
theorem Ajd(fs:List Rn)(r t:Rn)(e f:Int)(q:Rn)(g c_qr c_qt s_t:Int)(b:Bool)(c1:(b)=false)(c2:A (c_qr<=0)=false)(c3:A (c_qt>0)=false)(c4:(c_qt==0)=true)(c5:(s_t==0)=false)(n1:RQ 125 [Bw fs r e t f] (B b))(n2:RQ 55 [A2 q g,A2 r e] (F O c_qr))(n3:RQ 55 [A2 q g,A2 t f] (F O c_qt))(n4:RQ 65 [sL pc fs,A2 t f] (F O s_t)):RQ 76 [Bw fs r e t f,A2 q g] (F O (-1)):=i (fn:=iF Mv AAp) a rfl 400 rfl [.r (B b),bF,.r (F O c_qr),bF,.r (F O c_qt),bF,.r (F O s_t),bT,bF] (Qx n1 c1 n2 c2 n3 c3 n4 c4 c5)
theorem Aje(fs:List Rn)(r t:Rn)(e f:Int)(q:Rn)(g c_qr c_qt s_t s_q:Int)(b:Bool)(c1:(b)=false)(c2:A (c_qr<=0)=false)(c3:A (c_qt>0)=false)(c4:(c_qt==0)=false)(c5:(s_q==0)=true)(n1:RQ 125 [Bw fs r e t f] (B b))(n2:RQ 55 [A2 q g,A2 r e] (F O c_qr))(n3:RQ 55 [A2 q g,A2 t f] (F O c_qt))(n4:RQ 65 [sL pc fs,A2 t f] (F O s_t))(n5:RQ 65 [sL pc fs,A2 q g] (F O s_q)):RQ 76 [Bw fs r e t f,A2 q g] (F O 0):=i (fn:=iF Mv AAp) a rfl 400 rfl [.r (B b),bF,.r (F O c_qr),bF,.r (F O c_qt),bF,.r (F O s_t),bF,.r (F O s_q),bT] (OS n1 c1 n2 c2 n3 c3 n4 c4 n5 c5)
theorem Ajf(fs:List Rn)(r t:Rn)(e f:Int)(q:Rn)(g c_qr c_qt s_t s_q:Int)(b:Bool)(c1:(b)=false)(c2:A (c_qr<=0)=false)(c3:A (c_qt>0)=false)(c4:(c_qt==0)=false)(c5:(s_q==0)=false)(c6:(s_q==s_t)=true)(n1:RQ 125 [Bw fs r e t f] (B b))(n2:RQ 55 [A2 q g,A2 r e] (F O c_qr))(n3:RQ 55 [A2 q g,A2 t f] (F O c_qt))(n4:RQ 65 [sL pc fs,A2 t f] (F O s_t))(n5:RQ 65 [sL pc fs,A2 q g] (F O s_q)):RQ 76 [Bw fs r e t f,A2 q g] (F O (-1)):=i (fn:=iF Mv AAp) a rfl 400 rfl [.r (B b),bF,.r (F O c_qr),bF,.r (F O c_qt),bF,.r (F O s_t),bF,.r (F O s_q),bF,bT] (NF n1 c1 n2 c2 n3 c3 n4 c4 n5 c5 c6)
theorem Ajg(fs:List Rn)(r t:Rn)(e f:Int)(q:Rn)(g c_qr c_qt s_t s_q:Int)(b:Bool)(c1:(b)=false)(c2:A (c_qr<=0)=false)(c3:A (c_qt>0)=false)(c4:(c_qt==0)=false)(c5:(s_q==0)=false)(c6:(s_q==s_t)=false)(n1:RQ 125 [Bw fs r e t f] (B b))(n2:RQ 55 [A2 q g,A2 r e] (F O c_qr))(n3:RQ 55 [A2 q g,A2 t f] (F O c_qt))(n4:RQ 65 [sL pc fs,A2 t f] (F O s_t))(n5:RQ 65 [sL pc fs,A2 q g] (F O s_q)):RQ 76 [Bw fs r e t f,A2 q g] (F O 1):=i (fn:=iF Mv AAp) a rfl 400 rfl [.r (B b),bF,.r (F O c_qr),bF,.r (F O c_qt),bF,.r (F O s_t),bF,.r (F O s_q),bF,bF] (NF n1 c1 n2 c2 n3 c3 n4 c4 n5 c5 c6)
theorem Ajh(fs:List Rn)(r t:Rn)(e f:Int)(b:Bool)(c1:(b)=true)(n1:RQ 125 [Bw fs r e t f] (B b)):RQ 82 [Bw fs r e t f] (Bw fs r e t f):=i (fn:=iF Mv AAv) a rfl 400 rfl [.r (B b),bT] (J0 n1 c1)
theorem Aji(fs:List Rn)(r t:Rn)(e f:Int)(n m s:Int)(b:Bool)(c1:(b)=false)(c2:A (s<=0)=true)(n1:RQ 125 [Bw fs r e t f] (B b))(n2:RQ 133 [A2 r e,A2 t f] (A2 (cn n) m))(n3:RQ 76 [Bw fs r e t f,A2 (cn n) m] (F O s)):RQ 82 [Bw fs r e t f] (Bw fs r e (cn n) m):=i (fn:=iF Mv AAv) a rfl 400 rfl [.r (B b),bF,.r (A2 (cn n) m),.r (F O s),bT] (JL n1 c1 n2 n3 c2)
theorem Ajj(fs:List Rn)(r t:Rn)(e f:Int)(n m s:Int)(b:Bool)(c1:(b)=false)(c2:A (s<=0)=false)(n1:RQ 125 [Bw fs r e t f] (B b))(n2:RQ 133 [A2 r e,A2 t f] (A2 (cn n) m))(n3:RQ 76 [Bw fs r e t f,A2 (cn n) m] (F O s)):RQ 82 [Bw fs r e t f] (Bw fs (cn n) m t f):=i (fn:=iF Mv AAv) a rfl 400 rfl [.r (B b),bF,.r (A2 (cn n) m),.r (F O s),bF] (JL n1 c1 n2 n3 c2)
theorem Zh(r:Rn)(e n:Int)(n1:RQ 113 [Az r] (Ag n)):RQ 106 [A2 r e] (A2 (cn n) e):=i (fn:=iF Mv Apm) a rfl 400 rfl [.r (Ag n)] (Jx n1)
theorem Acl(fs:List Rn)(r t:Rn)(e f:Int)(ts:List Rn)(n m u v:Int)(n1:RQ 66 [sL pc fs] (P 2 ts.length (pc ts)))(n2:RQ 106 [A2 r e] (A2 (cn n) m))(n3:RQ 106 [A2 t f] (A2 (cn u) v)):RQ 57 [Bw fs r e t f] (Bw ts (cn n) m (cn u) v):=i (fn:=iF Mv A9q) a rfl 400 rfl [.r (P 2 ts.length (pc ts)),.r (A2 (cn n) m),.r (A2 (cn u) v)] (JV n1 n2 n3)
theorem A6l(rs:List Rn)(ls:List (List Rn))(r t:Rn)(e f x y:Int)(n1:RQ 108 [sL pc rs] (P 1 ls.length (pp ls)))(n2:RQ 110 [sL pp ls,A2 r e] (F O x))(n3:RQ 110 [sL pp ls,A2 t f] (F O y)):RQ 63 [sL pc rs,A2 r e,A2 t f] (F O (I O (x-y))):=i (fn:=iF Mv A9v) a rfl 400 rfl [.r (P 1 ls.length (pp ls)),.r (F O x),.r (F O y)] (JV n1 n2 n3)
theorem A6m(fs:List Rn)(r t:Rn)(e f:Int)(gs:List Rn)(n1:RQ 73 [sL pc fs] (sL pc gs)):RQ 20 [Bw fs r e t f] (Bw gs r e t f):=i (fn:=iF Mv A8m) a rfl 400 rfl [.r (sL pc gs)] (Jx n1)
theorem Ajk(fs:List Rn)(r t:Rn)(e f:Int)(q:Rn)(g c_qr c_qt c_rt:Int)(c1:(c_rt==0)=false)(c2:A (c_qr<=0)=true)(n1:RQ 33 [A2 q g,A2 r e] (F O c_qr))(n2:RQ 33 [A2 q g,A2 t f] (F O c_qt))(n3:RQ 33 [A2 r e,A2 t f] (F O c_rt)):RQ 27 [Bw fs r e t f,A2 q g] (F O 1):=i (fn:=iF Mv A8q) a rfl 400 rfl [.r (F O c_qr),.r (F O c_qt),.r (F O c_rt),bF,bT] (JL n1 n2 n3 c1 c2)
theorem Ajl(fs:List Rn)(r t:Rn)(e f:Int)(q:Rn)(g c_qr c_qt c_rt:Int)(c1:(c_rt==0)=false)(c2:A (c_qr<=0)=false)(c3:A (c_qt>0)=true)(n1:RQ 33 [A2 q g,A2 r e] (F O c_qr))(n2:RQ 33 [A2 q g,A2 t f] (F O c_qt))(n3:RQ 33 [A2 r e,A2 t f] (F O c_rt)):RQ 27 [Bw fs r e t f,A2 q g] (F O (-1)):=i (fn:=iF Mv A8q) a rfl 400 rfl [.r (F O c_qr),.r (F O c_qt),.r (F O c_rt),bF,bF,bT] (JT n1 n2 n3 c1 c2 c3)
theorem Ajm(fs:List Rn)(r t:Rn)(e f:Int)(q:Rn)(g c_qr c_qt c_rt v w s_t s_q:Int)(c1:(c_rt==0)=false)(c2:A (c_qr<=0)=false)(c3:A (c_qt>0)=false)(c4:(s_q==0)=true)(n1:RQ 33 [A2 q g,A2 r e] (F O c_qr))(n2:RQ 33 [A2 q g,A2 t f] (F O c_qt))(n3:RQ 33 [A2 r e,A2 t f] (F O c_rt))(n4:RQ 80 [sL pc fs,Az q,F O g] (Ag v))(n5:RQ 79 [Ag v] (F O s_q))(n6:RQ 80 [sL pc fs,Az t,F O f] (Ag w))(n7:RQ 79 [Ag w] (F O s_t)):RQ 27 [Bw fs r e t f,A2 q g] (F O 0):=i (fn:=iF Mv A8q) a rfl 400 rfl [.r (F O c_qr),.r (F O c_qt),.r (F O c_rt),bF,bF,bF,.r (Ag v),.r (F O s_q),.r (Ag w),.r (F O s_t),bT] (NF n1 n2 n3 c1 c2 c3 n4 n5 n6 n7 c4)
theorem Ajn(fs:List Rn)(r t:Rn)(e f:Int)(q:Rn)(g c_qr c_qt c_rt v w s_t s_q:Int)(c1:(c_rt==0)=false)(c2:A (c_qr<=0)=false)(c3:A (c_qt>0)=false)(c4:(s_q==0)=false)(c5:(s_t==0)=true)(n1:RQ 33 [A2 q g,A2 r e] (F O c_qr))(n2:RQ 33 [A2 q g,A2 t f] (F O c_qt))(n3:RQ 33 [A2 r e,A2 t f] (F O c_rt))(n4:RQ 80 [sL pc fs,Az q,F O g] (Ag v))(n5:RQ 79 [Ag v] (F O s_q))(n6:RQ 80 [sL pc fs,Az t,F O f] (Ag w))(n7:RQ 79 [Ag w] (F O s_t)):RQ 27 [Bw fs r e t f,A2 q g] (F O 1):=i (fn:=iF Mv A8q) a rfl 400 rfl [.r (F O c_qr),.r (F O c_qt),.r (F O c_rt),bF,bF,bF,.r (Ag v),.r (F O s_q),.r (Ag w),.r (F O s_t),bF,bT] (Te n1 n2 n3 c1 c2 c3 n4 n5 n6 n7 c4 c5)
theorem Ajo(fs:List Rn)(r t:Rn)(e f:Int)(q:Rn)(g c_qr c_qt c_rt v w s_t s_q:Int)(c1:(c_rt==0)=false)(c2:A (c_qr<=0)=false)(c3:A (c_qt>0)=false)(c4:(s_q==0)=false)(c5:(s_t==0)=false)(c6:(s_q==s_t)=true)(n1:RQ 33 [A2 q g,A2 r e] (F O c_qr))(n2:RQ 33 [A2 q g,A2 t f] (F O c_qt))(n3:RQ 33 [A2 r e,A2 t f] (F O c_rt))(n4:RQ 80 [sL pc fs,Az q,F O g] (Ag v))(n5:RQ 79 [Ag v] (F O s_q))(n6:RQ 80 [sL pc fs,Az t,F O f] (Ag w))(n7:RQ 79 [Ag w] (F O s_t)):RQ 27 [Bw fs r e t f,A2 q g] (F O (-1)):=i (fn:=iF Mv A8q) a rfl 400 rfl [.r (F O c_qr),.r (F O c_qt),.r (F O c_rt),bF,bF,bF,.r (Ag v),.r (F O s_q),.r (Ag w),.r (F O s_t),bF,bF,bT] (Q8 n1 n2 n3 c1 c2 c3 n4 n5 (JL n6 n7 c4 c5 c6))
theorem Ajp(fs:List Rn)(r t:Rn)(e f:Int)(q:Rn)(g c_qr c_qt c_rt v w s_t s_q:Int)(c1:(c_rt==0)=false)(c2:A (c_qr<=0)=false)(c3:A (c_qt>0)=false)(c4:(s_q==0)=false)(c5:(s_t==0)=false)(c6:(s_q==s_t)=false)(n1:RQ 33 [A2 q g,A2 r e] (F O c_qr))(n2:RQ 33 [A2 q g,A2 t f] (F O c_qt))(n3:RQ 33 [A2 r e,A2 t f] (F O c_rt))(n4:RQ 80 [sL pc fs,Az q,F O g] (Ag v))(n5:RQ 79 [Ag v] (F O s_q))(n6:RQ 80 [sL pc fs,Az t,F O f] (Ag w))(n7:RQ 79 [Ag w] (F O s_t)):RQ 27 [Bw fs r e t f,A2 q g] (F O 1):=i (fn:=iF Mv A8q) a rfl 400 rfl [.r (F O c_qr),.r (F O c_qt),.r (F O c_rt),bF,bF,bF,.r (Ag v),.r (F O s_q),.r (Ag w),.r (F O s_t),bF,bF,bF] (Q8 n1 n2 n3 c1 c2 c3 n4 n5 (JL n6 n7 c4 c5 c6))
theorem Ajq(fs:List Rn)(r t:Rn)(e f:Int)(c:Int)(c1:(c==0)=true)(n1:RQ 33 [A2 r e,A2 t f] (F O c)):RQ 72 [Bw fs r e t f] (Bw fs r e t f):=i (fn:=iF Mv AAk) a rfl 400 rfl [.r (F O c),bT] (J0 n1 c1)
theorem Ajr(fs:List Rn)(r t:Rn)(e f:Int)(n m s c:Int)(c1:(c==0)=false)(c2:A (s<=0)=true)(n1:RQ 33 [A2 r e,A2 t f] (F O c))(n2:RQ 121 [A2 r e,A2 t f] (A2 (cn n) m))(n3:RQ 27 [Bw fs r e t f,A2 (cn n) m] (F O s)):RQ 72 [Bw fs r e t f] (Bw fs r e (cn n) m):=i (fn:=iF Mv AAk) a rfl 400 rfl [.r (F O c),bF,.r (A2 (cn n) m),.r (F O s),bT] (JL n1 c1 n2 n3 c2)
theorem Ajs(fs:List Rn)(r t:Rn)(e f:Int)(n m s c:Int)(c1:(c==0)=false)(c2:A (s<=0)=false)(n1:RQ 33 [A2 r e,A2 t f] (F O c))(n2:RQ 121 [A2 r e,A2 t f] (A2 (cn n) m))(n3:RQ 27 [Bw fs r e t f,A2 (cn n) m] (F O s)):RQ 72 [Bw fs r e t f] (Bw fs (cn n) m t f):=i (fn:=iF Mv AAk) a rfl 400 rfl [.r (F O c),bF,.r (A2 (cn n) m),.r (F O s),bF] (JL n1 c1 n2 n3 c2)
def TXA:C8:=TZB
theorem yN:Co DK TXA:=xY
theorem WI{l:List (LI)}(hl:l.length<=100)(x:Int)(e:Nat)(y:Int)(f:Nat):I O ((Cm l x e l.length).1-(Cm l y f l.length).1)=(Cm l x e l.length).1-(Cm l y f l.length).1:=by
 have b1:=Me l x e l.length;have b2:=Me l y f l.length;exact Bg (by omega) (by omega)
def ABz(p:LI)(x:Int)(a:Nat)(y:Int)(b:Nat):Int:=(Cm (BR p) x a (BR p).length).1-(Cm (BR p) y b (BR p).length).1
def Rk(p:LI):Prop:=Kb 500000 p/\p.length<=9
theorem dP{p:LI}(hl:p.length<=9){a:Nat}(ha:a<=8192):500000+2+(p.length+1)*(300+(a / 32+1)+1)<=1048576:=by
 have:(p.length+1)*(300+(a / 32+1)+1)<=10*560:=BG (by omega) (by omega);omega
def DG(p:LI)(x:Int)(a:Nat):Int:=BQ (hv p x (2^a))
theorem Py{p:LI}(hp:Rk p){r:Rn}(hr:AU 300 r){a:Nat}(ha:a<=8192):RQ 65 [H (p.map cn).length (pc (p.map cn)),A2 r (a:Nat)] (F O (DG p (L r) a)):=by
 have h:=Us (rs:=p.map cn) (AR hp.1) hr a (by rw[Q];exact dP hp.2 ha) (by omega);rw[s] at h;exact h
theorem WJ{rs:List Rn}(hg:∀ r∈rs,AU 500000 r)(hl:rs.length<=9){r:Rn}(hr:AU 300 r){a:Nat}(ha:a<=8192) :
  RQ 80 [sL pc rs,o [B r.1,H r.2.length (lm r.2)],F O (a:Nat)] (Ag (hv (Y (N rs)) (L r) (2^a))) /\
  RQ 79 [Ag (hv (Y (N rs)) (L r) (2^a))] (F O (DG (Y (N rs)) (L r) a)):=by
 have hz:=dP (p:=N rs) (by rw[AW];exact hl) ha;rw[AW] at hz;have h:=W5 hg hr a hz (by omega);have hf:=YL (K:=500000) hr.fits a (ts:=Y (N rs)) (M1 (Dk hg));have ht:=BA (N rs);rw[AW] at ht;have hlen:(Y (N rs)).length*(300+(a / 32+1)+1)<=9*560:=BG (by omega) (by omega);exact⟨h,cB (by have:=hf.len;omega)⟩
def TXB:C8:=TXA
theorem yO:Co DK TXB:=yN
theorem VA(c x q:Int):∀ p:LI,hv p (c*x) (c*q)=c^(p.length-1)*hv p x q
 | []=>by simp[hv]
 | [a]=>by simp[hv]
 | a::b::p=>by
  have ih:=VA c x q (b::p);have e:∀ y d,hv (a::b::p) y d=a*d^(p.length+1)+y*hv (b::p) y d:=fun _ _=>rfl;have e1:(b::p).length-1=p.length:=rfl;have e2:(a::b::p).length-1=p.length+1:=rfl;rw[e1] at ih;rw[e,e,ih,e2,Zi,A7 c p.length];generalize hv (b::p) x q=H;generalize c^p.length=C;generalize q^(p.length+1)=Q;grind
theorem KV{c:Int}(hc:0<c)(v:Int):BQ (c*v)=BQ v:=by
 unfold BQ;rcases G3 v 0 with h | h | h
 ·have:=Hp hc h;rw[if_pos this,if_pos h]
 ·subst h;rw[AG]
 ·have:=Bp hc h;rw[if_neg (by omega),if_pos this,if_neg (by omega),if_pos h]
theorem VB{p:LI}{x y:Int}{a b:Nat}(h:x*2^b=y*2^a):DG p x a=DG p y b:=by
 unfold DG;have pa:(0:Int)<2^a:=G2 (by decide);have pb:(0:Int)<2^b:=G2 (by decide);have qa:(0:Int)<(2^a)^(p.length-1):=G2 pa;have qb:(0:Int)<(2^b)^(p.length-1):=G2 pb;rw[<- KV qb (hv p x (2^a)),<- VA,<- KV qa (hv p y (2^b)),<- VA];rw[AE (2^b) x,h,AE (2^b) (2^a),AE (2^a) y]
def Fv(p:LI)(lo:Int)(a:Nat)(hi:Int)(b:Nat)(x:Int)(c:Nat):Int :=
 if BI x c lo a<=0 then 1 else if BI x c hi b>0 then -1 else if DG p x c=0 then 0 else if DG p x c=DG p hi b then -1 else 1
section
variable {p:LI} (hp:Rk p) {r t q:Rn} (hr:AU 300 r) (ht:AU 300 t) (hq:AU 300 q) {a b c:Nat} (ha:a<=8192) (hb:b<=8192) (hc:c<=8192)
include hr ht ha hb
theorem Ko:RQ 125 [o [H (p.map cn).length (pc (p.map cn)),B r.1,H r.2.length (lm r.2),F O (a:Nat),B t.1,H t.2.length (lm t.2),F O (b:Nat)]] (B (BI (L r) a (L t) b==0)) :=
 A0k _ r t _ _ _ (Kn (hr.mono (by omega)) (ht.mono (by omega)) ha hb)
include hp hq hc
theorem VC(hne:BI (L r) a (L t) b ≠ 0):RQ 76 [o [H (p.map cn).length (pc (p.map cn)),B r.1,H r.2.length (lm r.2),F O (a:Nat),B t.1,H t.2.length (lm t.2),F O (b:Nat)],A2 q (c:Nat)]
  (F O (Fv p (L r) a (L t) b (L q) c)):=by
 have h1:=Ko (p:=p) hr ht ha hb;rw[beq_eq_false_iff_ne.2 hne] at h1;have h2:=Kn (hq.mono (show 300<=600 by omega)) (hr.mono (show 300<=600 by omega)) hc ha;have h3:=Kn (hq.mono (show 300<=600 by omega)) (ht.mono (show 300<=600 by omega)) hc hb;have s1:=Py hp ht hb;have s2:=Py hp hq hc;unfold Fv;by_cases c1:BI (L q) c (L r) a<=0
 ·rw[if_pos c1];exact Aja _ r t _ _ q _ _ false rfl (decide_eq_true c1) h1 h2
 rw[if_neg c1];by_cases c2:BI (L q) c (L t) b>0
 ·rw[if_pos c2];exact Ajb _ r t _ _ q _ _ _ false rfl (decide_eq_false c1) (decide_eq_true c2) h1 h2 h3
 rw[if_neg c2];by_cases c3:BI (L q) c (L t) b=0
 ·have hs:DG p (L q) c=DG p (L t) b:=by
   apply VB;unfold BI CX at c3;split at c3
   ·exact absurd c3 (by decide)
   ·split at c3
    ·exact absurd c3 (by decide)
    ·omega
  rw[hs];by_cases c4:DG p (L t) b=0
  ·rw[if_pos c4];exact Ajc _ r t _ _ q _ _ _ _ false rfl (decide_eq_false c1) (decide_eq_false c2) (by rw[beq_iff_eq];exact c3) (by rw[beq_iff_eq];exact c4) h1 h2 h3 s1
  ·rw[if_neg c4,if_pos rfl];exact Ajd _ r t _ _ q _ _ _ _ false rfl (decide_eq_false c1) (decide_eq_false c2) (by rw[beq_iff_eq];exact c3) (by rw[beq_eq_false_iff_ne];exact c4) h1 h2 h3 s1
 ·have d3:(BI (L q) c (L t) b==0)=false:=beq_eq_false_iff_ne.2 c3;by_cases c4:DG p (L q) c=0
  ·rw[if_pos c4];exact Aje _ r t _ _ q _ _ _ _ _ false rfl (decide_eq_false c1) (decide_eq_false c2) d3 (by rw[beq_iff_eq];exact c4) h1 h2 h3 s1 s2
  rw[if_neg c4];by_cases c5:DG p (L q) c=DG p (L t) b
  ·rw[if_pos c5];exact Ajf _ r t _ _ q _ _ _ _ _ false rfl (decide_eq_false c1) (decide_eq_false c2) d3 (by rw[beq_eq_false_iff_ne];exact c4) (by rw[beq_iff_eq];exact c5) h1 h2 h3 s1 s2
  ·rw[if_neg c5];exact Ajg _ r t _ _ q _ _ _ _ _ false rfl (decide_eq_false c1) (decide_eq_false c2) d3 (by rw[beq_eq_false_iff_ne];exact c4) (by rw[beq_eq_false_iff_ne];exact c5) h1 h2 h3 s1 s2
theorem VE(hL:BH p)(hne:BI (L r) a (L t) b ≠ 0):RQ 27 [o [H (p.map cn).length (pc (p.map cn)),B r.1,H r.2.length (lm r.2),F O (a:Nat),B t.1,H t.2.length (lm t.2),F O (b:Nat)],A2 q (c:Nat)]
  (F O (Fv p (L r) a (L t) b (L q) c)):=by
 have h1:=Hx (hr.mono (show 300<=600 by omega)) (ht.mono (show 300<=600 by omega)) ha hb;have d1:(BI (L r) a (L t) b==0)=false:=beq_eq_false_iff_ne.2 hne;have h2:=Hx (hq.mono (show 300<=600 by omega)) (hr.mono (show 300<=600 by omega)) hc ha;have h3:=Hx (hq.mono (show 300<=600 by omega)) (ht.mono (show 300<=600 by omega)) hc hb;obtain⟨s1,s2⟩:=WJ (rs:=p.map cn) (AR hp.1) (by rw[Q];exact hp.2) ht hb;obtain⟨s3,s4⟩:=WJ (rs:=p.map cn) (AR hp.1) (by rw[Q];exact hp.2) hq hc;rw[s,hL] at s1 s2 s3 s4;unfold Fv;by_cases c1:BI (L q) c (L r) a<=0
 ·rw[if_pos c1];exact Ajk _ r t _ _ q _ _ _ _ d1 (decide_eq_true c1) h2 h3 h1
 rw[if_neg c1];by_cases c2:BI (L q) c (L t) b>0
 ·rw[if_pos c2];exact Ajl _ r t _ _ q _ _ _ _ d1 (decide_eq_false c1) (decide_eq_true c2) h2 h3 h1
 rw[if_neg c2];by_cases c4:DG p (L q) c=0
 ·rw[if_pos c4];exact Ajm _ r t _ _ q _ _ _ _ _ _ _ _ d1 (decide_eq_false c1) (decide_eq_false c2) (by rw[beq_iff_eq];exact c4) h2 h3 h1 s3 s4 s1 s2
 rw[if_neg c4];have d4:(DG p (L q) c==0)=false:=beq_eq_false_iff_ne.2 c4;by_cases c6:DG p (L t) b=0
 ·rw[if_neg (by omega)];exact Ajn _ r t _ _ q _ _ _ _ _ _ _ _ d1 (decide_eq_false c1) (decide_eq_false c2) d4 (by rw[beq_iff_eq];exact c6) h2 h3 h1 s3 s4 s1 s2
 by_cases c5:DG p (L q) c=DG p (L t) b
 ·rw[if_pos c5];exact Ajo _ r t _ _ q _ _ _ _ _ _ _ _ d1 (decide_eq_false c1) (decide_eq_false c2) d4 (by rw[beq_eq_false_iff_ne];exact c6) (by rw[beq_iff_eq];exact c5) h2 h3 h1 s3 s4 s1 s2
 ·rw[if_neg c5];exact Ajp _ r t _ _ q _ _ _ _ _ _ _ _ d1 (decide_eq_false c1) (decide_eq_false c2) d4 (by rw[beq_eq_false_iff_ne];exact c6) (by rw[beq_eq_false_iff_ne];exact c5) h2 h3 h1 s3 s4 s1 s2
end
structure Iv where
 r:Rn
 a:Nat
 t:Rn
 b:Nat
def Iv.mn(x:Iv):Int:=PR (L x.r) x.a (L x.t) x.b
def Iv.me(x:Iv):Nat:=L7 (L x.r) x.a (L x.t) x.b
def JJ(p:LI)(x:Iv):Iv :=
 if BI (L x.r) x.a (L x.t) x.b=0 then x
 else if Fv p (L x.r) x.a (L x.t) x.b x.mn x.me<=0 then ⟨x.r,x.a,cn x.mn,x.me⟩ else ⟨cn x.mn,x.me,x.t,x.b⟩
def Iv.av(p:LI)(x:Iv):AV := o [H (p.map cn).length (pc (p.map cn)),B x.r.1,H x.r.2.length (lm x.r.2),F O (x.a:Nat),B x.t.1,H x.t.2.length (lm x.t.2),F O (x.b:Nat)]
structure IvOk (C m:Nat) (x:Iv):Prop where
 gr:AU 300 x.r
 gt:AU 300 x.t
 a:x.a<=m
 b:x.b<=m
 vr:(L x.r).natAbs<=2^C*2^x.a
 vt:(L x.t).natAbs<=2^C*2^x.b
theorem Pz{x a y b}:L7 x a y b<=max a b+1:=by unfold L7;omega
theorem U6{x:Int}{a:Nat}{y:Int}{b C:Nat}(hx:x.natAbs<=2^C*2^a)(hy:y.natAbs<=2^C*2^b):(PR x a y b).natAbs<=2^C*2^L7 x a y b:=by
 have hz:=Rj (max a b+1) (JA x a y b);have hd:=Mf (max a b+1) (JA x a y b);have h1:(JA x a y b).natAbs<=2^C*2^(max a b+1):=by
  unfold JA;have e1:(x*2^(max a b-a)).natAbs<=2^C*2^max a b:=by
   rw[BS,Qa];have:2^C*2^max a b=2^C*2^a*2^(max a b-a):=by rw[Fm,<- De 2 a];congr 2;omega
   rw[this];exact BG hx (Ao _)
  have e2:(y*2^(max a b-b)).natAbs<=2^C*2^max a b:=by
   rw[BS,Qa];have:2^C*2^max a b=2^C*2^b*2^(max a b-b):=by rw[Fm,<- De 2 b];congr 2;omega
   rw[this];exact BG hy (Ao _)
  have e3:2^C*2^(max a b+1)=2^C*2^max a b+2^C*2^max a b:=by rw[Gx,<- Fm];omega
  omega
 unfold PR L7;generalize JA x a y b=S at *
 generalize Eg S (max a b+1)=z at *
 obtain⟨N,rfl⟩:=hd;have pz:(0:Int)<2^z:=G2 (by decide);rw[Cc _ (by omega)];rw[BS,Qa] at h1;have e4:2^C*2^(max a b+1)=2^z*(2^C*2^(max a b+1-z)):=by
  rw[Nat.mul_left_comm,<- De 2 z];congr 2;omega
 rw[e4] at h1;exact Nat.le_of_mul_le_mul_left h1 (DH (by decide))
theorem C_{n:Int}{k:Nat}(h:n.natAbs<=2^k){K:Nat}(hk:k<32*K):Bv K n:=by
 unfold Bv;have:(4294967296:Nat)^K=2^(32*K):=by rw[AEg]
 rw[this];exact DF h (Tv (by decide) hk)
theorem Acm{p:LI}{C m:Nat}{x:Iv}(h:IvOk C m x)(hC:C+m+1<8000):IvOk C (m+1) (JJ p x):=by
 obtain⟨gr,gt,ha,hb,vr,vt⟩:=h;have e1:=U6 vr vt;have e2:x.me<=max x.a x.b+1:=Pz;have e3:x.mn.natAbs<=2^C*2^x.me:=e1;have hf:AU 300 (cn x.mn):=B4 (C_ (k:=C+x.me) (by rw[De];exact e3) (by omega));unfold JJ;split
 ·exact⟨gr,gt,by omega,by omega,vr,vt⟩
 ·split
  ·exact⟨gr,hf,by show x.a<=_;omega,by show x.me<=_;omega,vr,by show (L (cn x.mn)).natAbs<=_;rw[A6];exact e3⟩
  ·exact⟨hf,gt,by show x.me<=_;omega,by show x.b<=_;omega,by show (L (cn x.mn)).natAbs<=_;rw[A6];exact e3,vt⟩
section
variable {p:LI} (hp:Rk p) {C m:Nat} {x:Iv} (h:IvOk C m x) (hC:C+m+1<8000)
include hp h hC
theorem VF:RQ 82 [x.av p] ((JJ p x).av p):=by
 obtain⟨gr,gt,ha,hb,vr,vt⟩:=h;have h1:=Ko (p:=p) gr gt (a:=x.a) (b:=x.b) (by omega) (by omega);unfold JJ;by_cases c1:BI (L x.r) x.a (L x.t) x.b=0
 ·rw[if_pos c1];rw[beq_iff_eq.2 c1] at h1;exact Ajh _ x.r x.t _ _ true rfl h1
 ·rw[if_neg c1];rw[beq_eq_false_iff_ne.2 c1] at h1;have e3:x.mn.natAbs<=2^C*2^x.me:=U6 vr vt;have e2:x.me<=max x.a x.b+1:=Pz;have hf:AU 300 (cn x.mn):=B4 (C_ (k:=C+x.me) (by rw[De];exact e3) (by omega));have h2:=Px (gr.mono (show 300<=600 by omega)) (gt.mono (show 300<=600 by omega)) (a:=x.a) (b:=x.b) (by omega) (by omega);have h3:=VC hp gr gt hf (a:=x.a) (b:=x.b) (c:=x.me) (by omega) (by omega) (by omega) c1;rw[A6] at h3;by_cases c2:Fv p (L x.r) x.a (L x.t) x.b x.mn x.me<=0
  ·rw[if_pos c2];exact Aji _ x.r x.t _ _ _ _ _ false rfl (decide_eq_true c2) h1 h2 h3
  ·rw[if_neg c2];exact Ajj _ x.r x.t _ _ _ _ _ false rfl (decide_eq_false c2) h1 h2 h3
theorem Zj(hL:BH p):RQ 72 [x.av p] ((JJ p x).av p):=by
 obtain⟨gr,gt,ha,hb,vr,vt⟩:=h;have h1:=Hx (gr.mono (show 300<=600 by omega)) (gt.mono (show 300<=600 by omega)) (a:=x.a) (b:=x.b) (by omega) (by omega);unfold JJ;by_cases c1:BI (L x.r) x.a (L x.t) x.b=0
 ·rw[if_pos c1];exact Ajq _ x.r x.t _ _ _ (by rw[beq_iff_eq];exact c1) h1
 ·rw[if_neg c1];have d1:(BI (L x.r) x.a (L x.t) x.b==0)=false:=beq_eq_false_iff_ne.2 c1;have e3:x.mn.natAbs<=2^C*2^x.me:=U6 vr vt;have e2:x.me<=max x.a x.b+1:=Pz;have hf:AU 300 (cn x.mn):=B4 (C_ (k:=C+x.me) (by rw[De];exact e3) (by omega));have h2:=yM (gr.mono (show 300<=600 by omega)) (gt.mono (show 300<=600 by omega)) (a:=x.a) (b:=x.b) (by omega) (by omega);have h3:=VE hp gr gt hf (a:=x.a) (b:=x.b) (c:=x.me) (by omega) (by omega) (by omega) hL c1;rw[A6] at h3;by_cases c2:Fv p (L x.r) x.a (L x.t) x.b x.mn x.me<=0
  ·rw[if_pos c2];exact Ajr _ x.r x.t _ _ _ _ _ _ d1 (decide_eq_true c2) h1 h2 h3
  ·rw[if_neg c2];exact Ajs _ x.r x.t _ _ _ _ _ _ d1 (decide_eq_false c2) h1 h2 h3
end
def TXC:C8:=TXB
theorem E3:Co DK TXC:=yO
end
end Go.Proofs.YtajompaehjkgkaaGreat
namespace Go.Ai
open Int renaming toNat->D
open List renaming append_assoc->L0,cons_append->I_,drop->g,drop_eq_getElem_cons->B2,drop_succ_cons->yP,getD_eq_getElem?_getD->Z,getElem?_eq_getElem->Ad,length_append->AY,length_cons->B0
open Nat renaming add_mul->DE
structure Rt where
 fs:List Rn
 r:Rn
 e:Int
 t:Rn
 f:Int
def Rt.cs(x:Rt):List AV:=[.sl x.fs.length (pc x.fs),.bool x.r.1,.sl x.r.2.length (lm x.r.2),.int .i64 x.e,.bool x.t.1,.sl x.t.2.length (lm x.t.2),.int .i64 x.f]
def zR:Rt:=⟨[],z0,0,z0,0⟩
def CI:List Rt->List AV
 | []=>[]
 | x::l=>x.cs++CI l
theorem GR:∀ l:List Rt,(CI l).length=l.length*7
 | []=>rfl
 | x::l=>by
  have h:=GR l;have e:x.cs.length=7:=rfl;simp only[CI,AY,B0,DE];omega
theorem Ny:∀ l k:List Rt,CI (l++k)=CI l++CI k
 | [],_=>rfl
 | x::l,k=>by rw[I_,CI,CI,Ny l k,L0]
theorem Oq:∀ (l:List Rt) (i:Nat),(CI l).drop (i*7)=CI (l.drop i)
 | [],i=>by simp[CI]
 | x::l,0=>rfl
 | x::l,i+1=>by
  rw[yP,<- Oq l i];have e:CI (x::l) = .sl x.fs.length (pc x.fs) :: .bool x.r.1 :: .sl x.r.2.length (lm x.r.2) :: .int .i64 x.e :: .bool x.t.1 :: .sl x.t.2.length (lm x.t.2) :: .int .i64 x.f::CI l:=rfl;rw[e,show (i+1)*7=i*7+1+1+1+1+1+1+1 by omega];simp only[yP]
theorem HY{l:List Rt}{X:Int}(h:0<=X/\X<(l.length:Int)):Bj (g (D X*7) (CI l)) 0 7 false=some (.agg (l.getD (D X) zR).cs):=by
 have hl:=EI h;rw[Oq,B2 hl];have e:l.getD (D X) zR=l[D X]:=by rw[Z,Ad hl];rfl
 rw[e];rfl
end Go.Ai
namespace Go.Proofs.YtajompaehjkgkaaGreat
open Go.Ai
set_option maxRecDepth 100000
open Decidable renaming decide->A
open Go.Ai.AV renaming agg->o,bool->B,fresh->P,int->F,sl->H,tup->Ar
open Go.Ai.Reg renaming box->Ay,val->C
open Go.IntKind renaming i64->O,wrap->I
open Go.Proofs.Tryz renaming prog->Mv
open Int renaming toNat->D
open List renaming length->Bl
open Nat renaming le_refl->Ao
noncomputable section
theorem Zk(ls:List (List Rn))(r t:Rn)(e f x y m:Int)(c1:((I O (x-y))==0)=true):RQ 105 [sL pp ls,A2 r e,A2 t f,F O x,F O y,F O m] (.frs (.tp true) 7 0 []):=i (fn:=iF Mv Apl) E3 rfl 400 rfl [bT] (Jx c1)
theorem Zl(ls:List (List Rn))(r t:Rn)(e f x y m:Int)(c1:((I O (x-y))==0)=false)(c2:((I O (x-y))==1)=true)(n1:0<=(0:Int)/\(0:Int)<(ls.length:Int)):RQ 105 [sL pp ls,A2 r e,A2 t f,F O x,F O y,F O m] (.frs (.tp true) 7 1 [H ((ls.getD (D 0) []).length) (pc (ls.getD (D 0) [])),B r.1,H r.2.length (lm r.2),F O e,B t.1,H t.2.length (lm t.2),F O f]):=i (fn:=iF Mv Apl) E3 rfl 400 rfl [bF,bT,.v (H ((ls.getD (D 0) []).length) (pc (ls.getD (D 0) [])))] (JS c1 c2 n1 (Cq n1))
theorem yQ(ls:List (List Rn))(r t:Rn)(e f x y m n g v:Int)(b1 b2:Bool)(k1 k2:Nat)(cs1 cs2:List AV)(c1:((I O (x-y))==0)=false)(c2:((I O (x-y))==1)=false)(c3:A (g>m)=false)(c4:(b1)=true)(n1:Bl cs2=k2*7)(n2:k1+k2<=1048576)(n3:RQ 133 [A2 r e,A2 t f] (A2 (cn n) g))(n4:RQ 68 [sL pp ls,A2 (cn n) g] (F O v))(n5:RQ 105 [sL pp ls,A2 r e,A2 (cn n) g,F O x,F O v,F O m] (.frs (.tp b1) 7 k1 cs1))(n6:RQ 105 [sL pp ls,A2 (cn n) g,A2 t f,F O v,F O y,F O m] (.frs (.tp b2) 7 k2 cs2)):RQ 105 [sL pp ls,A2 r e,A2 t f,F O x,F O y,F O m] (.frs (.tp b2) 7 (k1+k2) (cs1++cs2)):=i (fn:=iF Mv Apl) E3 rfl 400 rfl [bF,bF,.r (A2 (cn n) g),bF,.r (F O v),.r (.frs (.tp b1) 7 k1 cs1),bF,.r (.frs (.tp b2) 7 k2 cs2)] (OS c1 c2 n3 c3 n4 n5 (N_ c4) n6 n1 n2)
theorem Ajt(rs:List Rn)(ls:List (List Rn))(r t:Rn)(e f m:Int)(c1:A ((ls.length:Int)<2)=true)(n1:RQ 67 [sL pc rs] (P 1 ls.length (pp ls))):RQ 56 [sL pc rs,A2 r e,A2 t f,F O m] (.frs (.tp true) 7 0 []):=i (fn:=iF Mv A9p) E3 rfl 400 rfl [.r (P 1 ls.length (pp ls)),bT] (J0 n1 c1)
theorem Aju(rs:List Rn)(ls:List (List Rn))(r t:Rn)(e f x y m:Int)(b:Bool)(n:Nat)(cs:List AV)(c1:A ((ls.length:Int)<2)=false)(n1:RQ 67 [sL pc rs] (P 1 ls.length (pp ls)))(n2:RQ 68 [sL pp ls,A2 r e] (F O x))(n3:RQ 68 [sL pp ls,A2 t f] (F O y))(n4:RQ 105 [sL pp ls,A2 r e,A2 t f,F O x,F O y,F O m] (.frs (.tp b) 7 n cs)):RQ 56 [sL pc rs,A2 r e,A2 t f,F O m] (Ar [H n cs,B b]):=i (fn:=iF Mv A9p) E3 rfl 400 rfl [.r (P 1 ls.length (pp ls)),bF,.r (F O x),.r (F O y),.r (.frs (.tp b) 7 n cs)] (JL n1 c1 n2 n3 n4)
theorem A0l(rs:List Rn)(ls:List (List Rn))(r t:Rn)(e f x y:Int)(n1:RQ 67 [sL pc rs] (P 1 ls.length (pp ls)))(n2:RQ 68 [sL pp ls,A2 r e] (F O x))(n3:RQ 68 [sL pp ls,A2 t f] (F O y)):RQ 136 [sL pc rs,A2 r e,A2 t f] (F O (I O (x-y))):=i (fn:=iF Mv Arf) E3 rfl 400 rfl [.r (P 1 ls.length (pp ls)),.r (F O x),.r (F O y)] (JV n1 n2 n3)
theorem iP(fs:List Rn)(r t:Rn)(e f:Int)(gs:List Rn)(p q:Rn)(c d:Int)(s:Int)(b1:Bool)(c1:(b1)=true)(n1:RQ 125 [Bw fs r e t f] (B b1))(n2:RQ 76 [Bw gs p c q d,A2 r e] (F O s)):RQ 124 [Bw fs r e t f,Bw gs p c q d] (B (s==0)):=i (fn:=iF Mv Aqo) E3 rfl 400 rfl [.r (B b1),bT,.r (F O s)] (JV n1 c1 n2)
def XV:ICode:=c AAm 93 124
def Rl(o:Int)(fs:List Rn)(r:Rn)(e:Int)(t:Rn)(f:Int)(gs:List Rn)(p:Rn)(c:Int)(q:Rn)(d:Int):Aj:=(W 2 (IG fs r e t f::(IG gs p c q d::(C (F O o)::(W 31 [])))))
theorem A6n(o:Int)(fs:List Rn)(r:Rn)(e:Int)(t:Rn)(f:Int)(gs:List Rn)(p:Rn)(c:Int)(q:Rn)(d:Int)(c_tp:Int)(c1:A (c_tp<=0)=true)(n1:RQ 55 [A2 t f,A2 p c] (F O c_tp)):Ap XV (Rl o fs r e t f gs p c q d) .ret (Rl (-1) fs r e t f gs p c q d):=(J E3 [.r (F O c_tp),bT] Sw (J0 n1 c1))
theorem A6o(o:Int)(fs:List Rn)(r:Rn)(e:Int)(t:Rn)(f:Int)(gs:List Rn)(p:Rn)(c:Int)(q:Rn)(d:Int)(c_tp c_qr:Int)(c1:A (c_tp<=0)=false)(c2:A (c_qr<=0)=true)(n1:RQ 55 [A2 t f,A2 p c] (F O c_tp))(n2:RQ 55 [A2 q d,A2 r e] (F O c_qr)):Ap XV (Rl o fs r e t f gs p c q d) .ret (Rl 1 fs r e t f gs p c q d):=(J E3 [.r (F O c_tp),bF,.r (F O c_qr),bT] Sw (JS n1 c1 n2 c2))
theorem A6p(o:Int)(fs:List Rn)(r:Rn)(e:Int)(t:Rn)(f:Int)(gs:List Rn)(p:Rn)(c:Int)(q:Rn)(d:Int)(c_tp c_qr:Int)(fs1 gs1:List Rn)(r1 t1 p1 q1:Rn)(e1 f1 g1 h1:Int)(c1:A (c_tp<=0)=false)(c2:A (c_qr<=0)=false)(n1:RQ 55 [A2 t f,A2 p c] (F O c_tp))(n2:RQ 55 [A2 q d,A2 r e] (F O c_qr))(n3:RQ 82 [Bw fs r e t f] (Bw fs1 r1 e1 t1 f1))(n4:RQ 82 [Bw gs p c q d] (Bw gs1 p1 g1 q1 h1)):Ap XV (Rl o fs r e t f gs p c q d) .norm (Rl o fs1 r1 e1 t1 f1 gs1 p1 g1 q1 h1):=(J E3 [.r (F O c_tp),bF,.r (F O c_qr),bF,.r (Bw fs1 r1 e1 t1 f1),.r (Bw gs1 p1 g1 q1 h1)] Sw (JT n1 c1 n2 c2 n3 n4))
theorem dQ(fs:List Rn)(r t:Rn)(e f:Int)(gs:List Rn)(p q:Rn)(c d:Int)(c_tp:Int)(c1:A (c_tp<0)=true)(n1:RQ 55 [A2 t f,A2 p c] (F O c_tp)):RQ 74 [Bw fs r e t f,Bw gs p c q d] (F O (-1)):=OO AAm (W 4 (C (F O (-1))::(W 31 []))) (CE.asc (CE.asc (CE.asc (A4 (J E3 [.r (F O c_tp),bT] [4] (J0 n1 c1))))))
theorem Ajv(fs:List Rn)(r t:Rn)(e f:Int)(gs:List Rn)(p q:Rn)(c d:Int)(c_tp c_qr:Int)(c1:A (c_tp<0)=false)(c2:A (c_qr<0)=true)(n1:RQ 55 [A2 t f,A2 p c] (F O c_tp))(n2:RQ 55 [A2 q d,A2 r e] (F O c_qr)):RQ 74 [Bw fs r e t f,Bw gs p c q d] (F O 1):=OO AAm (W 4 (C (F O 1)::(W 31 []))) (CE.asc (CE.asc (CE.asc (A4 (J E3 [.r (F O c_tp),bF,.r (F O c_qr),bT] [4] (JS n1 c1 n2 c2))))))
theorem Ajw(fs:List Rn)(r t:Rn)(e f:Int)(gs:List Rn)(p q:Rn)(c d:Int)(c_tp c_qr:Int)(eq:Bool)(c1:A (c_tp<0)=false)(c2:A (c_qr<0)=false)(c3:(eq)=true)(n1:RQ 55 [A2 t f,A2 p c] (F O c_tp))(n2:RQ 55 [A2 q d,A2 r e] (F O c_qr))(n3:RQ 124 [Bw fs r e t f,Bw gs p c q d] (B eq)):RQ 74 [Bw fs r e t f,Bw gs p c q d] (F O 0):=OO AAm (W 4 (C (F O 0)::(W 31 []))) (CE.asc (CE.asc (CE.asc (A4 (J E3 [.r (F O c_tp),bF,.r (F O c_qr),bF,.r (B eq),bT] [4] (JT n1 c1 n2 c2 n3 c3))))))
theorem Ajx(fs:List Rn)(r t:Rn)(e f:Int)(gs:List Rn)(p q:Rn)(c d:Int)(c_tp c_qr z:Int)(eq:Bool)(fs1 gs1:List Rn)(r1 t1 p1 q1:Rn)(e1 f1 g1 h1:Int)(c1:A (c_tp<0)=false)(c2:A (c_qr<0)=false)(c3:(eq)=false)(n1:RQ 55 [A2 t f,A2 p c] (F O c_tp))(n2:RQ 55 [A2 q d,A2 r e] (F O c_qr))(n3:RQ 124 [Bw fs r e t f,Bw gs p c q d] (B eq))(hl4:Ap (.loop XV) (Rl 0 fs r e t f gs p c q d) .ret (Rl z fs1 r1 e1 t1 f1 gs1 p1 g1 q1 h1)):RQ 74 [Bw fs r e t f,Bw gs p c q d] (F O z):=OO AAm (W 2 (IG fs1 r1 e1 t1 f1::(IG gs1 p1 g1 q1 h1::(C (F O z)::(W 31 []))))) (CE.asc (CE.asc (CE.asc (CE.seq (J E3 [.r (F O c_tp),bF,.r (F O c_qr),bF,.r (B eq),bF] Sw (JT n1 c1 n2 c2 n3 c3)) (BO hl4)))))
def ACa:C8:=TXC
theorem pM:Co DK ACa:=E3
def ACb:C8:=ACa
theorem Cl:Co DK ACb:=pM
theorem Ajy(fs:List Rn)(r t:Rn)(e f:Int)(gs:List Rn)(c1:A ((gs.length:Int)<2)=true):RQ 69 [Bw fs r e t f,sL pc gs] (B false):=i (fn:=iF Mv AAg) Cl rfl 400 rfl [bT] (Jx c1)
theorem Ajz(fs:List Rn)(r t:Rn)(e f:Int)(gs:List Rn)(c n:Int)(c1:A ((gs.length:Int)<2)=false)(c2:(c==0)=false)(n1:RQ 33 [A2 r e,A2 t f] (F O c))(n2:RQ 63 [sL pc gs,A2 r e,A2 t f] (F O n)):RQ 69 [Bw fs r e t f,sL pc gs] (B (n==1)):=i (fn:=iF Mv AAg) Cl rfl 400 rfl [bF,.r (F O c),bF,.r (F O n)] (JS c1 n1 c2 n2)
theorem Aka(fs:List Rn)(r t:Rn)(e f:Int)(gs:List Rn)(p q:Rn)(c d:Int)(x:Int)(c1:A (x<=0)=true)(n1:RQ 33 [A2 t f,A2 p c] (F O x)):RQ 71 [Bw fs r e t f,Bw gs p c q d] (B true):=i (fn:=iF Mv AAi) Cl rfl 400 rfl [.r (F O x),bT] (J0 n1 c1)
theorem Akb(fs:List Rn)(r t:Rn)(e f:Int)(gs:List Rn)(p q:Rn)(c d:Int)(x y:Int)(c1:A (x<=0)=false)(n1:RQ 33 [A2 t f,A2 p c] (F O x))(n2:RQ 33 [A2 q d,A2 r e] (F O y)):RQ 71 [Bw fs r e t f,Bw gs p c q d] (B (A (y<=0))):=i (fn:=iF Mv AAi) Cl rfl 400 rfl [.r (F O x),bF,.r (F O y)] (JV n1 c1 n2)
def NA:ICode:=c A8k 91 450
def Kp(o:Int)(fs:List Rn)(r:Rn)(e:Int)(t:Rn)(f:Int)(gs:List Rn)(p:Rn)(c:Int)(q:Rn)(d:Int)(i:Int):Aj:=(W 2 (IG fs r e t f::(IG gs p c q d::(C (F O o)::(C (F O i)::(W 81 []))))))
theorem A0m(o:Int)(fs:List Rn)(r:Rn)(e:Int)(t:Rn)(f:Int)(gs:List Rn)(p:Rn)(c:Int)(q:Rn)(d:Int)(i:Int)(c1:(i==8)=false):Ap NA (Kp o fs r e t f gs p c q d i) .norm (Kp o fs r e t f gs p c q d i):=(J Cl [bF,bF,bF,bF] Q7 (JS c1 Fc Fc Fc))
theorem Akc(o:Int)(fs:List Rn)(r:Rn)(e:Int)(t:Rn)(f:Int)(gs:List Rn)(p:Rn)(c:Int)(q:Rn)(d:Int)(i:Int)(hs:List Rn)(b1:Bool)(w_p w_q:Int)(c1:(i==8)=true)(c2:(b1)=true)(c3:A (w_p>0)=true)(c4:A (w_q<=0)=true)(n1:RQ 70 [sL pc fs,sL pc gs] (sL pc hs))(n2:RQ 69 [Bw fs r e t f,sL pc hs] (B b1))(n3:RQ 27 [Bw fs r e t f,A2 p c] (F O w_p))(n4:RQ 27 [Bw fs r e t f,A2 q d] (F O w_q)):Ap NA (Kp o fs r e t f gs p c q d i) .ret (Kp 0 fs r e t f gs p c q d i):=(J Cl [bT,.r (sL pc hs),.r (B b1),bT,.r (F O w_p),bT,.r (F O w_q),bT] Q7 (ND c1 n1 n2 c2 n3 c3 n4 c4))
theorem Akd(o:Int)(fs:List Rn)(r:Rn)(e:Int)(t:Rn)(f:Int)(gs:List Rn)(p:Rn)(c:Int)(q:Rn)(d:Int)(i:Int)(hs:List Rn)(b1:Bool)(w_p w_q:Int)(c1:(i==8)=true)(c2:(b1)=true)(c3:A (w_p>0)=true)(c4:A (w_q<=0)=true)(n1:RQ 70 [sL pc fs,sL pc gs] (P 2 hs.length (pc hs)))(n2:RQ 69 [Bw fs r e t f,sL pc hs] (B b1))(n3:RQ 27 [Bw fs r e t f,A2 p c] (F O w_p))(n4:RQ 27 [Bw fs r e t f,A2 q d] (F O w_q)):Ap NA (Kp o fs r e t f gs p c q d i) .ret (Kp 0 fs r e t f gs p c q d i):=(J Cl [bT,.r (P 2 hs.length (pc hs)),.r (B b1),bT,.r (F O w_p),bT,.r (F O w_q),bT] Q7 (ND c1 n1 n2 c2 n3 c3 n4 c4))
def Ve:ICode:=c A8k 90 902
def T5(o:Int)(fs:List Rn)(r:Rn)(e:Int)(t:Rn)(f:Int)(gs:List Rn)(p:Rn)(c:Int)(q:Rn)(d:Int)(i:Int):Aj:=(W 2 (IG fs r e t f::(IG gs p c q d::(C (F O o)::(C (F O i)::(W 81 []))))))
theorem A0n(o:Int)(fs:List Rn)(r:Rn)(e:Int)(t:Rn)(f:Int)(gs:List Rn)(p:Rn)(c:Int)(q:Rn)(d:Int)(i:Int)(c1:A (i>=8)=false):Ap Ve (T5 o fs r e t f gs p c q d i) .norm (T5 o fs r e t f gs p c q d i):=(J Cl [bF,bF] Q7 (J0 c1 Fc))
def Su:ICode:=c A8k 95 28
def U7(o:Int)(fs:List Rn)(r:Rn)(e:Int)(t:Rn)(f:Int)(gs:List Rn)(p:Rn)(c:Int)(q:Rn)(d:Int)(i:Int):Aj:=(W 2 (IG fs r e t f::(IG gs p c q d::(C (F O o)::(C (F O i)::(W 81 []))))))
theorem A6q(o:Int)(fs:List Rn)(r:Rn)(e:Int)(t:Rn)(f:Int)(gs:List Rn)(p:Rn)(c:Int)(q:Rn)(d:Int)(i:Int)(z:Int)(c_tp c_qr c_rt c_pq:Int)(c1:(c_rt==0)=false)(c2:(c_pq==0)=false)(c3:A (c_tp<0)=false)(c4:A (c_qr<0)=false)(n1:RQ 33 [A2 t f,A2 p c] (F O c_tp))(n2:RQ 33 [A2 q d,A2 r e] (F O c_qr))(n3:RQ 33 [A2 r e,A2 t f] (F O c_rt))(n4:RQ 33 [A2 p c,A2 q d] (F O c_pq))(hl5:Ap NA (Kp o fs r e t f gs p c q d i) .ret (Kp z fs r e t f gs p c q d i)):Ap Su (U7 o fs r e t f gs p c q d i) .ret (U7 z fs r e t f gs p c q d i):=(A4 (BO (CE.seq (J Cl [.r (F O c_tp),bF,.r (F O c_qr),bF,.r (F O c_rt),bF,.r (F O c_pq),bF] Q7 (ND n1 c3 n2 c4 n3 c1 n4 c2)) (A4 hl5))))
theorem A0o(o:Int)(fs:List Rn)(r:Rn)(e:Int)(t:Rn)(f:Int)(gs:List Rn)(p:Rn)(c:Int)(q:Rn)(d:Int)(i:Int)(z:Int)(c_tp c_qr c_rt c_pq:Int)(c1:(c_rt==0)=false)(c2:(c_pq==0)=false)(c3:A (c_tp<0)=false)(c4:A (c_qr<0)=false)(n1:RQ 33 [A2 t f,A2 p c] (F O c_tp))(n2:RQ 33 [A2 q d,A2 r e] (F O c_qr))(n3:RQ 33 [A2 r e,A2 t f] (F O c_rt))(n4:RQ 33 [A2 p c,A2 q d] (F O c_pq))(hl5:Ap NA (Kp o fs r e t f gs p c q d i) .norm (Kp o fs r e t f gs p c q d i))(hl6:Ap Ve (T5 o fs r e t f gs p c q d i) .ret (T5 z fs r e t f gs p c q d i)):Ap Su (U7 o fs r e t f gs p c q d i) .ret (U7 z fs r e t f gs p c q d i):=(A4 (BO (CE.seq (J Cl [.r (F O c_tp),bF,.r (F O c_qr),bF,.r (F O c_rt),bF,.r (F O c_pq),bF] Q7 (ND n1 c3 n2 c4 n3 c1 n4 c2)) (CE.seq hl5 (A4 hl6)))))
theorem A0p(o:Int)(fs:List Rn)(r:Rn)(e:Int)(t:Rn)(f:Int)(gs:List Rn)(p:Rn)(c:Int)(q:Rn)(d:Int)(i:Int)(c_tp c_qr c_rt c_pq:Int)(fs1 gs1:List Rn)(r1 t1 p1 q1:Rn)(e1 f1 g1 h1:Int)(c1:(c_rt==0)=false)(c2:(c_pq==0)=false)(c3:A (c_tp<0)=false)(c4:A (c_qr<0)=false)(n1:RQ 33 [A2 t f,A2 p c] (F O c_tp))(n2:RQ 33 [A2 q d,A2 r e] (F O c_qr))(n3:RQ 33 [A2 r e,A2 t f] (F O c_rt))(n4:RQ 33 [A2 p c,A2 q d] (F O c_pq))(hl5:Ap NA (Kp o fs r e t f gs p c q d i) .norm (Kp o fs r e t f gs p c q d i))(hl6:Ap Ve (T5 o fs r e t f gs p c q d i) .norm (T5 o fs r e t f gs p c q d i))(n7:RQ 72 [Bw fs r e t f] (Bw fs1 r1 e1 t1 f1))(n8:RQ 72 [Bw gs p c q d] (Bw gs1 p1 g1 q1 h1)):Ap Su (U7 o fs r e t f gs p c q d i) .norm (U7 o fs1 r1 e1 t1 f1 gs1 p1 g1 q1 h1 (I O (i+1))):=(CE.seq (v (CE.seq (J Cl [.r (F O c_tp),bF,.r (F O c_qr),bF,.r (F O c_rt),bF,.r (F O c_pq),bF] Q7 (ND n1 c3 n2 c4 n3 c1 n4 c2)) (CE.seq hl5 (CE.seq hl6 (J (t:=(W 2 (IG fs1 r1 e1 t1 f1::(IG gs1 p1 g1 q1 h1::(u o::(u i::(W 81 []))))))) Cl [.r (Bw fs1 r1 e1 t1 f1),.r (Bw gs1 p1 g1 q1 h1)] Q7 (J0 n7 n8)))))) (J Cl [] Q7 a0))
theorem A6r(fs:List Rn)(r t:Rn)(e f:Int)(gs:List Rn)(p q:Rn)(c d:Int)(z i:Int)(fs1 gs1:List Rn)(r1 t1 p1 q1:Rn)(e1 f1 g1 h1:Int)(hl1:Ap (.loop Su) (U7 0 fs r e t f gs p c q d 0) .ret (U7 z fs1 r1 e1 t1 f1 gs1 p1 g1 q1 h1 i)):RQ 19 [Bw fs r e t f,Bw gs p c q d] (F O z):=OO A8k (W 2 (IG fs1 r1 e1 t1 f1::(IG gs1 p1 g1 q1 h1::(C (F O z)::(C (F O i)::(W 81 [])))))) (CE.asc (CE.seq (J Cl [] Q7 a0) (BO hl1)))
def Jy:ICode:=c Aqo 94 63
def Fj(o:Bool)(fs:List Rn)(r:Rn)(e:Int)(t:Rn)(f:Int)(gs:List Rn)(p:Rn)(c:Int)(q:Rn)(d:Int)(u:Rn)(a:Int)(w:Rn)(b:Int):Aj:=(W 2 (IG fs r e t f::(IG gs p c q d::(C (B o)::(Ay [B u.1,H u.2.length (lm u.2),F O a]::(Ay [B w.1,H w.2.length (lm w.2),F O b]::(W 54 [])))))))
theorem Ake(o:Bool)(fs:List Rn)(r:Rn)(e:Int)(t:Rn)(f:Int)(gs:List Rn)(p:Rn)(c:Int)(q:Rn)(d:Int)(u:Rn)(a:Int)(w:Rn)(b:Int)(c_uw:Int)(c1:A (c_uw>=0)=true)(n1:RQ 55 [A2 u a,A2 w b] (F O c_uw)):Ap Jy (Fj o fs r e t f gs p c q d u a w b) .ret (Fj false fs r e t f gs p c q d u a w b):=(J Cl [.r (F O c_uw),bT] Q6 (J0 n1 c1))
theorem Akf(o:Bool)(fs:List Rn)(r:Rn)(e:Int)(t:Rn)(f:Int)(gs:List Rn)(p:Rn)(c:Int)(q:Rn)(d:Int)(u:Rn)(a:Int)(w:Rn)(b:Int)(hs:List Rn)(c_uw x:Int)(c1:A (c_uw>=0)=false)(c2:A ((hs.length:Int)>1)=true)(n1:RQ 55 [A2 u a,A2 w b] (F O c_uw))(n2:RQ 135 [sL pc fs,sL pc gs] (sL pc hs))(n3:RQ 136 [sL pc hs,A2 u a,A2 w b] (F O x)):Ap Jy (Fj o fs r e t f gs p c q d u a w b) .ret (Fj (A (x>0)) fs r e t f gs p c q d u a w b):=(J Cl [.r (F O c_uw),bF,.r (sL pc hs),bT,.r (F O x)] Q6 (JL n1 c1 n2 c2 n3))
theorem Akg(o:Bool)(fs:List Rn)(r:Rn)(e:Int)(t:Rn)(f:Int)(gs:List Rn)(p:Rn)(c:Int)(q:Rn)(d:Int)(u:Rn)(a:Int)(w:Rn)(b:Int)(hs:List Rn)(c_uw:Int)(c1:A (c_uw>=0)=false)(c2:A ((hs.length:Int)>1)=false)(n1:RQ 55 [A2 u a,A2 w b] (F O c_uw))(n2:RQ 135 [sL pc fs,sL pc gs] (sL pc hs)):Ap Jy (Fj o fs r e t f gs p c q d u a w b) .ret (Fj false fs r e t f gs p c q d u a w b):=(J Cl [.r (F O c_uw),bF,.r (sL pc hs),bF] Q6 (JS n1 c1 n2 c2))
theorem yR(o:Bool)(fs:List Rn)(r:Rn)(e:Int)(t:Rn)(f:Int)(gs:List Rn)(p:Rn)(c:Int)(q:Rn)(d:Int)(u:Rn)(a:Int)(w:Rn)(b:Int)(hs:List Rn)(c_uw x:Int)(c1:A (c_uw>=0)=false)(c2:A ((hs.length:Int)>1)=true)(n1:RQ 55 [A2 u a,A2 w b] (F O c_uw))(n2:RQ 135 [sL pc fs,sL pc gs] (P 2 hs.length (pc hs)))(n3:RQ 136 [sL pc hs,A2 u a,A2 w b] (F O x)):Ap Jy (Fj o fs r e t f gs p c q d u a w b) .ret (Fj (A (x>0)) fs r e t f gs p c q d u a w b):=(J Cl [.r (F O c_uw),bF,.r (P 2 hs.length (pc hs)),bT,.r (F O x)] Q6 (JL n1 c1 n2 c2 n3))
theorem yS(o:Bool)(fs:List Rn)(r:Rn)(e:Int)(t:Rn)(f:Int)(gs:List Rn)(p:Rn)(c:Int)(q:Rn)(d:Int)(u:Rn)(a:Int)(w:Rn)(b:Int)(hs:List Rn)(c_uw:Int)(c1:A (c_uw>=0)=false)(c2:A ((hs.length:Int)>1)=false)(n1:RQ 55 [A2 u a,A2 w b] (F O c_uw))(n2:RQ 135 [sL pc fs,sL pc gs] (P 2 hs.length (pc hs))):Ap Jy (Fj o fs r e t f gs p c q d u a w b) .ret (Fj false fs r e t f gs p c q d u a w b):=(J Cl [.r (F O c_uw),bF,.r (P 2 hs.length (pc hs)),bF] Q6 (JS n1 c1 n2 c2))
def RC:ICode:=c Aqo 96 15
def KC(o:Bool)(fs:List Rn)(r:Rn)(e:Int)(t:Rn)(f:Int)(gs:List Rn)(p:Rn)(c:Int)(q:Rn)(d:Int)(u:Rn)(a:Int)(w:Rn)(b:Int):Aj:=(W 2 (IG fs r e t f::(IG gs p c q d::(C (B o)::(Ay [B u.1,H u.2.length (lm u.2),F O a]::(Ay [B w.1,H w.2.length (lm w.2),F O b]::(W 54 [])))))))
theorem Akh(o:Bool)(fs:List Rn)(r:Rn)(e:Int)(t:Rn)(f:Int)(gs:List Rn)(p:Rn)(c:Int)(q:Rn)(d:Int)(u:Rn)(a:Int)(w:Rn)(b:Int)(z:Bool)(c_pu c_qw:Int)(c1:A (c_pu>0)=true)(c2:A (c_qw<0)=true)(n1:RQ 55 [A2 p c,A2 u a] (F O c_pu))(n2:RQ 55 [A2 q d,A2 w b] (F O c_qw))(hl3:Ap Jy (Fj o fs r e t f gs p c q d p c q d) .ret (Fj z fs r e t f gs p c q d p c q d)):Ap RC (KC o fs r e t f gs p c q d u a w b) .ret (KC z fs r e t f gs p c q d p c q d):=(CE.asc (CE.seq (J Cl [.r (F O c_pu),bT,.r (F O c_qw),bT] Q6 (JS n1 c1 n2 c2)) hl3))
theorem Aki(o:Bool)(fs:List Rn)(r:Rn)(e:Int)(t:Rn)(f:Int)(gs:List Rn)(p:Rn)(c:Int)(q:Rn)(d:Int)(u:Rn)(a:Int)(w:Rn)(b:Int)(z:Bool)(c_pu c_qw:Int)(c1:A (c_pu>0)=true)(c2:A (c_qw<0)=false)(n1:RQ 55 [A2 p c,A2 u a] (F O c_pu))(n2:RQ 55 [A2 q d,A2 w b] (F O c_qw))(hl3:Ap Jy (Fj o fs r e t f gs p c q d p c w b) .ret (Fj z fs r e t f gs p c q d p c w b)):Ap RC (KC o fs r e t f gs p c q d u a w b) .ret (KC z fs r e t f gs p c q d p c w b):=(CE.asc (CE.seq (J Cl [.r (F O c_pu),bT,.r (F O c_qw),bF] Q6 (JS n1 c1 n2 c2)) hl3))
theorem Akj(o:Bool)(fs:List Rn)(r:Rn)(e:Int)(t:Rn)(f:Int)(gs:List Rn)(p:Rn)(c:Int)(q:Rn)(d:Int)(u:Rn)(a:Int)(w:Rn)(b:Int)(z:Bool)(c_pu c_qw:Int)(c1:A (c_pu>0)=false)(c2:A (c_qw<0)=true)(n1:RQ 55 [A2 p c,A2 u a] (F O c_pu))(n2:RQ 55 [A2 q d,A2 w b] (F O c_qw))(hl3:Ap Jy (Fj o fs r e t f gs p c q d u a q d) .ret (Fj z fs r e t f gs p c q d u a q d)):Ap RC (KC o fs r e t f gs p c q d u a w b) .ret (KC z fs r e t f gs p c q d u a q d):=(CE.asc (CE.seq (J Cl [.r (F O c_pu),bF,.r (F O c_qw),bT] Q6 (JS n1 c1 n2 c2)) hl3))
theorem Akk(o:Bool)(fs:List Rn)(r:Rn)(e:Int)(t:Rn)(f:Int)(gs:List Rn)(p:Rn)(c:Int)(q:Rn)(d:Int)(u:Rn)(a:Int)(w:Rn)(b:Int)(z:Bool)(c_pu c_qw:Int)(c1:A (c_pu>0)=false)(c2:A (c_qw<0)=false)(n1:RQ 55 [A2 p c,A2 u a] (F O c_pu))(n2:RQ 55 [A2 q d,A2 w b] (F O c_qw))(hl3:Ap Jy (Fj o fs r e t f gs p c q d u a w b) .ret (Fj z fs r e t f gs p c q d u a w b)):Ap RC (KC o fs r e t f gs p c q d u a w b) .ret (KC z fs r e t f gs p c q d u a w b):=(CE.asc (CE.seq (J Cl [.r (F O c_pu),bF,.r (F O c_qw),bF] Q6 (JS n1 c1 n2 c2)) hl3))
theorem RW(fs:List Rn)(r t:Rn)(e f:Int)(gs:List Rn)(p q:Rn)(c d:Int)(z:Bool)(b1 b2:Bool)(u w:Rn)(a b:Int)(c1:(b1)=false)(c2:(b2)=false)(n1:RQ 125 [Bw fs r e t f] (B b1))(n2:RQ 125 [Bw gs p c q d] (B b2))(hl3:Ap RC (KC false fs r e t f gs p c q d r e t f) .ret (KC z fs r e t f gs p c q d u a w b)):RQ 124 [Bw fs r e t f,Bw gs p c q d] (B z):=OO Aqo (W 2 (IG fs r e t f::(IG gs p c q d::(C (B z)::(Ay [B u.1,H u.2.length (lm u.2),F O a]::(Ay [B w.1,H w.2.length (lm w.2),F O b]::(W 54 []))))))) (CE.asc (CE.asc (CE.seq (J Cl [.r (B b1),bF,.r (B b2),bF] Q6 (JS n1 c1 n2 c2)) hl3)))
def TXVA:C8:=ACb
theorem V:Co DK TXVA:=Cl
def stpN(p:LI)(x:Iv):Nat->Iv
 | 0=>x
 | n+1=>JJ p (stpN p x n)
theorem JB{p:LI}{C m:Nat}{x:Iv}(h:IvOk C m x):∀ n,C+m+n<8000->IvOk C (m+n) (stpN p x n)
 | 0,_=>h
 | n+1,hc=>Acm (m:=m+n) (JB h n (by omega)) (by omega)
section
variable {rs:List Rn} (hg:∀ r∈rs,AU 5 r) (hn:rs.length<=9)
include hg hn
theorem Zm(r t:Rn)(e f:Int):RQ 20 [o [sL pc rs,B r.1,H r.2.length (lm r.2),F O e,B t.1,H t.2.length (lm t.2),F O f]]
  (o [H ((S (N rs)).map cn).length (pc ((S (N rs)).map cn)),B r.1,H r.2.length (lm r.2),F O e,B t.1,H t.2.length (lm t.2),F O f]) :=
 A6m rs r t e f _ (U5 (K:=5) (c:=9) hg hn (Ao _) (by decide))
end
end
end Go.Proofs.YtajompaehjkgkaaGreat
namespace Go.Ai
open Classical renaming byContradiction->A1
open Int renaming add_mul->Gw,add_zero->BJ,le_of_eq->Mg,le_of_lt->Aw,le_of_mul_le_mul_left->F5,le_of_mul_le_mul_right->Cj,le_refl->Dg,le_trans->FJ,mul_add->CT,mul_assoc->AK,mul_comm->AE,mul_le_mul->EO,mul_le_mul_of_nonneg_left->Al,mul_le_mul_of_nonneg_right->Ac,mul_ne_zero->AS,mul_neg->EY,mul_neg_of_pos_of_neg->Hp,mul_nonneg->AA,mul_one->Dh,mul_pos->Bp,mul_pow->Zi,mul_sub->Fy,natAbs_mul->BS,natAbs_of_nonneg->MN,natCast_add->LN,natCast_mul->DI,neg_mul->NM,not_le->FD,one_mul->Dt,pow_add->BB,pow_nonneg->P_,pow_pos->G2,pow_succ->A7,pow_zero->Dj,toNat_of_nonneg->U9,zero_add->Ed,zero_mul->BU
open List renaming eq_nil_of_length_eq_zero->A5,length_map->Q,length_pos_iff->Ak,length_range->BE,map_congr_left->GM,map_cons->Cx,map_nil->FW,range->Aq
open Nat renaming add_assoc->DW,add_sub_cancel->Ie,le_refl->Ao,mul_le_mul->BG,succ_mul->MO,zero_add->Cb
def hs(c:Nat->Int)(x q:Int):Nat->Int
 | 0=>c 0
 | T+1=>q*hs c x q T+c (T+1)*x^(T+1)
theorem P0{c d:Nat->Int}{x q:Int}:∀ {T:Nat},(∀ i,i<=T->c i=d i)->hs c x q T=hs d x q T
 | 0,h=>h 0 (Ao _)
 | T+1,h=>by
  simp only[hs];rw[P0 (T:=T) fun i hi=>h i (by omega),h (T+1) (Ao _)]
theorem Nz(a b:Int)(c d:Nat->Int)(x q:Int):∀ T:Nat,hs (fun i=>a*c i+b*d i) x q T=a*hs c x q T+b*hs d x q T
 | 0=>rfl
 | T+1=>by
  simp only[hs];rw[Nz a b c d x q T];grind
theorem pO{c:Nat->Int}{T:Nat}(h:∀ i,T<i->c i=0)(x q:Int):∀ k:Nat,hs c x q (T+k)=q^k*hs c x q T
 | 0=>by simp
 | k+1=>by
  rw[<- DW];simp only[hs];rw[pO h x q k,h _ (by omega),A7];grind
theorem RX(c:Nat->Int)(x q:Int):∀ T:Nat,hs c x q (T+1)=c 0*q^(T+1)+x*hs (fun i=>c (i+1)) x q T
 | 0=>by simp only[hs];grind
 | T+1=>by
  have h:=RX c x q T;have e1:hs c x q (T+1+1)=q*hs c x q (T+1)+c (T+1+1)*x^(T+1+1):=rfl;have e2:hs (fun i=>c (i+1)) x q (T+1)=q*hs (fun i=>c (i+1)) x q T+c (T+1+1)*x^(T+1):=rfl;rw[e1,h,e2,A7 q (T+1),A7 x (T+1)];grind
theorem Akl(c:Nat->Int)(x q:Int)(T:Nat):hs (fun i=>if i=0 then 0 else c (i-1)) x q (T+1)=x*hs c x q T:=by
 rw[RX];simp only[if_pos,BU,Ed];rw[P0 (d:=c) fun i _=>by rw[if_neg (by omega),Ie]]
def hp(p:LI)(x q:Int)(T:Nat):Int:=hs (fun i=>p.getD i 0) x q T
theorem iQ:∀ (p:LI) (x q:Int),hv p x q=hp p x q (p.length-1)
 | [],_,_=>rfl
 | [a],x,q=>by simp[hv,hp,hs]
 | a::b::p,x,q=>by
  have ih:=iQ (b::p) x q;have e:hp (a::b::p) x q ((a::b::p).length-1)=a*q^(b::p).length+x*hp (b::p) x q ((b::p).length-1):=by
   unfold hp;show hs _ x q ((b::p).length-1+1)=_;rw[RX];rfl
  rw[e,<- ih];rfl
theorem U8{p:LI}{T:Nat}(h:p.length<=T+1)(x q:Int)(k:Nat):hp p x q (T+k)=q^k*hp p x q T :=
 pO (fun i hi=>B3 (by omega)) x q k
theorem Xs(x q:Int):∀ T:Nat,hp [] x q T=0
 | 0=>rfl
 | T+1=>by
  have:=Xs x q T;unfold hp at *
  simp only[hs];rw[this];simp
theorem Xt{r:LI}{tr:Nat}(hr:r.length<=tr+1)(x q:Int):∀ (p:LI) (tp:Nat),p.length<=tp+1->hp (Bs p r) x q (tp+tr)=hp p x q tp*hp r x q tr
 | [],tp,_=>by rw[Xs,BU];exact Xs x q _
 | a::p,tp,h=>by
  have hc:∀ i,(Bs (a::p) r).getD i 0=a*r.getD i 0+1*(if i=0 then 0 else (Bs p r).getD (i-1) 0):=by
   intro i;rw[Fu,Cw];by_cases h0:i=0
   ·subst h0;rw[if_neg (by omega),if_pos rfl];omega
   ·rw[if_pos (by omega),if_neg h0];omega
  cases tp with
  | zero =>
   have hp0:p=[]:=A5 (by have h':p.length+1<=0+1:=h;omega);subst hp0;have h0:∀ i,(Bs [] r).getD i 0=0:=fun i=>rfl;unfold hp;rw[P0 (d:=fun i=>a*r.getD i 0+0*r.getD i 0) fun i _=>by rw[hc,h0];split <;> simp,Nz,Cb];simp[hs]
  | succ tp =>
   have ih:=Xt hr x q p tp (by have h':p.length+1<=tp+1+1:=h;omega);have hm:=U8 hr x q (tp+1);have ha:hp (a::p) x q (tp+1)=a*q^(tp+1)+x*hp p x q tp:=by unfold hp;rw[RX];rfl
   have hsh:=Akl (fun i=>(Bs p r).getD i 0) x q (tp+tr);have e:hp (Bs (a::p) r) x q (tp+1+tr)=a*hp r x q (tp+1+tr)+1*(x*hp (Bs p r) x q (tp+tr)):=by
    unfold hp;rw[P0 fun i _=>hc i,Nz,show tp+1+tr=tp+tr+1 by omega];rw[hsh]
   rw[e,ih,show tp+1+tr=tr+(tp+1) by omega,hm,ha];grind
theorem A0q{r d e Q:LI}{c c':Int}(h:∀ x,c*Aa r x=Aa Q x*Aa d x+c'*Aa e x)(x q:Int){tq td:Nat}(hQ:Q.length<=tq+1)(hd:d.length<=td+1) :
  c*hp r x q (tq+td)=hp Q x q tq*hp d x q td+c'*hp e x q (tq+td):=by
 have hi:=Dq (p:=As c r) (q:=Ec (Bs Q d) (As c' e)) (fun x=>by rw[A0,BY,AX,A0];exact h x);have hc:∀ i,c*r.getD i 0+0*r.getD i 0=1*(Bs Q d).getD i 0+c'*e.getD i 0:=by
  intro i;have:=hi i;rw[m,DS,m] at this;omega
 rw[<- Xt hd x q Q tq hQ];unfold hp;have h1:=Nz c 0 (fun i=>r.getD i 0) (fun i=>r.getD i 0) x q (tq+td);have h2:=Nz 1 c' (fun i=>(Bs Q d).getD i 0) (fun i=>e.getD i 0) x q (tq+td);rw[P0 fun i _=>hc i,h2] at h1;omega
theorem Ds{a b A B:Int}(ha:(a.natAbs:Int)<=A)(hb:(b.natAbs:Int)<=B):((a*b).natAbs:Int)<=A*B:=by
 rw[BS,DI];exact EO ha hb (by omega) (by omega)
theorem Jj{a b A B:Int}(ha:(a.natAbs:Int)<=A)(hb:(b.natAbs:Int)<=B):((a+b).natAbs:Int)<=A+B:=by omega
theorem N0{a A:Int}(ha:(a.natAbs:Int)<=A):∀ n:Nat,((a^n).natAbs:Int)<=A^n
 | 0=>by simp
 | n+1=>by rw[A7,A7];exact Ds (N0 ha n) ha
theorem RY(c:Nat->Int)(R:Int)(hR:0<=R):∀ T:Nat,∃ K:Int,0<=K/\∀ q x:Int,0<q->(x.natAbs:Int)<=R*q->((hs c x q T).natAbs:Int)<=K*q^T
 | 0=>⟨((c 0).natAbs:Int),by omega,fun q x _ _=>by simp[hs]⟩
 | T+1=>by
  obtain⟨K,hK,h⟩:=RY c R hR T;refine⟨K+((c (T+1)).natAbs:Int)*R^(T+1),?_,fun q x hq hx => ?_⟩
  ·have:=AA (show (0:Int)<=((c (T+1)).natAbs:Int) by omega) (P_ (m:=T+1) hR);omega
  ·simp only[hs];have h1:=Ds (a:=q) (A:=q) (by omega) (h q x hq hx);have h2:=Ds (a:=c (T+1)) (A:=((c (T+1)).natAbs:Int)) (by omega) (N0 hx (T+1));have h3:=Jj h1 h2;have e:(R*q)^(T+1)=R^(T+1)*q^(T+1):=Zi ..;rw[e] at h3;refine FJ h3 (Mg ?_);rw[A7 q T];grind
theorem dR{x A:Int}(hx:(x.natAbs:Int)<=A)(hx1:((x+1).natAbs:Int)<=A):∀ n:Nat,(((x+1)^(n+1)-x^(n+1)).natAbs:Int)<=((n+1:Nat):Int)*A^n
 | 0=>by
  have e:(x+1)^(0+1)-x^(0+1)=1:=by rw[A7,Dj,A7,Dj];omega
  rw[e];simp
 | n+1=>by
  have ih:=dR hx hx1 n;have e:(x+1)^(n+1+1)-x^(n+1+1)=(x+1)*((x+1)^(n+1)-x^(n+1))+x^(n+1):=by rw[A7 (x+1) (n+1),A7 x (n+1)];grind
  rw[e];have h:=Jj (Ds hx1 ih) (N0 hx (n+1));refine FJ h (Mg ?_);rw[A7 A n,LN,LN,LN];grind
theorem Acn(c:Nat->Int)(R:Int)(hR:0<=R):∀ T:Nat,∃ K:Int,0<=K/\∀ q x:Int,0<q->(x.natAbs:Int)<=R*q->((x+1).natAbs:Int)<=R*q->((hs c (x+1) q (T+1)-hs c x q (T+1)).natAbs:Int)<=K*q^T
 | 0=>⟨((c 1).natAbs:Int),by omega,fun q x _ _ _=>by
   simp only[hs];have:q*c 0+c (0+1)*(x+1)^(0+1)-(q*c 0+c (0+1)*x^(0+1))=c 1:=by simp;grind
   rw[this];simp⟩
 | T+1=>by
  obtain⟨K,hK,h⟩:=Acn c R hR T;refine⟨K+((c (T+2)).natAbs:Int)*(((T+1+1:Nat):Int)*R^(T+1)),?_,fun q x hq hx hx1 => ?_⟩
  ·have:=AA (show (0:Int)<=((c (T+2)).natAbs:Int) by omega) (AA (show (0:Int)<=((T+1+1:Nat):Int) by omega) (P_ (m:=T+1) hR));omega
  ·have e:hs c (x+1) q (T+1+1)-hs c x q (T+1+1)=q*(hs c (x+1) q (T+1)-hs c x q (T+1))+c (T+2)*((x+1)^(T+1+1)-x^(T+1+1)):=by
    show (q*hs c (x+1) q (T+1)+c (T+1+1)*(x+1)^(T+1+1))-(q*hs c x q (T+1)+c (T+1+1)*x^(T+1+1))=_;grind
   rw[e];have h1:=Ds (a:=q) (A:=q) (by omega) (h q x hq hx hx1);have h2:=Ds (a:=c (T+2)) (A:=((c (T+2)).natAbs:Int)) (by omega) (dR hx hx1 (T+1));have h3:=Jj h1 h2;have e2:(R*q)^(T+1)=R^(T+1)*q^(T+1):=Zi ..;rw[e2] at h3;refine FJ h3 (Mg ?_);rw[A7 q T];grind
theorem pQ{x A:Int}(hA:0<=A)(hx:(x.natAbs:Int)<=A)(hx1:((x+1).natAbs:Int)<=A):∀ n:Nat,(((x+1)^(n+2)-x^(n+2)-((n+2:Nat):Int)*x^(n+1)).natAbs:Int)<=(((n+1)*(n+2):Nat):Int)*A^n
 | 0=>by
  have e:(x+1)^(0+2)-x^(0+2)-((0+2:Nat):Int)*x^(0+1)=1:=by
   rw[show (x+1)^(0+2)=(x+1)*(x+1) by rw[A7,A7,Dj,Dt],show x^(0+2)=x*x by rw[A7,A7,Dj,Dt],show x^(0+1)=x by rw[A7,Dj,Dt]];grind
  rw[e];simp
 | n+1=>by
  have ih:=pQ hA hx hx1 n;have e:(x+1)^(n+1+2)-x^(n+1+2)-((n+1+2:Nat):Int)*x^(n+1+1)=(x+1)*((x+1)^(n+2)-x^(n+2)-((n+2:Nat):Int)*x^(n+1))+((n+2:Nat):Int)*x^(n+1):=by
   rw[show n+1+2=n+2+1 by omega,A7 (x+1) (n+2),A7 x (n+2),show n+1+1=n+2 by omega,show x^(n+2)=x^(n+1)*x from A7 ..];have:((n+2+1:Nat):Int)=((n+2:Nat):Int)+1:=by omega
   rw[this];grind
  rw[e];have h:=Jj (Ds hx1 ih) (Ds (a:=((n+2:Nat):Int)) (A:=((n+2:Nat):Int)) (by omega) (N0 hx (n+1)));refine FJ h ?_;rw[show A^(n+1)=A^n*A from A7 ..];have hAn:0<=A^n*A:=AA (P_ hA) hA;have e2:A*((((n+1)*(n+2):Nat):Int)*A^n)+((n+2:Nat):Int)*(A^n*A)=((((n+1)*(n+2)+(n+2):Nat)):Int)*(A^n*A):=by
   rw[LN];grind
  rw[e2];apply Ac _ hAn;have:(n+1)*(n+2)+(n+2)<=(n+1+1)*(n+1+2):=by
   have:(n+1)*(n+2)+(n+2)=(n+2)*(n+2):=by rw[<- MO]
   rw[this];exact BG (by omega) (by omega)
  omega
def WK(c:Nat->Int)(i:Nat):Int:=((i+1:Nat):Int)*c (i+1)
theorem Aco(c:Nat->Int)(R:Int)(hR:0<=R):∀ T:Nat,∃ K:Int,0<=K/\∀ q x:Int,0<q->(x.natAbs:Int)<=R*q->((x+1).natAbs:Int)<=R*q ->
  ((hs c (x+1) q (T+2)-hs c x q (T+2)-hs (WK c) x q (T+1)).natAbs:Int)<=K*q^T
 | 0=>⟨((c 2).natAbs:Int),by omega,fun q x _ _ _=>by
   have e:hs c (x+1) q (0+2)-hs c x q (0+2)-hs (WK c) x q (0+1)=c 2:=by
    have p1:∀ y:Int,y^(0+1)=y:=fun y=>by rw[A7,Dj,Dt]
    have p2:∀ y:Int,y^(0+1+1)=y*y:=fun y=>by rw[A7,p1]
    show (q*(q*c 0+c (0+1)*(x+1)^(0+1))+c (0+1+1)*(x+1)^(0+1+1))-(q*(q*c 0+c (0+1)*x^(0+1))+c (0+1+1)*x^(0+1+1))-(q*(((0+1:Nat):Int)*c (0+1))+((0+1+1:Nat):Int)*c (0+1+1)*x^(0+1))=_;rw[p1,p1,p2,p2];have h1:((0+1:Nat):Int)=1:=rfl;have h2:((0+1+1:Nat):Int)=2:=rfl;rw[h1,h2];grind
   rw[e];simp⟩
 | T+1=>by
  obtain⟨K,hK,h⟩:=Aco c R hR T;refine⟨K+((c (T+3)).natAbs:Int)*((((T+2)*(T+3):Nat):Int)*R^(T+1)),?_,fun q x hq hx hx1 => ?_⟩
  ·have:=AA (show (0:Int)<=((c (T+3)).natAbs:Int) by omega) (AA (show (0:Int)<=(((T+2)*(T+3):Nat):Int) by omega) (P_ (m:=T+1) hR));omega
  ·have e:hs c (x+1) q (T+1+2)-hs c x q (T+1+2)-hs (WK c) x q (T+1+1)=q*(hs c (x+1) q (T+2)-hs c x q (T+2)-hs (WK c) x q (T+1))+c (T+3)*((x+1)^(T+1+2)-x^(T+1+2)-((T+1+2:Nat):Int)*x^(T+1+1)):=by
    show (q*hs c (x+1) q (T+2)+c (T+3)*(x+1)^(T+1+2))-(q*hs c x q (T+2)+c (T+3)*x^(T+1+2))-(q*hs (WK c) x q (T+1)+((T+1+1+1:Nat):Int)*c (T+3)*x^(T+1+1))=_;have:((T+1+1+1:Nat):Int)=((T+1+2:Nat):Int):=rfl;rw[this];grind
   rw[e];have hRq:0<=R*q:=AA hR (by omega);have h1:=Ds (a:=q) (A:=q) (by omega) (h q x hq hx hx1);have h2:=Ds (a:=c (T+3)) (A:=((c (T+3)).natAbs:Int)) (by omega) (pQ hRq hx hx1 (T+1));have h3:=Jj h1 h2;have e2:(R*q)^(T+1)=R^(T+1)*q^(T+1):=Zi ..;rw[e2] at h3;refine FJ h3 (Mg ?_);rw[A7 q T];grind
def wv(last:Int):LI->Int
 | []=>0
 | s::ss=>if s=0 then wv last ss else (if last ≠ 0/\s ≠ last then 1 else 0)+wv s ss
inductive Mid:Int->List Int->List Int->Prop
 | nil (σ:Int):Mid σ [] []
 | st (σ s:Int) {ss tt:List Int}:(s=1\/s = -1)->Mid s ss tt->Mid σ (s::ss) (s::tt)
 | un (σ a b:Int) {ss tt:List Int}:(-1<=a/\a<=1)->(-1<=b/\b<=1)->Mid (-σ) ss tt->Mid σ (a :: -σ::ss) (b :: -σ::tt)
theorem pR{σ a:Int}(hσ:σ=1\/σ = -1)(ha : -1<=a/\a<=1)(ss:LI):wv σ (a :: -σ::ss)=1+wv (-σ) ss:=by
 simp only[wv];rcases hσ with rfl | rfl
 ·rcases show a = -1\/a=0\/a=1 by omega with rfl | rfl | rfl <;> simp
 ·rcases show a = -1\/a=0\/a=1 by omega with rfl | rfl | rfl <;> simp
theorem Acp{σ:Int}{s t:LI}(h:Mid σ s t):(σ=1\/σ = -1)->wv σ s=wv σ t:=by
 induction h with
 | nil σ=>intro _;rfl
 | st σ s hs _ ih =>
  intro _;have h0:s ≠ 0:=by omega
  simp only[wv,if_neg h0];rw[ih hs]
 | un σ a b ha hb _ ih =>
  intro hσ;rw[pR hσ ha,pR hσ hb,ih (by omega)]
inductive Top:List Int->List Int->Int->Prop
 | st (s:Int) {ss tt:List Int}:(s=1\/s = -1)->Mid s ss tt->Top (s::ss) (s::tt) 0
 | un (σ a b:Int) {ss tt:List Int}:(σ=1\/σ = -1)->(a = -σ\/a=0)->(b=0\/b=σ)->Mid σ ss tt->Top (a::σ::ss) (b::σ::tt) (if a=0 then 0 else 1)
theorem iR{s t:LI}{d:Int}(h:Top s t d):wv 0 s=wv 0 t+d:=by
 cases h with
 | st s hs hm =>
  have h0:s ≠ 0:=by omega
  simp only[wv,if_neg h0];rw[Acp hm hs];omega
 | un σ a b hσ ha hb hm =>
  have e:=Acp hm hσ;simp only[wv];rcases hσ with rfl | rfl
  ·rcases ha with rfl | rfl <;> rcases hb with rfl | rfl <;> simp <;> omega
  ·rcases ha with rfl | rfl <;> rcases hb with rfl | rfl <;> simp <;> omega
theorem pS(p:LI)(x:Int):Aa p x=(w p:Int)*Aa (prim p) x:=by
 rw[<- A0];exact G_ (fun i=>by rw[m,RR]) x
theorem HZ(k:Nat)(p:LI):(Dz k p).length=k+p.length:=by
 unfold Dz;simp
theorem yT{r d:LI}(hd:BH d)(hd0:d ≠ [])(hl:d.length<=r.length):∃ (c c':Int) (Q:LI),0<c/\0<c'/\∀ x,c*Aa r x=Aa Q x*Aa d x+c'*Aa (DZ r d) x:=by
 have ht:top d ≠ 0:=En hd hd0;have he:=Tz hl ((top d).natAbs:Int) (sg (top d)*top r);have hp:∀ x,Aa (CQ r d ((top d).natAbs:Int) (sg (top d)*top r) r.length) x=(w (CQ r d ((top d).natAbs:Int) (sg (top d)*top r) r.length):Int)*Aa (DZ r d) x:=fun x=>pS _ x;by_cases h0:w (CQ r d ((top d).natAbs:Int) (sg (top d)*top r) r.length)=0
 ·have hz:DZ r d=[]:=DY.2 (Kh.1 h0);refine⟨((top d).natAbs:Int),1,Dz (r.length-d.length) [sg (top d)*top r],by omega,by decide,fun x => ?_⟩;have h1:=he x;have h2:=hp x;rw[h0] at h2;rw[D9,hz];simp only[Aa];have h3:(((0:Nat):Int))*Aa (DZ r d) x=0:=by simp
  rw[h3] at h2;rw[h2] at h1;grind
 ·refine⟨((top d).natAbs:Int),(w (CQ r d ((top d).natAbs:Int) (sg (top d)*top r) r.length):Int),Dz (r.length-d.length) [sg (top d)*top r],by omega,by omega,fun x => ?_⟩;have h1:=he x;have h2:=hp x;rw[D9];simp only[Aa];rw[<- h2,h1];grind
theorem Zn{d:LI}(hd:BH d)(hd0:d ≠ []):∀ (f:Nat) (r:LI),∃ (c c':Int) (Q:LI),0<c/\0<c'/\∀ x,c*Aa r x=Aa Q x*Aa d x+c'*Aa (E1 f r d) x
 | 0,r=>⟨1,1,[],by decide,by decide,fun x=>by simp[Aa,E1]⟩
 | f+1,r=>by
  simp only[E1];split
  ·rename_i hl;obtain⟨c,c',Q,h1,h2,h3⟩:=yT hd hd0 hl;obtain⟨e,e',S,g1,g2,g3⟩:=Zn hd hd0 f (DZ r d);refine⟨e*c,c'*e',Ec (As e Q) (As c' S),Bp g1 h1,Bp h2 g2,fun x => ?_⟩;have a:=h3 x;have b:=g3 x;rw[BY,A0,A0,AK e c,a,CT,AE e (c'*_),AK c',AE _ e,b];grind
  ·exact⟨1,1,[],by decide,by decide,fun x=>by simp[Aa]⟩
theorem Zo{a b:LI}(hb:BH b)(hb0:b ≠ []):∃ (c c':Int) (Q:LI),0<c/\0<c'/\∀ x,c*Aa a x=Aa Q x*Aa b x+(-c')*Aa (Cp (BC a b)) x:=by
 obtain⟨c,c',Q,h1,h2,h3⟩:=Zn hb hb0 a.length a;refine⟨c,c',Q,h1,h2,fun x => ?_⟩;rw[h3 x,KR];unfold BC;grind
theorem T6{a b:LI}(hb:BH b)(hb0:b ≠ [])(h:F4 [1] a b):F4 [1] b (Cp (BC a b)):=by
 obtain⟨c,c',Q,h1,h2,h3⟩:=Zo (a:=a) hb hb0;have h4:F4 [1] (Cp (BC a b)) b:=F4.step (r:=Cp (BC a b)) (d:=b) (e:=a) (q:=Q) (a:=c') (m := -c) (by omega) (by omega) (fun x=>by
  have:=h3 x;grind) h.comm
 exact h4.comm
def Hh(p:LI)(x q:Int):Int:=hp p x q (p.length-1)
def LO(p:LI)(x q:Int):Prop:=(0<Hh p x q/\0<Hh p (x+1) q)\/(Hh p x q<0/\Hh p (x+1) q<0)
def Zp(R q x:Int):Prop:=0<q/\(x.natAbs:Int)<=R*q/\((x+1).natAbs:Int)<=R*q
theorem Hy{q:Int}(h:0<q)(n:Nat):0<q^n:=G2 h
theorem small(p:LI)(R:Int)(hR:0<=R):∃ K:Int,0<=K/\∀ q x:Int,Zp R q x->¬ LO p x q->((Hh p x q).natAbs:Int)*q<=K*q^(p.length-1)/\((Hh p (x+1) q).natAbs:Int)*q<=K*q^(p.length-1):=by
 cases hn:p.length-1 with
 | zero =>
  refine⟨0,Dg _,fun q x _ hst => ?_⟩;have e:∀ y,Hh p y q=p.getD 0 0:=fun y=>by unfold Hh hp;rw[hn];rfl
  unfold LO at hst;rw[e,e] at hst |-;have:p.getD 0 0=0:=by omega
  rw[this];simp
 | succ T =>
  obtain⟨K,hK,h⟩:=Acn (fun i=>p.getD i 0) R hR T;refine⟨K,hK,fun q x hr hst => ?_⟩;have h1:=h q x hr.1 hr.2.1 hr.2.2;have e:∀ y,Hh p y q=hs (fun i=>p.getD i 0) y q (T+1):=fun y=>by unfold Hh hp;rw[hn]
  unfold LO at hst;rw[e,e] at hst;rw[e,e];generalize hs (fun i=>p.getD i 0) x q (T+1)=a at *
  generalize hs (fun i=>p.getD i 0) (x+1) q (T+1)=b at *
  have ha:(a.natAbs:Int)<=((b-a).natAbs:Int):=by omega
  have hb:(b.natAbs:Int)<=((b-a).natAbs:Int):=by omega
  have hq:=hr.1;rw[A7,<- AK];exact⟨Ac (FJ ha h1) (by omega),Ac (FJ hb h1) (by omega)⟩
theorem A6s(x q:Int)(T:Nat):hp [1] x q T=q^T:=by
 have:=U8 (p:=[1]) (T:=0) (by simp) x q T;rw[Cb] at this;rw[this];show q^T*1=_;omega
theorem VG{f g:LI}(R:Int)(hR:0<=R)(h:F4 [1] f g):∃ L Q0:Int,0<L/\0<Q0/\∀ q x:Int,Zp R q x->Q0<=q->¬ LO f x q->q^(g.length-1)<=L*((Hh g x q).natAbs:Int):=by
 obtain⟨_,_,c,u,v,hc,hid⟩:=h;obtain⟨K,hK,hsm⟩:=small f R hR;obtain⟨Ku,hKu,hu⟩:=RY (fun i=>u.getD i 0) R hR (max u.length v.length+(g.length-1));obtain⟨Kv,hKv,hv⟩:=RY (fun i=>v.getD i 0) R hR (max u.length v.length+(f.length-1));refine⟨2*Kv+1,2*(Ku*K)+1,by omega,by have:=AA hKu hK;omega,fun q x hr hq hst => ?_⟩;obtain⟨hq0,hx,hx1⟩:=hr;have h1:=(hsm q x ⟨hq0,hx,hx1⟩ hst).1;have h2:=hu q x hq0 hx;have h3:=hv q x hq0 hx;have e1:=A0q (r:=[1]) (d:=f) (e:=Bs v g) (Q:=u) (c:=c) (c':=1) (fun y=>by rw[AX,hid y];omega) x q (tq:=max u.length v.length+(g.length-1)) (td:=f.length-1) (by omega) (by omega);have e2:=Xt (r:=g) (tr:=g.length-1) (by omega) x q v (max u.length v.length+(f.length-1)) (by omega);have eT:max u.length v.length+(f.length-1)+(g.length-1)=max u.length v.length+(g.length-1)+(f.length-1):=by omega
 rw[eT] at e2;rw[e2,A6s,Dt] at e1;change c*q^(max u.length v.length+(g.length-1)+(f.length-1))=hs (fun i=>u.getD i 0) x q (max u.length v.length+(g.length-1))*Hh f x q+hs (fun i=>v.getD i 0) x q (max u.length v.length+(f.length-1))*Hh g x q at e1;have ep:q^(max u.length v.length+(g.length-1)+(f.length-1))=q^(max u.length v.length+(f.length-1))*q^(g.length-1):=by rw[<- BB,<- eT]
 have ep2:q^(max u.length v.length+(g.length-1))*q^(f.length-1)=q^(max u.length v.length+(f.length-1))*q^(g.length-1):=by rw[<- BB,<- ep]
 have pa:=Hy hq0 (max u.length v.length+(f.length-1));have pb:=Hy hq0 (max u.length v.length+(g.length-1));have pm:=Hy hq0 (g.length-1);have pn:=Hy hq0 (f.length-1);rw[ep] at e1;generalize hs (fun i=>u.getD i 0) x q (max u.length v.length+(g.length-1))=U at *
 generalize hs (fun i=>v.getD i 0) x q (max u.length v.length+(f.length-1))=V at *
 generalize q^(max u.length v.length+(f.length-1))=A at *
 generalize q^(max u.length v.length+(g.length-1))=B at *
 generalize q^(g.length-1)=M at *
 generalize q^(f.length-1)=N at *
 generalize Hh f x q=F at *
 generalize Hh g x q=G at *
 have n1:((c*(A*M)).natAbs:Int)<=(U.natAbs:Int)*(F.natAbs:Int)+(V.natAbs:Int)*(G.natAbs:Int):=by
  rw[e1];exact Jj (Ds (Dg _) (Dg _)) (Ds (Dg _) (Dg _))
 have n2:A*M<=((c*(A*M)).natAbs:Int):=by
  rw[BS,DI];have hAM:=Bp pa pm;have:((A*M).natAbs:Int)=A*M:=MN (by omega);rw[this];have:=Ac (show (1:Int)<=(c.natAbs:Int) by omega) (show 0<=A*M by omega);omega
 have n3:(U.natAbs:Int)*(F.natAbs:Int)*q<=A*(Ku*K*M):=by
  have h5:(U.natAbs:Int)*((F.natAbs:Int)*q)<=Ku*B*(K*N):=EO h2 h1 (AA (by omega) (by omega)) (AA hKu (by omega));have e5:Ku*B*(K*N)=A*(Ku*K*M):=by
   have:Ku*B*(K*N)=Ku*K*(B*N):=by grind
   rw[this,ep2];grind
  rw[AK];omega
 have n4:(V.natAbs:Int)*(G.natAbs:Int)*q<=A*(Kv*((G.natAbs:Int)*q)):=by
  have h5:=Ac h3 (AA (show (0:Int)<=(G.natAbs:Int) by omega) (show 0<=q by omega));rw[AK];refine FJ h5 (Mg ?_);grind
 have n5:A*(M*q)<=A*(Ku*K*M+Kv*((G.natAbs:Int)*q)):=by
  have h6:=Ac (FJ n2 n1) (show 0<=q by omega);rw[Gw] at h6;rw[CT];have:A*M*q=A*(M*q):=AK ..;omega
 have n6:=F5 n5 pa;have n7:2*(Ku*K*M)<=M*q:=by
  have h7:=Al (show 2*(Ku*K)<=q by omega) (show 0<=M by omega);have:M*(2*(Ku*K))=2*(Ku*K*M):=by grind
  omega
 have n8:M*q<=2*Kv*(G.natAbs:Int)*q:=by
  have:2*Kv*(G.natAbs:Int)*q=2*(Kv*((G.natAbs:Int)*q)):=by grind
  omega
 have n9:M<=2*Kv*(G.natAbs:Int):=Cj n8 hq0;have:(2*Kv+1)*(G.natAbs:Int)=2*Kv*(G.natAbs:Int)+(G.natAbs:Int):=by rw[Gw,Dt]
 omega
theorem A0r(g:LI)(R L:Int)(hR:0<=R)(hL:0<L):∃ Q0:Int,0<Q0/\∀ q x:Int,Zp R q x->Q0<=q->q^(g.length-1)<=L*((Hh g x q).natAbs:Int)->LO g x q:=by
 obtain⟨K,hK,hsm⟩:=small g R hR;refine⟨L*K+1,by have:=AA (show 0<=L by omega) hK;omega,fun q x hr hq hf => ?_⟩;apply A1;intro hst;have h1:=(hsm q x hr hst).1;have hq0:=hr.1;have pm:=Hy hq0 (g.length-1);generalize q^(g.length-1)=M at *
 generalize ((Hh g x q).natAbs:Int)=G at *
 have h2:=Ac hf (show 0<=q by omega);have h3:=Al h1 (show 0<=L by omega);have e1:L*(G*q)=L*G*q:=by grind
 have e2:L*(K*M)=M*(L*K):=by grind
 have h4:M*q<=M*(L*K):=by omega
 have h5:=F5 h4 pm;omega
theorem RZ{f g:LI}(R:Int)(hR:0<=R)(h:F4 [1] f g):∃ L Q0:Int,0<L/\0<Q0/\∀ q x:Int,Zp R q x->Q0<=q->¬ LO f x q->LO g x q/\q^(g.length-1)<=L*((Hh g x q).natAbs:Int):=by
 obtain⟨L,Q1,hL,hQ1,h1⟩:=VG R hR h;obtain⟨Q2,hQ2,h2⟩:=A0r g R L hR hL;refine⟨L,Q1+Q2,hL,by omega,fun q x hr hq hst => ?_⟩;have h3:=h1 q x hr (by omega) hst;exact⟨h2 q x hr (by omega) h3,h3⟩
theorem Akm{a b e Q:LI}{c c':Int}(R:Int)(hR:0<=R)(hc:0<c)(hc':0<c')(hid:∀ x,c*Aa a x=Aa Q x*Aa b x+(-c')*Aa e x)(h:F4 [1] b e) :
  ∃ Q0:Int,0<Q0/\∀ q x:Int,Zp R q x->Q0<=q->¬ LO b x q->(0<Hh e x q->Hh a x q<0)/\(Hh e x q<0->0<Hh a x q):=by
 obtain⟨K,hK,hsm⟩:=small b R hR;obtain⟨L,Q1,hL,hQ1,hf⟩:=VG R hR h;obtain⟨KQ,hKQ,hq⟩:=RY (fun i=>Q.getD i 0) R hR (Q.length+a.length+e.length);have hLK:=AA (show 0<=L by omega) (AA hKQ hK);refine⟨Q1+L*(KQ*K)+1,by omega,fun q x hr hqq hst => ?_⟩;have h1:=(hsm q x hr hst).1;have h2:=hf q x hr (by omega) hst;have hq0:=hr.1;have h3:=hq q x hq0 hr.2.1;have e1:=A0q hid x q (tq:=Q.length+a.length+e.length) (td:=b.length-1) (by omega) (by omega);have ea:=U8 (p:=a) (T:=a.length-1) (by omega) x q (Q.length+a.length+e.length+(b.length-1)-(a.length-1));have ee:=U8 (p:=e) (T:=e.length-1) (by omega) x q (Q.length+a.length+e.length+(b.length-1)-(e.length-1));rw[show a.length-1+(Q.length+a.length+e.length+(b.length-1)-(a.length-1))=Q.length+a.length+e.length+(b.length-1) by omega] at ea;rw[show e.length-1+(Q.length+a.length+e.length+(b.length-1)-(e.length-1))=Q.length+a.length+e.length+(b.length-1) by omega] at ee;rw[ea,ee] at e1;change c*(q^_*Hh a x q)=hs (fun i=>Q.getD i 0) x q (Q.length+a.length+e.length)*Hh b x q+(-c')*(q^_*Hh e x q) at e1;have pA:=Hy hq0 (Q.length+a.length+e.length+(b.length-1)-(a.length-1));have pE:=Hy hq0 (Q.length+a.length+e.length+(b.length-1)-(e.length-1));have pT:=Hy hq0 (Q.length+a.length+e.length);have pB:=Hy hq0 (b.length-1);have eP:q^(Q.length+a.length+e.length+(b.length-1)-(e.length-1))*q^(e.length-1)=q^(Q.length+a.length+e.length)*q^(b.length-1):=by
  rw[<- BB,<- BB];congr 1;omega
 generalize q^(Q.length+a.length+e.length+(b.length-1)-(a.length-1))=A at *
 generalize q^(Q.length+a.length+e.length+(b.length-1)-(e.length-1))=E at *
 generalize q^(Q.length+a.length+e.length)=T at *
 generalize q^(b.length-1)=B at *
 generalize q^(e.length-1)=M at *
 generalize hs (fun i=>Q.getD i 0) x q (Q.length+a.length+e.length)=U at *
 generalize Hh a x q=Ha at *
 generalize Hh b x q=Hb at *
 generalize Hh e x q=He at *
 have pP:=Bp pT pB;have n1:((U*Hb).natAbs:Int)*q<=KQ*K*(T*B):=by
  have h5:(U.natAbs:Int)*((Hb.natAbs:Int)*q)<=KQ*T*(K*B):=EO h3 h1 (AA (by omega) (by omega)) (AA hKQ (by omega));have e5:((U*Hb).natAbs:Int)*q=(U.natAbs:Int)*((Hb.natAbs:Int)*q):=by rw[BS,DI];grind
  have e6:KQ*T*(K*B)=KQ*K*(T*B):=by grind
  omega
 have n2:T*B<=L*(E*(He.natAbs:Int)):=by
  have h6:=Al h2 (show 0<=E by omega);have e7:E*(L*(He.natAbs:Int))=L*(E*(He.natAbs:Int)):=by grind
  omega
 have n3:((U*Hb).natAbs:Int)<E*(He.natAbs:Int):=by
  apply FD.1;intro hle;have h7:=Ac (Al hle (show 0<=L by omega)) (show 0<=q by omega);have h8:=Ac n2 (show 0<=q by omega);have h9:=Al n1 (show 0<=L by omega);have e8:L*((U*Hb).natAbs:Int)*q=L*(((U*Hb).natAbs:Int)*q):=AK ..;have e9:L*(KQ*K*(T*B))=T*B*(L*(KQ*K)):=by grind
  have h10:T*B*q<=T*B*(L*(KQ*K)):=by omega
  have h11:=F5 h10 pP;omega
 have n4:E*(He.natAbs:Int)<=c'*(E*(He.natAbs:Int)):=by
  have:=Ac (show (1:Int)<=c' by omega) (AA (show 0<=E by omega) (show (0:Int)<=(He.natAbs:Int) by omega));omega
 generalize U*Hb=W at *
 refine⟨fun hp => ?_,fun hn => ?_⟩
 ·have e10:(He.natAbs:Int)=He:=by omega
  rw[e10] at n3 n4;apply FD.1;intro hge;have h12:=AA (show 0<=c by omega) (AA (show 0<=A by omega) hge);rw[e1,NM] at h12;omega
 ·have e10:(He.natAbs:Int) = -He:=by omega
  rw[e10,EY] at n3;rw[e10,EY,EY] at n4;apply FD.1;intro hle;have h12:=AA (show 0<=c by omega) (AA (show 0<=A by omega) (show 0 <= -Ha by omega));rw[EY,EY,e1,NM] at h12;omega
theorem pU(f:LI)(x q:Int)(m:Nat):hs (WK fun i=>f.getD i 0) x q m=(w (At f):Int)*hs (fun i=>(prim (At f)).getD i 0) x q m:=by
 have h:=Nz (w (At f):Int) 0 (fun i=>(prim (At f)).getD i 0) (fun i=>(prim (At f)).getD i 0) x q m;rw[BU,BJ] at h;rw[<- h];apply P0;intro i _;have h1:=RR (At f) i;have h2:=Dx f i;unfold WK;rw[h1,h2];grind
theorem WL{f:LI}(R:Int)(hR:0<=R)(hl:2<=f.length)(hl1:(prim (At f)).length=f.length-1)(h:F4 [1] f (prim (At f)))(hc:0<w (At f)) :
  ∃ Q0:Int,0<Q0/\∀ q x:Int,Zp R q x->Q0<=q->¬ LO f x q->(0<Hh (prim (At f)) x q->Hh f x q<Hh f (x+1) q)/\(Hh (prim (At f)) x q<0->Hh f (x+1) q<Hh f x q):=by
 obtain⟨L,Q1,hL,hQ1,hf⟩:=VG R hR h;cases hm:f.length-2 with
 | zero =>
  refine⟨Q1,hQ1,fun q x hr hq hst => ?_⟩;have hd:=pU f x q 0;have e1:∀ y,Hh f y q=hs (fun i=>f.getD i 0) y q 1:=fun y=>by unfold Hh hp;rw[show f.length-1=1 by omega]
  have e2:Hh (prim (At f)) x q=hs (fun i=>(prim (At f)).getD i 0) x q 0:=by unfold Hh hp;rw[hl1,show f.length-1-1=0 by omega]
  have e3:hs (fun i=>f.getD i 0) (x+1) q 1-hs (fun i=>f.getD i 0) x q 1=hs (WK fun i=>f.getD i 0) x q 0:=by
   show (q*f.getD 0 0+f.getD (0+1) 0*(x+1)^(0+1))-(q*f.getD 0 0+f.getD (0+1) 0*x^(0+1))=((0+1:Nat):Int)*f.getD (0+1) 0;have p1:∀ y:Int,y^(0+1)=y:=fun y=>by rw[A7,Dj,Dt]
   rw[p1,p1];have h1:((0+1:Nat):Int)=1:=rfl;rw[h1];grind
  rw[e1,e1,e2];rw[hd] at e3;generalize hs (fun i=>(prim (At f)).getD i 0) x q 0=D at *
  refine⟨fun hp => ?_,fun hn => ?_⟩
  ·have:=Bp (show (0:Int)<(w (At f):Int) by omega) hp;omega
  ·have:=Bp (show (0:Int)<(w (At f):Int) by omega) (show 0 < -D by omega);rw[EY] at this;omega
 | succ T =>
  obtain⟨K,hK,hder⟩:=Aco (fun i=>f.getD i 0) R hR T;have hLK:=AA (show 0<=L by omega) hK;refine⟨Q1+L*K+1,by omega,fun q x hr hq hst => ?_⟩;have hq0:=hr.1;have h2:=hf q x hr (by omega) hst;have h3:=hder q x hq0 hr.2.1 hr.2.2;have hd:=pU f x q (T+1);have e1:∀ y,Hh f y q=hs (fun i=>f.getD i 0) y q (T+2):=fun y=>by unfold Hh hp;rw[show f.length-1=T+2 by omega]
  have e2:Hh (prim (At f)) x q=hs (fun i=>(prim (At f)).getD i 0) x q (T+1):=by unfold Hh hp;rw[hl1,show f.length-1-1=T+1 by omega]
  rw[hl1,show f.length-1-1=T+1 by omega,A7,e2] at h2;rw[e1,e1,e2];rw[hd] at h3;have pT:=Hy hq0 T;generalize q^T=M at *
  generalize hs (fun i=>f.getD i 0) (x+1) q (T+2)=b at *
  generalize hs (fun i=>f.getD i 0) x q (T+2)=a at *
  generalize hs (fun i=>(prim (At f)).getD i 0) x q (T+1)=D at *
  have n1:K*M<(D.natAbs:Int):=by
   apply FD.1;intro hle;have h5:=Al hle (show 0<=L by omega);have e5:L*(K*M)=M*(L*K):=by grind
   have h6:M*q<=M*(L*K):=by omega
   have:=F5 h6 pT;omega
  have n2:=Ac (show (1:Int)<=(w (At f):Int) by omega) (show (0:Int)<=(D.natAbs:Int) by omega);refine⟨fun hp => ?_,fun hn => ?_⟩
  ·have e6:(D.natAbs:Int)=D:=by omega
   rw[e6] at n1 n2;omega
  ·have e6:(D.natAbs:Int) = -D:=by omega
   rw[e6,Dt,EY] at n2;omega
def Ce(n:Int):Int:=if n<0 then -1 else if 0<n then 1 else 0
theorem iS(n:Int) : -1<=Ce n/\Ce n<=1:=by unfold Ce; (repeat' split) <;> omega
def Ik:Nat->LI->LI->List (LI)
 | 0,_,_=>[]
 | f+1,a,b=>if b=[] then [] else b::Ik f b (Cp (BC a b))
def DV(l:List (LI))(x q:Int):LI:=l.map fun p=>Ce (Hh p x q)
theorem MB{p:LI}{x q:Int}(h:LO p x q):Ce (Hh p (x+1) q)=Ce (Hh p x q)/\(Ce (Hh p x q)=1\/Ce (Hh p x q) = -1):=by
 unfold LO at h;unfold Ce;rcases h with ⟨h1,h2⟩ | ⟨h1,h2⟩
 ·rw[if_neg (by omega),if_pos h2,if_neg (by omega),if_pos h1];exact⟨rfl,.inl rfl⟩
 ·rw[if_pos h2,if_pos h1];exact⟨rfl,.inr rfl⟩
theorem A6t(x q:Int):Hh [] x q=0:=Xs x q _
theorem Rm{a b:LI}(ha:BH a):BH (BC a b):=by
 unfold BC;generalize a.length=f;induction f generalizing a with
 | zero=>exact ha
 | succ f ih =>
  simp only[E1];split
  ·exact ih (WB a b)
  ·exact ha
theorem Akn{d:LI}(hd0:d ≠ []):∀ (f:Nat) (r:LI),r.length<=f->(E1 f r d).length<d.length:=by
 have hdl:=Ak.2 hd0;intro f;induction f with
 | zero=>intro r h;simp only[E1];omega
 | succ f ih =>
  intro r h;simp only[E1];split
  ·rename_i hl;have:=K6 hd0 hl;exact ih _ (by omega)
  ·omega
theorem VH{a b:LI}(hb0:b ≠ []):(BC a b).length<b.length:=Akn hb0 _ _ (Ao _)
theorem pV(R:Int)(hR:0<=R):∀ (n f:Nat),f<=n->∀ (a b:LI),b.length<=f->BH a->BH b->F4 [1] a b ->
  ∃ Q0:Int,0<Q0/\∀ q x:Int,Zp R q x->Q0<=q->LO a x q->Mid (Ce (Hh a x q)) (DV (Ik f a b) x q) (DV (Ik f a b) (x+1) q):=by
 intro n;induction n with
 | zero =>
  intro f hf a b hb _ _ _;have:f=0:=by omega
  subst this;exact⟨1,by decide,fun q x _ _ _=>Mid.nil _⟩
 | succ n ih =>
  intro f hf a b hb ha lb h;by_cases hb0:b=[]
  ·have e:Ik f a b=[]:=by
    cases f with
    | zero=>rfl
    | succ f=>simp only[Ik];rw[if_pos hb0]
   rw[e];exact⟨1,by decide,fun q x _ _ _=>Mid.nil _⟩
  ·have hbl:=Ak.2 hb0;obtain⟨f,rfl⟩:∃ k,f=k+1:=⟨f-1,by omega⟩;have hpl:=VH (a:=a) hb0;have he:=T6 lb hb0 h;have le:BH (Cp (BC a b)):=IZ (Rm ha);obtain⟨Q1,hQ1,h1⟩:=ih f (by omega) b (Cp (BC a b)) (by rw[El];omega) lb le he;obtain⟨L,Q2,hL,hQ2,h2⟩:=RZ R hR he;obtain⟨c,c',Q,hc,hc',hid⟩:=Zo (a:=a) lb hb0;obtain⟨Q3,hQ3,h3⟩:=Akm R hR hc hc' hid he;have e1:Ik (f+1) a b=b::Ik f b (Cp (BC a b)):=by simp only[Ik];rw[if_neg hb0]
   rw[e1];by_cases he0:Cp (BC a b)=[]
   ·refine⟨Q1+Q2,by omega,fun q x hr hq hst => ?_⟩;have hsb:LO b x q:=by
     apply A1;intro hn;have:=(h2 q x hr (by omega) hn).2;rw[he0,A6t] at this;simp at this
    obtain⟨g1,g2⟩:=MB hsb;have hm:=h1 q x hr (by omega) hsb;show Mid _ (Ce (Hh b x q)::_) (Ce (Hh b (x+1) q)::_);rw[g1];exact Mid.st _ _ g2 hm
   ·have hel:=Ak.2 he0;rw[El] at hel;obtain⟨f,rfl⟩:∃ k,f=k+1:=⟨f-1,by omega⟩;have he2:=T6 le he0 he;have hpl2:=VH (a:=b) he0;rw[El] at hpl2;obtain⟨Q4,hQ4,h4⟩:=ih f (by omega) (Cp (BC a b)) (Cp (BC b (Cp (BC a b)))) (by rw[El];omega) le (IZ (Rm lb)) he2;refine⟨Q1+Q2+Q3+Q4,by omega,fun q x hr hq hst => ?_⟩;by_cases hsb:LO b x q
    ·obtain⟨g1,g2⟩:=MB hsb;have hm:=h1 q x hr (by omega) hsb;show Mid _ (Ce (Hh b x q)::_) (Ce (Hh b (x+1) q)::_);rw[g1];exact Mid.st _ _ g2 hm
    ·obtain⟨hse,_⟩:=h2 q x hr (by omega) hsb;obtain⟨r1,r2⟩:=h3 q x hr (by omega) hsb;obtain⟨g1,g2⟩:=MB hse;have hm:=h4 q x hr (by omega) hse;have hsg:Ce (Hh (Cp (BC a b)) x q) = -Ce (Hh a x q):=by
      unfold LO at hse;unfold Ce;rcases hse with ⟨k1,_⟩ | ⟨k1,_⟩
      ·have:=r1 k1;rw[if_neg (by omega),if_pos k1,if_pos this];rfl
      ·have:=r2 k1;rw[if_pos k1,if_neg (by omega),if_pos this]
     have e2:Ik (f+1) b (Cp (BC a b))=Cp (BC a b)::Ik f (Cp (BC a b)) (Cp (BC b (Cp (BC a b)))):=by simp only[Ik];rw[if_neg he0]
     rw[e2];show Mid _ (Ce (Hh b x q)::Ce (Hh (Cp (BC a b)) x q)::_) (Ce (Hh b (x+1) q)::Ce (Hh (Cp (BC a b)) (x+1) q)::_);rw[g1];rw[hsg] at hm |-;exact Mid.un _ _ _ (iS _) (iS _) hm
theorem A6u{a:Int}(h:a=1\/a = -1)(n:Int)(h2:Ce n=a):(a=1/\0<n)\/(a = -1/\n<0):=by
 unfold Ce at h2;split at h2
 ·right;omega
 ·split at h2
  ·left;omega
  ·omega
theorem VI{f:LI}(R:Int)(hR:0<=R)(lf:BH f)(hl:2<=f.length)(hl1:(prim (At f)).length=f.length-1)(h:F4 [1] f (prim (At f)))(hc:0<w (At f))(n:Nat)(hn:f.length-1<=n) :
  ∃ Q0:Int,0<Q0/\∀ q x:Int,Zp R q x->Q0<=q->∃ d:Int,Top (DV (f::Ik n f (prim (At f))) x q) (DV (f::Ik n f (prim (At f))) (x+1) q) d/\(d=0\/d=1)/\(d=1->¬ LO f x q/\Hh f x q ≠ 0)/\(d=0->LO f x q\/Hh f x q=0):=by
 have l1:BH (prim (At f)):=C2 _;have h10:prim (At f) ≠ []:=by intro h0;rw[h0] at hl1;simp at hl1;omega
 obtain⟨Q1,hQ1,m1⟩:=pV R hR n n (Ao _) f (prim (At f)) (by omega) lf l1 h;obtain⟨L,Q2,hL,hQ2,p2⟩:=RZ R hR h;obtain⟨Q3,hQ3,p3⟩:=WL R hR hl hl1 h hc;obtain⟨n,rfl⟩:∃ k,n=k+1:=⟨n-1,by omega⟩;have e1:Ik (n+1) f (prim (At f))=prim (At f)::Ik n (prim (At f)) (Cp (BC f (prim (At f)))):=by simp only[Ik];rw[if_neg h10]
 have he:=T6 l1 h10 h;have hpl:=VH (a:=f) h10;obtain⟨Q4,hQ4,m4⟩:=pV R hR n n (Ao _) (prim (At f)) (Cp (BC f (prim (At f)))) (by rw[El];omega) l1 (IZ (Rm lf)) he;refine⟨Q1+Q2+Q3+Q4,by omega,fun q x hr hq => ?_⟩;by_cases hst:LO f x q
 ·obtain⟨g1,g2⟩:=MB hst;have hm:=m1 q x hr (by omega) hst;refine⟨0,?_,.inl rfl,fun h=>absurd h (by decide),fun _ => .inl hst⟩;show Top (Ce (Hh f x q)::_) (Ce (Hh f (x+1) q)::_) 0;rw[g1];exact Top.st _ g2 hm
 ·obtain⟨hs1,_⟩:=p2 q x hr (by omega) hst;obtain⟨g1,g2⟩:=MB hs1;obtain⟨r1,r2⟩:=p3 q x hr (by omega) hst;have hm:=m4 q x hr (by omega) hs1;rw[e1];refine⟨if Ce (Hh f x q)=0 then 0 else 1,?_,by split;exact .inl rfl;exact .inr rfl,?_,?_⟩
  ·show Top (Ce (Hh f x q)::Ce (Hh (prim (At f)) x q)::_) (Ce (Hh f (x+1) q)::Ce (Hh (prim (At f)) (x+1) q)::_) _;rw[g1];unfold LO at hst;rcases A6u g2 _ rfl with ⟨k1,k2⟩ | ⟨k1,k2⟩
   ·have hd:=r1 k2;refine Top.un _ _ _ g2 ?_ ?_ hm
    ·rw[k1];unfold Ce; (repeat' split) <;> omega
    ·rw[k1];unfold Ce; (repeat' split) <;> omega
   ·have hd:=r2 k2;refine Top.un _ _ _ g2 ?_ ?_ hm
    ·rw[k1];unfold Ce; (repeat' split) <;> omega
    ·rw[k1];unfold Ce; (repeat' split) <;> omega
  ·intro hd;refine⟨hst,fun h0 => ?_⟩;rw[h0] at hd;exact absurd hd (by decide)
  ·intro hd;right;apply A1;intro h0;rw[if_neg (by unfold Ce; (repeat' split) <;> omega)] at hd
   exact absurd hd (by decide)
theorem pW{f:LI}(R:Int)(hR:0<=R)(lf:BH f)(hl:2<=f.length)(hl1:(prim (At f)).length=f.length-1)(h:F4 [1] f (prim (At f)))(hc:0<w (At f))(n:Nat)(hn:f.length-1<=n) :
  ∃ Q0:Int,0<Q0/\∀ q u:Int,0<q->Q0<=q->∀ k:Nat,(u.natAbs:Int)<=R*q->((u+(k:Int)).natAbs:Int)<=R*q ->
   wv 0 (DV (f::Ik n f (prim (At f))) (u+(k:Int)) q)<=wv 0 (DV (f::Ik n f (prim (At f))) u q):=by
 obtain⟨Q0,hQ0,ht⟩:=VI R hR lf hl hl1 h hc n hn;refine⟨Q0,hQ0,fun q u hq0 hq k => ?_⟩;induction k with
 | zero=>intro _ _;simp
 | succ k ih =>
  intro h1 h2;have h3:((u+(k:Int)).natAbs:Int)<=R*q:=by omega
  have h4:=ih h1 h3;have h6:((u+(k:Int)+1).natAbs:Int)<=R*q:=by omega
  obtain⟨d,hd,hd2,_,_⟩:=ht q (u+(k:Int)) ⟨hq0,h3,h6⟩ hq;have h5:=iR hd;have e:u+((k+1:Nat):Int)=u+(k:Int)+1:=by omega
  rw[e];omega
theorem Mh(p:LI)(x q c:Int)(hc:0<c):Ce (Hh p (c*x) (c*q))=Ce (Hh p x q):=by
 have e:∀ T,hs (fun i=>p.getD i 0) (c*x) (c*q) T=c^T*hs (fun i=>p.getD i 0) x q T:=by
  intro T;induction T with
  | zero=>simp[hs]
  | succ T ih =>
   simp only[hs];rw[ih,Zi,A7 c T];grind
 have hp:0<c^(p.length-1):=G2 hc;unfold Hh Go.Ai.hp;rw[e];generalize hs (fun i=>p.getD i 0) x q (p.length-1)=H;generalize c^(p.length-1)=C at *
 unfold Ce;by_cases h1:H<0
 ·have:=Hp hp h1;rw[if_pos this,if_pos h1]
 ·by_cases h2:0<H
  ·have:=Bp hp h2;rw[if_neg (by omega),if_neg h1,if_pos this,if_pos h2]
  ·have:H=0:=by omega
   rw[this];simp
theorem I'(l:List (LI))(x q c:Int)(hc:0<c):DV l (c*x) (c*q)=DV l x q:=by
 unfold DV;exact GM fun p _=>Mh p x q c hc
theorem P1{f:LI}(lf:BH f)(hl:2<=f.length):(At f).length=f.length-1:=by
 have ht:=En lf (by intro h;rw[h] at hl;simp at hl);unfold At;have hL:BH ((Aq (f.length-1)).map fun j=>f.getD (j+1) 0*((j+1:Nat):Int)):=by
  refine Uu (.inr ?_);rw[Q,BE,HT,if_pos (by omega),show f.length-1-1+1=f.length-1 by omega];exact AS ht (by omega)
 rw[hL,Q,BE]
theorem KW{p:LI}(hp:Y p ≠ [])(hl:2<=(S p).length):BH (S p)/\(prim (At (S p))).length=(S p).length-1/\F4 [1] (S p) (prim (At (S p)))/\0<w (At (S p)):=by
 obtain⟨lf,cf,tf,f0,_,_,_,h1⟩:=Ci hp;generalize S p=f at *
 have hd:=P1 lf hl;have ld:BH (At f):=Fs _;have hd0:Y (At f) ≠ []:=by rw[ld];intro h;rw[h] at hd;simp at hd;omega
 have hG:=Fi f (At f);obtain⟨c,hc⟩:=On h1;have tG:=Km (t:=At f) (By lf f0);rw[hc] at hG tG;have hc0:0<c:=tG;refine⟨lf,by rw[Cg,ld,hd],?_,Ki hd0⟩;have h2:F4 [1] f (At f):=hG.gscaled (m:=c) (n:=1) (by omega) (by decide) (fun x=>by simp[Aa]);obtain⟨m,hm,hm2⟩:=IY (At f);exact h2.scaled (m:=1) (n:=1) (k:=m) (l:=1) (by decide) (by decide) hm (by decide) (fun x=>rfl) (fun x=>by rw[<- hm2 x];omega)
def CJ(p:LI):List (LI):=if S p=[] then [] else S p::Ik (S p).length (S p) (prim (At (S p)))
theorem KX(p:LI){x y q:Int}(hq:0<q)(hxy:x<=y):wv 0 (DV (CJ p) y q)<=wv 0 (DV (CJ p) x q):=by
 unfold CJ;by_cases h0:S p=[]
 ·rw[if_pos h0];exact Dg _
 ·rw[if_neg h0];have hp:Y p ≠ []:=by
   intro h;have hz:prim p=[]:=by rw[DY,<- Dn];exact h
   apply h0;unfold S;rw[hz];rfl
  have hpos:=Ak.2 h0;by_cases hl:2<=(S p).length
  ·obtain⟨lf,hl1,hG,hc⟩:=KW hp hl;obtain⟨Q0,hQ0,hm⟩:=pW ((x.natAbs:Int)+(y.natAbs:Int)) (by omega) lf hl hl1 hG hc (S p).length (by omega);have h1:(0:Int)<Q0*q:=Bp hQ0 hq;have hQq:Q0<=Q0*q:=by
    have:=Al (show (1:Int)<=q by omega) (show 0<=Q0 by omega);omega
   have hb:∀ z:Int,(z.natAbs:Int)<=(x.natAbs:Int)+(y.natAbs:Int)->((Q0*z).natAbs:Int)<=((x.natAbs:Int)+(y.natAbs:Int))*(Q0*q):=by
    intro z hz;have h2:=Ds (a:=Q0) (A:=Q0*q) (by omega) hz;have e:Q0*q*((x.natAbs:Int)+(y.natAbs:Int))=((x.natAbs:Int)+(y.natAbs:Int))*(Q0*q):=AE ..;omega
   have hd:0<=Q0*(y-x):=AA (by omega) (by omega);have e1:Q0*x+((Q0*(y-x)).toNat:Int)=Q0*y:=by rw[U9 hd,Fy];omega
   have h3:=hm (Q0*q) (Q0*x) h1 hQq (Q0*(y-x)).toNat (hb x (by omega)) (by rw[e1];exact hb y (by omega));rw[e1,I' _ _ _ _ hQ0,I' _ _ _ _ hQ0] at h3;exact h3
  ·have hl1:(S p).length=1:=by omega
   have hz:prim (At (S p))=[]:=by
    rw[DY];intro i;rw[Dx,B3 (by omega),BU]
   have e:Ik (S p).length (S p) (prim (At (S p)))=[]:=by rw[hl1,hz];rfl
   rw[e];have eh:∀ z,Hh (S p) z q=(S p).getD 0 0:=fun z=>by unfold Hh Go.Ai.hp;rw[hl1];rfl
   unfold DV;simp only[Cx,FW];rw[eh,eh];exact Dg _
theorem CZ{n:Int}:Ce n=0↔n=0:=by unfold Ce; (repeat' split) <;> omega
theorem GH{n:Int}:Ce n=1↔0<n:=by unfold Ce; (repeat' split) <;> omega
theorem Gk{n:Int}:Ce n = -1↔n<0:=by unfold Ce; (repeat' split) <;> omega
def PS(f g:LI)(W:Int->Int)(q x:Int):Prop :=
 (Ce (Hh f (x+1) q)=Ce (Hh f x q)/\Hh f x q ≠ 0/\W x=W (x+1)) \/
 ((Ce (Hh g x q)=1\/Ce (Hh g x q) = -1)/\Ce (Hh g (x+1) q)=Ce (Hh g x q) /\
  ((Hh f x q=0/\Ce (Hh f (x+1) q)=Ce (Hh g x q)/\W x=W (x+1)) \/
  (Ce (Hh f x q) = -Ce (Hh g x q)/\(Hh f (x+1) q=0\/Ce (Hh f (x+1) q)=Ce (Hh g x q))/\W x=W (x+1)+1)))
theorem cell{f:LI}(R:Int)(hR:0<=R)(lf:BH f)(hl:2<=f.length)(hl1:(prim (At f)).length=f.length-1)(h:F4 [1] f (prim (At f)))(hc:0<w (At f))(n:Nat)(hn:f.length-1<=n) :
  ∃ Q0:Int,0<Q0/\∀ q x:Int,Zp R q x->Q0<=q->PS f (prim (At f)) (fun y=>wv 0 (DV (f::Ik n f (prim (At f))) y q)) q x:=by
 obtain⟨Q1,hQ1,t1⟩:=VI R hR lf hl hl1 h hc n hn;obtain⟨L,Q2,hL,hQ2,p2⟩:=RZ R hR h;obtain⟨Q3,hQ3,p3⟩:=WL R hR hl hl1 h hc;refine⟨Q1+Q2+Q3,by omega,fun q x hr hq => ?_⟩;obtain⟨d,hd,hd2,hd3,hd4⟩:=t1 q x hr (by omega);have hw:=iR hd;unfold PS;by_cases hst:LO f x q
 ·left;obtain⟨g1,g2⟩:=MB hst;have hd0:d=0:=by
   rcases hd2 with e | e
   ·exact e
   ·exact absurd hst (hd3 e).1
  refine⟨g1,fun h0 => ?_,by show wv 0 _=wv 0 _;omega⟩;rw[h0] at g2;exact absurd g2 (by decide)
 ·right;obtain⟨hs1,_⟩:=p2 q x hr (by omega) hst;obtain⟨g1,g2⟩:=MB hs1;obtain⟨r1,r2⟩:=p3 q x hr (by omega) hst;refine⟨g2,g1,?_⟩;by_cases h0:Hh f x q=0
  ·left;have hd0:d=0:=by
    rcases hd2 with e | e
    ·exact e
    ·exact absurd h0 (hd3 e).2
   refine⟨h0,?_,by show wv 0 _=wv 0 _;omega⟩;rcases g2 with k | k
   ·have:=r1 (GH.1 k);rw[k,GH];omega
   ·have:=r2 (Gk.1 k);rw[k,Gk];omega
  ·right;have hd1:d=1:=by
    rcases hd2 with e | e
    ·rcases hd4 e with k | k
     ·exact absurd k hst
     ·exact absurd k h0
    ·exact e
   unfold LO at hst;rcases g2 with k | k
   ·have:=r1 (GH.1 k);refine⟨by rw[k,Gk];omega,?_,by show wv 0 _=wv 0 _+1;omega⟩;by_cases hz:Hh f (x+1) q=0
    ·exact .inl hz
    ·right;rw[k,GH];omega
   ·have:=r2 (Gk.1 k);refine⟨by rw[k];show _=1;rw[GH];omega,?_,by show wv 0 _=wv 0 _+1;omega⟩;by_cases hz:Hh f (x+1) q=0
    ·exact .inl hz
    ·right;rw[k,Gk];omega
theorem PS.mono{f g:LI}{W:Int->Int}{q x:Int}(h:PS f g W q x):W (x+1)<=W x:=by
 rcases h with ⟨_,_,h⟩ | ⟨_,_,⟨_,_,h⟩ | ⟨_,_,h⟩⟩ <;> omega
theorem PS.root{f g:LI}{W:Int->Int}{q x:Int}(h:PS f g W q x)(h0:Hh f (x+1) q=0):W x=W (x+1)+1:=by
 have e:Ce (Hh f (x+1) q)=0:=CZ.2 h0;rcases h with ⟨h1,h2,_⟩ | ⟨h1,_,⟨_,h3,_⟩ | ⟨_,_,h⟩⟩
 ·rw[e] at h1;exact absurd (CZ.1 h1.symm) h2
 ·omega
 ·exact h
def Par(f g:LI)(W:Int->Int)(q u v:Int):Prop :=
 (Hh f v q ≠ 0/\Ce (Hh f v q)=(if (W u-W v) % 2=0 then 1 else -1)*Ce (Hh f u q)) \/
 (Hh f v q=0/\Ce (Hh g v q)=(if (W u-W v) % 2=0 then 1 else -1)*Ce (Hh f u q))
theorem T7{f g:LI}{W:Int->Int}{q u:Int}(h0:Hh f u q ≠ 0):∀ k:Nat,(∀ j:Nat,j<k->PS f g W q (u+(j:Int)))->Par f g W q u (u+(k:Int))
 | 0,_=>by
  left;rw[show u+((0:Nat):Int)=u by omega];exact⟨h0,by rw[if_pos (by omega),Dt]⟩
 | k+1,hc=>by
  have ih:=T7 h0 k (fun j hj=>hc j (by omega));have c:=hc k (by omega);have e:u+((k+1:Nat):Int)=u+(k:Int)+1:=by omega
  rw[e];have hu:Ce (Hh f u q)=1\/Ce (Hh f u q) = -1:=by
   have:=iS (Hh f u q);have:Ce (Hh f u q) ≠ 0:=fun hh=>h0 (CZ.1 hh);omega
  generalize u+(k:Int)=v at *
  unfold Par at ih |-;rcases c with ⟨c1,c2,c3⟩ | ⟨c1,c2,⟨c3,c4,c5⟩ | ⟨c3,c4,c5⟩⟩
  ·rw[<- c3];rcases ih with ⟨i1,i2⟩ | ⟨i1,_⟩
   ·left;refine⟨fun hz => ?_,by rw[c1];exact i2⟩;rw[hz] at c1;exact i1 (CZ.1 c1.symm)
   ·exact absurd i1 c2
  ·rw[<- c5];rcases ih with ⟨i1,_⟩ | ⟨_,i2⟩
   ·exact absurd c3 i1
   ·left;refine⟨fun hz => ?_,by rw[c4];exact i2⟩;rw[hz] at c4;have:Ce 0=0:=rfl;omega
  ·have i2:Ce (Hh f v q)=(if (W u-W v) % 2=0 then 1 else -1)*Ce (Hh f u q):=by
    rcases ih with ⟨_,i2⟩ | ⟨i1,_⟩
    ·exact i2
    ·rw[i1] at c3;have:Ce 0=0:=rfl;omega
   have flip:Ce (Hh g v q)=(if (W u-W (v+1)) % 2=0 then 1 else -1)*Ce (Hh f u q):=by
    by_cases hp:(W u-W v) % 2=0
    ·rw[if_pos hp] at i2;rw[if_neg (by omega)];omega
    ·rw[if_neg hp] at i2;rw[if_pos (by omega)];omega
   rcases c4 with c4 | c4
   ·right;exact⟨c4,by rw[c2];exact flip⟩
   ·left;refine⟨fun hz => ?_,by rw[c4];exact flip⟩;rw[hz] at c4;have:Ce 0=0:=rfl;omega
theorem Ro{f g:LI}{W:Int->Int}{q u:Int}:∀ k:Nat,(∀ j:Nat,j<k->PS f g W q (u+(j:Int)))->W (u+(k:Int))<=W u
 | 0,_=>by simp
 | k+1,hc=>by
  have ih:=Ro k (fun j hj=>hc j (by omega));have:=(hc k (by omega)).mono;have e:u+((k+1:Nat):Int)=u+(k:Int)+1:=by omega
  rw[e];omega
theorem A0s(p:LI)(hp:Y p ≠ [])(hl:2<=(S p).length){x y q:Int}(hq:0<q):∃ c:Int,0<c/\∀ z:Int,c*x<=z->z<c*y->PS (S p) (prim (At (S p))) (fun z=>wv 0 (DV (CJ p) z (c*q))) (c*q) z:=by
 obtain⟨lf,hl1,hG,hc⟩:=KW hp hl;have h0:S p ≠ []:=by intro h;rw[h] at hl;simp at hl
 obtain⟨Q0,hQ0,hm⟩:=cell ((x.natAbs:Int)+(y.natAbs:Int)) (by omega) lf hl hl1 hG hc (S p).length (by omega);refine⟨Q0,hQ0,fun z h1 h2 => ?_⟩;have hQq:Q0<=Q0*q:=by
  have:=Al (show (1:Int)<=q by omega) (show 0<=Q0 by omega);omega
 have hb:∀ z:Int,(z.natAbs:Int)<=(x.natAbs:Int)+(y.natAbs:Int)->((Q0*z).natAbs:Int)<=((x.natAbs:Int)+(y.natAbs:Int))*(Q0*q):=by
  intro z hz;have h2:=Ds (a:=Q0) (A:=Q0*q) (by omega) hz;have e:Q0*q*((x.natAbs:Int)+(y.natAbs:Int))=((x.natAbs:Int)+(y.natAbs:Int))*(Q0*q):=AE ..;omega
 have bx:=hb x (by omega);have by':=hb y (by omega);have e:CJ p=S p::Ik (S p).length (S p) (prim (At (S p))):=by unfold CJ;rw[if_neg h0]
 rw[e];exact hm (Q0*q) z ⟨Bp hQ0 hq,by omega,by omega⟩ hQq
theorem pX(p:LI)(hp:Y p ≠ [])(hl:2<=(S p).length){x m y q:Int}(hq:0<q)(hxm:x<m)(hmy:m<y)(h1:wv 0 (DV (CJ p) x q)-wv 0 (DV (CJ p) y q)=1) :
  (Hh (S p) m q=0->wv 0 (DV (CJ p) m q)=wv 0 (DV (CJ p) y q)) /\
  (Hh (S p) m q ≠ 0->Hh (S p) y q=0->wv 0 (DV (CJ p) m q)=wv 0 (DV (CJ p) y q)+1) /\
  (Hh (S p) m q ≠ 0->Hh (S p) y q ≠ 0->(Ce (Hh (S p) m q)=Ce (Hh (S p) y q)↔wv 0 (DV (CJ p) m q)=wv 0 (DV (CJ p) y q))):=by
 obtain⟨c,hc,hg⟩:=A0s p hp hl (x:=x) (y:=y) hq;have m1:=KX p hq (Aw hxm);have m2:=KX p hq (Aw hmy);have sc:∀ z,wv 0 (DV (CJ p) (c*z) (c*q))=wv 0 (DV (CJ p) z q):=fun z=>by rw[I' _ _ _ _ hc]
 have hs:∀ z,Ce (Hh (S p) (c*z) (c*q))=Ce (Hh (S p) z q):=fun z=>Mh _ _ _ _ hc;have d1:c*x+c<=c*m:=by
  have:=Al (show x+1<=m by omega) (show 0<=c by omega);rw[CT,Dh] at this;exact this
 have d2:c*m+c<=c*y:=by
  have:=Al (show m+1<=y by omega) (show 0<=c by omega);rw[CT,Dh] at this;exact this
 have back:∀ a b:Int,c*x<=a->a<b->b<=c*y->Hh (S p) b (c*q)=0->wv 0 (DV (CJ p) b (c*q))+1<=wv 0 (DV (CJ p) a (c*q)):=by
  intro a b ha hab hb hz;have hcell:=hg (b-1) (by omega) (by omega);have h2:=hcell.root (by rw[show b-1+1=b by omega];exact hz);simp only[show b-1+1=b by omega] at h2;have h3:=Ro (u:=a) (b-1-a).toNat (fun j hj=>hg (a+(j:Int)) (by omega) (by omega));simp only[show a+((b-1-a).toNat:Int)=b-1 by omega] at h3;omega
 refine⟨fun hz => ?_,fun _ hz => ?_,fun hm0 hy0 => ?_⟩
 ·have hz':Hh (S p) (c*m) (c*q)=0:=by rw[<- CZ,hs,CZ];exact hz
  have:=back (c*x) (c*m) (Dg _) (by omega) (by omega) hz';rw[sc,sc] at this;omega
 ·have hz':Hh (S p) (c*y) (c*q)=0:=by rw[<- CZ,hs,CZ];exact hz
  have:=back (c*m) (c*y) (by omega) (by omega) (Dg _) hz';rw[sc,sc] at this;omega
 ·have hm':Hh (S p) (c*m) (c*q) ≠ 0:=fun g=>hm0 (by rw[<- CZ,<- hs,CZ];exact g);have hy':Hh (S p) (c*y) (c*q) ≠ 0:=fun g=>hy0 (by rw[<- CZ,<- hs,CZ];exact g);have hpar:=T7 (g:=prim (At (S p))) (W:=fun z=>wv 0 (DV (CJ p) z (c*q))) hm' (c*y-c*m).toNat (fun j hj=>hg (c*m+(j:Int)) (by omega) (by omega));rw[show c*m+((c*y-c*m).toNat:Int)=c*y by omega] at hpar;rcases hpar with ⟨_,e⟩ | ⟨e,_⟩
  ·simp only[sc,hs] at e;have hb:Ce (Hh (S p) m q) ≠ 0:=fun g=>hm0 (CZ.1 g);constructor
   ·intro heq;apply A1;intro hne;rw[if_neg (by omega)] at e;omega
   ·intro heq;rw[if_pos (by omega)] at e;omega
  ·exact absurd e hy'
end Go.Ai
namespace Go.Proofs.YtajompaehjkgkaaGreat
open Go.Ai
set_option maxRecDepth 100000
open Classical renaming byContradiction->A1
open Go.Ai.AV renaming bool->B,int->F,sl->H,tup->Ar
open Go.IntKind renaming i64->O,wrap->I
open Int renaming add_mul->Gw,eq_of_mul_eq_mul_left->FM,le_of_eq->Mg,le_of_lt->Aw,le_refl->Dg,lt_of_mul_lt_mul_left->FK,lt_of_mul_lt_mul_right->Dd,mul_assoc->AK,mul_comm->AE,mul_ediv_cancel_left->Cc,mul_lt_mul_of_pos_right->Bc,mul_pos->Bp,pow_add->BB,pow_pos->G2,pow_succ->A7,toNat->D,zero_mul->BU
open List renaming drop_eq_getElem_cons->B2,drop_length->Ev,getD_eq_getElem?_getD->Z,getElem?_eq_getElem->Ad,length_append->AY,length_map->Q,length_pos_iff->Ak,map_append->Ez,mem_append->Bn,mem_cons->BD
open Nat renaming add_comm->Gt,le_refl->Ao,pow_add->De,zero_le->AN
theorem WM:∀ (f:Nat) (a b:LI),Ef f a b=Ik f a b
 | 0,_,_=>rfl
 | f+1,a,b=>by simp only[Ef,Ik];rw[WM f]
theorem P2(p:LI):BR p=CJ p:=by unfold BR CJ;rw [WM]
theorem ADr(l:List (LI))(N:Int)(e i:Nat):Ji l N e i=Ce (Hh (l.getD i []) N (2^e)):=by
 unfold Ji Hh;rw[iQ];rfl
theorem Ako(l:List (LI))(N:Int)(e:Nat):∀ i,i<=l.length->(Cm l N e i).1+wv (Cm l N e i).2 (DV (l.drop i) N (2^e))=wv 0 (DV l N (2^e)):=by
 intro i;induction i with
 | zero=>intro _;simp[Cm]
 | succ i ih =>
  intro hi;rw[<- ih (by omega)];rw[B2 (show i<l.length by omega)];have hg:l.getD i []=l[i]:=by rw[Z,Ad (by omega)];rfl
  have hs:=ADr l N e i;rw[hg] at hs;show (T4 (Cm l N e i) (Ji l N e i)).1+wv (T4 (Cm l N e i) (Ji l N e i)).2 _=(Cm l N e i).1+wv (Cm l N e i).2 (Ce (Hh l[i] N (2^e))::_);rw[<- hs];generalize Cm l N e i=x;generalize Ji l N e i=s;obtain⟨n,last⟩:=x;simp only[T4,wv];by_cases h0:s=0
  ·rw[if_neg (fun h=>h.1 h0),if_neg (fun h=>h h0),if_pos h0];rfl
  ·rw[if_neg h0,if_pos h0];by_cases h1:last ≠ 0/\s ≠ last
   ·rw[if_pos ⟨h0,h1⟩,if_pos h1];show n+1+wv s (DV (l.drop (i+1)) N (2^e))=n+(1+wv s (DV (l.drop (i+1)) N (2^e)));omega
   ·rw[if_neg (fun h=>h1 h.2),if_neg h1];show n+wv s (DV (l.drop (i+1)) N (2^e))=n+(0+wv s (DV (l.drop (i+1)) N (2^e)));omega
def Vd(p:LI)(x:Int)(a:Nat):Int:=(Cm (BR p) x a (BR p).length).1
theorem I3(p:LI)(x:Int)(a:Nat):Vd p x a=wv 0 (DV (CJ p) x (2^a)):=by
 have h:=Ako (BR p) x a (BR p).length (Ao _);rw[Ev,P2] at h;unfold Vd;rw[P2];have:wv (Cm (CJ p) x a (CJ p).length).2 (DV [] x (2^a))=0:=rfl;omega
theorem Bt(n:Nat):(0:Int)<2^n:=G2 (by decide)
theorem Hz(p:LI)(x:Int)(a c:Nat):Vd p (x*2^c) (a+c)=Vd p x a:=by
 rw[I3,I3,AE x,show (2:Int)^(a+c)=2^c*2^a by rw[BB,AE],I' _ _ _ _ (Bt c)]
theorem Lz{p:LI}{x y:Int}{a b:Nat}(h:x*2^b<=y*2^a):Vd p y b<=Vd p x a:=by
 rw[<- Hz p x a b,<- Hz p y b a,Gt b a,I3,I3];exact KX p (Bt _) h
theorem pY{p:LI}{x y:Int}{a b:Nat}(h:x*2^b=y*2^a):Vd p x a=Vd p y b :=
 Int.le_antisymm (Lz (Mg h.symm)) (Lz (Mg h))
theorem P3(p:LI)(x:Int)(a:Nat):DG p x a=Ce (Hh p x (2^a)):=by unfold DG Hh;rw [iQ];rfl
theorem MC(p:LI)(x:Int)(a c:Nat):DG p (x*2^c) (a+c)=DG p x a:=VB (by rw [BB];grind)
theorem VJ{p:LI}(h:(S p).length<2)(x y:Int)(a b:Nat):Vd p x a=Vd p y b:=by
 have e:∀ x a,Vd p x a=0:=by
  intro x a;rw[I3];unfold CJ;by_cases h0:S p=[]
  ·rw[if_pos h0];rfl
  ·rw[if_neg h0];have hz:prim (At (S p))=[]:=by
    rw[DY];intro i;rw[Dx,B3 (by omega),BU]
   have hl1:(S p).length=1:=by have:=Ak.2 h0;omega
   have e:Ik (S p).length (S p) (prim (At (S p)))=[]:=by rw[hl1,hz];rfl
   rw[e];show wv 0 [_]=0;simp only[wv];split
   ·rfl
   ·rw[if_neg (fun h=>h.1 rfl)];rfl
 rw[e,e]
theorem half{p:LI}{x m y:Int}{a c b:Nat}(h1:x*2^c<m*2^a)(h2:m*2^b<y*2^c)(hV:Vd p x a-Vd p y b=1) :
  (DG (S p) m c=0->Vd p m c=Vd p y b)/\(DG (S p) m c ≠ 0->DG (S p) y b=0->Vd p m c=Vd p y b+1) /\
  (DG (S p) m c ≠ 0->DG (S p) y b ≠ 0->(DG (S p) m c=DG (S p) y b↔Vd p m c=Vd p y b)):=by
 have hl:2<=(S p).length:=by
  apply A1;intro g;have:=VJ (p:=p) (by omega) x y a b;omega
 have hp:Y p ≠ []:=by
  intro h;have hz:prim p=[]:=by rw[DY,<- Dn];exact h
  have h0:S p=[]:=by unfold S;rw[hz];rfl
  rw[h0] at hl;simp at hl
 have e1:=Hz p x a (c+b);have e2:=Hz p m c (a+b);have e3:=Hz p y b (a+c);have g2:=MC (S p) m c (a+b);have g3:=MC (S p) y b (a+c);rw[show a+(c+b)=a+b+c by omega,I3] at e1;rw[show c+(a+b)=a+b+c by omega,I3] at e2;rw[show b+(a+c)=a+b+c by omega,I3] at e3;rw[show c+(a+b)=a+b+c by omega,P3] at g2;rw[show b+(a+c)=a+b+c by omega,P3] at g3;have i1:x*2^(c+b)<m*2^(a+b):=by
  have:=Bc h1 (Bt b);rw[BB,BB,<- AK,<- AK];exact this
 have i2:m*2^(a+b)<y*2^(a+c):=by
  have:=Bc h2 (Bt a);rw[BB,BB,AE (2^a) (2^b),AE (2^a) (2^c),<- AK,<- AK];exact this
 obtain⟨s1,s2,s3⟩:=pX p hp hl (Bt (a+b+c)) i1 i2 (by rw[e1,e3];exact hV);rw[e2,e3] at s1 s2 s3;rw[g2,g3] at s3;have z2:Hh (S p) (m*2^(a+b)) (2^(a+b+c))=0↔DG (S p) m c=0:=by rw[<- g2,CZ]
 have z3:Hh (S p) (y*2^(a+c)) (2^(a+b+c))=0↔DG (S p) y b=0:=by rw[<- g3,CZ]
 exact⟨fun h=>s1 (z2.2 h),fun h h'=>s2 (fun g=>h (z2.1 g)) (z3.2 h'),fun h h'=>s3 (fun g=>h (z2.1 g)) (fun g=>h' (z3.1 g))⟩
theorem Hj{x y:Int}{a b:Nat}(h:x*2^b<y*2^a):x*2^L7 x a y b<PR x a y b*2^a/\PR x a y b*2^b<y*2^L7 x a y b:=by
 have hz:=Rj (max a b+1) (JA x a y b);obtain⟨N,hN⟩:=Mf (max a b+1) (JA x a y b);have hS:JA x a y b=x*2^(max a b-a)+y*2^(max a b-b):=rfl;unfold PR L7;generalize JA x a y b=S at *
 generalize Eg S (max a b+1)=z at *
 have pz:=Bt z;have e:S / 2^z=N:=by rw[hN];exact Cc _ (by omega)
 rw[e];obtain⟨k,hk⟩:∃ k,max a b+1=z+k:=⟨max a b+1-z,by omega⟩;rw[show max a b+1-z=k by omega];have hz2:(2:Int)^z*2^k=2*2^max a b:=by rw[<- BB,<- hk,A7,AE]
 have ea:(2:Int)^max a b=2^(max a b-a)*2^a:=by rw[<- BB];congr 1;omega
 have eb:(2:Int)^max a b=2^(max a b-b)*2^b:=by rw[<- BB];congr 1;omega
 have pa:=Bt (max a b-a);have pb:=Bt (max a b-b);have pA:=Bt a;have pB:=Bt b;have pk:=Bt k;generalize (2:Int)^max a b=M at *
 generalize (2:Int)^(max a b-a)=u at *
 generalize (2:Int)^(max a b-b)=v at *
 generalize (2:Int)^a=A at *
 generalize (2:Int)^b=B at *
 generalize (2:Int)^z=Z at *
 generalize (2:Int)^k=K at *
 have huv:x*u<y*v:=by
  have h3:x*B*(u*v)<y*A*(u*v):=Bc h (Bp pa pb);have e3:x*B*(u*v)=x*u*M:=by rw[eb];grind
  have e4:y*A*(u*v)=y*v*M:=by rw[ea];grind
  rw[e3,e4] at h3;exact Dd h3 (by rw[ea];exact Aw (Bp pa pA))
 constructor
 ·have h4:Z*(x*K)<Z*(N*A):=by
   have e5:Z*(x*K)=x*u*(2*A):=by
    have:Z*(x*K)=x*(Z*K):=by grind
    rw[this,hz2,ea];grind
   have e6:Z*(N*A)=(x*u+y*v)*A:=by rw[<- hS,hN];grind
   have h5:=Bc (show x*u+x*u<x*u+y*v by omega) pA;rw[e5,e6];have:x*u*(2*A)=(x*u+x*u)*A:=by grind
   rw[this];exact h5
  exact FK h4 (Aw pz)
 ·have h4:Z*(N*B)<Z*(y*K):=by
   have e5:Z*(y*K)=y*v*(2*B):=by
    have:Z*(y*K)=y*(Z*K):=by grind
    rw[this,hz2,eb];grind
   have e6:Z*(N*B)=(x*u+y*v)*B:=by rw[<- hS,hN];grind
   have h5:=Bc (show x*u+y*v<y*v+y*v by omega) pB;rw[e5,e6];have:y*v*(2*B)=(y*v+y*v)*B:=by grind
   rw[this];exact h5
  exact FK h4 (Aw pz)
theorem EE{x y:Int}{a b:Nat}:BI x a y b = -1↔x*2^b<y*2^a:=by unfold BI CX; (repeat' split) <;> omega
theorem KY{x y:Int}{a b:Nat}:BI x a y b=1↔y*2^a<x*2^b:=by unfold BI CX; (repeat' split) <;> omega
structure One (p:List Int) (x:Iv):Prop where
 lt:L x.r*2^x.b<L x.t*2^x.a
 v:Vd p (L x.r) x.a-Vd p (L x.t) x.b=1
theorem pZ{p:LI}{x:Iv}(h:One p x){m:Int}{c:Nat}(h1:L x.r*2^c<m*2^x.a)(h2:m*2^x.b<L x.t*2^c) :
  (Fv (S p) (L x.r) x.a (L x.t) x.b m c<=0↔Vd p m c=Vd p (L x.t) x.b)/\(¬ Fv (S p) (L x.r) x.a (L x.t) x.b m c<=0↔Vd p m c=Vd p (L x.t) x.b+1):=by
 obtain⟨k1,k2,k3⟩:=half h1 h2 h.v;have m1:Vd p m c<=Vd p (L x.r) x.a:=Lz (Aw h1);have m2:Vd p (L x.t) x.b<=Vd p m c:=Lz (Aw h2);have hv:=h.v;have e1:¬ BI m c (L x.r) x.a<=0:=by
  rw[KY.2 h1];decide
 have e2:¬ BI m c (L x.t) x.b>0:=by
  rw[EE.2 h2];decide
 have key:Fv (S p) (L x.r) x.a (L x.t) x.b m c<=0↔Vd p m c=Vd p (L x.t) x.b:=by
  unfold Fv;rw[if_neg e1,if_neg e2];by_cases c1:DG (S p) m c=0
  ·rw[if_pos c1];exact⟨fun _=>k1 c1,fun _=>Dg _⟩
  ·rw[if_neg c1];by_cases c2:DG (S p) (L x.t) x.b=0
   ·have:=k2 c1 c2;rw[if_neg (by rw[c2];exact c1)];constructor <;> intro g <;> omega
   ·have:=k3 c1 c2;by_cases c3:DG (S p) m c=DG (S p) (L x.t) x.b
    ·rw[if_pos c3];exact⟨fun _=>this.1 c3,fun _=>by decide⟩
    ·rw[if_neg c3];exact⟨fun g=>absurd g (by decide),fun g=>absurd (this.2 g) c3⟩
 refine⟨key,?_⟩;rw[key];omega
theorem One.half{p:LI}{x:Iv}(h:One p x):One p (JJ (S p) x):=by
 obtain⟨b1,b2⟩:=Hj h.lt;have hne:BI (L x.r) x.a (L x.t) x.b ≠ 0:=by rw[EE.2 h.lt];decide
 obtain⟨s1,s2⟩:=pZ h b1 b2;have hv:=h.v;unfold JJ;rw[if_neg hne];split
 ·rename_i g;have e:=s1.1 g;refine⟨?_,?_⟩
  ·show L x.r*2^x.me<L (cn x.mn)*2^x.a;rw[A6];exact b1
  ·show Vd p (L x.r) x.a-Vd p (L (cn x.mn)) x.me=1;rw[A6];have:Vd p x.mn x.me=Vd p (L x.t) x.b:=e;omega
 ·rename_i g;have e:=s2.1 g;refine⟨?_,?_⟩
  ·show L (cn x.mn)*2^x.b<L x.t*2^x.me;rw[A6];exact b2
  ·show Vd p (L (cn x.mn)) x.me-Vd p (L x.t) x.b=1;rw[A6];have:Vd p x.mn x.me=Vd p (L x.t) x.b+1:=e;omega
theorem One.halves{p:LI}{x:Iv}(h:One p x):∀ n,One p (stpN (S p) x n)
 | 0=>h
 | n+1=>(One.halves h n).half
def sc(x:Int)(a k:Nat):Int:=x*2^k / 2^a
def Iv.lo(x:Iv)(k:Nat):Int:=sc (L x.r) x.a k
def Iv.hi(x:Iv)(k:Nat):Int:=sc (L x.t) x.b k
section
variable {p q:LI} (hp:Rk p) (hq:Rk q) {C m:Nat} {x y:Iv} (hx:IvOk C m x) (hy:IvOk C m y)
include hp hq hx hy
omit hp hq in
theorem Ot(hm:m<=8192):RQ 55 [A2 x.t (x.b:Nat),A2 y.r (y.a:Nat)] (.int .i64 (BI (L x.t) x.b (L y.r) y.a))/\RQ 55 [A2 y.t (y.b:Nat),A2 x.r (x.a:Nat)] (.int .i64 (BI (L y.t) y.b (L x.r) x.a)):=by
 obtain⟨gr,gt,ha,hb,_,_⟩:=hx
 obtain⟨gr',gt',ha',hb',_,_⟩:=hy
 exact⟨Kn (gt.mono (by omega)) (gr'.mono (by omega)) (by omega) (by omega),Kn (gt'.mono (by omega)) (gr.mono (by omega)) (by omega) (by omega)⟩
end
structure Apart (p q:List Int) (x y:Iv) (n:Nat) (z:Int):Prop where
 no:∀ i,i<n->¬ BI (L (stpN p x i).t) (stpN p x i).b (L (stpN q y i).r) (stpN q y i).a<=0/\¬ BI (L (stpN q y i).t) (stpN q y i).b (L (stpN p x i).r) (stpN p x i).a<=0
 yes:(z = -1/\BI (L (stpN p x n).t) (stpN p x n).b (L (stpN q y n).r) (stpN q y n).a<=0)\/(z=1/\¬ BI (L (stpN p x n).t) (stpN p x n).b (L (stpN q y n).r) (stpN q y n).a<=0/\BI (L (stpN q y n).t) (stpN q y n).b (L (stpN p x n).r) (stpN p x n).a<=0)
section
variable {p q:LI} (hp:Rk p) (hq:Rk q) {C m:Nat} {x y:Iv} (hx:IvOk C m x) (hy:IvOk C m y)
include hp hq hx hy
theorem Akp{n:Nat}{z:Int}(hC:C+m+n+1<8000)(h:Apart p q x y n z) :
  Ap (.loop XV) (Rl 0 (p.map cn) x.r (x.a:Nat) x.t (x.b:Nat) (q.map cn) y.r (y.a:Nat) y.t (y.b:Nat)) .ret
   (Rl z (p.map cn) (stpN p x n).r ((stpN p x n).a:Nat) (stpN p x n).t ((stpN p x n).b:Nat) (q.map cn) (stpN q y n).r ((stpN q y n).a:Nat) (stpN q y n).t ((stpN q y n).b:Nat)):=by
 refine GQ (prog:=DK) (c:=XV) (ex := .ret) (fun i=>Rl 0 (p.map cn) (stpN p x i).r ((stpN p x i).a:Nat) (stpN p x i).t ((stpN p x i).b:Nat) (q.map cn) (stpN q y i).r ((stpN q y i).a:Nat) (stpN q y i).t ((stpN q y i).b:Nat)) n (by nofun) ?_ 0 (AN _) ?_
 ·obtain⟨c1,c2⟩:=Ot (JB (p:=p) hx n (by omega)) (JB (p:=q) hy n (by omega)) (by omega);rcases h.yes with ⟨rfl,y1⟩ | ⟨rfl,y1,y2⟩
  ·exact A6n 0 _ _ _ _ _ _ _ _ _ _ _ (decide_eq_true y1) c1
  ·exact A6o 0 _ _ _ _ _ _ _ _ _ _ _ _ (decide_eq_false y1) (decide_eq_true y2) c1 c2
 ·intro t _ ht;obtain⟨c1,c2⟩:=Ot (JB (p:=p) hx t (by omega)) (JB (p:=q) hy t (by omega)) (by omega);obtain⟨n1,n2⟩:=h.no t ht;exact A6p 0 _ _ _ _ _ _ _ _ _ _ _ _ _ _ _ _ _ _ _ _ _ _ (decide_eq_false n1) (decide_eq_false n2) c1 c2 (VF hp (JB (p:=p) hx t (by omega)) (by omega)) (VF hq (JB (p:=q) hy t (by omega)) (by omega))
theorem Zq{n:Nat}{z:Int}(hC:C+m+n+1<8000)(h1:¬ BI (L x.t) x.b (L y.r) y.a<0)(h2:¬ BI (L y.t) y.b (L x.r) x.a<0)(he:RQ 124 [x.av p,y.av q] (B false))(h:Apart p q x y n z):RQ 74 [x.av p,y.av q] (F O z):=by
 obtain⟨c1,c2⟩:=Ot hx hy (by omega);exact Ajx _ x.r x.t _ _ _ y.r y.t _ _ _ _ _ false _ _ _ _ _ _ _ _ _ _ (decide_eq_false h1) (decide_eq_false h2) rfl c1 c2 he (Akp hp hq hx hy hC h)
omit hp hq in
theorem A0t(hm:m<=8192)(h1:¬ BI (L x.t) x.b (L y.r) y.a<0)(h2:¬ BI (L y.t) y.b (L x.r) x.a<0)(he:RQ 124 [x.av p,y.av q] (.bool true)):RQ 74 [x.av p,y.av q] (.int .i64 0):=by
 obtain⟨c1,c2⟩:=Ot hx hy hm
 exact Ajw _ x.r x.t _ _ _ y.r y.t _ _ _ _ true (decide_eq_false h1) (decide_eq_false h2) rfl c1 c2 he
end
theorem Zr{rs:List Rn}(hg:∀ r∈rs,AU 5 r)(hn:rs.length<=9){r t:Rn}(hr:AU 300 r)(ht:AU 300 t){a b:Nat}(ha:a<=8192)(hb:b<=8192) :
  RQ 136 [sL pc rs,A2 r (a:Nat),A2 t (b:Nat)] (F O (ABz (N rs) (L r) a (L t) b)):=by
 have hch:=WG hg hn;have hnice:=Pw hg hn;have hlen:=Nx hg hn;have x1:=J9 hnice hr a (by omega) (by omega);have x2:=J9 hnice ht b (by omega) (by omega);have k:=A0l rs _ r t (a:Nat) (b:Nat) _ _ hch x1 x2;rw[WI (by omega)] at k;exact k
def Iv.d(p:LI)(x:Iv):Int:=Vd p (L x.r) x.a-Vd p (L x.t) x.b
def Iv.lf(x:Iv):Iv:=⟨x.r,x.a,cn x.mn,x.me⟩
def Iv.rg(x:Iv):Iv:=⟨cn x.mn,x.me,x.t,x.b⟩
def Fk(p:LI):Nat->Iv->List Iv
 | 0,x=>if x.d p=0 then [] else [x]
 | n+1,x=>if x.d p=0 then [] else if x.d p=1 then [x] else Fk p n x.lf++Fk p n x.rg
def Deep(p:LI)(E:Nat):Nat->Iv->Prop
 | 0,x=>x.d p=0\/x.d p=1
 | n+1,x=>x.d p=0\/x.d p=1\/(x.me<=E/\Deep p E n x.lf/\Deep p E n x.rg)
def Iv.rt(p:LI)(x:Iv):Rt:=⟨p.map cn,x.r,(x.a:Nat),x.t,(x.b:Nat)⟩
theorem A0u{C m:Nat}{x:Iv}(h:IvOk C m x)(hC:C+m+1<8000):IvOk C (m+1) x.lf/\IvOk C (m+1) x.rg/\AU 300 (cn x.mn)/\x.me<=m+1:=by
 obtain⟨gr,gt,ha,hb,vr,vt⟩:=h;have e2:x.me<=max x.a x.b+1:=Pz;have e3:x.mn.natAbs<=2^C*2^x.me:=U6 vr vt;have hf:AU 300 (cn x.mn):=B4 (C_ (k:=C+x.me) (by rw[De];exact e3) (by omega));refine⟨⟨gr,hf,by show x.a<=_;omega,by show x.me<=_;omega,vr,by show (L (cn x.mn)).natAbs<=_;rw[A6];exact e3⟩,⟨hf,gt,by show x.me<=_;omega,by show x.b<=_;omega,by show (L (cn x.mn)).natAbs<=_;rw[A6];exact e3,vt⟩,hf,by omega⟩
theorem VK{p:LI}(hl:(BR p).length<=10)(x:Int)(a:Nat):0<=Vd p x a/\Vd p x a<=10:=by
 have:=Me (BR p) x a (BR p).length;unfold Vd;omega
section
variable {p:LI} (hnice:∀ q∈BR p,oY q) (hlen:(BR p).length<=10) (h1:0<(BR p).length) (hfr:(BR p).getD 0 []=S p) {E:Nat} (hE:E<=1073741824)
include hnice hlen h1 hfr hE
theorem yU:∀ (n:Nat) (x:Iv) (C m:Nat),IvOk C m x->C+m+n+1<8000->Deep p E n x->(Fk p n x).length<=1000*1000 ->
  RQ 105 [H (Cd (BR p)).length (pp (Cd (BR p))),A2 x.r (x.a:Nat),A2 x.t (x.b:Nat),F O (Vd p (L x.r) x.a),F O (Vd p (L x.t) x.b),F O (E:Nat)]
   (.frs (.tp true) 7 (Fk p n x).length (CI ((Fk p n x).map (Iv.rt (S p))))):=by
 intro n;induction n with
 | zero =>
  intro x C m hx hC hd _;have b1:=VK hlen (L x.r) x.a;have b2:=VK hlen (L x.t) x.b;have ew:I O (Vd p (L x.r) x.a-Vd p (L x.t) x.b)=Iv.d p x:=Bg (by omega) (by omega);simp only[Fk];rcases hd with hd | hd
  ·rw[if_pos hd];exact Zk _ x.r x.t _ _ _ _ _ (by rw[ew,hd];rfl)
  ·rw[if_neg (by omega)];have k:=Zl (Cd (BR p)) x.r x.t (x.a:Nat) (x.b:Nat) _ _ (E:Nat) (by rw[ew,hd];rfl) (by rw[ew,hd];rfl) (by rw[GG];omega);rw[show D 0=0 from rfl,Oo h1,hfr] at k;exact k
 | succ n ih =>
  intro x C m hx hC hd hL;have b1:=VK hlen (L x.r) x.a;have b2:=VK hlen (L x.t) x.b;have ew:I O (Vd p (L x.r) x.a-Vd p (L x.t) x.b)=Iv.d p x:=Bg (by omega) (by omega);simp only[Fk] at hL |-;by_cases c0:x.d p=0
  ·rw[if_pos c0];exact Zk _ x.r x.t _ _ _ _ _ (by rw[ew,c0];rfl)
  ·rw[if_neg c0] at hL |-;by_cases c1:x.d p=1
   ·rw[if_pos c1];have k:=Zl (Cd (BR p)) x.r x.t (x.a:Nat) (x.b:Nat) _ _ (E:Nat) (by rw[ew,c1];rfl) (by rw[ew,c1];rfl) (by rw[GG];omega);rw[show D 0=0 from rfl,Oo h1,hfr] at k;exact k
   ·rw[if_neg c1] at hL |-;rcases hd with hd | hd | ⟨d1,d2,d3⟩
    ·exact absurd hd c0
    ·exact absurd hd c1
    ·obtain⟨o1,o2,o3,o4⟩:=A0u hx (by omega);obtain⟨gr,gt,ha,hb,vr,vt⟩:=hx;rw[AY] at hL;have k1:=ih x.lf C (m+1) o1 (by omega) d2 (by omega);have k2:=ih x.rg C (m+1) o2 (by omega) d3 (by omega);have hm:=Px (gr.mono (show 300<=600 by omega)) (gt.mono (show 300<=600 by omega)) (a:=x.a) (b:=x.b) (by omega) (by omega);have hv:=J9 hnice o3 x.me (by omega) (by omega);rw[A6] at hv;have e1:Vd p (L (cn x.mn)) x.me=Vd p x.mn x.me:=by rw[A6]
     have f1:(x.lf).t=cn x.mn:=rfl;have f2:(x.rg).r=cn x.mn:=rfl;rw[f1,show x.lf.b=x.me from rfl,show x.lf.r=x.r from rfl,show x.lf.a=x.a from rfl,e1] at k1;rw[f2,show x.rg.a=x.me from rfl,show x.rg.t=x.t from rfl,show x.rg.b=x.b from rfl,e1] at k2;have k:=yQ (Cd (BR p)) x.r x.t (x.a:Nat) (x.b:Nat) _ _ (E:Nat) x.mn (x.me:Nat) _ true true _ _ _ _ (by rw[ew,beq_eq_false_iff_ne];exact c0) (by rw[ew,beq_eq_false_iff_ne];exact c1) (by rw[decide_eq_false_iff_not];omega) rfl (by rw[GR,Q]) (by omega) hm hv k1 k2;rw[AY,Ez,Ny];exact k
end
theorem qC{p:LI}{C:Nat}:∀ (n:Nat) (x:Iv) (m:Nat),IvOk C m x->C+m+n+1<8000->∀ y∈Fk p n x,IvOk C (m+n) y:=by
 intro n;induction n with
 | zero =>
  intro x m hx _ y hy;simp only[Fk] at hy;split at hy
  ·cases hy
  ·rcases BD.1 hy with rfl | hy
   ·exact hx
   ·cases hy
 | succ n ih =>
  intro x m hx hC y hy;have up:IvOk C (m+(n+1)) x:=⟨hx.gr,hx.gt,by have:=hx.a;omega,by have:=hx.b;omega,hx.vr,hx.vt⟩;simp only[Fk] at hy;split at hy
  ·cases hy
  ·split at hy
   ·rcases BD.1 hy with rfl | hy
    ·exact up
    ·cases hy
   ·obtain⟨o1,o2,_,_⟩:=A0u hx (by omega);rcases Bn.1 hy with hy | hy
    ·have:=ih x.lf (m+1) o1 (by omega) y hy;rwa [show m+1+n=m+(n+1) by omega] at this
    ·have:=ih x.rg (m+1) o2 (by omega) y hy;rwa [show m+1+n=m+(n+1) by omega] at this
def N1(p:LI)(n:Nat)(x:Iv):List Iv:=if (BR p).length<2 then [] else Fk p n x
theorem iT{p:LI}(h:0<(BR p).length):(BR p).getD 0 []=S p:=by
 unfold BR at h |-;split at h
 ·simp at h
 ·rename_i g;rw[if_neg g];rfl
section
variable {rs:List Rn} (hg:∀ r∈rs,AU 5 r) (hn:rs.length<=9)
include hg hn
theorem Akq{n:Nat}{x:Iv}{C m:Nat}(hx:IvOk C m x)(hC:C+m+n+1<8000){E:Nat}(hE:E<=1073741824)(hd:Deep (N rs) E n x)(hL:(Fk (N rs) n x).length<=1000*1000) :
  RQ 56 [sL pc rs,A2 x.r (x.a:Nat),A2 x.t (x.b:Nat),F O (E:Nat)] (.frs (.tp true) 7 ((N1 (N rs) n x).map (Iv.rt (S (N rs)))).length (CI ((N1 (N rs) n x).map (Iv.rt (S (N rs)))))) \/
  RQ 56 [sL pc rs,A2 x.r (x.a:Nat),A2 x.t (x.b:Nat),F O (E:Nat)] (Ar [H ((N1 (N rs) n x).map (Iv.rt (S (N rs)))).length (CI ((N1 (N rs) n x).map (Iv.rt (S (N rs))))),B true]):=by
 have hch:=WG hg hn;have hnice:=Pw hg hn;have hlen:=Nx hg hn;unfold N1;by_cases c:(BR (N rs)).length<2
 ·rw[if_pos c];exact .inl (Ajt rs _ x.r x.t _ _ _ (by rw[decide_eq_true_eq,GG];omega) hch)
 ·rw[if_neg c];have x1:=J9 hnice hx.gr x.a (by have:=hx.a;omega) (by omega);have x2:=J9 hnice hx.gt x.b (by have:=hx.b;omega) (by omega);have sp:=yU hnice hlen (by omega) (iT (by omega)) hE n x C m hx hC hd hL;rw[Q];exact .inr (Aju rs _ x.r x.t _ _ _ _ _ true _ _ (by rw[decide_eq_false_iff_not,GG];omega) hch x1 x2 sp)
end
theorem A0v(x:Int)(a:Nat)(y:Int)(b:Nat):PR x a y b*(2*(2^a*2^b))=(x*2^b+y*2^a)*2^L7 x a y b:=by
 have hz:=Rj (max a b+1) (JA x a y b);obtain⟨N,hN⟩:=Mf (max a b+1) (JA x a y b);have hS:JA x a y b=x*2^(max a b-a)+y*2^(max a b-b):=rfl;unfold PR L7;generalize JA x a y b=S at *
 generalize Eg S (max a b+1)=z at *
 have pz:=Bt z;have e:S / 2^z=N:=by rw[hN];exact Cc _ (by omega)
 rw[e];obtain⟨k,hk⟩:∃ k,max a b+1=z+k:=⟨max a b+1-z,by omega⟩;rw[show max a b+1-z=k by omega];have hz2:(2:Int)^z*2^k=2*2^max a b:=by rw[<- BB,<- hk,A7,AE]
 have ea:(2:Int)^max a b=2^(max a b-a)*2^a:=by rw[<- BB];congr 1;omega
 have eb:(2:Int)^max a b=2^(max a b-b)*2^b:=by rw[<- BB];congr 1;omega
 generalize (2:Int)^max a b=M at *
 generalize (2:Int)^(max a b-a)=u at *
 generalize (2:Int)^(max a b-b)=v at *
 generalize (2:Int)^a=A at *
 generalize (2:Int)^b=B at *
 generalize (2:Int)^z=Z at *
 generalize (2:Int)^k=K at *
 apply FM (show Z ≠ 0 by omega);have e1:Z*(N*(2*(A*B)))=(x*u+y*v)*(2*(A*B)):=by rw[<- hS,hN];grind
 have e2:Z*((x*B+y*A)*K)=(x*B+y*A)*(2*M):=by rw[<- hz2];grind
 have e3:x*B*(2*M)=x*u*(2*(A*B)):=by rw[ea];grind
 have e4:y*A*(2*M)=y*v*(2*(A*B)):=by rw[eb];grind
 rw[e1,e2,Gw,Gw,e3,e4]
end Go.Proofs.YtajompaehjkgkaaGreat
namespace Go.Ai
open Classical renaming byContradiction->A1
open Int renaming add_mul->Gw,lt_trichotomy->G3,mul_add->CT,mul_assoc->AK,mul_comm->AE,mul_ne_zero->AS,mul_one->Dh,mul_sub->Fy,mul_zero->AG,natAbs_mul->BS,natAbs_natCast->BW,one_mul->Dt,pow_succ->A7,pow_zero->Dj,sub_mul->A3l,sub_self->Sg,zero_mul->BU
open List renaming cons_append->I_,eq_nil_of_length_eq_zero->A5,getD_eq_getElem?_getD->Z,getElem?_eq_getElem->Ad,length_cons->B0,length_map->Q,length_range->BE,length_tail->VM,map_append->Ez,map_cons->Cx,map_nil->FW,mem_cons_of_mem->AT,mem_cons_self->AO,mem_iff_getElem->ACl,range->Aq,range_succ->Io
open Nat renaming add_assoc->DW,add_sub_cancel->Ie,div_add_mod->rU,div_div_eq_div_mul->qE,div_lt_of_lt_mul->yV,mod_eq_of_lt->EK,mod_lt->GO,mul_add->AEl,mul_add_mod->A3u,mul_assoc->Fm,mul_comm->CY,mul_le_mul->BG,mul_le_mul_right->AJ,mul_one->FR,mul_pos->GS,not_lt_zero->NR,pow_pos->DH,pow_succ->Gx,succ_mul->MO
open Rat renaming intCast_add->LQ,intCast_le_intCast->BN,intCast_mul->Dc,intCast_natCast->DU,intCast_neg->Any,le_of_lt->Ic,mul_le_mul_of_nonneg_left->Xu,mul_nonneg->FH
theorem iU:∀ (M N:Nat) (φ:Nat->Nat),(∀ i,i<N->φ i<M)->M<N->∃ i j,i<j/\j<N/\φ i=φ j
 | 0,N,φ,h,hN=>absurd (h 0 hN) (NR _)
 | M+1,N,φ,h,hN=>by
  by_cases h0:∃ i,i<N/\φ i=M
  ·obtain⟨i,hi,ei⟩:=h0;by_cases h1:∃ j,j<N/\j ≠ i/\φ j=M
   ·obtain⟨j,hj,hne,ej⟩:=h1;rcases Nat.lt_or_gt_of_ne hne with g | g
    ·exact⟨j,i,g,hi,by omega⟩
    ·exact⟨i,j,g,hj,by omega⟩
   ·have other:∀ j,j<N->j ≠ i->φ j<M:=fun j hj hne=>by
     have:=h j hj;have:φ j ≠ M:=fun e=>h1 ⟨j,hj,hne,e⟩;omega
    obtain⟨a,b,hab,hb,e⟩:=iU M (N-1) (fun k=>φ (if k<i then k else k+1)) (fun k hk=>other _ (by split <;> omega) (by split <;> omega)) (by omega);refine⟨if a<i then a else a+1,if b<i then b else b+1,by split <;> split <;> omega,by split <;> omega,e⟩
  ·obtain⟨a,b,hab,hb,e⟩:=iU M N φ (fun i hi=>by
    have:=h i hi;have:φ i ≠ M:=fun e=>h0 ⟨i,hi,e⟩;omega) (by omega)
   exact⟨a,b,hab,hb,e⟩
def LP(B v i:Nat):Nat:=v / (B+1)^i % (B+1)
theorem iV(B v i:Nat):LP B v i<=B:=by
 have:=GO (v / (B+1)^i) (show 0<B+1 by omega);unfold LP;omega
theorem qD(B:Nat):∀ (k v w:Nat),v<(B+1)^k->w<(B+1)^k->(∀ i,i<k->LP B v i=LP B w i)->v=w
 | 0,v,w,hv,hw,_=>by simp at hv hw;omega
 | k+1,v,w,hv,hw,h=>by
  have h0:=h 0 (by omega);simp only[LP,Nat.pow_zero,Nat.div_one] at h0;have hd:v / (B+1)=w / (B+1):=by
   apply qD B k
   ·rw[Gx] at hv;exact yV (by rw[CY];exact hv)
   ·rw[Gx] at hw;exact yV (by rw[CY];exact hw)
   ·intro i hi;have:=h (i+1) (by omega);simp only[LP] at this |-;rw[qE,qE,CY (B+1),<- Gx];exact this
  have e1:=rU v (B+1);have e2:=rU w (B+1);rw[hd] at e1;omega
def EF(f:Nat->Int):Nat->Int
 | 0=>0
 | n+1=>EF f n+f n
theorem dU(f g:Nat->Int):∀ n,EF (fun i=>f i-g i) n=EF f n-EF g n
 | 0=>rfl
 | n+1=>by simp only[EF];rw[dU f g n];omega
theorem Mi{f g:Nat->Int}:∀ {n},(∀ i,i<n->f i=g i)->EF f n=EF g n
 | 0,_=>rfl
 | n+1,h=>by simp only[EF];rw[Mi fun i hi=>h i (by omega),h n (by omega)]
theorem dV{f:Nat->Int}{A:Nat}:∀ n,(∀ i,i<n->(f i).natAbs<=A)->(EF f n).natAbs<=n*A
 | 0,_=>by simp[EF]
 | n+1,h=>by
  have h1:=dV n fun i hi=>h i (by omega);have h2:=h n (by omega);simp only[EF,MO];omega
def KI(t:Nat->Nat)(Q:Nat):Nat->Nat
 | 0=>0
 | m+1=>KI t Q m*Q+t m
theorem qF{t:Nat->Nat}{Q:Nat}:∀ m,(∀ j,j<m->t j<Q)->KI t Q m<Q^m
 | 0,_=>by simp[KI]
 | m+1,h=>by
  have h1:=qF m fun j hj=>h j (by omega);have h2:=h m (by omega);simp only[KI,Gx];have:(KI t Q m+1)*Q<=Q^m*Q:=AJ _ h1;rw[MO] at this;omega
theorem dW{t u:Nat->Nat}{Q:Nat}:∀ m,(∀ j,j<m->t j<Q)->(∀ j,j<m->u j<Q)->KI t Q m=KI u Q m->∀ j,j<m->t j=u j
 | 0,_,_,_,j,hj=>absurd hj (NR _)
 | m+1,ht,hu,h,j,hj=>by
  have h1:=ht m (by omega);have h2:=hu m (by omega);simp only[KI] at h;have e1:(KI t Q m*Q+t m) % Q=(KI u Q m*Q+u m) % Q:=by rw[h]
  rw[CY,A3u,EK h1,CY,A3u,EK h2] at e1;have e2:KI t Q m=KI u Q m:=Nat.eq_of_mul_eq_mul_right (show 0<Q by omega) (by omega);by_cases hjm:j=m
  ·rw[hjm];exact e1
  ·exact dW m (fun j hj=>ht j (by omega)) (fun j hj=>hu j (by omega)) e2 j (by omega)
theorem A6v(k C:Nat)(a:Nat->Nat->Int)(ha:∀ j i,(a j i).natAbs<=C)(hC:0<C)(hk:1<=k) :
  ∃ d:Nat->Int,(∀ i,(d i).natAbs<=(2*(k*C))^(k-1))/\(∃ i,i<k/\d i ≠ 0)/\∀ j,j<k-1->EF (fun i=>a j i*d i) k=0:=by
 have hS:0<k*C:=GS hk hC;generalize hB:(2*(k*C))^(k-1)=B;have hval:∀ v j,(EF (fun i=>a j i*(LP B v i:Int)) k).natAbs<=k*C*B:=by
  intro v j;have:=dV (f:=fun i=>a j i*(LP B v i:Int)) (A:=C*B) k (fun i _=>by
   rw[BS,BW];exact BG (ha j i) (iV B v i))
  rwa [<- Fm] at this
 have ht:∀ v j,(EF (fun i=>a j i*(LP B v i:Int)) k+(k*C*B:Nat)).toNat<2*(k*C*B)+1:=by
  intro v j;have:=hval v j;omega
 have hlt:(2*(k*C*B)+1)^(k-1)<(B+1)^k:=by
  have h1:(2*(k*C*B)+1)^(k-1)<=(2*(k*C)*(B+1))^(k-1):=by
   apply Nat.pow_le_pow_left;have:2*(k*C)*(B+1)=2*(k*C*B)+2*(k*C):=by rw[AEl,FR,Fm 2]
   omega
  rw[Nat.mul_pow,hB] at h1;have h2:(B+1)^k=(B+1)^(k-1)*(B+1):=by rw[<- Gx];congr 1;omega
  have h3:0<(B+1)^(k-1):=DH (by omega);have h4:(B+1)^(k-1)*B=B*(B+1)^(k-1):=CY ..;rw[h2,AEl,FR];omega
 obtain⟨v,w,hvw,hw,e⟩:=iU _ _ (fun v=>KI (fun j=>(EF (fun i=>a j i*(LP B v i:Int)) k+(k*C*B:Nat)).toNat) (2*(k*C*B)+1) (k-1)) (fun v _=>qF _ (fun j _=>ht v j)) hlt;have he:=dW (k-1) (fun j _=>ht v j) (fun j _=>ht w j) e;refine⟨fun i=>(LP B w i:Int)-(LP B v i:Int),fun i => ?_,?_,fun j hj => ?_⟩
 ·have h1:=iV B v i;have h2:=iV B w i;show ((LP B w i:Int)-(LP B v i:Int)).natAbs<=B;omega
 ·apply A1;intro hn;have:=qD B k v w (by omega) hw (fun i hi=>by
   apply A1;intro g;exact hn ⟨i,hi,by show (LP B w i:Int)-(LP B v i:Int) ≠ 0;omega⟩)
  omega
 ·have h1:(EF (fun i=>a j i*(LP B v i:Int)) k+(k*C*B:Nat)).toNat=(EF (fun i=>a j i*(LP B w i:Int)) k+(k*C*B:Nat)).toNat:=he j hj;have h2:=hval v j;have h3:=hval w j;have h4:=dU (fun i=>a j i*(LP B w i:Int)) (fun i=>a j i*(LP B v i:Int)) k;have h5:EF (fun i=>a j i*((LP B w i:Int)-(LP B v i:Int))) k=EF (fun i=>a j i*(LP B w i:Int)-a j i*(LP B v i:Int)) k:=Mi fun i _=>Fy ..;rw[h5,h4];omega
def comb(d:Nat->Int)(b:Nat->LI):Nat->LI
 | 0=>[]
 | n+1=>Ec (comb d b n) (As (d n) (b n))
theorem Zs(d:Nat->Int)(b:Nat->LI)(j:Nat):∀ n,(comb d b n).getD j 0=EF (fun i=>(b i).getD j 0*d i) n
 | 0=>by simp[comb,EF]
 | n+1=>by
  simp only[comb,EF];rw[DS,m,Zs d b j n,AE (d n)]
theorem WN(d:Nat->Int)(b:Nat->LI)(x:Int):∀ n,Aa (comb d b n) x=EF (fun i=>d i*Aa (b i) x) n
 | 0=>by simp[comb,EF,Aa]
 | n+1=>by
  simp only[comb,EF];rw[BY,A0,WN d b x n]
theorem Zt{f:Nat->Int}:∀ {n},(∀ i,i<n->f i=0)->EF f n=0
 | 0,_=>rfl
 | n+1,h=>by simp only[EF];rw[Zt fun i hi=>h i (by omega),h n (by omega)];rfl
theorem WO(b:Nat->LI)(k C:Nat)(hb:∀ i j,((b i).getD j 0).natAbs<=C)(hC:0<C)(hk:1<=k)(hl:∀ i,i<k->(b i).length<=k) :
  ∃ (d:Nat->Int) (R:Int),(∀ i,(d i).natAbs<=(2*(k*C))^(k-1))/\(∃ i,i<k/\d i ≠ 0)/\∀ x,EF (fun i=>d i*Aa (b i) x) k=R:=by
 obtain⟨d,h1,h2,h3⟩:=A6v k C (fun j i=>(b i).getD (j+1) 0) (fun j i=>hb i (j+1)) hC hk;refine⟨d,(comb d b k).getD 0 0,h1,h2,fun x => ?_⟩;rw[<- WN];have hz:∀ j,(comb d b k).getD j 0=[(comb d b k).getD 0 0].getD j 0:=by
  intro j;cases j with
  | zero=>rfl
  | succ j =>
   show _=0;rw[Zs];by_cases hj:j<k-1
   ·exact h3 j hj
   ·exact Zt fun i hi=>by rw[B3 (by have:=hl i hi;omega),BU]
 have e:Y (comb d b k)=Y [(comb d b k).getD 0 0]:=Gb hz;rw[<- DR (comb d b k),e,DR];simp[Aa]
def Vb(f:LI):LI:=Ec (As ((f.length-1:Nat):Int) f) (As (-1) (Dz 1 (At f)))
theorem yW(f:LI)(x:Int):Aa (Vb f) x=((f.length-1:Nat):Int)*Aa f x-x*Aa (At f) x:=by
 unfold Vb;rw[BY,A0,A0,D9,A7,Dj,Dt];omega
theorem dX(f:LI)(i:Nat):(Vb f).getD i 0=(((f.length-1:Nat):Int)-(i:Int))*f.getD i 0:=by
 unfold Vb;rw[DS,m,m,Cw];cases i with
 | zero=>simp
 | succ i =>
  rw[if_pos (by omega),Dx,Ie];rw[A3l];have:f.getD (i+1) 0*((i+1:Nat):Int)=((i+1:Nat):Int)*f.getD (i+1) 0:=AE ..;omega
theorem qG(f:LI):(Vb f).length<=f.length-1:=by
 have h:∀ i,f.length-1<=i->(Vb f).getD i 0=0:=by
  intro i hi;rw[dX];by_cases e:i=f.length-1
  ·rw[e,Sg,BU]
  ·rw[B3 (show f.length<=i by omega),AG]
 apply A1;intro hn;have hl:BH (Vb f):=by
  show Y _=_;unfold Vb Ec;rw[Fs]
 exact En hl (fun e=>by rw[e] at hn;simp at hn) (h _ (by omega))
def yX(f:LI)(m i:Nat):LI:=if i<m then Dz i (Vb f) else Dz (i-m) (At f)
theorem VL(f:Nat->Int)(m:Nat):∀ k,EF f (m+k)=EF f m+EF (fun i=>f (m+i)) k
 | 0=>by simp[EF]
 | k+1=>by
  rw[<- DW];simp only[EF];rw[VL f m k];omega
theorem KZ(d:Nat->Int)(x:Int):∀ m,EF (fun i=>d i*x^i) m=Aa ((Aq m).map d) x
 | 0=>rfl
 | m+1=>by
  simp only[EF];rw[KZ d x m,Io,Ez];have:∀ (l:LI) (a:Int),Aa (l++[a]) x=Aa l x+a*x^l.length:=by
   intro l a;induction l with
   | nil=>simp[Aa]
   | cons b l ih =>
    simp only[I_,Aa,B0];rw[ih,A7];grind
  rw[Cx,FW,this,Q,BE]
theorem Ou(f:Nat->Int)(c:Int):∀ m,EF (fun i=>f i*c) m=EF f m*c
 | 0=>by simp[EF]
 | m+1=>by simp only[EF];rw[Ou f c m,Gw]
theorem A0w{f:LI}{n:Nat}(hn:f.length=n+1)(h2:2<=n)(hp:(At f).length=n){i:Nat}(hi:i<(n-1)+(n-1)):(yX f (n-1) i).length<=(n-1)+(n-1):=by
 have:=qG f;unfold yX;split
 ·rw[HZ];omega
 ·rw[HZ];omega
theorem yY{f:LI}{n A:Nat}(hn:f.length=n+1)(hA:∀ i,(f.getD i 0).natAbs<=A)(i j:Nat):((yX f (n-1) i).getD j 0).natAbs<=n*A:=by
 have hh:∀ j,((Vb f).getD j 0).natAbs<=n*A:=by
  intro j;rw[dX,hn,BS];by_cases hj:j<=n
  ·exact BG (by omega) (hA j)
  ·rw[B3 (by omega)];simp
 have hd:∀ j,((At f).getD j 0).natAbs<=n*A:=by
  intro j;rw[Dx,BS,CY];by_cases hj:j<n
  ·exact BG (by omega) (hA (j+1))
  ·rw[B3 (by omega)];simp
 unfold yX;split
 ·rw[Cw];split
  ·exact hh _
  ·simp
 ·rw[Cw];split
  ·exact hd _
  ·simp
theorem qH{f:LI}{n A:Nat}(hn:f.length=n+1)(h2:2<=n)(hp:(At f).length=n)(hA:∀ i,(f.getD i 0).natAbs<=A)(hA0:0<A) :
  ∃ (d:Nat->Int) (R:Int),(∀ i,(d i).natAbs<=(2*(((n-1)+(n-1))*(n*A)))^((n-1)+(n-1)-1))/\(∃ i,i<(n-1)+(n-1)/\d i ≠ 0) /\
   ∀ x,Aa ((Aq (n-1)).map d) x*Aa (Vb f) x+Aa ((Aq (n-1)).map fun i=>d (n-1+i)) x*Aa (At f) x=R:=by
 obtain⟨d,R,h1,h3,h4⟩:=WO (yX f (n-1)) ((n-1)+(n-1)) (n*A) (yY hn hA) (GS (by omega) hA0) (by omega) (fun i hi=>A0w hn h2 hp hi);refine⟨d,R,h1,h3,fun x => ?_⟩;rw[<- h4 x,VL,<- KZ,<- KZ,<- Ou,<- Ou];congr 1
 ·apply Mi;intro i hi;unfold yX;rw[if_pos hi,D9,AK]
 ·apply Mi;intro i hi;unfold yX;rw[if_neg (by omega),D9,show n-1+i-(n-1)=i by omega,AK]
def pq:LI->Rat->Rat
 | [],_=>0
 | a::p,x=>(a:Rat)+x*pq p x
def pd:LI->Rat->Rat
 | [],_=>0
 | _::p,x=>pq p x+x*pd p x
def dD:LI->Rat->Rat->Rat
 | [],_,_=>0
 | _::p,a,b=>pq p a+b*dD p a b
def dE:LI->Rat->Rat->Rat
 | [],_,_=>0
 | _::p,a,b=>dD p a b+b*dE p a b+pd p a
def dT:LI->Rat->Rat->Rat
 | [],_,_=>0
 | _::p,a,b=>b*dT p a b+pd p a
def dS:LI->Rat->Rat->Rat
 | [],_,_=>0
 | _::p,a,b=>a*dS p a b-dT p a b+dE p a b
theorem MD(a b:Rat):∀ f,pq f b=pq f a+(b-a)*dD f a b
 | []=>by simp[pq,dD];grind
 | c::p=>by
  have:=MD a b p;simp only[pq,dD];grind
theorem qI(a b:Rat):∀ f,pd f b=pd f a+(b-a)*dE f a b
 | []=>by simp[pd,dE];grind
 | c::p=>by
  have h1:=qI a b p;have h2:=MD a b p;simp only[pd,dE];grind
theorem iW(a b:Rat):∀ f,pq f b=pq f a+(b-a)*pd f a+(b-a)*(b-a)*dT f a b
 | []=>by simp[pq,pd,dT];grind
 | c::p=>by
  have:=iW a b p;simp only[pq,pd,dT];grind
theorem qJ(a b:Rat):∀ f,dT f b a=dT f a b+(b-a)*dS f a b
 | []=>by simp[dT,dS];grind
 | c::p=>by
  have h1:=qJ a b p;have h2:=qI a b p;simp only[dT,dS];grind
def Bd(x c:Rat):Prop := -c<=x/\x<=c
theorem Bd.add{x y c d:Rat}(h:Bd x c)(g:Bd y d):Bd (x+y) (c+d):=by
 unfold Bd at *
 constructor <;> grind
theorem Bd.sub{x y c d:Rat}(h:Bd x c)(g:Bd y d):Bd (x-y) (c+d):=by
 unfold Bd at *
 constructor <;> grind
theorem Bd.mul{x y c d:Rat}(h:Bd x c)(g:Bd y d):Bd (x*y) (c*d):=by
 unfold Bd at *
 have h1:=FH (show 0<=c-x by grind) (show 0<=d+y by grind);have h2:=FH (show 0<=c+x by grind) (show 0<=d-y by grind);have h3:=FH (show 0<=c-x by grind) (show 0<=d-y by grind);have h4:=FH (show 0<=c+x by grind) (show 0<=d+y by grind);constructor <;> grind
theorem Bd.pos{x c:Rat}(h:Bd x c):0<=c:=by unfold Bd at h;grind
theorem Bd.zero:Bd 0 0:=by unfold Bd;constructor <;> grind
theorem Bd.mono{x c d:Rat}(h:Bd x c)(g:c<=d):Bd x d:=by unfold Bd at *;constructor <;> grind
theorem A6w{n:Int}{A:Nat}(h:n.natAbs<=A):Bd (n:Rat) (A:Rat):=by
 have h1:((-(A:Int):Int):Rat)<=(n:Rat):=BN.2 (by omega);have h2:(n:Rat)<=((A:Int):Rat):=BN.2 (by omega);unfold Bd;constructor
 ·rwa [Any,DU] at h1
 ·rwa [DU] at h2
def zV(X:Nat):Nat->Nat
 | 0=>0
 | n+1=>1+X*zV X n
def zD(X:Nat):Nat->Nat
 | 0=>0
 | n+1=>zV X n+X*zD X n
def zE(X:Nat):Nat->Nat
 | 0=>0
 | n+1=>zD X n+X*zE X n+zD X n
def zT(X:Nat):Nat->Nat
 | 0=>0
 | n+1=>X*zT X n+zD X n
def zS(X:Nat):Nat->Nat
 | 0=>0
 | n+1=>X*zS X n+zT X n+zE X n
section
variable {A X:Nat} {a b:Rat} (ha:Bd a X) (hb:Bd b X)
include ha
theorem P4:∀ f:LI,(∀ c∈f,c.natAbs<=A)->Bd (pq f a) (A*zV X f.length)
 | [],_=>by simpa [pq,zV] using Bd.zero
 | c::p,h=>by
  have ih:=P4 p fun c hc=>h c (AT _ hc);have h1:=A6w (h c (AO ..));have:=h1.add (ha.mul ih);simp only[pq,zV,B0];refine this.mono ?_;simp;grind
theorem yZ:∀ f:LI,(∀ c∈f,c.natAbs<=A)->Bd (pd f a) (A*zD X f.length)
 | [],_=>by simpa [pd,zD] using Bd.zero
 | c::p,h=>by
  have hp:∀ c∈p,c.natAbs<=A:=fun c hc=>h c (AT _ hc);have:=(P4 ha p hp).add (ha.mul (yZ p hp));simp only[pd,zD,B0];refine this.mono ?_;simp;grind
include hb
theorem T8:∀ f:LI,(∀ c∈f,c.natAbs<=A)->Bd (dD f a b) (A*zD X f.length)
 | [],_=>by simpa [dD,zD] using Bd.zero
 | c::p,h=>by
  have hp:∀ c∈p,c.natAbs<=A:=fun c hc=>h c (AT _ hc);have:=(P4 ha p hp).add (hb.mul (T8 p hp));simp only[dD,zD,B0];refine this.mono ?_;simp;grind
theorem A0x:∀ f:LI,(∀ c∈f,c.natAbs<=A)->Bd (dE f a b) (A*zE X f.length)
 | [],_=>by simpa [dE,zE] using Bd.zero
 | c::p,h=>by
  have hp:∀ c∈p,c.natAbs<=A:=fun c hc=>h c (AT _ hc);have:=((T8 ha hb p hp).add (hb.mul (A0x p hp))).add (yZ ha p hp);simp only[dE,zE,B0];refine this.mono ?_;simp;grind
theorem zA:∀ f:LI,(∀ c∈f,c.natAbs<=A)->Bd (dT f a b) (A*zT X f.length)
 | [],_=>by simpa [dT,zT] using Bd.zero
 | c::p,h=>by
  have hp:∀ c∈p,c.natAbs<=A:=fun c hc=>h c (AT _ hc);have:=(hb.mul (zA p hp)).add (yZ ha p hp);simp only[dT,zT,B0];refine this.mono ?_;simp;grind
theorem A0y:∀ f:LI,(∀ c∈f,c.natAbs<=A)->Bd (dS f a b) (A*zS X f.length)
 | [],_=>by simpa [dS,zS] using Bd.zero
 | c::p,h=>by
  have hp:∀ c∈p,c.natAbs<=A:=fun c hc=>h c (AT _ hc);have:=((ha.mul (A0y p hp)).sub (zA ha hb p hp)).add (A0x ha hb p hp);simp only[dS,zS,B0];refine this.mono ?_;simp;grind
end
theorem far{f U W:LI}{R:Int}{A B X:Nat}{a b e u:Rat}(hR:R ≠ 0)(hid:∀ x,pq U x*pq f x+pq W x*pd f x=(R:Rat))
  (hA:∀ c∈f,c.natAbs<=A) (hB:∀ c∈W,c.natAbs<=B) (ha:Bd a X) (hb:Bd b X) (hab:a<b)
  (hfa:Bd (pq f a) e) (hfb:Bd (pq f b) e) (hUa:Bd (pq U a) u) (hUb:Bd (pq U b) u)
  (he:(b-a)*(u*e+u*e)+(B*zV X W.length+B*zV X W.length)*(e+e)<=b-a) :
  1<=(b-a)*(b-a)*((B*zD X W.length)*(A*zT X f.length)+(B*zV X W.length)*(A*zS X f.length)):=by
 have i1:=hid a;have i2:=hid b;have t1:=iW a b f;have t2:=iW b a f;have t3:=qJ a b f;have t4:=MD a b W;have hd:0<b-a:=by grind
 generalize hD:b-a=d at *
 have hba:a-b = -d:=by grind
 rw[hba] at t2;have key:2*(R:Rat)*d=d*(pq U a*pq f a+pq U b*pq f b)+(pq W a+pq W b)*(pq f b-pq f a)+d*(d*d*(dD W a b*dT f b a+pq W a*dS f a b)):=by
  have s1:d*pd f a=pq f b-pq f a-d*d*dT f a b:=by grind
  have s2:d*pd f b=pq f b-pq f a+d*d*dT f b a:=by grind
  have e1:2*(R:Rat)*d=d*(pq U a*pq f a+pq U b*pq f b)+pq W a*(d*pd f a)+pq W b*(d*pd f b):=by grind
  rw[e1,s1,s2];have e2:pq W b=pq W a+d*dD W a b:=t4;have e3:pq W b*dT f b a-pq W a*dT f a b=d*(dD W a b*dT f b a+pq W a*dS f a b):=by rw[e2,t3];grind
  grind
 have b1:=T8 ha hb W hB;have b2:=zA hb ha f hA;have b3:=P4 ha W hB;have b4:=A0y ha hb f hA;have b5:=P4 hb W hB;have bM:=(b1.mul b2).add (b3.mul b4);have bd1:Bd d d:=by unfold Bd;constructor <;> grind
 have berr:=(bd1.mul ((hUa.mul hfa).add (hUb.mul hfb))).add ((b3.add b5).mul (hfb.sub hfa));generalize hM:(B:Rat)*zD X W.length*(A*zT X f.length)+B*zV X W.length*(A*zS X f.length)=M at *
 generalize dD W a b*dT f b a+pq W a*dS f a b=m at *
 generalize d*(pq U a*pq f a+pq U b*pq f b)+(pq W a+pq W b)*(pq f b-pq f a)=err at *
 have berr2:=berr.mono he;have bdd:Bd (d*(d*d*m)) (d*(d*d*M)):=bd1.mul ((bd1.mul bd1).mul bM);apply A1;intro hn;have hlt:d*(d*d*M)<d:=by
  have h1:d*d*M<1:=by grind
  have h2:=Rat.mul_lt_mul_of_pos_left h1 hd;grind
 unfold Bd at berr2 bdd;rcases G3 R 0 with g | g | g
 ·have h1:(R:Rat)<=((-1:Int):Rat):=BN.2 (by omega);have h2:(R:Rat) <= -1:=by simpa using h1
  have h3:=Xu h2 (Ic hd);grind
 ·exact hR g
 ·have h1:((1:Int):Rat)<=(R:Rat):=BN.2 (by omega);have h2:1<=(R:Rat):=by simpa using h1
  have h3:=Xu h2 (Ic hd);grind
theorem Zu(p:LI)(x:Rat):pq p x=(p.getD 0 0:Int)+x*pq p.tail x:=by
 cases p with
 | nil=>simp[pq];grind
 | cons a p=>simp[pq]
theorem T9(p:LI)(i:Nat):p.tail.getD i 0=p.getD (i+1) 0:=by
 cases p <;> simp
theorem Acq(c d:Int)(x:Rat):∀ (n:Nat) (p q r:LI),p.length<=n->q.length<=n->r.length<=n->(∀ i,r.getD i 0=c*p.getD i 0+d*q.getD i 0)->pq r x=(c:Rat)*pq p x+(d:Rat)*pq q x
 | 0,p,q,r,hp,hq,hr,_=>by
  have e1:=A5 (show p.length=0 by omega);have e2:=A5 (show q.length=0 by omega);have e3:=A5 (show r.length=0 by omega);subst e1 e2 e3;simp[pq];grind
 | n+1,p,q,r,hp,hq,hr,h=>by
  have ih:=Acq c d x n p.tail q.tail r.tail (by rw[VM];omega) (by rw[VM];omega) (by rw[VM];omega) (fun i=>by rw[T9,T9,T9];exact h (i+1));rw[Zu p,Zu q,Zu r,ih,h 0,LQ,Dc,Dc];grind
theorem UA(c d:Int)(x:Rat){p q r:LI}(h:∀ i,r.getD i 0=c*p.getD i 0+d*q.getD i 0):pq r x=(c:Rat)*pq p x+(d:Rat)*pq q x :=
 Acq c d x (p.length+q.length+r.length) p q r (by omega) (by omega) (by omega) h
theorem A6x{p q:LI}(h:∀ i,p.getD i 0=q.getD i 0)(x:Rat):pq p x=pq q x:=by
 have:=UA 1 0 x (p:=q) (q:=q) (r:=p) (fun i=>by rw[h i];omega);rw[this];simp;grind
theorem A0z(p q:LI)(x:Rat):pq (Ec p q) x=pq p x+pq q x:=by
 have:=UA 1 1 x (p:=p) (q:=q) (r:=Ec p q) (fun i=>by rw[DS];omega);rw[this];simp
theorem Zv(q:LI)(x:Rat):∀ p,pq (Bs p q) x=pq p x*pq q x
 | []=>by simp[Bs,pq]
 | a::p=>by
  have ih:=Zv q x p;have:=UA a 1 x (p:=q) (q:=0::Bs p q) (r:=Bs (a::p) q) (fun i=>by simp only[Bs];rw[DS,m];omega);rw[this];simp only[pq,ih];simp;grind
theorem A1a{p q:LI}(h:∀ x,Aa p x=Aa q x)(x:Rat):pq p x=pq q x:=A6x (Dq h) x
theorem qK(x:Rat):∀ p,pq (At p) x=pd p x
 | []=>rfl
 | a::p=>by
  have ih:=qK x p;have:=UA 1 1 x (p:=p) (q:=0::At p) (r:=At (a::p)) (fun i=>by
   rw[Dx];cases i with
   | zero=>simp
   | succ i =>
    show p.getD (i+1) 0*_=1*p.getD (i+1) 0+1*(At p).getD i 0;rw[Dx];have:p.getD (i+1) 0*((i+1+1:Nat):Int)=p.getD (i+1) 0*((i+1:Nat):Int)+p.getD (i+1) 0:=by rw[show ((i+1+1:Nat):Int)=((i+1:Nat):Int)+1 by omega,CT,Dh]
    omega)
  rw[this];simp only[pq,pd,ih];simp;grind
theorem UB{U f W g:LI}{R:Int}(h:∀ x,Aa U x*Aa f x+Aa W x*Aa g x=R)(x:Rat):pq U x*pq f x+pq W x*pq g x=(R:Rat):=by
 have e:=A1a (p:=Ec (Bs U f) (Bs W g)) (q:=[R]) (fun x=>by rw[BY,AX,AX,h x];simp[Aa]) x;rw[A0z,Zv,Zv] at e;rw[e];simp[pq];grind
theorem R'{l:LI}{c:Int}(h:c∈l):∃ i,c=l.getD i 0:=by
 obtain⟨i,hi,rfl⟩:=ACl.1 h;exact⟨i,by rw[Z,Ad hi];rfl⟩
theorem IM(d:Nat->Int)(n i:Nat):((Aq n).map d).getD i 0=if i<n then d i else 0:=HT d n i
def zB(n A:Nat):Nat:=(2*(((n-1)+(n-1))*(n*A)))^((n-1)+(n-1)-1)
theorem A6y{f:LI}{n A:Nat}(hn:f.length=n+1)(h2:2<=n)(hp:(At f).length=n)(hG:F4 [1] f (At f))(hA:∀ i,(f.getD i 0).natAbs<=A)(hA0:0<A) :
  ∃ (U W:LI) (R:Int),R ≠ 0/\(∀ x,pq U x*pq f x+pq W x*pd f x=(R:Rat))/\W.length<=n/\∀ c∈W,c.natAbs<=2*zB n A:=by
 obtain⟨d,R,hd,⟨i0,hi0,hne⟩,hid⟩:=qH hn h2 hp hA hA0;generalize hUd:(Aq (n-1)).map d=Ud at *
 generalize hVd:((Aq (n-1)).map fun i=>d (n-1+i))=Vd at *
 have gU:∀ i,Ud.getD i 0=if i<n-1 then d i else 0:=fun i=>by rw[<- hUd];exact IM d (n-1) i
 have gV:∀ i,Vd.getD i 0=if i<n-1 then d (n-1+i) else 0:=fun i=>by rw[<- hVd];exact IM (fun i=>d (n-1+i)) (n-1) i
 have lU:Ud.length=n-1:=by rw[<- hUd];simp
 have lV:Vd.length=n-1:=by rw[<- hVd];simp
 have hB:∀ i,(d i).natAbs<=zB n A:=hd;have hid2:∀ x,Aa (As (n:Nat) Ud) x*Aa f x+Aa (Ec Vd (As (-1) (Dz 1 Ud))) x*Aa (At f) x=R:=by
  intro x;rw[A0,BY,A0,D9,<- hid x,yW,hn,Ie,A7,Dj];grind
 refine⟨As (n:Nat) Ud,Ec Vd (As (-1) (Dz 1 Ud)),R,?_,fun x => ?_,?_,?_⟩
 ·intro hR;rw[hR] at hid hid2;obtain⟨_,_,c,u,v,hc,huv⟩:=hG;have hlead:Y (At f)=At f:=by unfold At;rw[Fs]
  have hD:Dv (At f) Ud:=by
   refine⟨c*(n:Nat),Ec (Bs v (As (n:Nat) Ud)) (As (-1) (Bs u (Ec Vd (As (-1) (Dz 1 Ud))))),AS hc (by omega),fun x => ?_⟩;have h1:=huv x;have h3:=hid2 x;rw[A0] at h3;rw[BY,AX,A0,A0,AX];have e1:Aa [1] x=1:=by simp[Aa]
   rw[e1,Dh] at h1;rw[h1];generalize Aa u x=a at *
   generalize Aa v x=b at *
   generalize Aa (Ec Vd (As (-1) (Dz 1 Ud))) x=w at *
   generalize Aa Ud x=y at *
   generalize Aa f x=z at *
   generalize Aa (At f) x=t at *
   have e2:(n:Nat)*y*z = -(w*t):=by omega
   have e3:(a*z+b*t)*(n:Nat)*y=a*((n:Nat)*y*z)+b*t*((n:Nat)*y):=by grind
   rw[e3,e2];grind
  have hU0:Y Ud=[]:=by
   apply A1;intro hz;have:=(hD.length hz).1;rw[hlead,hp] at this;have:=BA Ud;omega
  have hUz:=Dn.1 hU0;have hUe:∀ x,Aa Ud x=0:=fun x=>by rw[<- DR,hU0];rfl
  have hVe:=Pn (p:=At f) (q:=Vd) (by rw[hlead];intro e;rw[e] at hp;simp at hp;omega) (fun x=>by
   have:=hid x;rw[hUe x] at this;rw[AE];omega)
  have hVz:∀ i,Vd.getD i 0=0:=fun i=>by
   have:=Dq (p:=Vd) (q:=[]) (fun x=>by rw[hVe x];rfl) i;rw[this];rfl
  by_cases hlt:i0<n-1
  ·have:=gU i0;rw[hUz i0,if_pos hlt] at this;exact hne this.symm
  ·have:=gV (i0-(n-1));rw[hVz,if_pos (by omega),show n-1+(i0-(n-1))=i0 by omega] at this;exact hne this.symm
 ·rw[<- qK];exact UB hid2 x
 ·have h1:=cH Vd (As (-1) (Dz 1 Ud));have h3:(As (-1) (Dz 1 Ud)).length=1+Ud.length:=by rw[<- HZ];simp[As]
  omega
 ·intro c hc;obtain⟨i,rfl⟩:=R' hc;rw[DS,m,Cw,gV];have b1:(if i<n-1 then d (n-1+i) else 0).natAbs<=zB n A:=by
   split
   ·exact hB _
   ·simp
  have b2:(if 1<=i then Ud.getD (i-1) 0 else 0).natAbs<=zB n A:=by
   split
   ·rw[gU];split
    ·exact hB _
    ·simp
   ·simp
  omega
end Go.Ai
