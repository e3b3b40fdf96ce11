/- Texts of the proof of SturmAdds, packed by pack.py: part 11 of 15. -/
import Derived.KernelRfl
import Derived.Test.YthnnfemologhfaaSad10
namespace Go.Ai
open Go.IntKind (i64 u64 u32)
def Dv (g t:List Int):Prop:=∃ (c:Int) (k:List Int),c ≠ 0∧∀ x,c*Zc t x=Zc g x*Zc k x
theorem Dv.refl (g:List Int):Dv g g:=⟨1,[1],by decide,fun x=>by simp [Zc]⟩
theorem Dv.zero (g:List Int):Dv g []:=⟨1,[],by decide,fun x=>by simp [Zc]⟩
theorem Dv.trans {a b c:List Int} (h1:Dv a b) (h2:Dv b c):Dv a c:=by
 obtain⟨m,k,hm,h⟩:=h1
 obtain⟨n,l,hn,g⟩:=h2
 refine⟨m*n,Xp k l,Int.mul_ne_zero hm hn,fun x => ?_⟩
 have h':=h x;have g':=g x
 rw[Z1,Int.mul_assoc,g']
 rw[← Int.mul_assoc,h']
 grind
theorem Dv.comb {g s t r:List Int} {m:Int} (u v:List Int) (hm:m ≠ 0) (h1:Dv g s) (h2:Dv g t) (h:∀ x,m*Zc r x=Zc u x*Zc s x+Zc v x*Zc t x):Dv g r:=by
 obtain⟨c,k,hc,hk⟩:=h1
 obtain⟨d,l,hd,hl⟩:=h2
 refine⟨c*d*m,G8 (Zu d (Xp u k)) (Zu c (Xp v l)),Int.mul_ne_zero (Int.mul_ne_zero hc hd) hm,fun x => ?_⟩
 rw[Qi,Zn,Zn,Z1,Z1]
 have a:=hk x;have b:=hl x;have e:=h x
 rw[Int.mul_assoc,e]
 generalize Zc s x=s at *
 generalize Zc t x=t at *
 generalize Zc g x=g at *
 generalize Zc k x=k at *
 generalize Zc l x=l at *
 generalize Zc u x=u at *
 generalize Zc v x=v at *
 have e1:c*d*(u*s+v*t)=d*u*(c*s)+c*v*(d*t):=by grind
 rw[e1,a,b];grind
theorem Dv.scaled {g s r:List Int} {m n:Int} (hm:m ≠ 0) (h1:Dv g s) (h:∀ x,m*Zc r x=n*Zc s x):Dv g r :=
 Dv.comb [n] [] hm h1 h1 fun x=>by rw[h x];simp[Zc]
theorem Dv.left {g f t:List Int} {m n:Int} (_:m ≠ 0) (hn:n ≠ 0) (h1:Dv g t) (h:∀ x,m*Zc f x=n*Zc g x):Dv f t:=by
 obtain⟨c,k,hc,hk⟩:=h1
 refine⟨n*c,Zu m k,Int.mul_ne_zero hn hc,fun x => ?_⟩
 have a:=hk x;have b:=h x
 rw[Zn]
 have e1:n*c*Zc t x=n*(c*Zc t x):=by grind
 rw[e1,a]
 have e2:n*(Zc g x*Zc k x)=(n*Zc g x)*Zc k x:=by grind
 rw[e2,← b];grind
theorem Dv.mul_right {g s:List Int} (t:List Int) (h:Dv g s) {r:List Int} (hr:∀ x,Zc r x=Zc s x*Zc t x):Dv g r :=
 Dv.comb (m:=1) t [] (by decide) h h fun x=>by rw[hr x];simp[Zc];grind
theorem X2 {p:List Int} (h:Uc p) (h0:p ≠ []):Zh p ≠ []:=by rw [h];exact h0
theorem Eh {p q:List Int} (hp:Zh p ≠ []) (hq:Zh q ≠ []):(Zh (Xp p q)).length=(Zh p).length+(Zh q).length-1:=by
 have e:Zh (Xp p q)=Zh (Xp (Zh p) (Zh q)):=Vr fun x=>by rw[Z1,Z1,W9,W9]
 rw[e]
 have lp:=Hz p
 have lq:=Hz q
 generalize Zh p=P at *
 generalize Zh q=Q at *
 have h1:=List.length_pos_iff.2 hp
 have h2:=List.length_pos_iff.2 hq
 obtain⟨t1,t2⟩:=Eg P Q hp hq
 have t3:(Xp P Q).getD (P.length+Q.length-2) 0 ≠ 0:=by rw[t1];exact Int.mul_ne_zero (U1 lp hp) (U1 lq hq)
 rw[Nl]
 have a1:¬ (Xp P Q).length≤P.length+Q.length-2:=fun h=>t3 (Qt h)
 have a2:¬ P.length+Q.length-1<(Xp P Q).length:=fun h=>by
  have hne:Xp P Q ≠ []:=by intro h0;rw[h0] at h;simp at h
  exact U1 (show Uc (Xp P Q) from Nl P Q) hne (t2 _ (by omega))
 omega
theorem Lj {p q:List Int} (hp:Zh p ≠ []) (h:∀ x,Zc p x*Zc q x=0):∀ x,Zc q x=0:=by
 intro x
 by_cases hq:Zh q=[]
 ·exact Ja hq x
 ·have h1:=Eh hp hq
  have h2:Zh (Xp p q)=Zh []:=Vr fun x=>by rw[Z1,h x];rfl
  rw[h2] at h1
  have:=List.length_pos_iff.2 hp
  have:=List.length_pos_iff.2 hq
  have h0:(Zh []).length=0:=rfl
  rw[h0] at h1
  omega
theorem Ma {p:List Int} (hp:Zh p ≠ []) (q r:List Int) (h:∀ x,Zc p x*Zc q x=Zc p x*Zc r x):∀ x,Zc q x=Zc r x:=by
 intro x
 have:=Lj (q:=Zgw q r) hp (fun x=>by rw[Ug,Int.mul_sub,h x];omega) x
 rw[Ug] at this
 omega
theorem Dv.length {g t:List Int} (h:Dv g t) (ht:Zh t ≠ []):(Zh g).length≤(Zh t).length∧Zh g ≠ []:=by
 obtain⟨c,k,hc,hk⟩:=h
 have e:Zh (Zu c t)=Zh (Xp g k):=Vr fun x=>by rw[Zn,Z1];exact hk x
 rw[W6 hc] at e
 have e2:=congrArg List.length e
 rw[Zy] at e2
 have ht1:=List.length_pos_iff.2 ht
 by_cases hg:Zh g=[]
 ·have:Zh (Xp g k)=Zh []:=Vr fun x=>by rw[Z1,Ja hg];simp[Zc]
  have h0:(Zh []).length=0:=rfl
  rw[this,h0] at e2
  omega
 ·by_cases hk0:Zh k=[]
  ·have:Zh (Xp g k)=Zh []:=Vr fun x=>by rw[Z1,Ja hk0];simp[Zc]
   have h0:(Zh []).length=0:=rfl
   rw[this,h0] at e2
   omega
  ·rw[Eh hg hk0] at e2
   have:=List.length_pos_iff.2 hk0
   exact⟨by omega,hg⟩
def IsG (g s t:List Int):Prop:=Dv g s∧Dv g t∧∃ (c:Int) (u v:List Int),c ≠ 0∧∀ x,c*Zc g x=Zc u x*Zc s x+Zc v x*Zc t x
theorem IsG.comm {g s t:List Int} (h:IsG g s t):IsG g t s:=by
 obtain⟨a,b,c,u,v,hc,h⟩:=h
 exact⟨b,a,c,v,u,hc,fun x=>by rw[h x];omega⟩
theorem IsG.dv {g s t f:List Int} (h:IsG g s t) (h1:Dv f s) (h2:Dv f t):Dv f g:=by
 obtain⟨_,_,c,u,v,hc,h⟩:=h
 exact Dv.comb u v hc h1 h2 h
theorem IsG.start (s:List Int):IsG s s []:=⟨Dv.refl s,Dv.zero s,1,[1],[],by decide,fun x=>by simp [Zc]⟩
theorem IsG.length {f g s t:List Int} (h1:IsG f s t) (h2:IsG g s t) (hf:Zh f ≠ []):(Zh f).length=(Zh g).length:=by
 have a:=(h1.dv h2.1 h2.2.1).length hf
 have b:=(h2.dv h1.1 h1.2.1).length a.2
 omega
theorem IsG.step {g r d e q:List Int} {a m:Int} (ha:a ≠ 0) (hm:m ≠ 0) (hr:∀ x,a*Zc r x=Zc q x*Zc d x+m*Zc e x) (h:IsG g d e):IsG g r d:=by
 obtain⟨h1,h2,c,u,v,hc,h⟩:=h
 refine⟨Dv.comb q [m] ha h1 h2 (fun x=>by rw[hr x];simp[Zc]),h1,c*m,Zu a v,Zgw (Zu m u) (Xp v q),Int.mul_ne_zero hc hm,fun x => ?_⟩
 have e1:=hr x;have e2:=h x
 rw[Zn,Ug,Zn,Z1]
 generalize Zc g x=g at *
 generalize Zc d x=d at *
 generalize Zc e x=e at *
 generalize Zc r x=r at *
 generalize Zc q x=q at *
 generalize Zc u x=u at *
 generalize Zc v x=v at *
 have e3:c*m*g=m*(c*g):=by grind
 rw[e3,e2]
 have e4:a*v*r=v*(a*r):=by grind
 rw[e4,e1];grind
theorem IsG.scaled {g s t s' t':List Int} {m n k l:Int} (hm:m ≠ 0) (hn:n ≠ 0) (hk:k ≠ 0) (hl:l ≠ 0) (h1:∀ x,m*Zc s' x=n*Zc s x) (h2:∀ x,k*Zc t' x=l*Zc t x) (h:IsG g s t):IsG g s' t':=by
 obtain⟨a,b,c,u,v,hc,h⟩:=h
 refine⟨a.scaled hm h1,b.scaled hk h2,c*(n*l),Zu (m*l) u,Zu (k*n) v,Int.mul_ne_zero hc (Int.mul_ne_zero hn hl),fun x => ?_⟩
 have e1:=h1 x;have e2:=h2 x;have e3:=h x
 rw[Zn,Zn]
 generalize Zc g x=g at *
 generalize Zc s x=s at *
 generalize Zc t x=t at *
 generalize Zc s' x=s' at *
 generalize Zc t' x=t' at *
 generalize Zc u x=u at *
 generalize Zc v x=v at *
 have e4:c*(n*l)*g=n*l*(c*g):=by grind
 rw[e4,e3]
 have e5:m*l*u*s'=l*u*(m*s'):=by grind
 have e6:k*n*v*t'=n*v*(k*t'):=by grind
 rw[e5,e6,e1,e2];grind
theorem IsG.gscaled {g g' s t:List Int} {m n:Int} (hm:m ≠ 0) (hn:n ≠ 0) (h1:∀ x,m*Zc g' x=n*Zc g x) (h:IsG g s t):IsG g' s t:=by
 obtain⟨a,b,c,u,v,hc,h⟩:=h
 refine⟨a.left hm hn h1,b.left hm hn h1,c*m,Zu n u,Zu n v,Int.mul_ne_zero hc hm,fun x => ?_⟩
 have e1:=h1 x;have e2:=h x
 rw[Zn,Zn,Int.mul_assoc,e1]
 have e3:c*(n*Zc g x)=n*(c*Zc g x):=by grind
 rw[e3,e2];grind
theorem IsG.mul {d p q:List Int} (c:List Int) {d' p' q':List Int} (hd:∀ x,Zc d' x=Zc c x*Zc d x) (hp:∀ x,Zc p' x=Zc c x*Zc p x) (hq:∀ x,Zc q' x=Zc c x*Zc q x) (h:IsG d p q):IsG d' p' q':=by
 obtain⟨⟨m,k,hm,hk⟩,⟨n,l,hn,hl⟩,e,u,v,he,h⟩:=h
 refine⟨⟨m,k,hm,fun x => ?_⟩,⟨n,l,hn,fun x => ?_⟩,e,u,v,he,fun x => ?_⟩
 ·have:=hk x;rw[hd,hp];grind
 ·have:=hl x;rw[hd,hq];grind
 ·have:=h x;rw[hd,hp,hq];grind
theorem Vp (p:List Int):∃ m:Int,m ≠ 0∧∀ x,Zc p x=m*Zc (prim p) x:=by
 by_cases h:Zh p=[]
 ·refine⟨1,by decide,fun x => ?_⟩
  rw[Ja h,Xu.2 (J4.1 h)];rfl
 ·have:=Kk h
  refine⟨(Q9 p:Int),by omega,fun x => ?_⟩
  rw[← Zn,Gm,W9]
theorem Sy {r d:List Int} (hl:d.length≤r.length) (ht:top d ≠ 0):∃ (a m:Int) (q:List Int),a ≠ 0∧m ≠ 0∧∀ x,a*Zc r x=Zc q x*Zc d x+m*Zc (Ur r d) x:=by
 obtain⟨m,hm,h⟩:=Vp (Kf r d ((top d).natAbs:Int) (sg (top d)*top r) r.length)
 refine⟨((top d).natAbs:Int),m,Up (r.length-d.length) [sg (top d)*top r],by omega,hm,fun x => ?_⟩
 have h1:=h x
 rw[N2 hl] at h1
 have e:Zc (Ur r d) x=Zc (prim (Kf r d ((top d).natAbs:Int) (sg (top d)*top r) r.length)) x:=rfl
 rw[e,← h1,Xz]
 simp only[Zc]
 grind
theorem Su {d:List Int} (ht:top d ≠ 0):∀ (f:Nat) (r:List Int),∃ (a m:Int) (q:List Int),a ≠ 0∧m ≠ 0∧∀ x,a*Zc r x=Zc q x*Zc d x+m*Zc (Uw f r d) x:=by
 intro f
 induction f with
 | zero=>intro r;exact⟨1,1,[],by decide,by decide,fun x=>by simp[Zc,Uw]⟩
 | succ f ih =>
  intro r
  simp only[Uw]
  split
  ·rename_i hl
   obtain⟨a,m,q,ha,hm,h⟩:=Sy hl ht
   obtain⟨b,n,s,hb,hn,g⟩:=ih (Ur r d)
   refine⟨b*a,m*n,G8 (Zu b q) (Zu m s),Int.mul_ne_zero hb ha,Int.mul_ne_zero hm hn,fun x => ?_⟩
   have h':=h x;have g':=g x
   rw[Qi,Zn,Zn,Int.mul_assoc,h']
   generalize Zc (Uw f (Ur r d) d) x=z at *
   generalize Zc (Ur r d) x=y at *
   have e:b*(Zc q x*Zc d x+m*y)=b*(Zc q x*Zc d x)+m*(b*y):=by grind
   rw[e,g'];grind
  ·exact⟨1,1,[],by decide,by decide,fun x=>by simp[Zc]⟩
theorem No:∀ (f:Nat) (x y:List Int),y.length≤f→y.length≤x.length→Uc x→Uc y→IsG (Gp f x y) x y:=by
 intro f
 induction f with
 | zero =>
  intro x y h1 _ _ _
  have:y=[]:=List.eq_nil_of_length_eq_zero (by omega)
  subst this
  exact IsG.start x
 | succ f ih =>
  intro x y h1 h2 lx ly
  simp only[Gp]
  split
  ·rename_i h;subst h;exact IsG.start x
  ·rename_i h
   have ht:top y ≠ 0:=U1 ly h
   obtain⟨r1,r2,_⟩:=P5 h (K:=Nat.max 1 (y.map Int.natAbs).sum) (fun i=>by
    have h3:(y.getD i 0).natAbs≤(y.map Int.natAbs).sum:=by
     clear ht h h1 h2 ly ih
     induction y generalizing i with
     | nil=>simp
     | cons c y ih => 
      cases i with
      | zero=>simp
      | succ i=>have:=ih i;simp at this ⊢;omega
    unfold Je
    have h4:(y.map Int.natAbs).sum≤Nat.max 1 (y.map Int.natAbs).sum:=Nat.le_max_right _ _
    exact Nat.lt_of_le_of_lt (Nat.le_trans h3 h4) (Nat.lt_pow_self (by decide))) x.length x (Nat.max 1 (x.map Int.natAbs).sum) (Nat.le_refl _) lx (fun i=>by
    have h3:(x.getD i 0).natAbs≤(x.map Int.natAbs).sum:=by
     clear ht h h1 h2 lx ih
     induction x generalizing i with
     | nil=>simp
     | cons c y ih => 
      cases i with
      | zero=>simp
      | succ i=>have:=ih i;simp at this ⊢;omega
    unfold Je
    have h4:(x.map Int.natAbs).sum≤Nat.max 1 (x.map Int.natAbs).sum:=Nat.le_max_right _ _
    exact Nat.lt_of_le_of_lt (Nat.le_trans h3 h4) (Nat.lt_pow_self (by decide)))
   obtain⟨a,m,q,ha,hm,e⟩:=Su ht x.length x
   exact IsG.step ha hm e (ih y (Qq x y) (by unfold Qq;omega) (by unfold Qq;omega) ly r1)
def Zfv (x y:List Int):List Int:=if y.length≤x.length then Gp y.length x y else Gp x.length y x
theorem Zgy {x y:List Int} (lx:Uc x) (ly:Uc y):IsG (Zfv x y) x y:=by
 unfold Zfv
 split
 ·exact No _ _ _ (Nat.le_refl _) (by assumption) lx ly
 ·exact (No _ _ _ (Nat.le_refl _) (by omega) ly lx).comm
theorem Nk (p:List Int):∃ m:Int,m ≠ 0∧∀ x,Zc (Jb p) x=m*Zc p x:=by
 unfold Jb
 split
 ·exact⟨-1,by decide,fun x=>by rw[Vq];omega⟩
 ·exact⟨1,by decide,fun x=>by omega⟩
theorem K8 (p:List Int):(Jb p).length=p.length:=by
 unfold Jb;split
 ·exact Jv p
 ·rfl
def Wf (s t:List Int):List Int:=Jb (Zfv (prim s) (prim t))
theorem Ka (s t:List Int):IsG (Wf s t) s t:=by
 have h:=Zgy (Jh s) (Jh t)
 obtain⟨m,hm,h1⟩:=Vp s
 obtain⟨n,hn,h2⟩:=Vp t
 obtain⟨k,hk,h3⟩:=Nk (Zfv (prim s) (prim t))
 have h4:=h.scaled (s':=s) (t':=t) (m:=1) (n:=m) (k:=1) (l:=n) (by decide) hm (by decide) hn (fun x=>by rw[h1 x];omega) (fun x=>by rw[h2 x];omega)
 exact h4.gscaled (m:=1) (n:=k) (by decide) hk (fun x=>by unfold Wf;rw[h3 x];omega)
theorem Wu {p:List Int} (h:Uc p):Uc (Xs p):=by
 have e:Xs p=Zu (-1) p:=by
  unfold Xs Zu
  apply List.map_congr_left
  intro x _;omega
 rw[e];exact S7 (by decide) h
theorem D5 {p:List Int} (h:Uc p):Uc (Jb p):=by
 unfold Jb;split
 ·exact Wu h
 ·exact h
theorem Ac:∀ (f:Nat) (x y:List Int),prim x=x→prim y=y→prim (Gp f x y)=Gp f x y:=by
 intro f
 induction f with
 | zero=>intro x y h _;exact h
 | succ f ih =>
  intro x y hx hy
  simp only[Gp]
  split
  ·exact hx
  ·exact ih y _ hy (W7 _ _ _ hx)
theorem Ds {x y:List Int} (hx:prim x=x) (hy:prim y=y):prim (Zfv x y)=Zfv x y:=by
 unfold Zfv;split
 ·exact Ac _ _ _ hx hy
 ·exact Ac _ _ _ hy hx
theorem N7 (p:List Int):Q9 (Xs p)=Q9 p:=by
 have e:Xs p=Zu (-1) p:=by
  unfold Xs Zu
  apply List.map_congr_left
  intro x _;omega
 rw[e,Kj];simp
theorem N6 (p:List Int):Q9 (Jb p)=Q9 p:=by
 unfold Jb;split
 ·exact N7 p
 ·rfl
theorem H0 (s t:List Int):Uc (Wf s t):=D5 (J1 (Ds (Qx s) (Qx t)))
theorem G7 {p:List Int} (h:Uc p) (hc:Q9 p=1):prim p=p:=by rw [Ef hc];exact h
theorem Dx {s t:List Int} (h:Zh s ≠ []):Wf s t ≠ []:=by
 have:=((Ka s t).1.length h).2
 intro h0;rw[h0] at this;exact this rfl
theorem Zda {s t:List Int} (h:Zh s ≠ []):Q9 (Wf s t)=1:=by
 have h1:=Dx (t:=t) h
 unfold Wf at *
 rw[N6]
 have h2:Zfv (prim s) (prim t) ≠ []:=by
  intro h0;rw[h0] at h1;exact h1 rfl
 have h3:=Ds (Qx s) (Qx t)
 rw[← h3]
 exact W0 (by rw[J1 h3];exact h2)
theorem Pu {p:List Int} (h:Uc p) (h0:p ≠ []):0<top (Jb p):=by
 have h1:=U1 h h0
 unfold Jb;split
 ·rename_i hn
  unfold top at *
  rw[Jv,Vy];omega
 ·rename_i hn
  unfold top at *;omega
theorem Pv {s t:List Int} (h:Zh s ≠ []):0<top (Wf s t):=by
 have h1:=Dx (t:=t) h
 unfold Wf at *
 refine Pu (J1 (Ds (Qx s) (Qx t))) ?_
 intro h0;rw[h0] at h1;exact h1 rfl
theorem Zmm {s t:List Int} {K:Nat} (h:Zh s ≠ []) (hl:s.length≤9) (hK:Kb K s):Kb (K+3) (Wf s t)∧(Wf s t).length≤(Zh s).length:=by
 have hg:=(Ka s t).1
 have h1:=(hg.length h).1
 have hle:=H0 s t
 rw[hle] at h1
 obtain⟨c,k,hc,hk⟩:=hg
 have:=Qz s
 exact⟨D9 hc (Zda h) h hl (by omega) hK hk,h1⟩
end Go.Ai

namespace Go.Proofs.Ythnnfemologhfaa
open Go.IntKind (i64 u64 u32)
open Go.Ai
set_option maxRecDepth 100000
def Fa (E rs:List Rn) (i:Nat):List Rn:=E.take i++rs.drop i
theorem D0 (E rs:List Rn):Fa E rs 0=rs:=by simp [Fa]
theorem D1 {E rs:List Rn} (h:E.length=rs.length):Fa E rs rs.length=E:=by
 unfold Fa;rw[List.drop_length,List.append_nil,List.take_of_length_le (by omega)]
theorem U5 {E rs:List Rn} (h:E.length=rs.length) (i:Nat):(Fa E rs i).length=rs.length:=by
 unfold Fa;rw[List.length_append,List.length_take,List.length_drop];omega
theorem F3 {E rs:List Rn} (h:E.length=rs.length) {i:Nat} (hi:i<rs.length):(Fa E rs i).getD i z0=rs.getD i z0:=by
 unfold Fa
 rw[List.getD_eq_getElem?_getD,List.getD_eq_getElem?_getD,List.getElem?_append_right (by rw[List.length_take];omega),List.length_take,List.getElem?_drop]
 congr 2;omega
theorem F2 {E rs:List Rn} (h:E.length=rs.length) {i:Nat} (hi:i<rs.length):(Fa E rs i).set i (E.getD i z0)=Fa E rs (i+1):=by
 have hpi:E[i]?=some (E.getD i z0):=by rw[List.getD_eq_getElem?_getD,List.getElem?_eq_getElem (by omega)];rfl
 apply List.ext_getElem?
 intro t
 have hl:=U5 h i
 unfold Fa at *
 rcases Nat.lt_trichotomy t i with g | g | g
 ·rw[List.getElem?_set_ne (by omega),List.getElem?_append_left (by rw[List.length_take];omega),List.getElem?_append_left (by rw[List.length_take];omega),List.getElem?_take_of_lt g,List.getElem?_take_of_lt (by omega)]
 ·subst g
  rw[List.getElem?_set_self (by omega),List.getElem?_append_left (by rw[List.length_take];omega),List.getElem?_take_of_lt (by omega),hpi]
 ·rw[List.getElem?_set_ne (by omega),List.getElem?_append_right (by rw[List.length_take];omega),List.getElem?_append_right (by rw[List.length_take];omega),List.length_take,List.length_take,List.getElem?_drop,List.getElem?_drop]
  congr 1;omega
theorem Hd (p:List Int) (i:Nat):Zt ((p.map cn).getD i z0)=p.getD i 0:=by rw [← Jg,Qu]
theorem Ve {p:List Int} {i:Nat} (h:i<p.length):(p.map cn).getD i z0=cn (p.getD i 0):=by
 rw[List.getD_eq_getElem?_getD,List.getElem?_map,List.getD_eq_getElem?_getD,List.getElem?_eq_getElem h];rfl
theorem Qo {K:Nat} {p:List Int} (h:Kb K p):∀ r∈p.map cn,Xj K r:=Ry h.mem
theorem P3 {rs:List Rn} {i:Nat} {r:Rn} (h:i<rs.length):(rs.set i r).getD i z0=r:=by
 simp[List.getD_eq_getElem?_getD,h]
theorem Gf {x y:Rn} {J K:Nat} (hx:Xj J x) (hy:Xj K y) (h:J+K≤1048576):Ze Yir 113 [Z8 x,Z8 y] (Zp (Zt x*Zt y)):=A5 hx.1 hy.1 (by have:=hx.2;have:=hy.2;omega)
theorem Zas {x y:Rn} {J K:Nat} (hx:Xj J x) (hy:Xj K y) (h:J<1048576) (h2:K<1048576):Ze Yir 114 [Z8 x,Z8 y] (Zp (Zt x-Zt y)):=Zf4 hx.1 hy.1 (by have:=hx.2;omega) (by have:=hy.2;omega)
section
variable {p d:List Int} {J Kd:Nat}
theorem Nf {a b:Int} {t:Rn} (hp:Kb J p) (hd:Kb Kd d) (ha:Je Kd a) (hb:Je J b) (hS:J+Kd+1<1048576) (hl:d.length≤p.length) (hN:p.length≤1048576) :
  Za Yir (.loop Ms) (Gc (d.map cn) p.length (p.map cn) t (cn a) (cn b) ((p.length-d.length:Nat):Int) (p.length:Nat) 0) (.exit 2)
   (Gc (d.map cn) p.length ((Kf p d a b p.length).map cn) t (cn a) (cn b) ((p.length-d.length:Nat):Int) (p.length:Nat) (p.length:Nat)):=by
 have hE:((Kf p d a b p.length).map cn).length=(p.map cn).length:=by rw[List.length_map,List.length_map,Xw]
 have hpl:(p.map cn).length=p.length:=List.length_map ..
 have h:=Za.up (prog:=Yir) (c:=Ms) (ex := .exit 2) (fin:=Gc (d.map cn) p.length ((Kf p d a b p.length).map cn) t (cn a) (cn b) ((p.length-d.length:Nat):Int) (p.length:Nat) (p.length:Nat))
  (fun i=>Gc (d.map cn) p.length (Fa ((Kf p d a b p.length).map cn) (p.map cn) i) t (cn a) (cn b) ((p.length-d.length:Nat):Int) (p.length:Nat) (i:Nat)) p.length (by intro e;cases e) ?_ ?_ 0 (Nat.zero_le _)
 ·rw[D0] at h;exact h
 ·intro i hi
  have ei:i64.wrap ((i:Int)+1)=((i+1:Nat):Int):=by rw[w64 (by omega) (by omega)];omega
  have hml:=U5 hE i
  have hget:=F3 hE (i:=i) (by omega)
  have hEi:((Kf p d a b p.length).map cn).getD i z0=cn ((Kf p d a b p.length).getD i 0):=Ve (by rw[Xw];exact hi)
  have hest:=X7 p d a b p.length i
  rw[if_pos hi] at hest
  have hset:=F2 hE (i:=i) (by omega)
  rw[hEi] at hset
  have gp:=Ql (Qo hp) i
  have ga:=Jy ha
  have gb:=Jy hb
  have vi:=Hd p i
  generalize Fa ((Kf p d a b p.length).map cn) (p.map cn) i=M at *
  by_cases hat:p.length-d.length≤i
  ·rw[if_pos hat] at hest
   have ea:i64.wrap ((i:Int)-((p.length-d.length:Nat):Int))=((i-(p.length-d.length):Nat):Int):=by rw[w64 (by omega) (by omega)];omega
   have gq:=Ql (Qo hd) (i-(p.length-d.length))
   have vq:=Hd d (i-(p.length-d.length))
   have m1:=Gf gp ga (by omega)
   have m2:=Gf gb gq (by omega)
   have f1:Je (J+Kd) (Zt ((p.map cn).getD i z0)*Zt (cn a)):=gp.fits.mul (by rw[Qe];exact ha)
   have f2:Je (J+Kd) (Zt (cn b)*Zt ((d.map cn).getD (i-(p.length-d.length)) z0)):=Je.mul (by rw[Qe];exact hb) gq.fits
   have m3:=Zas (Jy f1) (Jy f2) (by omega) (by omega)
   rw[Qe (Zt (cn b)*Zt ((d.map cn).getD (i-(p.length-d.length)) z0))] at m3
   have k:=Znt (d.map cn) p.length M t (cn a) (cn b) ((p.length-d.length:Nat):Int) (p.length:Nat) (i:Nat) (by simp;omega) (by rw[decide_eq_true_eq];omega) (by omega) (by omega) (by rw[List.length_set];omega) (by rw[ea,List.length_map];omega)
    (by rw[Int.toNat_natCast,hget];exact m1) (by rw[ea,Int.toNat_natCast];exact m2) (by
     simp only[ea,Int.toNat_natCast,hget]
     rw[P3 (by omega)]
     exact m3)
   refine k.to rfl ?_
   simp only[ea,ei,Int.toNat_natCast,hget]
   rw[P3 (by omega),List.set_set,Qe (Zt ((p.map cn).getD i z0)*Zt (cn a)),vi,vq,Qe,Qe,Int.mul_comm (p.getD i 0) a,← hest]
   rw[hset]
  ·rw[if_neg hat] at hest
   have m1:=Gf gp ga (by omega)
   have k:=Zns (d.map cn) p.length M t (cn a) (cn b) ((p.length-d.length:Nat):Int) (p.length:Nat) (i:Nat) (by simp;omega) (by rw[decide_eq_false_iff_not];omega) (by omega) (by omega) (by rw[Int.toNat_natCast,hget];exact m1)
   refine k.to rfl ?_
   simp only[ei,Int.toNat_natCast,hget]
   rw[vi,Qe,Int.mul_comm (p.getD i 0) a,← hest,hset]
 ·rw[show Fa ((Kf p d a b p.length).map cn) (p.map cn) p.length=(Kf p d a b p.length).map cn by have h:=D1 hE;rw[hpl] at h;exact h]
  exact Znr (d.map cn) p.length _ t _ _ _ _ _ (by simp)
theorem gcd_ne {a b:Int} (h:a ≠ 0):0<Int.gcd a b:=by
 rw[Int.gcd];exact Nat.gcd_pos_of_pos_left _ (by omega)
theorem Zgq (hp:Kb J p) (hd:Kb Kd d) (hS:J+Kd+1<1048576) (hd0:d ≠ []) (ht:top d ≠ 0) (hl:d.length≤p.length) (hN:p.length≤1048576) :
  Za Yir Zro (Zao (d.map cn) p.length (p.map cn) (cn (top d))) .norm (Zao (d.map cn) (Ur p d).length ((Ur p d).map cn) (cn (top d))):=by
 have hdl:=List.length_pos_iff.2 hd0
 have e1:i64.wrap ((p.length:Int)-1)=((p.length-1:Nat):Int):=by rw[w64 (by omega) (by omega)];omega
 have e2:i64.wrap ((p.length:Int)-(((d.map cn).length:Nat):Int))=((p.length-d.length:Nat):Int):=by rw[List.length_map,w64 (by omega) (by omega)];omega
 have gt:=Jy (D6 hd)
 have gl:=Ql (Qo hp) (p.length-1)
 have vl:Zt ((p.map cn).getD (p.length-1) z0)=top p:=Hd p (p.length-1)
 have hgp:=gcd_ne (a:=top d) (b:=top p) ht
 have hgcd:=Pp (na:=(cn (top d)).1) (nb:=((p.map cn).getD (p.length-1) z0).1) gt.1 gl.1 (by have:=gt.2;omega) (by have:=gl.2;omega)
 rw[show rv (cn (top d)).1 (cn (top d)).2=top d from Qe _,show rv ((p.map cn).getD (p.length-1) z0).1 ((p.map cn).getD (p.length-1) z0).2=top p from vl] at hgcd
 have hd1:((Int.gcd (top d) (top p):Nat):Int)∣top d:=Int.gcd_dvd_left ..
 have hd2:((Int.gcd (top d) (top p):Nat):Int)∣top p:=Int.gcd_dvd_right ..
 have hd3:((Int.gcd (top d) (top p):Nat):Int)∣(((top d).natAbs:Nat):Int):=Int.dvd_natAbs.2 hd1
 have hgle:Je Kd ((Int.gcd (top d) (top p):Nat):Int):=by
  have:=D6 hd
  unfold Je at *
  rw[Int.natAbs_natCast]
  have:=Nat.le_of_dvd (by omega) (Int.ofNat_dvd_left.1 hd1)
  omega
 have gg:=Jy hgle
 have habs:=A6 (neg:=(cn (top d)).1) gt.1 (by have:=gt.2;omega)
 rw[show rv (cn (top d)).1 (cn (top d)).2=top d from Qe _] at habs
 have gab:=Jy (Ep (D6 hd))
 have q1:=Ft (na:=(cn (((top d).natAbs:Nat):Int)).1) (nb:=(cn ((Int.gcd (top d) (top p):Nat):Int)).1) gab.1 gg.1 (by rw[show rv (cn ((Int.gcd (top d) (top p):Nat):Int)).1 (cn ((Int.gcd (top d) (top p):Nat):Int)).2=(Int.gcd (top d) (top p):Nat) from Qe _];omega) (by have:=gab.2;omega) (by have:=gg.2;omega)
 rw[show rv (cn ((Int.gcd (top d) (top p):Nat):Int)).1 (cn ((Int.gcd (top d) (top p):Nat):Int)).2=(Int.gcd (top d) (top p):Nat) from Qe _,show rv (cn (((top d).natAbs:Nat):Int)).1 (cn (((top d).natAbs:Nat):Int)).2=((top d).natAbs:Nat) from Qe _] at q1
 have q2:=Ft (na:=((p.map cn).getD (p.length-1) z0).1) (nb:=(cn ((Int.gcd (top d) (top p):Nat):Int)).1) gl.1 gg.1 (by rw[show rv (cn ((Int.gcd (top d) (top p):Nat):Int)).1 (cn ((Int.gcd (top d) (top p):Nat):Int)).2=(Int.gcd (top d) (top p):Nat) from Qe _];omega) (by have:=gl.2;omega) (by have:=gg.2;omega)
 rw[show rv (cn ((Int.gcd (top d) (top p):Nat):Int)).1 (cn ((Int.gcd (top d) (top p):Nat):Int)).2=(Int.gcd (top d) (top p):Nat) from Qe _,show rv ((p.map cn).getD (p.length-1) z0).1 ((p.map cn).getD (p.length-1) z0).2=top p from vl] at q2
 have hG:(0:Int)<((Int.gcd (top d) (top p):Nat):Int):=by omega
 have x1:=Int.mul_ediv_cancel' hd3
 have x2:=Int.mul_ediv_cancel' hd2
 rw[Gg hG hd3] at q1
 rw[Gg hG hd2] at q2
 have hsg:=Hj (neg:=(cn (top d)).1) gt.1 (by have:=gt.2;omega)
 rw[show rv (cn (top d)).1 (cn (top d)).2=top d from Qe _] at hsg
 -- sizes of the factors
 have fa:Je Kd ((((top d).natAbs:Nat):Int) / ((Int.gcd (top d) (top p):Nat):Int)):=by
  rcases Eo (Ep (D6 hd)) (Int.gcd (top d) (top p)) with g | g
  ·exact g
  ·exact absurd hd3 g
 have fb:Je J (top p / ((Int.gcd (top d) (top p):Nat):Int)):=by
  rcases Eo (D6 hp) (Int.gcd (top d) (top p)) with g | g
  ·exact g
  ·exact absurd hd2 g
 generalize hGd:((Int.gcd (top d) (top p):Nat):Int)=G at *
 generalize hx:(((top d).natAbs:Nat):Int) / G=x at *
 generalize hy:top p / G=y at *
 have pst:∀ b:Int,G*b=sg (top d)*top p→Ur p d=prim (Kf p d x b p.length):=by
  intro b hb
  have h:=Sx (r:=p) (d:=d) (c:=1) (g:=G) (a:=x) (b:=b) (by decide) hG x1 hb
  rwa [show Zu 1 d=d by unfold Zu;simp] at h
 have fin:∀ b:Int,G*b=sg (top d)*top p→Je J b→Ze Yir 86 [.sl p.length (pc ((Kf p d x b p.length).map cn))] (.fresh 2 ((Ur p d).map cn).length (pc ((Ur p d).map cn))):=by
  intro b hb fb'
  have hK:=Zci hp hd fa fb' p.length
  have h:=Q6 (rs:=(Kf p d x b p.length).map cn) (Qo hK) (by omega) (by rw[List.length_map,Xw];exact hN)
  rw[Qu,← pst b hb,List.length_map,Xw] at h
  rw[List.length_map]
  exact h
 by_cases hneg:top d<0
 ·have hng:=Po (neg:=(cn y).1) (xs:=(cn y).2) (Jt _) (by have:=fb.len;rw[N8];omega)
  rw[show rv (cn y).1 (cn y).2=y from Qe _] at hng
  have hb:G * -y=sg (top d)*top p:=by unfold sg;rw[if_pos hneg,Int.mul_neg,x2];omega
  have hin:=Nf (t:=cn (top d)) hp hd fa fb.neg hS hl hN
  have k:=Yk64_1 (d.map cn) p.length (p.map cn) (cn (top d)) _ _ _ _ G _ x y (-y) _ _ (Vc (top d)) _ _ _ (by rw[decide_eq_true_eq,List.length_map];omega) (by unfold Vc;rw[if_pos hneg];rfl) (by rw[e1];omega) (by rw[List.length_map]) (by rw[e1,Int.toNat_natCast];exact hgcd) habs q1 (by rw[e1,Int.toNat_natCast];exact q2) hsg hng (by rw[e2];exact hin) (fin (-y) hb fb.neg)
  rw[List.length_map] at k
  exact k
 ·have hb:G*y=sg (top d)*top p:=by unfold sg;rw[if_neg hneg,x2];omega
  have hin:=Nf (t:=cn (top d)) hp hd fa fb hS hl hN
  have k:=Yk64_2 (d.map cn) p.length (p.map cn) (cn (top d)) _ _ _ _ G _ x y _ _ (Vc (top d)) _ _ _ (by rw[decide_eq_true_eq,List.length_map];omega) (by unfold Vc;rw[if_neg hneg];split <;> rfl) (by rw[e1];omega) (by rw[List.length_map]) (by rw[e1,Int.toNat_natCast];exact hgcd) habs q1 (by rw[e1,Int.toNat_natCast];exact q2) hsg (by rw[e2];exact hin) (fin y hb fb)
  rw[List.length_map] at k
  exact k
end
theorem Zgr {d:List Int} {Kd:Nat} (hd:Kb Kd d) (hd0:d ≠ []) (ht:top d ≠ 0):∀ (f:Nat) (p:List Int) (J:Nat),p.length≤f→Kb J p→J+(p.length+1-d.length)*(Kd+1)<1048576→p.length≤1048576 →
  Za Yir (.loop Zro) (Zao (d.map cn) p.length (p.map cn) (cn (top d))) (.exit 0) (Zao (d.map cn) (Uw f p d).length ((Uw f p d).map cn) (cn (top d))):=by
 have hdl:=List.length_pos_iff.2 hd0
 intro f
 induction f with
 | zero =>
  intro p J hf _ _ _
  exact Za.loop_out (Zlz (d.map cn) p.length (p.map cn) (cn (top d)) (by rw[decide_eq_false_iff_not,List.length_map];omega)) (by intro e;cases e)
 | succ f ih =>
  intro p J hf hJ hS hN
  simp only[Uw]
  split
  ·rename_i hl
   have hplen:=Wr hd0 hl
   have e:((Ur p d).length+1-d.length)+1≤p.length+1-d.length:=by omega
   have:=Nat.mul_le_mul_right (Kd+1) e
   rw[Nat.add_mul,Nat.one_mul] at this
   have h1:=Zgq hJ hd (by
    have h2:1*(Kd+1)≤(p.length+1-d.length)*(Kd+1):=Nat.mul_le_mul_right _ (by omega)
    omega) hd0 ht hl hN
   exact Za.loop h1 (ih (Ur p d) (J+Kd+1) (by omega) (Rt hJ hd) (by omega) (by omega))
  ·rename_i hl
   exact Za.loop_out (Zlz (d.map cn) p.length (p.map cn) (cn (top d)) (by rw[decide_eq_false_iff_not,List.length_map];omega)) (by intro e;cases e)
theorem Vm {rs ss:List Rn} {J K:Nat} (hr:∀ r∈rs,Xj J r) (hs:∀ r∈ss,Xj K r) (hJ:J<1048576) (hK:K<1048576) (hn:rs.length≤1048576) (hm:ss.length≤1048576) (h0:prim (Zj ss) ≠ []) (hS:J+((prim (Zj rs)).length+1-(prim (Zj ss)).length)*(K+1)<1048576) :
  Ze Yir 64 [.sl rs.length (pc rs), .sl ss.length (pc ss)] (.fresh 2 (Qq (prim (Zj rs)) (prim (Zj ss))).length (pk (Qq (prim (Zj rs)) (prim (Zj ss))))):=by
 have p1:=Q6 hr hJ hn
 have p2:=Q6 hs hK hm
 have k1:Kb J (prim (Zj rs)):=(Nr (Xg hr)).prim
 have k2:Kb K (prim (Zj ss)):=(Nr (Xg hs)).prim
 have l1:(prim (Zj rs)).length≤rs.length:=by rw[Qp];have:=Qz (Zj rs);rwa [Z0] at this
 have l2:(prim (Zj ss)).length≤ss.length:=by rw[Qp];have:=Qz (Zj ss);rwa [Z0] at this
 have hl:=List.length_pos_iff.2 h0
 have ht:top (prim (Zj ss)) ≠ 0:=U1 (Jh _) h0
 have hlp:=Zgr k2 h0 ht (prim (Zj rs)).length (prim (Zj rs)) J (Nat.le_refl _) k1 hS (by omega)
 have e1:i64.wrap (((((prim (Zj ss)).map cn).length:Nat):Int)-1)=(((prim (Zj ss)).length-1:Nat):Int):=by rw[List.length_map,w64 (by omega) (by omega)];omega
 have p1':Ze Yir 86 [.sl rs.length (pc rs)] (.fresh 2 ((prim (Zj rs)).map cn).length (pc ((prim (Zj rs)).map cn))):=by rw[List.length_map];exact p1
 have p2':Ze Yir 86 [.sl ss.length (pc ss)] (.fresh 2 ((prim (Zj ss)).map cn).length (pc ((prim (Zj ss)).map cn))):=by rw[List.length_map];exact p2
 have k:=Yrun64 rs ss _ _ ((Qq (prim (Zj rs)) (prim (Zj ss))).map cn) (cn (top (prim (Zj ss)))) (Qq (prim (Zj rs)) (prim (Zj ss))).length p1' p2' (by rw[e1,List.length_map];omega) (by
  rw[e1,Int.toNat_natCast,Ve (show (prim (Zj ss)).length-1<(prim (Zj ss)).length by omega),List.length_map]
  exact hlp)
 exact k
theorem R2:∀ (f:Nat) (x y:List Int) (M:Nat),0<M→y.length≤f→y.length≤x.length→x.length≤1048576→prim x=x→prim y=y→Kb (M-1) x→Kb (M-1) y→M*phi x.length y.length≤500000 →
  ∃ bs,Za Yir (.loop Zrn) (Zan (x.map cn) (y.map cn)) (.exit 0) (Zan ((Gp f x y).map cn) bs):=by
 intro f
 induction f with
 | zero =>
  intro x y M _ h1 _ _ _ _ _ _ _
  have:y=[]:=List.eq_nil_of_length_eq_zero (by omega)
  subst this
  exact⟨_,Za.loop_out (Zlx _ _ (by simp)) (by intro e;cases e)⟩
 | succ f ih =>
  intro x y M hM h1 h2 h3 px py kx ky hphi
  simp only[Gp]
  split
  ·rename_i h
   subst h
   exact⟨_,Za.loop_out (Zlx _ _ (by simp)) (by intro e;cases e)⟩
  ·rename_i h
   have hyl:=List.length_pos_iff.2 h
   obtain⟨r1,r2,r3⟩:=Fx hM (J1 px) h kx ky h2
   have hM':0<M*(x.length-y.length+2):=Nat.mul_pos hM (by omega)
   have hMle:M≤M*(x.length-y.length+2):=Nat.le_mul_of_pos_right M (by omega)
   have hbig:M*(x.length-y.length+2)≤500000:=by
    refine Nat.le_trans (Nat.mul_le_mul_left _ ?_) hphi
    unfold phi
    exact Nat.le_mul_of_pos_right _ (Nat.pow_pos (by decide))
   have hrem:=Vm (rs:=x.map cn) (ss:=y.map cn) (Qo kx) (Qo ky) (by omega) (by omega) (by rw[List.length_map];exact h3) (by rw[List.length_map];omega) (by rw[Qu,py];exact h) (by
    rw[Qu,Qu,px,py,Nat.sub_add_cancel hM,show x.length+1-y.length=x.length-y.length+1 by omega,Nat.mul_comm _ M]
    have:M*(x.length-y.length+2)=M*(x.length-y.length+1)+M:=by rw[← Nat.mul_succ]
    omega)
   rw[Qu,Qu,px,py] at hrem
   have hrem':Ze Yir 64 [.sl (x.map cn).length (pc (x.map cn)), .sl (y.map cn).length (pc (y.map cn))] (.fresh 2 ((Qq x y).map cn).length (pc ((Qq x y).map cn))):=by
    have hlm:((Qq x y).map cn).length=(Qq x y).length:=List.length_map ..
    rw[hlm];exact hrem
   have k:=Zly (x.map cn) (y.map cn) _ (by simp;omega) hrem'
   obtain⟨bs,hb⟩:=ih y (Qq x y) (M*(x.length-y.length+2)) hM' (by omega) (by omega) (by omega) py (W7 _ _ _ px) (ky.mono (by omega)) r3 (Fz r2 hphi)
   exact⟨bs,Za.loop k hb⟩
def Zk6 (f:Nat) (args:List AV) (p:List Int):Prop:=Ze Yir f args (.fresh 2 (p.map cn).length (pc (p.map cn)))∨Ze Yir f args (.sl (p.map cn).length (pc (p.map cn)))
theorem Bp {p:List Int} {K:Nat} (hk:Kb K p) (hK:K≤1048576) (hN:p.length≤1048576) :
  (top p<0→Ze Yir 115 [.sl (p.map cn).length (pc (p.map cn))] (.fresh 2 ((Jb p).map cn).length (pc ((Jb p).map cn))))∧(¬ top p<0→Ze Yir 115 [.sl (p.map cn).length (pc (p.map cn))] (.sl (p.map cn).length (pc (p.map cn)))):=by
 have h:=Ey (rs:=p.map cn) (fun r hr=>(Qo hk r hr).mono hK) (by rw[List.length_map];exact hN)
 rw[Qu] at h
 refine⟨fun hn => ?_,h.2⟩
 have h1:=h.1 hn
 have e:Jb p=Xs p:=by unfold Jb;rw[if_pos hn]
 have hl:((Xs p).map cn).length=(p.map cn).length:=by rw[List.length_map,List.length_map,Jv]
 rw[e,hl]
 exact h1
theorem Rb {p:List Int} (h:¬ top p<0):Jb p=p:=by unfold Jb;rw [if_neg h]
theorem Af:∀ (f:Nat) (x y:List Int) (M:Nat),0<M→y.length≤f→y.length≤x.length→Uc x→Uc y→Kb (M-1) x→Kb (M-1) y→Kb (M*phi x.length y.length-1) (Gp f x y)∧(Gp f x y).length≤x.length:=by
 intro f
 induction f with
 | zero =>
  intro x y M hM _ h2 _ _ kx _
  refine⟨kx.mono ?_,Nat.le_refl _⟩
  have:M*1≤M*phi x.length y.length:=Nat.mul_le_mul_left _ (by unfold phi;exact Nat.mul_pos (by omega) (Nat.pow_pos (by decide)))
  omega
 | succ f ih =>
  intro x y M hM h1 h2 lx ly kx ky
  simp only[Gp]
  split
  ·refine⟨kx.mono ?_,Nat.le_refl _⟩
   have:M*1≤M*phi x.length y.length:=Nat.mul_le_mul_left _ (by unfold phi;exact Nat.mul_pos (by omega) (Nat.pow_pos (by decide)))
   omega
  ·rename_i h
   have hyl:=List.length_pos_iff.2 h
   obtain⟨r1,r2,r3⟩:=Fx hM lx h kx ky h2
   have hM':0<M*(x.length-y.length+2):=Nat.mul_pos hM (by omega)
   have hMle:M≤M*(x.length-y.length+2):=Nat.le_mul_of_pos_right M (by omega)
   obtain⟨a,b⟩:=ih y (Qq x y) (M*(x.length-y.length+2)) hM' (by omega) (by omega) ly r1 (ky.mono (by omega)) r3
   exact⟨a.mono (Nat.sub_le_sub_right (Fz r2 (Nat.le_refl _)) 1),by omega⟩
theorem Fj {rs ss:List Rn} {g:List Int} {bs:List Rn} {K:Nat} (hr:∀ r∈rs,Xj K r) (hs:∀ r∈ss,Xj K r) (hK:K<1048576) (hn:rs.length≤1048576) (hm:ss.length≤1048576) {Kg:Nat} (hg:Kb Kg g) (hKg:Kg≤1048576) (hgl:g.length≤1048576)
  (hl:Za Yir (.loop Zrn) (Zan ((prim (Zj rs)).map cn) ((prim (Zj ss)).map cn)) (.exit 0) (Zan (g.map cn) bs)) :
  Zk6 65 [.sl rs.length (pc rs), .sl ss.length (pc ss)] (Jb g):=by
 have p1:=Q6 hr hK hn
 have p2:=Q6 hs hK hm
 have p1':Ze Yir 86 [.sl rs.length (pc rs)] (.fresh 2 ((prim (Zj rs)).map cn).length (pc ((prim (Zj rs)).map cn))):=by rw[List.length_map];exact p1
 have p2':Ze Yir 86 [.sl ss.length (pc ss)] (.fresh 2 ((prim (Zj ss)).map cn).length (pc ((prim (Zj ss)).map cn))):=by rw[List.length_map];exact p2
 obtain⟨q1,q2⟩:=Bp hg hKg hgl
 by_cases h:top g<0
 ·exact .inl (Zif rs ss _ _ (g.map cn) bs _ p1' p2' hl (q1 h))
 ·rw[Rb h]
  exact .inr (Zie rs ss _ _ (g.map cn) bs p1' p2' hl (q2 h))
theorem L3 {rs ss:List Rn} {K c:Nat} (hr:∀ r∈rs,Xj K r) (hs:∀ r∈ss,Xj K r) (hn:rs.length≤c) (hm:ss.length≤c) (hc:c≤1048576) (hS:(K+1)*(2*3^c)≤500000) :
  Zk6 65 [.sl rs.length (pc rs), .sl ss.length (pc ss)] (Jb (Zfv (prim (Zj rs)) (prim (Zj ss)))):=by
 have h3:0<3^c:=Nat.pow_pos (by decide)
 have hK:K+1≤500000:=by
  have:(K+1)*1≤(K+1)*(2*3^c):=Nat.mul_le_mul_left _ (by omega)
  omega
 have k1:Kb K (prim (Zj rs)):=(Nr (Xg hr)).prim
 have k2:Kb K (prim (Zj ss)):=(Nr (Xg hs)).prim
 have l1:(prim (Zj rs)).length≤rs.length:=by rw[Qp];have:=Qz (Zj rs);rwa [Z0] at this
 have l2:(prim (Zj ss)).length≤ss.length:=by rw[Qp];have:=Qz (Zj ss);rwa [Z0] at this
 unfold Zfv
 split
 ·rename_i hl
  have hphi:(K+1)*phi (prim (Zj rs)).length (prim (Zj ss)).length≤500000:=Nat.le_trans (Nat.mul_le_mul_left _ (Ld hl (by omega))) hS
  obtain⟨bs,hb⟩:=R2 (prim (Zj ss)).length (prim (Zj rs)) (prim (Zj ss)) (K+1) (by omega) (Nat.le_refl _) hl (by omega) (Qx _) (Qx _) k1 k2 hphi
  obtain⟨s1,s2⟩:=Af (prim (Zj ss)).length (prim (Zj rs)) (prim (Zj ss)) (K+1) (by omega) (Nat.le_refl _) hl (Jh _) (Jh _) k1 k2
  exact Fj hr hs (by omega) (by omega) (by omega) s1 (by omega) (by omega) hb
 ·rename_i hl
  have hphi:(K+1)*phi (prim (Zj ss)).length (prim (Zj rs)).length≤500000:=Nat.le_trans (Nat.mul_le_mul_left _ (Ld (by omega) (by omega))) hS
  obtain⟨bs,hb⟩:=R2 (prim (Zj rs)).length (prim (Zj ss)) (prim (Zj rs)) (K+1) (by omega) (Nat.le_refl _) (by omega) (by omega) (Qx _) (Qx _) k2 k1 hphi
  obtain⟨s1,s2⟩:=Af (prim (Zj rs)).length (prim (Zj ss)) (prim (Zj rs)) (K+1) (by omega) (Nat.le_refl _) (by omega) (Jh _) (Jh _) k2 k1
  -- one step that changes their places
  have hy0:prim (Zj ss) ≠ []:=by intro h;rw[h] at hl;simp at hl
  have hsw:Qq (prim (Zj rs)) (prim (Zj ss))=prim (Zj rs):=by
   unfold Qq
   cases hx:(prim (Zj rs)).length with
   | zero=>rfl
   | succ n=>simp only[Uw];rw[if_neg hl]
  have hrem:=Vm (rs:=(prim (Zj rs)).map cn) (ss:=(prim (Zj ss)).map cn) (Qo k1) (Qo k2) (by omega) (by omega) (by rw[List.length_map];omega) (by rw[List.length_map];omega) (by rw[Qu,Qx];exact hy0) (by
   rw[Qu,Qu,Qx,Qx,show (prim (Zj rs)).length+1-(prim (Zj ss)).length=0 by omega,Nat.zero_mul];omega)
  rw[Qu,Qu,Qx,Qx,hsw] at hrem
  have hrem':Ze Yir 64 [.sl ((prim (Zj rs)).map cn).length (pc ((prim (Zj rs)).map cn)), .sl ((prim (Zj ss)).map cn).length (pc ((prim (Zj ss)).map cn))] (.fresh 2 ((prim (Zj rs)).map cn).length (pc ((prim (Zj rs)).map cn))):=by
   have hlm:((prim (Zj rs)).map cn).length=(prim (Zj rs)).length:=List.length_map ..
   rw[hlm] at hrem ⊢;exact hrem
  have k:=Zly ((prim (Zj rs)).map cn) ((prim (Zj ss)).map cn) _ (by rw[decide_eq_true_eq,List.length_map];omega) hrem'
  exact Fj hr hs (by omega) (by omega) (by omega) s1 (by omega) (by omega) (Za.loop k hb)
def TMB:Ji:=TMA
theorem Zfp:Qh Yir TMB:=Zfq
end Go.Proofs.Ythnnfemologhfaa

namespace Go.Ai
open Go.IntKind (i64 u64 u32)
theorem Rg {p q:List Int} (h:∀ x,Zc p x=Zc q x) (x:Int):Zc (Z9 p) x=Zc (Z9 q) x :=
 Us (fun i=>by rw[Xb,Xb,X1 h]) x
theorem Nn (a:Int) (p:List Int) (x:Int):Zc (Z9 (a::p)) x=Zc p x+x*Zc (Z9 p) x:=by
 have h:∀ i,(Z9 (a::p)).getD i 0=(G8 p (0::Z9 p)).getD i 0:=by
  intro i
  rw[Xf,Xb,List.getD_cons_succ]
  cases i with
  | zero=>simp
  | succ i=>rw[List.getD_cons_succ,Xb];push_cast;grind
 rw[Us h x,Qi]
 simp[Zc]
theorem Zg1 (p q:List Int) (x:Int):Zc (Z9 (G8 p q)) x=Zc (Z9 p) x+Zc (Z9 q) x:=by
 rw[← Qi]
 exact Us (fun i=>by rw[Xf,Xb,Xb,Xb,Xf,Int.add_mul]) x
theorem U4 (c:Int) (p:List Int) (x:Int):Zc (Z9 (Zu c p)) x=c*Zc (Z9 p) x:=by
 rw[← Zn]
 exact Us (fun i=>by rw[Z4,Xb,Xb,Z4,Int.mul_assoc]) x
theorem Zgz:Z9 []=[]:=rfl
theorem Rf (p q:List Int) (x:Int):Zc (Z9 (Xp p q)) x=Zc (Z9 p) x*Zc q x+Zc p x*Zc (Z9 q) x:=by
 induction p with
 | nil=>simp[Xp,Zgz,Zc]
 | cons a p ih =>
  simp only[Xp]
  rw[Zg1,U4,Nn,Nn,ih,Z1]
  simp only[Zc]
  generalize Zc (Z9 p) x=A at *
  generalize Zc (Z9 q) x=B at *
  grind
theorem Dw {r p q:List Int} (h:∀ x,Zc r x=Zc p x*Zc q x) (x:Int):Zc (Z9 r) x=Zc (Z9 p) x*Zc q x+Zc p x*Zc (Z9 q) x:=by
 rw[← Rf];exact Rg (fun x=>by rw[h x,Z1]) x
theorem Lg {p q:List Int} {c d:Int} (h:∀ x,c*Zc p x=d*Zc q x) (x:Int):c*Zc (Z9 p) x=d*Zc (Z9 q) x:=by
 rw[← U4,← U4];exact Rg (fun x=>by rw[Zn,Zn,h x]) x
theorem Zg0 (p:List Int):(Z9 p).length≤p.length-1:=by
 unfold Z9
 have:=Qz ((List.range (p.length-1)).map fun j=>p.getD (j+1) 0*((j+1:Nat):Int))
 simpa using this
theorem Zch {K:Nat} {p:List Int} (h:Kb K p) (hl:p.length≤1048576):Kb (K+2) (Z9 p):=fun i=>by
 rw[Xb]
 by_cases hi:i<1048576
 ·refine ((h (i+1)).mul (k:=1) ?_).mono (by omega)
  unfold Je;rw[Int.natAbs_natCast];omega
 ·rw[Qt (xs:=p) (by omega),Int.zero_mul];exact Vz _
def Dt (h:List Int):Nat→List Int
 | 0=>[1]
 | k+1=>Xp (Dt h k) h
theorem Ra (h:List Int):∀ (k:Nat) (x:Int),Zc (Z9 (Dt h k)) x*Zc h x=(k:Int)*Zc (Dt h k) x*Zc (Z9 h) x
 | 0,x=>by simp[Dt,Z9,Zc,Zh,Zs]
 | k+1,x=>by
  have ih:=Ra h k x
  simp only[Dt]
  rw[Rf,Z1]
  push_cast
  generalize Zc (Z9 (Dt h k)) x=A at *
  generalize Zc (Dt h k) x=B at *
  generalize Zc (Z9 h) x=C at *
  generalize Zc h x=H at *
  have:(A*H+B*C)*H=(A*H)*H+B*C*H:=by grind
  rw[this,ih];grind
theorem K7 {h:List Int} (hh:Zh h ≠ []):∀ k,Zh (Dt h k) ≠ []∧(Zh (Dt h k)).length=k*((Zh h).length-1)+1
 | 0=>by
  have e:Zh (Dt h 0)=[1]:=rfl
  rw[e];simp
 | k+1=>by
  obtain⟨a,b⟩:=K7 hh k
  have h1:=List.length_pos_iff.2 hh
  have e:=Eh a hh
  have e2:(Zh (Dt h (k+1))).length=(k+1)*((Zh h).length-1)+1:=by
   simp only[Dt]
   rw[e,b,Nat.add_mul,Nat.one_mul];omega
  refine⟨?_,e2⟩
  intro h0
  rw[h0] at e2
  simp at e2
theorem M3 {a G f h:List Int} {c:Int} (ha:Zh a ≠ []) (hG:IsG G a (Z9 a)) (hc:c ≠ 0) (hf:∀ x,c*Zc a x=Zc G x*Zc f x) (h1:Dv h f) (h2:Dv h (Z9 f)):(Zh h).length=1:=by
 obtain⟨g1,⟨c2,e,hc2,he⟩,c3,u,v,hc3,hb⟩:=hG
 have hG0:Zh G ≠ []:=(g1.length ha).2
 have hf0:Zh f ≠ []:=by
  intro h0
  have:Zh a=Zh []:=by
   apply Vr
   intro x
   have h3:=hf x
   rw[Ja h0,Int.mul_zero] at h3
   rcases Int.mul_eq_zero.1 h3 with g | g
   ·exact absurd g hc
   ·exact g
  exact ha this
 have hh0:Zh h ≠ []:=(h1.length hf0).2
 -- f and e have no common divisor
 have hC:∀ x,c*c2*c3=c2*Zc u x*Zc f x+c*Zc v x*Zc e x:=by
  have h3:=Ma hG0 [c*c2*c3] (G8 (Zu c2 (Xp u f)) (Zu c (Xp v e))) (fun x=>by
   have a1:=hf x;have a2:=he x;have a3:=hb x
   rw[Qi,Zn,Zn,Z1,Z1]
   simp only[Zc]
   generalize Zc G x=G at *
   generalize Zc f x=f at *
   generalize Zc e x=e at *
   generalize Zc u x=u at *
   generalize Zc v x=v at *
   generalize Zc (Z9 a) x=a' at *
   generalize Zc a x=a at *
   have e1:G*(c*c2*c3+x*0)=c*c2*(c3*G):=by grind
   rw[e1,a3]
   have e2:c*c2*(u*a+v*a')=c2*u*(c*a)+c*v*(c2*a'):=by grind
   rw[e2,a1,a2];grind)
  intro x
  have h4:=h3 x
  rw[Qi,Zn,Zn,Z1,Z1] at h4
  simp only[Zc,Int.mul_zero,Int.add_zero] at h4
  grind
 -- the derivative of a
 have hd:∀ x,c*(Zc G x*Zc e x)=c2*(Zc (Z9 G) x*Zc f x+Zc G x*Zc (Z9 f) x):=by
  intro x
  have a1:=Dw (r:=Zu c a) (p:=G) (q:=f) (fun x=>by rw[Zn];exact hf x) x
  rw[U4] at a1
  have a2:=he x
  rw[← a1,← a2];grind
 obtain⟨c4,t,hc4,ht⟩:=h1
 obtain⟨c5,w,hc5,hw⟩:=h2
 have hft:∀ x,c4*Zc (Z9 f) x=Zc (Z9 h) x*Zc t x+Zc h x*Zc (Z9 t) x:=by
  intro x
  have a1:=Dw (r:=Zu c4 f) (p:=h) (q:=t) (fun x=>by rw[Zn];exact ht x) x
  rw[U4] at a1
  exact a1
 -- all powers of h divide G
 have hk:∀ k,Dv (Dt h k) G:=by
  intro k
  induction k with
  | zero=>exact⟨1,G,by decide,fun x=>by simp[Dt,Zc]⟩
  | succ k ih =>
   obtain⟨ck,s,hck,hs⟩:=ih
   obtain⟨p1,_⟩:=K7 hh0 k
   -- the derivative of G
   have hGs:∀ x,ck*Zc (Z9 G) x=Zc (Z9 (Dt h k)) x*Zc s x+Zc (Dt h k) x*Zc (Z9 s) x:=by
    intro x
    have a1:=Dw (r:=Zu ck G) (p:=Dt h k) (q:=s) (fun x=>by rw[Zn];exact hs x) x
    rw[U4] at a1
    exact a1
   have hes:∀ x,c4*c5*c*(Zc e x*Zc s x)=Zc h x*(c2*((k:Int)*Zc s x*(c4*Zc w x-c5*Zc (Z9 t) x)+c5*(Zc (Z9 s) x*Zc t x)+c4*(Zc s x*Zc w x))):=by
    have h3:=Ma (p:=Xp (Dt h k) h) (by
      intro h0
      have:=Eh p1 hh0
      rw[h0] at this
      have:=List.length_pos_iff.2 p1
      have:=List.length_pos_iff.2 hh0
      simp at *
      omega) (Zu (c4*c5*c) (Xp e s)) (Xp h (Zu c2 (G8 (G8 (Xp (Zu (k:Int) s) (Zgw (Zu c4 w) (Zu c5 (Z9 t)))) (Zu c5 (Xp (Z9 s) t))) (Zu c4 (Xp s w))))) (fun x=>by
     have a1:=hd x;have a2:=ht x;have a3:=hw x;have a4:=hft x;have a5:=hs x;have a6:=hGs x;have a7:=Ra h k x
     simp only[Z1,Zn,Qi,Ug]
     generalize Zc (Z9 (Dt h k)) x=P' at *
     generalize Zc (Z9 G) x=G' at *
     generalize Zc (Z9 f) x=f' at *
     generalize Zc (Z9 h) x=h' at *
     generalize Zc (Z9 t) x=t' at *
     generalize Zc (Z9 s) x=s' at *
     generalize Zc (Dt h k) x=P at *
     generalize Zc G x=G at *
     generalize Zc f x=f at *
     generalize Zc e x=e at *
     generalize Zc h x=h at *
     generalize Zc t x=t at *
     generalize Zc w x=w at *
     generalize Zc s x=s at *
     have b1:P*h*(c4*c5*c*(e*s))=c4*c5*h*(c*((P*s)*e)):=by grind
     rw[b1,← a5]
     have b2:c4*c5*h*(c*(ck*G*e))=c4*c5*h*ck*(c*(G*e)):=by grind
     rw[b2,a1]
     have b3:c4*c5*h*ck*(c2*(G'*f+G*f'))=c5*c2*((ck*G')*h*(c4*f)+(ck*G)*h*(c4*f')):=by grind
     rw[b3,a6,a5,a2]
     have b4:(P'*s+P*s')*h*(h*t)=(P'*h)*s*h*t+P*s'*h*h*t:=by grind
     rw[b4,a7]
     have b5:(k:Int)*P*h'*s*h*t=(k:Int)*P*s*h*(h'*t):=by grind
     have b6:h'*t=c4*f'-h*t':=by omega
     rw[b5,b6]
     have b7:c5*c2*((k:Int)*P*s*h*(c4*f'-h*t')+P*s'*h*h*t+P*s*h*(c4*f'))=c2*((k:Int)*P*s*h*(c4*(c5*f')-c5*(h*t'))+c5*(P*s'*h*h*t)+P*s*h*(c4*(c5*f'))):=by grind
     rw[b7,a3];grind)
    intro x
    have h4:=h3 x
    simp only[Z1,Zn,Qi,Ug] at h4
    exact h4
   have d1:Dv h (Xp e s):=⟨c4*c5*c,Zu c2 (G8 (G8 (Xp (Zu (k:Int) s) (Zgw (Zu c4 w) (Zu c5 (Z9 t)))) (Zu c5 (Xp (Z9 s) t))) (Zu c4 (Xp s w))),Int.mul_ne_zero (Int.mul_ne_zero hc4 hc5) hc,fun x=>by
    simp only[Z1,Zn,Qi,Ug]
    exact hes x⟩
   have d2:Dv h (Xp f s):=Dv.mul_right s ⟨c4,t,hc4,ht⟩ (fun x=>Z1 _ _ x)
   have d3:Dv h s:=Dv.comb (m:=c*c2*c3) (Zu c2 u) (Zu c v) (Int.mul_ne_zero (Int.mul_ne_zero hc hc2) hc3) d2 d1 (fun x=>by
    rw[hC x]
    simp only[Z1,Zn]
    grind)
   obtain⟨c6,s2,hc6,hs2⟩:=d3
   refine⟨c6*ck,s2,Int.mul_ne_zero hc6 hck,fun x => ?_⟩
   have a1:=hs x;have a2:=hs2 x
   simp only[Dt]
   rw[Z1,Int.mul_assoc,a1]
   have b1:c6*(Zc (Dt h k) x*Zc s x)=Zc (Dt h k) x*(c6*Zc s x):=by grind
   rw[b1,a2];grind
 have hh1:=List.length_pos_iff.2 hh0
 apply Classical.byContradiction
 intro hn
 have h3:=((hk (Zh G).length).length hG0).1
 rw[(K7 hh0 _).2] at h3
 have:(Zh G).length*1≤(Zh G).length*((Zh h).length-1):=Nat.mul_le_mul_left _ (by omega)
 omega
def Z7 (p:List Int):List Int :=
 if (Jb (prim p)).length<2∨(Wf (Jb (prim p)) (Z9 (Jb (prim p)))).length<2 then Jb (prim p)
 else prim (Bw (Wf (Jb (prim p)) (Z9 (Jb (prim p)))) ((Jb (prim p)).length-(Wf (Jb (prim p)) (Z9 (Jb (prim p)))).length+1) (Jb (prim p)) (List.replicate ((Jb (prim p)).length-(Wf (Jb (prim p)) (Z9 (Jb (prim p)))).length+1) 0))
theorem Zbx {g:List Int} (h:g.length=1):∃ c,g=[c]:=by
 match g,h with
 | [c],_=>exact⟨c,rfl⟩
theorem S4 {a:List Int} (la:Uc a) (h0:a ≠ []) (ca:Q9 a=1) (ta:0<top a) (f:List Int)
  (hf:f=if a.length<2∨(Wf a (Z9 a)).length<2 then a else prim (Bw (Wf a (Z9 a)) (a.length-(Wf a (Z9 a)).length+1) a (List.replicate (a.length-(Wf a (Z9 a)).length+1) 0))) :
  Uc f∧Q9 f=1∧0<top f∧f ≠ []∧f.length=a.length-(Wf a (Z9 a)).length+1∧∃ c d:Int,c ≠ 0∧d ≠ 0∧∀ x,c*Zc a x=d*(Zc (Wf a (Z9 a)) x*Zc f x):=by
 have hta:Zh a ≠ []:=X2 la h0
 have hG:=Ka a (Z9 a)
 have lG:=H0 a (Z9 a)
 have nG:=Dx (t:=Z9 a) hta
 have tG:=Pv (t:=Z9 a) hta
 have hGl:=(hG.1.length hta).1
 rw[lG,la] at hGl
 have hal:=List.length_pos_iff.2 h0
 have hgl:=List.length_pos_iff.2 nG
 generalize Wf a (Z9 a)=G at *
 by_cases hs:a.length<2∨G.length<2
 ·rw[if_pos hs] at hf
  subst hf
  have hG1:G.length=1:=by omega
  obtain⟨c,rfl⟩:=Zbx hG1
  refine⟨la,ca,ta,h0,by omega,c,1,?_,by decide,fun x=>by simp[Zc]⟩
  have:top [c]=c:=rfl
  omega
 ·rw[if_neg hs] at hf
  obtain⟨c',r',c1,r1,r2,r3⟩:=Th (p:=a) (q:=G) nG tG hGl
  generalize Bw G (a.length-G.length+1) a (List.replicate (a.length-G.length+1) 0)=o at *
  have to:=Zgv c1 ta nG tG hGl r2 r3 r1
  have hr0:Zh r'=[]:=by
   apply Classical.byContradiction
   intro hn
   have hd:Dv G r':=Dv.comb (m:=1) [c'] (Xs o) (by decide) hG.1 (Dv.refl G) (fun x=>by
    have:=r3 x
    rw[Vq];simp only[Zc];grind)
   have h1:=(hd.length hn).1
   rw[lG] at h1
   have hl1:=List.length_pos_iff.2 hn
   have h2:=U1 (Hz r') hn
   rw[Jc,r1 _ (by omega)] at h2
   exact h2 rfl
  have ho0:o ≠ []:=by intro h1;rw[h1] at r2;simp at r2
  have lo:Uc o:=Lk (Or.inr (by unfold top at to;omega))
  obtain⟨m,hm,hpe⟩:=Vp o
  subst hf
  refine⟨Jh o,W0 (X2 lo ho0),E8 to,?_,by rw[Qp,lo,r2],c',m,by omega,hm,fun x => ?_⟩
  ·intro h1;rw[Xu,← J4,lo] at h1;exact ho0 h1
  ·rw[r3 x,Ja hr0,hpe x];grind
theorem Zbk {p:List Int} (hp:Zh p ≠ []):Uc (Jb (prim p))∧Jb (prim p) ≠ []∧Q9 (Jb (prim p))=1∧0<top (Jb (prim p))∧(Jb (prim p)).length=(Zh p).length∧∃ m:Int,m ≠ 0∧∃ n:Int,n ≠ 0∧∀ x,n*Zc p x=m*Zc (Jb (prim p)) x:=by
 have h1:prim p ≠ []:=by intro h;rw[Xu,← J4] at h;exact hp h
 obtain⟨m,hm,h2⟩:=Vp p
 obtain⟨n,hn,h3⟩:=Nk (prim p)
 refine⟨D5 (Jh p),?_,by rw[N6];exact W0 hp,Pu (Jh p) h1,by rw[K8,Qp],m,hm,n,hn,fun x=>by rw[h2 x,h3 x];grind⟩
 intro h
 have:=congrArg List.length h
 rw[K8] at this
 exact h1 (List.eq_nil_of_length_eq_zero this)
theorem Ht {p:List Int} (hp:Zh p ≠ []):Uc (Z7 p)∧Q9 (Z7 p)=1∧0<top (Z7 p)∧Z7 p ≠ []∧Dv (Z7 p) p ∧
  (Z7 p).length+(Wf (Jb (prim p)) (Z9 (Jb (prim p)))).length=(Zh p).length+1∧IsG (Wf (Jb (prim p)) (Z9 (Jb (prim p)))) p (Z9 p)∧(Wf (Z7 p) (Z9 (Z7 p))).length=1:=by
 obtain⟨la,h0,ca,ta,hl,m,hm,n,hn,hpe⟩:=Zbk hp
 obtain⟨lf,cf,tf,f0,fl,c,d,hc,hd,hcd⟩:=S4 la h0 ca ta (Z7 p) rfl
 have hta:Zh (Jb (prim p)) ≠ []:=X2 la h0
 have hG:=Ka (Jb (prim p)) (Z9 (Jb (prim p)))
 have lG:=H0 (Jb (prim p)) (Z9 (Jb (prim p)))
 have nG:=Dx (t:=Z9 (Jb (prim p))) hta
 have hGl:=(hG.1.length hta).1
 rw[lG,la] at hGl
 have hder:∀ x,n*Zc (Z9 p) x=m*Zc (Z9 (Jb (prim p))) x:=Lg hpe
 generalize Jb (prim p)=a at *
 generalize Wf a (Z9 a)=G at *
 generalize Z7 p=f at *
 have hal:=List.length_pos_iff.2 h0
 have hgl:=List.length_pos_iff.2 nG
 refine⟨lf,cf,tf,f0,?_,by omega,?_,?_⟩
 ·have h1:Dv f a:=⟨c,Zu d G,hc,fun x=>by rw[hcd x,Zn];grind⟩
  exact h1.scaled hn hpe
 ·exact hG.scaled hn hm hn hm hpe hder
 ·have hK:=Ka f (Z9 f)
  have nK:=Dx (t:=Z9 f) (X2 lf f0)
  have lK:=H0 f (Z9 f)
  have h1:=M3 (h:=Wf f (Z9 f)) (f:=Zu d f) (c:=c) hta hG hc (fun x=>by rw[hcd x,Zn];grind)
   (hK.1.scaled (m:=1) (n:=d) (by decide) (fun x=>by rw[Zn];omega)) (hK.2.1.scaled (m:=1) (n:=d) (by decide) (fun x=>by rw[U4];omega))
  rwa [lK] at h1
theorem Rv {p:List Int} {K:Nat} (hp:Zh p ≠ []) (hl:p.length≤9) (hK:Kb K p):Kb (K+3) (Z7 p)∧(Z7 p).length≤(Zh p).length:=by
 obtain⟨lf,cf,tf,f0,hd,_,_,_⟩:=Ht hp
 have h1:=(hd.length hp).1
 rw[lf] at h1
 obtain⟨c,k,hc,hk⟩:=hd
 have:=Qz p
 exact⟨D9 hc cf hp hl (by omega) hK hk,h1⟩
end Go.Ai

namespace Go.Proofs.Ythnnfemologhfaa
open Go.IntKind (i64 u64 u32)
open Go.Ai
set_option maxRecDepth 100000
theorem Zb2 {E rs:List Rn} {m:Nat} (hl:E.length=rs.length) (h:∀ x,x<m→E.getD x z0=rs.getD x z0):Fa E rs m=rs:=by
 apply List.ext_getElem?
 intro t
 unfold Fa
 by_cases ht:t<m
 ·by_cases hm:t<E.length
  ·have:=h t ht
   rw[List.getD_eq_getElem?_getD,List.getD_eq_getElem?_getD,List.getElem?_eq_getElem hm,List.getElem?_eq_getElem (by omega)] at this
   rw[List.getElem?_append_left (by rw[List.length_take];omega),List.getElem?_take_of_lt ht,List.getElem?_eq_getElem hm,List.getElem?_eq_getElem (by omega)]
   simpa using this
  ·rw[List.getElem?_eq_none (by rw[List.length_append,List.length_take,List.length_drop];omega),List.getElem?_eq_none (by omega)]
 ·by_cases hm:m≤E.length
  ·rw[List.getElem?_append_right (by rw[List.length_take];omega),List.length_take,List.getElem?_drop]
   congr 1;omega
  ·rw[List.getElem?_eq_none (by rw[List.length_append,List.length_take,List.length_drop];omega),List.getElem?_eq_none (by omega)]
theorem Zb3 {E rs:List Rn} {m:Nat} (hl:E.length=rs.length) (hm:m≤rs.length) (h:∀ x,m≤x→E.getD x z0=rs.getD x z0):Fa E rs m=E:=by
 apply List.ext_getElem?
 intro t
 unfold Fa
 by_cases ht:t<m
 ·rw[List.getElem?_append_left (by rw[List.length_take];omega),List.getElem?_take_of_lt ht]
 ·rw[List.getElem?_append_right (by rw[List.length_take];omega),List.length_take,List.getElem?_drop,show m+(t-min m E.length)=t by omega]
  by_cases hm:t<E.length
  ·have:=h t (by omega)
   rw[List.getD_eq_getElem?_getD,List.getD_eq_getElem?_getD,List.getElem?_eq_getElem hm,List.getElem?_eq_getElem (by omega)] at this
   rw[List.getElem?_eq_getElem hm,List.getElem?_eq_getElem (by omega)]
   simpa using this.symm
  ·rw[List.getElem?_eq_none (by omega),List.getElem?_eq_none (by omega)]
section
variable {p q:List Int} {J Kq:Nat}
theorem Ru {c:Int} (hp:Kb J p) (hc:Je Kq c):Kb (J+Kq) (Zu c p):=fun i=>by
 rw[Z4,Nat.add_comm];exact hc.mul (hp i)
theorem div_a {t:Int} {l:Rn} {qs os:List Rn} {kq:Nat} {j:Int} (hp:Kb J p) (ht:Je Kq t) (hS:J+Kq<1048576) (hN:p.length≤1048576) :
  Za Yir (.loop A4) (K3 qs p.length (p.map cn) (cn t) kq os j l (p.length:Nat) 0) (.exit 2) (K3 qs p.length ((Zu t p).map cn) (cn t) kq os j l (p.length:Nat) (p.length:Nat)):=by
 have hE:((Zu t p).map cn).length=(p.map cn).length:=by rw[List.length_map,List.length_map,Zy]
 have hpl:(p.map cn).length=p.length:=List.length_map ..
 have h:=Za.up (prog:=Yir) (c:=A4) (ex := .exit 2) (fin:=K3 qs p.length ((Zu t p).map cn) (cn t) kq os j l (p.length:Nat) (p.length:Nat))
  (fun i=>K3 qs p.length (Fa ((Zu t p).map cn) (p.map cn) i) (cn t) kq os j l (p.length:Nat) (i:Nat)) p.length (by intro e;cases e) ?_ ?_ 0 (Nat.zero_le _)
 ·rw[D0] at h;exact h
 ·intro i hi
  have ei:i64.wrap ((i:Int)+1)=((i+1:Nat):Int):=by rw[w64 (by omega) (by omega)];omega
  have hml:=U5 hE i
  have hget:=F3 hE (i:=i) (by omega)
  have hEi:((Zu t p).map cn).getD i z0=cn ((Zu t p).getD i 0):=Ve (by rw[Zy];exact hi)
  have hset:=F2 hE (i:=i) (by omega)
  rw[hEi,Z4] at hset
  have gp:=Ql (Qo hp) i
  have gt:=Jy ht
  have vi:=Hd p i
  have m1:=Gf gp gt (by omega)
  generalize Fa ((Zu t p).map cn) (p.map cn) i=M at *
  have k:=Zjm qs p.length M (cn t) kq os j l (p.length:Nat) (i:Nat) (by simp;omega) (by omega) (by omega) (by rw[Int.toNat_natCast,hget];exact m1)
  refine k.to rfl ?_
  simp only[ei,Int.toNat_natCast,hget]
  rw[vi,Qe,Int.mul_comm,hset]
 ·rw[show Fa ((Zu t p).map cn) (p.map cn) p.length=(Zu t p).map cn by have h:=D1 hE;rw[hpl] at h;exact h]
  exact Zjl _ _ _ _ _ _ _ _ _ _ (by simp)
theorem div_b {t:Int} {l:Rn} {qs rs:List Rn} {k:Nat} {j:Int} (hp:Kb J p) (ht:Je Kq t) (hS:J+Kq<1048576) (hN:p.length≤1048576) :
  Za Yir (.loop A3) (K2 qs k rs (cn t) p.length (p.map cn) j l (p.length:Nat) 0) (.exit 4) (K2 qs k rs (cn t) p.length ((Zu t p).map cn) j l (p.length:Nat) (p.length:Nat)):=by
 have hE:((Zu t p).map cn).length=(p.map cn).length:=by rw[List.length_map,List.length_map,Zy]
 have hpl:(p.map cn).length=p.length:=List.length_map ..
 have h:=Za.up (prog:=Yir) (c:=A3) (ex := .exit 4) (fin:=K2 qs k rs (cn t) p.length ((Zu t p).map cn) j l (p.length:Nat) (p.length:Nat))
  (fun i=>K2 qs k rs (cn t) p.length (Fa ((Zu t p).map cn) (p.map cn) i) j l (p.length:Nat) (i:Nat)) p.length (by intro e;cases e) ?_ ?_ 0 (Nat.zero_le _)
 ·rw[D0] at h;exact h
 ·intro i hi
  have ei:i64.wrap ((i:Int)+1)=((i+1:Nat):Int):=by rw[w64 (by omega) (by omega)];omega
  have hml:=U5 hE i
  have hget:=F3 hE (i:=i) (by omega)
  have hEi:((Zu t p).map cn).getD i z0=cn ((Zu t p).getD i 0):=Ve (by rw[Zy];exact hi)
  have hset:=F2 hE (i:=i) (by omega)
  rw[hEi,Z4] at hset
  have gp:=Ql (Qo hp) i
  have gt:=Jy ht
  have vi:=Hd p i
  have m1:=Gf gp gt (by omega)
  generalize Fa ((Zu t p).map cn) (p.map cn) i=M at *
  have k:=Zjk qs k rs (cn t) p.length M j l (p.length:Nat) (i:Nat) (by simp;omega) (by omega) (by omega) (by rw[Int.toNat_natCast,hget];exact m1)
  refine k.to rfl ?_
  simp only[ei,Int.toNat_natCast,hget]
  rw[vi,Qe,Int.mul_comm,hset]
 ·rw[show Fa ((Zu t p).map cn) (p.map cn) p.length=(Zu t p).map cn by have h:=D1 hE;rw[hpl] at h;exact h]
  exact Zjj _ _ _ _ _ _ _ _ _ _ (by simp)
theorem div_c {t:Rn} {l:Int} {os:List Rn} {kq j Jp:Nat} (hp:Kb Jp p) (hq:Kb Kq q) (hl:Je J l) (hS:J+Kq<1048576) (hJp:Jp<1048576) (hN:p.length≤1048576) (hj:j+q.length≤p.length) :
  Za Yir (.loop A2) (K1 (q.map cn) p.length (p.map cn) t kq os (j:Nat) (cn l) (q.length:Nat) 0) (.exit 6) (K1 (q.map cn) p.length ((Wo p q l j).map cn) t kq os (j:Nat) (cn l) (q.length:Nat) (q.length:Nat)):=by
 have hE:((Wo p q l j).map cn).length=(p.map cn).length:=by rw[List.length_map,List.length_map,Xy]
 have hpl:(p.map cn).length=p.length:=List.length_map ..
 have gE:∀ x,x<p.length→((Wo p q l j).map cn).getD x z0=cn (p.getD x 0-l*(Up j q).getD x 0):=fun x hx=>by
  rw[Ve (by rw[Xy];exact hx),Ke _ _ _ _ _ hj]
 have eout:∀ x,(x<j∨j+q.length≤x)→((Wo p q l j).map cn).getD x z0=(p.map cn).getD x z0:=by
  intro x hx
  by_cases h:x<p.length
  ·rw[gE x h,Ve h,Qs]
   rcases hx with hx | hx
   ·rw[if_neg (by omega),Int.mul_zero,Int.sub_zero]
   ·rw[if_pos (by omega),Qt (xs:=q) (show q.length≤x-j by omega),Int.mul_zero,Int.sub_zero]
  ·rw[List.getD_eq_getElem?_getD,List.getD_eq_getElem?_getD,List.getElem?_eq_none (by omega),List.getElem?_eq_none (by omega)]
 have h:=Za.up (prog:=Yir) (c:=A2) (ex := .exit 6) (fin:=K1 (q.map cn) p.length ((Wo p q l j).map cn) t kq os (j:Nat) (cn l) (q.length:Nat) (q.length:Nat))
  (fun i=>K1 (q.map cn) p.length (Fa ((Wo p q l j).map cn) (p.map cn) (j+i)) t kq os (j:Nat) (cn l) (q.length:Nat) (i:Nat)) q.length (by intro e;cases e) ?_ ?_ 0 (Nat.zero_le _)
 ·rw[Nat.add_zero,Zb2 hE (fun x hx=>eout x (.inl hx))] at h;exact h
 ·intro i hi
  have ei:i64.wrap ((i:Int)+1)=((i+1:Nat):Int):=by rw[w64 (by omega) (by omega)];omega
  have eji:i64.wrap ((j:Int)+(i:Int))=((j+i:Nat):Int):=by rw[w64 (by omega) (by omega)];omega
  have hml:=U5 hE (j+i)
  have hget:=F3 hE (i:=j+i) (by omega)
  have hEi:=gE (j+i) (by omega)
  rw[Qs,if_pos (by omega),show j+i-j=i by omega] at hEi
  have hset:=F2 hE (i:=j+i) (by omega)
  rw[hEi] at hset
  have gp:=Ql (Qo hp) (j+i)
  have gq:=Ql (Qo hq) i
  have gl:=Jy hl
  have vi:=Hd p (j+i)
  have vq:=Hd q i
  have m1:=Gf gl gq (by omega)
  have f1:Je (J+Kq) (Zt (cn l)*Zt ((q.map cn).getD i z0)):=Je.mul (by rw[Qe];exact hl) gq.fits
  have m2:=Zas gp (Jy f1) (by omega) (by omega)
  rw[Qe (Zt (cn l)*Zt ((q.map cn).getD i z0))] at m2
  generalize Fa ((Wo p q l j).map cn) (p.map cn) (j+i)=M at *
  have k:=Zji (q.map cn) p.length M t kq os (j:Nat) (cn l) (q.length:Nat) (i:Nat) (by simp;omega) (by rw[eji];omega) (by omega) (by rw[List.length_map];omega) (by rw[Int.toNat_natCast];exact m1) (by rw[eji,Int.toNat_natCast,Int.toNat_natCast,hget];exact m2)
  refine k.to rfl ?_
  simp only[ei,eji,Int.toNat_natCast,hget]
  rw[vi,vq,Qe,hset,Nat.add_assoc]
 ·rw[Zb3 hE (by omega) (fun x hx=>eout x (.inr hx))]
  exact Zjh _ _ _ _ _ _ _ _ _ _ (by simp)
theorem Zhc {l:Int} (hp:Kb (J+Kq) p) (hq:Kb Kq q) (hl:Je J l) (k:Nat) (hk:k+q.length≤p.length):Kb (J+Kq+1) (Wo p q l k):=fun i=>by
 rw[Ke _ _ _ _ _ hk,Qs]
 split
 ·exact (hp i).add (hl.mul (hq _)).neg
 ·rw[Int.mul_zero,Int.sub_zero];exact (hp i).mono (by omega)
theorem kb_set {l:Int} (hp:Kb J p) (hl:Je J l) (k:Nat):Kb J (p.set k l):=fun i=>by
 by_cases h:i=k
 ·subst h
  by_cases hi:i<p.length
  ·rw[List.getD_eq_getElem?_getD,List.getElem?_set_self hi];exact hl
  ·rw[Qt (by rw[List.length_set];omega)];exact Vz _
 ·rw[Qf (by omega)];exact hp i
end
theorem Zhs {q:List Int} {Kq:Nat} (hq:Kb Kq q) (hq0:q ≠ []):∀ (k:Nat) (r out:List Int) (J:Nat),Kb J r→Kb J out→J+k*(Kq+1)<1048576→k≤out.length→out.length+q.length=r.length+1→r.length≤1048576 →
  (∃ r',Za Yir (.loop Zff) (L7 (q.map cn) r.length (r.map cn) (cn (top q)) out.length (out.map cn) ((k:Int)-1)) (.exit 0) (L7 (q.map cn) r.length r' (cn (top q)) out.length ((Bw q k r out).map cn) (-1)))∧Kb (J+k*(Kq+1)) (Bw q k r out)∧(Bw q k r out).length=out.length:=by
 have hql:=List.length_pos_iff.2 hq0
 intro k
 induction k with
 | zero =>
  intro r out J _ ho _ _ _ _
  exact⟨⟨_,Za.loop_out (Zo6 _ _ _ _ _ _ _ (by simp)) (by intro e;cases e)⟩,ho.mono (by omega),rfl⟩
 | succ k ih =>
  intro r out J hr ho hS hk hl hN
  simp only[Bw]
  have hS':J+Kq+1+k*(Kq+1)<1048576:=by rw[Nat.add_mul,Nat.one_mul] at hS;omega
  have el:Je J (r.getD (k+q.length-1) 0):=hr _
  have e1:((k+1:Nat):Int)-1=(k:Int):=by omega
  have e2:i64.wrap (i64.wrap ((k:Int)+(((q.map cn).length:Nat):Int))-1)=((k+q.length-1:Nat):Int):=by
   rw[List.length_map,w64 (n:=(k:Int)+(q.length:Nat)) (by omega) (by omega),w64 (by omega) (by omega)];omega
  have e3:(r.map cn).getD (k+q.length-1) z0=cn (r.getD (k+q.length-1) 0):=Ve (by omega)
  have e4:i64.wrap ((k:Int)-1)=(k:Int)-1:=w64 (by omega) (by omega)
  have ft:Je Kq (top q):=hq _
  generalize hlead:r.getD (k+q.length-1) 0=l at *
  have hps:=Ru hr ft
  have hpo:=Ru ho ft
  have la:=div_a (l:=cn l) (qs:=q.map cn) (os:=out.map cn) (kq:=out.length) (j:=(k:Nat)) hr ft (by omega) hN
  have lb:=div_b (l:=cn l) (qs:=q.map cn) (rs:=(Zu (top q) r).map cn) (k:=r.length) (j:=(k:Nat)) ho ft (by omega) (by omega)
  have hlc:=div_c (t:=cn (top q)) (l:=l) (os:=((Zu (top q) out).set k l).map cn) (kq:=out.length) (j:=k) (p:=Zu (top q) r) (J:=J) hps hq el (by omega) (by omega) (by rw[Zy];exact hN) (by rw[Zy];omega)
  rw[Zy] at hlc
  obtain⟨⟨r',hr'⟩,kb,len⟩:=ih (Wo (Zu (top q) r) q l k) ((Zu (top q) out).set k l) (J+Kq+1) (Zhc hps hq el k (by rw[Zy];omega)) (kb_set (hpo.mono (by omega)) (el.mono (by omega)) k) hS' (by rw[List.length_set,Zy];omega) (by rw[List.length_set,Zy,Xy,Zy];exact hl) (by rw[Xy,Zy];exact hN)
  rw[List.length_set,Zy,Xy,Zy] at hr'
  refine⟨⟨r',?_⟩,kb.mono (by rw[Nat.add_mul,Nat.one_mul];omega),by rw[len,List.length_set,Zy]⟩
  have hset:((Zu (top q) out).map cn).set k (cn l)=((Zu (top q) out).set k l).map cn:=by rw[List.map_set]
  have k1:=Zo7 (q.map cn) r.length (r.map cn) (cn (top q)) out.length (out.map cn) (k:Nat) ((Zu (top q) r).map cn) ((Wo (Zu (top q) r) q l k).map cn) ((Zu (top q) out).map cn) _ _ _ _ _ _ (by simp) (by rw[e2];omega) (List.length_map ..)
   (by rw[e2,Int.toNat_natCast,e3];exact la) (by rw[e2,Int.toNat_natCast,e3];exact lb) (by omega) (by rw[List.length_map,Zy]) (by rw[e2,Int.toNat_natCast,Int.toNat_natCast,e3,hset,List.length_map];exact hlc)
  rw[e2,Int.toNat_natCast,Int.toNat_natCast,e3,hset,e4] at k1
  rw[e1]
  exact Za.loop k1 hr'
theorem z0_cn:cn 0=z0:=rfl
theorem Me {p q:List Int} {J K:Nat} (hp:Kb J p) (hq:Kb K q) (lp:Uc p) (hq0:q ≠ []) (hl:q.length≤p.length) (hN:p.length≤1000000) (hS:J+(p.length-q.length+1)*(K+1)<1048576) :
  Ze Yir 116 [.sl (p.map cn).length (pc (p.map cn)), .sl (q.map cn).length (pc (q.map cn))] (.fresh 2 ((prim (Bw q (p.length-q.length+1) p (List.replicate (p.length-q.length+1) 0))).map cn).length (pc ((prim (Bw q (p.length-q.length+1) p (List.replicate (p.length-q.length+1) 0))).map cn))):=by
 have hql:=List.length_pos_iff.2 hq0
 have htr:=Bl (rs:=p.map cn) (fun r h=>(Qo hp r h).mono (show J≤1048576 by omega)) (by rw[List.length_map];omega)
 rw[Qu,lp] at htr
 have htr':Ze Yir 92 [.sl (p.map cn).length (pc (p.map cn))] (.fresh 2 (p.map cn).length (pc (p.map cn))):=by rw[List.length_map] at htr ⊢;exact htr
 obtain⟨⟨r',hlp⟩,kb,len⟩:=Zhs hq hq0 (p.length-q.length+1) p (List.replicate (p.length-q.length+1) 0) J hp (fun i=>by rw[Jz];exact Vz _) hS (by simp) (by simp;omega) (by omega)
 rw[List.length_replicate] at hlp len
 have e1:i64.wrap ((((q.map cn).length:Nat):Int)-1)=((q.length-1:Nat):Int):=by rw[List.length_map,w64 (by omega) (by omega)];omega
 have e2:i64.wrap (i64.wrap ((((p.map cn).length:Nat):Int)-(((q.map cn).length:Nat):Int))+1)=((p.length-q.length+1:Nat):Int):=by
  rw[List.length_map,List.length_map,w64 (n:=(p.length:Int)-(q.length:Nat)) (by omega) (by omega),w64 (by omega) (by omega)];omega
 have e3:i64.wrap (((p.length-q.length+1:Nat):Int)-1)=((p.length-q.length+1:Nat):Int)-1:=w64 (by omega) (by omega)
 have hz:(List.replicate (p.length-q.length+1) (0:Int)).map cn=List.replicate (p.length-q.length+1) z0:=by rw[List.map_replicate,z0_cn]
 have hpr:=Q6 (rs:=(Bw q (p.length-q.length+1) p (List.replicate (p.length-q.length+1) 0)).map cn) (Qo kb) (by omega) (by rw[List.length_map];omega)
 rw[Qu] at hpr
 have hpr':=hpr
 rw[show ∀ o:List Int,(o.map cn).length=o.length from fun o=>List.length_map ..,len] at hpr'
 have k:=Znf (p.map cn) (q.map cn) (p.map cn) ((prim (Bw q (p.length-q.length+1) p (List.replicate (p.length-q.length+1) 0))).map cn) r' ((Bw q (p.length-q.length+1) p (List.replicate (p.length-q.length+1) 0)).map cn) (cn (top q)) p.length (p.length-q.length+1) (-1) htr' (by rw[e1,List.length_map];omega) (by rw[e2];omega) (by
   rw[e1,e2,Int.toNat_natCast,Int.toNat_natCast,e3,M8,← hz,Ve (show q.length-1<q.length by omega),show (p.map cn).length=p.length from List.length_map ..]
   exact hlp) (by
   have hlm:((prim (Bw q (p.length-q.length+1) p (List.replicate (p.length-q.length+1) 0))).map cn).length=(prim (Bw q (p.length-q.length+1) p (List.replicate (p.length-q.length+1) 0))).length:=List.length_map ..
   rw[hlm];exact hpr')
 exact k
theorem Zdl {rs:List Rn} {K c:Nat} (hr:∀ r∈rs,Xj K r) (hn:rs.length≤c) (hc:c≤9) (hS:(K+3)*(2*3^c)≤500000):Zk6 66 [.sl rs.length (pc rs)] (Z7 (Zj rs)):=by
 have h3:0<3^c:=Nat.pow_pos (by decide)
 have hK:K+3≤250000:=by
  have:(K+3)*2≤(K+3)*(2*3^c):=Nat.mul_le_mul_left _ (by omega)
  omega
 have p1:=Q6 hr (by omega) (by omega)
 have p1':Ze Yir 86 [.sl rs.length (pc rs)] (.fresh 2 ((prim (Zj rs)).map cn).length (pc ((prim (Zj rs)).map cn))):=by rw[List.length_map];exact p1
 have k1:Kb K (prim (Zj rs)):=(Nr (Xg hr)).prim
 have l1:(prim (Zj rs)).length≤rs.length:=by rw[Qp];have:=Qz (Zj rs);rwa [Z0] at this
 obtain⟨q1,q2⟩:=Bp k1 (by omega) (by omega)
 have ka:Kb K (Jb (prim (Zj rs))):=by
  unfold Jb;split
  ·intro i;rw[Vy];exact (k1 i).neg
  ·exact k1
 have la:=K8 (prim (Zj rs))
 have lda:Uc (Jb (prim (Zj rs))):=D5 (Jh _)
 have hpp:(¬ top (prim (Zj rs))<0)→Jb (prim (Zj rs))=prim (Zj rs):=Rb
 have hder:=Fh (rs:=(Jb (prim (Zj rs))).map cn) (Qo ka) (by omega) (by rw[List.length_map];omega)
 rw[Qu] at hder
 have hder':Ze Yir 75 [.sl ((Jb (prim (Zj rs))).map cn).length (pc ((Jb (prim (Zj rs))).map cn))] (.fresh 2 ((Z9 (Jb (prim (Zj rs)))).map cn).length (pc ((Z9 (Jb (prim (Zj rs)))).map cn))):=by
  have hlm:((Z9 (Jb (prim (Zj rs)))).map cn).length=(Z9 (Jb (prim (Zj rs)))).length:=List.length_map ..
  rw[hlm];exact hder
 have kd:Kb (K+2) (Z9 (Jb (prim (Zj rs)))):=Zch ka (by omega)
 have ld:(Z9 (Jb (prim (Zj rs)))).length≤c:=by have:=Zg0 (Jb (prim (Zj rs)));omega
 have hcom:=L3 (rs:=(Jb (prim (Zj rs))).map cn) (ss:=(Z9 (Jb (prim (Zj rs)))).map cn) (K:=K+2) (c:=c) (fun r h=>(Qo ka r h).mono (by omega)) (Qo kd) (by rw[List.length_map];omega) (by rw[List.length_map];exact ld) (by omega) hS
 rw[Qu,Qu] at hcom
 change Zk6 65 _ (Wf (Jb (prim (Zj rs))) (Z9 (Jb (prim (Zj rs))))) at hcom
 have hdiv:2≤(Wf (Jb (prim (Zj rs))) (Z9 (Jb (prim (Zj rs))))).length→Ze Yir 116 [.sl ((Jb (prim (Zj rs))).map cn).length (pc ((Jb (prim (Zj rs))).map cn)), .sl ((Wf (Jb (prim (Zj rs))) (Z9 (Jb (prim (Zj rs))))).map cn).length (pc ((Wf (Jb (prim (Zj rs))) (Z9 (Jb (prim (Zj rs))))).map cn))]
   (.fresh 2 ((prim (Bw (Wf (Jb (prim (Zj rs))) (Z9 (Jb (prim (Zj rs))))) ((Jb (prim (Zj rs))).length-(Wf (Jb (prim (Zj rs))) (Z9 (Jb (prim (Zj rs))))).length+1) (Jb (prim (Zj rs))) (List.replicate ((Jb (prim (Zj rs))).length-(Wf (Jb (prim (Zj rs))) (Z9 (Jb (prim (Zj rs))))).length+1) 0))).map cn).length (pc ((prim (Bw (Wf (Jb (prim (Zj rs))) (Z9 (Jb (prim (Zj rs))))) ((Jb (prim (Zj rs))).length-(Wf (Jb (prim (Zj rs))) (Z9 (Jb (prim (Zj rs))))).length+1) (Jb (prim (Zj rs))) (List.replicate ((Jb (prim (Zj rs))).length-(Wf (Jb (prim (Zj rs))) (Z9 (Jb (prim (Zj rs))))).length+1) 0))).map cn))):=by
  intro h2
  have hp0:Zh (Zj rs) ≠ []:=by
   intro h0
   have:prim (Zj rs)=[]:=Xu.2 (J4.1 h0)
   rw[this] at h2
   exact absurd h2 (by decide)
  obtain⟨a1,a2,_,_,_,_⟩:=Zbk hp0
  obtain⟨b1,b2⟩:=Zmm (t:=Z9 (Jb (prim (Zj rs)))) (X2 a1 a2) (by omega) ka
  rw[a1] at b2
  exact Me ka b1 lda (by intro h0;rw[h0] at h2;exact absurd h2 (by decide)) b2 (by omega) (by
   have h4:(Jb (prim (Zj rs))).length-(Wf (Jb (prim (Zj rs))) (Z9 (Jb (prim (Zj rs))))).length+1≤10:=by omega
   have h5:=Nat.mul_le_mul_right (K+3+1) h4
   have h6:3^2≤3^c:=Nat.pow_le_pow_right (by decide) (by omega)
   have h7:(K+3)*18≤(K+3)*(2*3^c):=Nat.mul_le_mul_left _ (by omega)
   omega)
 unfold Z7
 by_cases hs:(Jb (prim (Zj rs))).length<2
 ·rw[if_pos (.inl hs)]
  by_cases ht:top (prim (Zj rs))<0
  ·exact .inr (Ph rs _ _ (by rw[decide_eq_true_eq,List.length_map];omega) p1' (q1 ht))
  ·rw[hpp ht] at hs ⊢
   exact .inr (Pa rs _ (by rw[decide_eq_true_eq,List.length_map];omega) p1' (q2 ht))
 ·by_cases hg:(Wf (Jb (prim (Zj rs))) (Z9 (Jb (prim (Zj rs))))).length<2
  ·rw[if_pos (.inr hg)]
   by_cases ht:top (prim (Zj rs))<0
   ·rcases hcom with h | h
    ·exact .inr (Pg rs _ _ _ _ (by rw[decide_eq_false_iff_not,List.length_map];omega) (by rw[decide_eq_true_eq,List.length_map];omega) p1' (q1 ht) hder' h)
    ·exact .inr (Pe rs _ _ _ _ (by rw[decide_eq_false_iff_not,List.length_map];omega) (by rw[decide_eq_true_eq,List.length_map];omega) p1' (q1 ht) hder' h)
   ·rw[hpp ht] at *
    rcases hcom with h | h
    ·exact .inr (Pc rs _ _ _ (by rw[decide_eq_false_iff_not,List.length_map];omega) (by rw[decide_eq_true_eq,List.length_map];omega) p1' (q2 ht) hder' h)
    ·exact .inr (L9 rs _ _ _ (by rw[decide_eq_false_iff_not,List.length_map];omega) (by rw[decide_eq_true_eq,List.length_map];omega) p1' (q2 ht) hder' h)
  ·rw[if_neg (by omega)]
   have hdiv:=hdiv (by omega)
   by_cases ht:top (prim (Zj rs))<0
   ·rcases hcom with h | h
    ·exact .inl (Pf rs _ _ _ _ _ (by rw[decide_eq_false_iff_not,List.length_map];omega) (by rw[decide_eq_false_iff_not,List.length_map];omega) p1' (q1 ht) hder' h hdiv)
    ·exact .inl (Pd rs _ _ _ _ _ (by rw[decide_eq_false_iff_not,List.length_map];omega) (by rw[decide_eq_false_iff_not,List.length_map];omega) p1' (q1 ht) hder' h hdiv)
   ·rw[hpp ht] at *
    rcases hcom with h | h
    ·exact .inl (Pb rs _ _ _ _ (by rw[decide_eq_false_iff_not,List.length_map];omega) (by rw[decide_eq_false_iff_not,List.length_map];omega) p1' (q2 ht) hder' h hdiv)
    ·exact .inl (L8 rs _ _ _ _ (by rw[decide_eq_false_iff_not,List.length_map];omega) (by rw[decide_eq_false_iff_not,List.length_map];omega) p1' (q2 ht) hder' h hdiv)
def TMC:Ji:=TMB
theorem Zfo:Qh Yir TMC:=Zfp
end Go.Proofs.Ythnnfemologhfaa

namespace Go.Proofs.Ythnnfemologhfaa
open Go.IntKind (i64 u64 u32)
open Go.Ai
set_option maxRecDepth 100000
theorem Tc {f:Nat} {args:List AV} {X:List Int} (h:Ze Yir f args (.fresh 2 X.length (pk X))):Ze Yir f args (.fresh 2 (X.map cn).length (pc (X.map cn))):=by
 rw[List.length_map];exact h
section
variable {p d:List Int} {J Kd:Nat}
end
end Go.Proofs.Ythnnfemologhfaa

namespace Go.Proofs.Ythnnfemologhfaa
open Go.IntKind (i64 u64 u32)
open Go.Ai
set_option maxRecDepth 100000
def Wi (o:Bool) (ps:List (List Rn)) (n:Int) (k:Int) (rs:List Rn) (d:Int) (i:Int):Zi:=(dds 2 (.val (.bool o)::(dds 1 (.val (.sl rs.length (pc rs))::(.val (.int .i64 d)::(.val (.int .i64 i)::(.val (.sl ps.length (pp ps))::(.val (.int .i64 n)::(.val (.int .i64 k)::(dds 19 []))))))))))
theorem Znx (o:Bool) (ps:List (List Rn)) (n:Int) (k:Int) (rs:List Rn) (d:Int) (i:Int) (z:Int) (c1:(decide (i≤d))=true) (c2:(decide (z>256))=true) (n1:0≤i∧i<(rs.length:Int)) (n2:Ze Yir 76 [Z8 (rs.getD (Int.toNat i) z0)] (.int .i64 z)):Za Yir Br (Wi o ps n k rs d i) .ret (Wi true ps n k rs d i):=(Za.go Qb 400 [.b true, .v (Z8 (rs.getD (Int.toNat i) z0)), .r (.int .i64 z), .b true] [2,4,5,6,7,8,9] (ac c1 (ac n1 (ac (Xc n1) (ac n2 (ac c2 a0))))))
theorem Znw (o:Bool) (ps:List (List Rn)) (n:Int) (k:Int) (rs:List Rn) (d:Int) (i:Int) (z:Int) (c1:(decide (i≤d))=true) (c2:(decide (z>256))=false) (n1:0≤i∧i<(rs.length:Int)) (n2:Ze Yir 76 [Z8 (rs.getD (Int.toNat i) z0)] (.int .i64 z)):Za Yir Br (Wi o ps n k rs d i) .norm (Wi o ps n k rs d (i64.wrap (i+1))):=(Za.go Qb 400 [.b true, .v (Z8 (rs.getD (Int.toNat i) z0)), .r (.int .i64 z), .b false] [2,4,5,6,7,8,9] (ac c1 (ac n1 (ac (Xc n1) (ac n2 (ac c2 a0))))))
theorem Znv (o:Bool) (ps:List (List Rn)) (n:Int) (k:Int) (rs:List Rn) (d:Int) (i:Int)  (c1:(decide (i≤d))=false):Za Yir Br (Wi o ps n k rs d i) (.exit 2) (Wi o ps n k rs d i):=(Za.go Qb 400 [.b false] [2,4,5,6,7,8,9] (ac c1 a0))
def Zk4:ICode := .seq (rg [oB 10 .lss 9 8]) (.seq (.cond (.t 10) (.skip) (.exit 0)) (.seq (.block 1 (.seq (rg [o1 11 (.ixa 7 (.t 9) 1),o1 12 (.ld 11 11 1 true),oM 4 12]) (.seq (rg [oM 13 4,oC 14 62 [13],oM 5 14]) (.seq (.seq (rg [oM 15 5,o1 16 (.bin .gtr (.t 15) (ci 16))]) (.cond (.t 16) (.seq (rg [o1 2 (.mov (.c (.bool true)))]) (.ret)) (.skip))) (.seq (rg [o1 6 (.mov (ci 0))]) (.block 2 (.loop (.seq (.seq (rg [oM 17 6,oM 18 5,oB 19 .leq 17 18]) (.cond (.t 19) (.skip) (.exit 2))) (.seq (.block 3 (.seq (rg [oM 22 4,oM 23 6,o1 24 (.ixa 22 (.t 23) 2),o1 25 (.ld 24 24 2 false),oC 26 76 [25],o1 27 (.bin .gtr (.t 26) (ci 256))]) (.cond (.t 27) (.seq (rg [o1 2 (.mov (.c (.bool true)))]) (.ret)) (.skip)))) (rg [oM 20 6,o1 21 (.bin .add (.t 20) (ci 1)),oM 6 21])))))))))) (rg [o1 28 (.bin .add (.t 9) (ci 1)),oM 9 28])))
def My (o:Bool) (ps:List (List Rn)) (n:Int) (k:Int):Zi:=(dds 2 (.val (.bool o)::(dds 4 (.val (.sl ps.length (pp ps))::(.val (.int .i64 n)::(.val (.int .i64 k)::(dds 19 [])))))))
theorem Yk61_1 (o:Bool) (ps:List (List Rn)) (n:Int) (k:Int) (d:Int) (c1:(decide (k<n))=true) (c2:(decide (d>16))=true) (n1:0≤k∧k<(ps.length:Int)) (n2:Ze Yir 62 [.sl ((ps.getD (Int.toNat k) []).length) (pc (ps.getD (Int.toNat k) []))] (.int .i64 d)):Za Yir Zk4 (My o ps n k) .ret (My true ps n k):=(Za.seq (Za.go (t:=(dds 2 (.val (.bool o)::(dds 4 (.val (.sl ps.length (pp ps))::(vi n::(vi k::(.val (.bool (decide (k<n)))::(dds 18 []))))))))) Qb 400 [] [2,7,8,9,10] a0) (Za.seq (Za.go (t:=(dds 2 (.val (.bool o)::(dds 4 (.val (.sl ps.length (pp ps))::(vi n::(vi k::(dds 19 [])))))))) Qb 400 [.b true] [2,7,8,9] (ac c1 a0)) (Za.seq_out (Za.block_ret (Za.seq (Za.go (t:=(dds 2 (.val (.bool o)::(dds 1 (.val (.sl ((ps.getD (Int.toNat k) []).length) (pc (ps.getD (Int.toNat k) [])))::(dds 2 (.val (.sl ps.length (pp ps))::(vi n::(vi k::(dds 19 [])))))))))) Qb 400 [.v (.sl ((ps.getD (Int.toNat k) []).length) (pc (ps.getD (Int.toNat k) [])))] [2,4,7,8,9] (ac n1 (ac (V4 n1) a0))) (Za.seq (Za.go (t:=(dds 2 (.val (.bool o)::(dds 1 (.val (.sl ((ps.getD (Int.toNat k) []).length) (pc (ps.getD (Int.toNat k) [])))::(vi d::(dds 1 (.val (.sl ps.length (pp ps))::(vi n::(vi k::(dds 19 []))))))))))) Qb 400 [.r (.int .i64 d)] [2,4,5,7,8,9] (ac n2 a0)) (Za.seq_out (Za.go Qb 400 [.b true] [2,7,8,9] (ac c2 a0)) (by intro e;cases e))))) (by intro e;cases e))))
theorem Yk61_2 (o:Bool) (ps:List (List Rn)) (n:Int) (k:Int) (d i:Int) (c1:(decide (k<n))=true) (c2:(decide (d>16))=false) (n1:0≤k∧k<(ps.length:Int)) (n2:Ze Yir 62 [.sl ((ps.getD (Int.toNat k) []).length) (pc (ps.getD (Int.toNat k) []))] (.int .i64 d)) (hl3:Za Yir (.loop Br) (Wi o ps n k (ps.getD (Int.toNat k) []) d 0) (.exit 2) (Wi o ps n k (ps.getD (Int.toNat k) []) d i)):Za Yir Zk4 (My o ps n k) .norm (My o ps n (i64.wrap (k+1))):=(Za.seq (Za.go (t:=(dds 2 (.val (.bool o)::(dds 4 (.val (.sl ps.length (pp ps))::(vi n::(vi k::(.val (.bool (decide (k<n)))::(dds 18 []))))))))) Qb 400 [] [2,7,8,9,10] a0) (Za.seq (Za.go (t:=(dds 2 (.val (.bool o)::(dds 4 (.val (.sl ps.length (pp ps))::(vi n::(vi k::(dds 19 [])))))))) Qb 400 [.b true] [2,7,8,9] (ac c1 a0)) (Za.seq (Za.block_norm (Za.seq (Za.go (t:=(dds 2 (.val (.bool o)::(dds 1 (.val (.sl ((ps.getD (Int.toNat k) []).length) (pc (ps.getD (Int.toNat k) [])))::(dds 2 (.val (.sl ps.length (pp ps))::(vi n::(vi k::(dds 19 [])))))))))) Qb 400 [.v (.sl ((ps.getD (Int.toNat k) []).length) (pc (ps.getD (Int.toNat k) [])))] [2,4,7,8,9] (ac n1 (ac (V4 n1) a0))) (Za.seq (Za.go (t:=(dds 2 (.val (.bool o)::(dds 1 (.val (.sl ((ps.getD (Int.toNat k) []).length) (pc (ps.getD (Int.toNat k) [])))::(vi d::(dds 1 (.val (.sl ps.length (pp ps))::(vi n::(vi k::(dds 19 []))))))))))) Qb 400 [.r (.int .i64 d)] [2,4,5,7,8,9] (ac n2 a0)) (Za.seq (Za.go (t:=(dds 2 (.val (.bool o)::(dds 1 (.val (.sl ((ps.getD (Int.toNat k) []).length) (pc (ps.getD (Int.toNat k) [])))::(vi d::(dds 1 (.val (.sl ps.length (pp ps))::(vi n::(vi k::(dds 19 []))))))))))) Qb 400 [.b false] [2,4,5,7,8,9] (ac c2 a0)) (Za.seq (Za.go Qb 400 [] [2,4,5,6,7,8,9] a0) (Za.block hl3)))))) (Za.go Qb 400 [] [2,7,8,9] a0))))
theorem Yk61_3 (o:Bool) (ps:List (List Rn)) (n:Int) (k:Int)  (c1:(decide (k<n))=false):Za Yir Zk4 (My o ps n k) (.exit 0) (My o ps n k):=(Za.seq (Za.go (t:=(dds 2 (.val (.bool o)::(dds 4 (.val (.sl ps.length (pp ps))::(vi n::(vi k::(.val (.bool (decide (k<n)))::(dds 18 []))))))))) Qb 400 [] [2,7,8,9,10] a0) (Za.seq_out (Za.go Qb 400 [.b false] [2,7,8,9] (ac c1 a0)) (by intro e;cases e)))
def Ys61y (o:Bool) (ps:List (List Rn)) (n:Int) (k:Int):Zi:=(dds 2 (.val (.bool o)::(dds 4 (.val (.sl ps.length (pp ps))::(.val (.int .i64 n)::(.val (.int .i64 k)::(dds 19 [])))))))
theorem Znu (o:Bool) (ps:List (List Rn)) (n:Int) (k:Int) (d i:Int) (c1:(decide (k<n))=true) (c2:(decide (d>16))=false) (n1:0≤k∧k<(ps.length:Int)) (n2:Ze Yir 62 [.sl ((ps.getD (Int.toNat k) []).length) (pc (ps.getD (Int.toNat k) []))] (.int .i64 d)) (hl3:Za Yir (.loop Br) (Wi o ps n k (ps.getD (Int.toNat k) []) d 0) .ret (Wi true ps n k (ps.getD (Int.toNat k) []) d i)):Za Yir Yc61y (Ys61y o ps n k) .ret (Ys61y true ps n k):=(Za.seq (Za.go (t:=(dds 2 (.val (.bool o)::(dds 4 (.val (.sl ps.length (pp ps))::(vi n::(vi k::(.val (.bool (decide (k<n)))::(dds 18 []))))))))) Qb 400 [] [2,7,8,9,10] a0) (Za.seq (Za.go (t:=(dds 2 (.val (.bool o)::(dds 4 (.val (.sl ps.length (pp ps))::(vi n::(vi k::(dds 19 [])))))))) Qb 400 [.b true] [2,7,8,9] (ac c1 a0)) (Za.seq_out (Za.block_ret (Za.seq (Za.go (t:=(dds 2 (.val (.bool o)::(dds 1 (.val (.sl ((ps.getD (Int.toNat k) []).length) (pc (ps.getD (Int.toNat k) [])))::(dds 2 (.val (.sl ps.length (pp ps))::(vi n::(vi k::(dds 19 [])))))))))) Qb 400 [.v (.sl ((ps.getD (Int.toNat k) []).length) (pc (ps.getD (Int.toNat k) [])))] [2,4,7,8,9] (ac n1 (ac (V4 n1) a0))) (Za.seq (Za.go (t:=(dds 2 (.val (.bool o)::(dds 1 (.val (.sl ((ps.getD (Int.toNat k) []).length) (pc (ps.getD (Int.toNat k) [])))::(vi d::(dds 1 (.val (.sl ps.length (pp ps))::(vi n::(vi k::(dds 19 []))))))))))) Qb 400 [.r (.int .i64 d)] [2,4,5,7,8,9] (ac n2 a0)) (Za.seq (Za.go (t:=(dds 2 (.val (.bool o)::(dds 1 (.val (.sl ((ps.getD (Int.toNat k) []).length) (pc (ps.getD (Int.toNat k) [])))::(vi d::(dds 1 (.val (.sl ps.length (pp ps))::(vi n::(vi k::(dds 19 []))))))))))) Qb 400 [.b false] [2,4,5,7,8,9] (ac c2 a0)) (Za.seq (Za.go Qb 400 [] [2,4,5,6,7,8,9] a0) (Za.block_ret (Za.keep (t':=(dds 2 (.val (.bool true)::(dds 4 (.val (.sl ps.length (pp ps))::(.val (.int .i64 n)::(.val (.int .i64 k)::(dds 19 [])))))))) [2,7,8,9] hl3 (by kernel_rfl)))))))) (by intro e;cases e))))
theorem Zih (ps:List (List Rn)) (n k:Int) (hl1:Za Yir (.loop Zk4) (My false ps (ps.length:Int) 0) (.exit 0) (My false ps n k)):Ze Yir 61 [.sl ps.length (pp ps)] (.bool false):=Ze.of_bodyW (fn:=Zr2) (s:=(dds 2 (.val (.bool false)::(dds 26 [])))) (ex := .ret) rfl rfl (Za.seq (Za.go (t:=(.val (.sl ps.length (pp ps))::(dds 1 (.val (.bool false)::(dds 26 []))))) Qb 400 [] [0,2] a0) (Za.seq (Za.seq (Za.go Qb 400 [] [2,7,8,9] a0) (Za.block hl1)) (Za.go Qb 400 [] [2] a0))) (by intro i e;cases e) rfl
theorem Zig (ps:List (List Rn)) (n k:Int) (hl1:Za Yir (.loop Zk4) (My false ps (ps.length:Int) 0) .ret (My true ps n k)):Ze Yir 61 [.sl ps.length (pp ps)] (.bool true):=Ze.of_bodyW (fn:=Zr2) (s:=(dds 2 (.val (.bool true)::(dds 4 (.val (.sl ps.length (pp ps))::(.val (.int .i64 n)::(.val (.int .i64 k)::(dds 19 [])))))))) (ex := .ret) rfl rfl (Za.seq (Za.go (t:=(.val (.sl ps.length (pp ps))::(dds 1 (.val (.bool false)::(dds 26 []))))) Qb 400 [] [0,2] a0) (Za.seq_out (Za.seq (Za.go Qb 400 [] [2,7,8,9] a0) (Za.block_ret hl1)) (by intro e;cases e))) (by intro i e;cases e) rfl
end Go.Proofs.Ythnnfemologhfaa

namespace Go.Proofs.Ythnnfemologhfaa
open Go.IntKind (i64 u64 u32)
open Go.Ai
set_option maxRecDepth 100000
def Zry (x:Int):Bool:=decide (256<(Zb x.natAbs).length)
def Vf (p:List Int):Bool:=decide (17<(Zh p).length) || (Zh p).any Zry
theorem Zdk {p:List Int} {f:Int→Bool} (h:p.any f=false) (i:Nat) (hi:i<p.length):f (p.getD i 0)=false:=by
 rw[List.any_eq_false] at h
 rw[List.getD_eq_getElem?_getD,List.getElem?_eq_getElem hi]
 simpa using h _ (List.getElem_mem hi)
theorem Zhz {p:List Int} {f:Int→Bool} (h:p.any f=true):∃ i,i<p.length∧f (p.getD i 0)=true:=by
 obtain⟨x,hx,hf⟩:=List.any_eq_true.1 h
 obtain⟨i,hi,rfl⟩:=List.mem_iff_getElem.1 hx
 refine⟨i,hi,?_⟩
 rw[List.getD_eq_getElem?_getD,List.getElem?_eq_getElem hi]
 simpa using hf
section
variable {rs:List Rn} {ps:List (List Rn)} {n k:Int}
theorem Sb (hg:∀ r∈rs,Xj 1048576 r) (hN:rs.length≤1048576) :
  (Vf (Zj rs)=false→(Zh (Zj rs)).length≤17→Za Yir (.loop Br) (Wi false ps n k rs (((Zs (Zj rs) rs.length:Nat):Int)-1) 0) (.exit 2) (Wi false ps n k rs (((Zs (Zj rs) rs.length:Nat):Int)-1) (Zs (Zj rs) rs.length:Nat))) ∧
  (Vf (Zj rs)=true→(Zh (Zj rs)).length≤17→∃ j:Nat,Za Yir (.loop Br) (Wi false ps n k rs (((Zs (Zj rs) rs.length:Nat):Int)-1) 0) .ret (Wi true ps n k rs (((Zs (Zj rs) rs.length:Nat):Int)-1) (j:Nat))):=by
 have hle:=V3 (Zj rs) rs.length
 have hlen:(Zh (Zj rs)).length=Zs (Zj rs) rs.length:=by rw[Ue,Z0]
 have step:∀ t:Nat,t<Zs (Zj rs) rs.length→Zry (Zt (rs.getD t z0))=false→Za Yir Br (Wi false ps n k rs (((Zs (Zj rs) rs.length:Nat):Int)-1) (t:Nat)) .norm (Wi false ps n k rs (((Zs (Zj rs) rs.length:Nat):Int)-1) ((t+1:Nat):Int)):=by
  intro t ht hb
  have ei:i64.wrap ((t:Int)+1)=((t+1:Nat):Int):=by rw[w64 (by omega) (by omega)];omega
  obtain⟨g1,g2⟩:=Ql hg t
  have k2:=Znw false ps n k rs (((Zs (Zj rs) rs.length:Nat):Int)-1) (t:Nat) (((Zb (Zt (rs.getD t z0)).natAbs).length:Nat):Int) (by simp;omega) (by unfold Zry at hb;simp only[decide_eq_false_iff_not] at hb ⊢;omega) (by omega) (by rw[Int.toNat_natCast];exact Db g1 g2)
  rwa [ei] at k2
 refine⟨fun hl _ => ?_,fun hl h17 => ?_⟩
 ·unfold Vf at hl
  rw[Bool.or_eq_false_iff] at hl
  have h:=Za.upTo (prog:=Yir) (c:=Br) (ex := .exit 2) (fun t=>Wi false ps n k rs (((Zs (Zj rs) rs.length:Nat):Int)-1) (t:Nat)) (Zs (Zj rs) rs.length) (by intro e;cases e) (Znv false ps n k rs _ _ (by simp;omega)) 0 (Nat.zero_le _) (fun t _ h2=>step t h2 (by
   have:=Zdk hl.2 t (by omega)
   rwa [Jc,Jg] at this))
  exact h
 ·unfold Vf at hl
  rw[decide_eq_false (by omega),Bool.false_or] at hl
  obtain⟨i,hi,hf⟩:=Zhz hl
  rcases Gy (fun j=>Zry (Zt (rs.getD j z0))) (Zs (Zj rs) rs.length) _ 0 (by rw[Nat.zero_add]) with h | ⟨j,_,h2,h3,h4⟩
  ·have:=h i (by omega) (by omega)
   rw[Jc,Jg] at hf
   rw[hf] at this
   cases this
  ·obtain⟨g1,g2⟩:=Ql hg j
   have k1:=Znx false ps n k rs (((Zs (Zj rs) rs.length:Nat):Int)-1) (j:Nat) (((Zb (Zt (rs.getD j z0)).natAbs).length:Nat):Int) (by simp;omega) (by unfold Zry at h3;simp only[decide_eq_true_eq] at h3 ⊢;omega) (by omega) (by rw[Int.toNat_natCast];exact Db g1 g2)
   exact⟨j,Za.upTo (prog:=Yir) (c:=Br) (ex := .ret) (fun t=>Wi false ps n k rs (((Zs (Zj rs) rs.length:Nat):Int)-1) (t:Nat)) j (by intro e;cases e) k1 0 (Nat.zero_le _) (fun t _ h6=>step t (by omega) (h4 t (by omega) h6))⟩
end
theorem H2 {α:Type} {l:List (List α)} {i:Nat} (h:i<l.length):l.getD i []∈l:=by
 rw[List.getD_eq_getElem?_getD,List.getElem?_eq_getElem h];exact List.getElem_mem h
theorem S3 {ps:List (List Rn)} (hg:∀ p∈ps,(∀ r∈p,Xj 1048576 r)∧p.length≤1048576) (hN:ps.length≤1048576):Ze Yir 61 [.sl ps.length (pp ps)] (.bool (ps.any fun p=>Vf (Zj p))):=by
 have hdeg:∀ t,t<ps.length→Ze Yir 62 [.sl (ps.getD t []).length (pc (ps.getD t []))] (.int .i64 (((Zs (Zj (ps.getD t [])) (ps.getD t []).length:Nat):Int)-1)):=fun t ht=>G1 (hg _ (H2 ht)).1 (hg _ (H2 ht)).2
 have step:∀ t:Nat,t<ps.length→Vf (Zj (ps.getD t []))=false→Za Yir Zk4 (My false ps (ps.length:Nat) (t:Nat)) .norm (My false ps (ps.length:Nat) ((t+1:Nat):Int)):=by
  intro t ht hl
  have ei:i64.wrap ((t:Int)+1)=((t+1:Nat):Int):=by rw[w64 (by omega) (by omega)];omega
  obtain⟨g1,g2⟩:=hg _ (H2 ht)
  have hlen:(Zh (Zj (ps.getD t []))).length=Zs (Zj (ps.getD t [])) (ps.getD t []).length:=by rw[Ue,Z0]
  have h17:(Zh (Zj (ps.getD t []))).length≤17:=by
   unfold Vf at hl
   rw[Bool.or_eq_false_iff,decide_eq_false_iff_not] at hl
   omega
  have k2:=Yk61_2 false ps (ps.length:Nat) (t:Nat) (((Zs (Zj (ps.getD t [])) (ps.getD t []).length:Nat):Int)-1) _ (by simp;omega) (by rw[decide_eq_false_iff_not];omega) (by omega) (by rw[Int.toNat_natCast];exact hdeg t ht) (by rw[Int.toNat_natCast];exact (Sb g1 g2).1 hl h17)
  rwa [ei] at k2
 rcases Gy (fun j=>Vf (Zj (ps.getD j []))) ps.length _ 0 (by rw[Nat.zero_add]) with h | ⟨j,_,h2,h3,h4⟩
 ·have hany:(ps.any fun p=>Vf (Zj p))=false:=by
   rw[List.any_eq_false]
   intro p hp
   obtain⟨i,hi,rfl⟩:=List.mem_iff_getElem.1 hp
   have:=h i (by omega) hi
   rw[List.getD_eq_getElem?_getD,List.getElem?_eq_getElem hi] at this
   simpa using this
  rw[hany]
  exact Zih ps _ _ (Za.upTo (prog:=Yir) (c:=Zk4) (ex := .exit 0) (fun t=>My false ps (ps.length:Nat) (t:Nat)) ps.length (by intro e;cases e) (Yk61_3 false ps _ _ (by simp)) 0 (Nat.zero_le _) (fun t _ h6=>step t h6 (h t (by omega) h6)))
 ·have hany:(ps.any fun p=>Vf (Zj p))=true:=by
   rw[List.any_eq_true]
   exact⟨_,H2 h2,h3⟩
  rw[hany]
  obtain⟨g1,g2⟩:=hg _ (H2 h2)
  have hlen:(Zh (Zj (ps.getD j []))).length=Zs (Zj (ps.getD j [])) (ps.getD j []).length:=by rw[Ue,Z0]
  have out:Za Yir Zk4 (My false ps (ps.length:Nat) (j:Nat)) .ret (My true ps (ps.length:Nat) (j:Nat)):=by
   by_cases h17:(Zh (Zj (ps.getD j []))).length≤17
   ·obtain⟨i,hi⟩:=(Sb (ps:=ps) (n:=(ps.length:Nat)) (k:=(j:Nat)) g1 g2).2 h3 h17
    exact Znu false ps (ps.length:Nat) (j:Nat) (((Zs (Zj (ps.getD j [])) (ps.getD j []).length:Nat):Int)-1) _ (by simp;omega) (by rw[decide_eq_false_iff_not];omega) (by omega) (by rw[Int.toNat_natCast];exact hdeg j h2) (by rw[Int.toNat_natCast];exact hi)
   ·exact Yk61_1 false ps (ps.length:Nat) (j:Nat) (((Zs (Zj (ps.getD j [])) (ps.getD j []).length:Nat):Int)-1) (by simp;omega) (by rw[decide_eq_true_eq];omega) (by omega) (by rw[Int.toNat_natCast];exact hdeg j h2)
  exact Zig ps _ _ (Za.upTo (prog:=Yir) (c:=Zk4) (ex := .ret) (fun t=>My false ps (ps.length:Nat) (t:Nat)) j (by intro e;cases e) out 0 (Nat.zero_le _) (fun t _ h6=>step t (by omega) (h4 t (by omega) h6)))
theorem Lc {rs:List Rn} (hg:∀ r∈rs,Xj 1048576 r) (hN:rs.length≤1048576):Ze Yir 61 [.sl 1 [.sl rs.length (pc rs)]] (.bool (Vf (Zj rs))):=by
 have h:=S3 (ps:=[rs]) (fun p hp=>by rw[List.mem_singleton.1 hp];exact⟨hg,hN⟩) (by simp)
 simpa [pp] using h
end Go.Proofs.Ythnnfemologhfaa

namespace Go.Proofs.Ythnnfemologhfaa
open Go.IntKind (i64 u64 u32)
open Go.Ai
set_option maxRecDepth 100000
theorem M4 {p:List Int} (hl:(Zh p).length≤17) (hK:Kb 256 p):Vf p=false:=by
 unfold Vf
 rw[Bool.or_eq_false_iff,decide_eq_false_iff_not]
 refine⟨by omega,?_⟩
 rw[List.any_eq_false]
 intro x hx
 obtain⟨i,hi,rfl⟩:=List.mem_iff_getElem.1 (Rk hx)
 have h:=(hK i).len
 rw[List.getD_eq_getElem?_getD,List.getElem?_eq_getElem hi] at h
 unfold Zry
 simp only[Option.getD_some] at h
 simpa using h
theorem Sk {rs:List Rn} {K:Nat} (hg:∀ r∈rs,Xj K r) (hK:K≤256) (hl:rs.length≤17):Vf (Zj rs)=false :=
 M4 (by have:=Qz (Zj rs);rw[Z0] at this;omega) ((Nr (Xg hg)).mono hK)
theorem large1 {rs:List Rn} {K:Nat} (hg:∀ r∈rs,Xj K r) (hK:K≤256) (hl:rs.length≤17):Ze Yir 61 [.sl 1 [.sl rs.length (pc rs)]] (.bool false):=by
 have h:=Lc (rs:=rs) (fun r hr=>(hg r hr).mono (by omega)) (by omega)
 rwa [Sk hg hK hl] at h
theorem A7 (rs:List Rn):(Zh (Zj rs)).length≤rs.length:=by have:=Qz (Zj rs);rwa [Z0] at this
end Go.Proofs.Ythnnfemologhfaa

namespace Go.Proofs.Ythnnfemologhfaa
open Go.IntKind (i64 u64 u32)
open Go.Ai
set_option maxRecDepth 100000
def Yc5:ICode := .seq (.seq (rg [oM 61 11,oM 62 1,oB 63 .lss 61 62]) (.cond (.t 63) (.skip) (.exit 0))) (.seq (.block 1 (.seq (rg [oM 67 9,oM 68 7,o1 69 (.un .neg (.t 68)),o1 70 (.bls 2 [.int .i64 0, .int .i64 0] [(0,1, .t 69),(1,1, .c (.int .i64 1))]),oC 71 26 [70],oC 72 24 [67,71],oM 66 72,o1 73 (.ext (.t 66) 0),o1 74 (.ext (.t 66) 1),oM 9 73]) (rg [oM 76 9,oM 77 8,o1 78 (.un .neg (.t 77)),o1 79 (.bls 2 [.int .i64 0, .int .i64 0] [(0,1, .t 78),(1,1, .c (.int .i64 2))]),oC 80 26 [79],oC 81 24 [76,80],oM 75 81,o1 82 (.ext (.t 75) 0),o1 83 (.ext (.t 75) 1),oM 9 82]))) (rg [oM 64 11,o1 65 (.bin .add (.t 64) (ci 1)),oM 11 65]))
end Go.Proofs.Ythnnfemologhfaa

namespace Go.Proofs.Ythnnfemologhfaa
open Go.IntKind (i64 u64 u32)
open Go.Ai
set_option maxRecDepth 100000
theorem Yrun44 (rs ts:List Rn) (n1:Ze Yir 43 [.sl rs.length (pc rs)] (.fresh 2 ts.length (pc ts))):Ze Yir 44 [.sl rs.length (pc rs)] (.int .i64 (i64.wrap ((ts.length:Int)-1))):=Ze.go (fn:=Yi44) Zfi rfl 400 rfl [.r (.fresh 2 ts.length (pc ts))] (ac n1 a0)
end Go.Proofs.Ythnnfemologhfaa

namespace Go.Proofs.Ythnnfemologhfaa
open Go.IntKind (i64 u64 u32)
open Go.Ai
set_option maxRecDepth 100000
theorem Ng {rs:List Rn} (hg:∀ r∈rs,Xj 1048576 r) (hN:rs.length≤1048576):Ze Yir 44 [.sl rs.length (pc rs)] (.int .i64 (((Zh (Zj rs)).length:Nat)-1:Int)):=by
 have htr:=Zbe hg hN
 have hl:=Qz (Zj rs)
 rw[Z0] at hl
 have hpk:pk (Zh (Zj rs))=pc ((Zh (Zj rs)).map cn):=rfl
 rw[hpk,← List.length_map (f:=cn)] at htr
 have h:=Yrun44 rs _ htr
 rw[w64 (by omega) (by rw[List.length_map];omega),List.length_map] at h
 exact h
section
variable {K X:Nat} {rs:List Rn} {r:Rn} {e:Int}
end
end Go.Proofs.Ythnnfemologhfaa

namespace Go.Proofs.Ythnnfemologhfaa
open Go.IntKind (i64 u64 u32)
open Go.Ai
set_option maxRecDepth 100000
def fewB (n m:Nat) (rs:List Rn):Bool:=decide (rs.length≤n)&&rs.all (fun r=>decide (r.2.length≤m))
theorem Zhj {n m:Nat} {rs:List Rn} (h:fewB n m rs=true) (hu:∀ r∈rs,U32 r.2):rs.length≤n∧∀ r∈rs,Xj m r:=by
 unfold fewB at h
 rw[Bool.and_eq_true,decide_eq_true_eq,List.all_eq_true] at h
 exact⟨h.1,fun r hr=>⟨hu r hr,by simpa using h.2 r hr⟩⟩
end Go.Proofs.Ythnnfemologhfaa

namespace Go.Proofs.Ythnnfemologhfaa
open Go.IntKind (i64 u64 u32)
open Go.Ai
set_option maxRecDepth 100000
theorem Yrun34 (rs us:List Rn) (n1:Ze Yir 61 [.sl 1 [.sl rs.length (pc rs)]] (.bool false)) (n2:Ze Yir 86 [.sl rs.length (pc rs)] (.fresh 2 us.length (pc us))):Ze Yir 34 [.sl rs.length (pc rs)] (.tup [.sl us.length (pc us), .int .i64 0]):=Ze.go (fn:=Yi34) Zfo rfl 400 rfl [.r (.bool false), .b false, .r (.fresh 2 us.length (pc us))] (ac n1 (ac (show false=false from rfl) (ac n2 a0)))
end Go.Proofs.Ythnnfemologhfaa

namespace Go.Proofs.Ythnnfemologhfaa
open Go.IntKind (i64 u64 u32)
open Go.Ai
set_option maxRecDepth 100000
theorem Zd1 (na nb:Bool) (xs ys:List Int) (s t:Int) (c1:(decide (s<t))=true) (n1:Ze Yir 81 [.agg [.bool na, .sl xs.length (lm xs)]] (.int .i64 s)) (n2:Ze Yir 81 [.agg [.bool nb, .sl ys.length (lm ys)]] (.int .i64 t)):Ze Yir 135 [.agg [.bool na, .sl xs.length (lm xs)], .agg [.bool nb, .sl ys.length (lm ys)]] (.int .i64 (-1)):=Ze.go (fn:=Mq) Zk rfl 400 rfl [.r (.int .i64 s), .r (.int .i64 t), .b true] (ac n1 (ac n2 (ac c1 a0)))
theorem Zd0 (na nb:Bool) (xs ys:List Int) (s t:Int) (c1:(decide (s<t))=false) (c2:(decide (s>t))=true) (n1:Ze Yir 81 [.agg [.bool na, .sl xs.length (lm xs)]] (.int .i64 s)) (n2:Ze Yir 81 [.agg [.bool nb, .sl ys.length (lm ys)]] (.int .i64 t)):Ze Yir 135 [.agg [.bool na, .sl xs.length (lm xs)], .agg [.bool nb, .sl ys.length (lm ys)]] (.int .i64 1):=Ze.go (fn:=Mq) Zk rfl 400 rfl [.r (.int .i64 s), .r (.int .i64 t), .b false, .b true] (ac n1 (ac n2 (ac c1 (ac c2 a0))))
theorem Zdz (na nb:Bool) (xs ys:List Int) (s t c:Int) (c1:(decide (s<t))=false) (c2:(decide (s>t))=false) (c3:(decide (s<0))=true) (n1:Ze Yir 81 [.agg [.bool na, .sl xs.length (lm xs)]] (.int .i64 s)) (n2:Ze Yir 81 [.agg [.bool nb, .sl ys.length (lm ys)]] (.int .i64 t)) (n3:Ze Yir 125 [.sl xs.length (lm xs)] (.fresh 1 ((Zh xs).length) (lm (Zh xs)))) (n4:Ze Yir 125 [.sl ys.length (lm ys)] (.fresh 1 ((Zh ys).length) (lm (Zh ys)))) (n5:Ze Yir 139 [.sl ((Zh xs).length) (lm (Zh xs)), .sl ((Zh ys).length) (lm (Zh ys))] (.int .i64 c)):Ze Yir 135 [.agg [.bool na, .sl xs.length (lm xs)], .agg [.bool nb, .sl ys.length (lm ys)]] (.int .i64 (i64.wrap (0-c))):=Ze.go (fn:=Mq) Zk rfl 400 rfl [.r (.int .i64 s), .r (.int .i64 t), .b false, .b false, .r (.fresh 1 ((Zh xs).length) (lm (Zh xs))), .r (.fresh 1 ((Zh ys).length) (lm (Zh ys))), .r (.int .i64 c), .b true] (ac n1 (ac n2 (ac c1 (ac c2 (ac n3 (ac n4 (ac n5 (ac c3 a0))))))))
theorem Zdy (na nb:Bool) (xs ys:List Int) (s t c:Int) (c1:(decide (s<t))=false) (c2:(decide (s>t))=false) (c3:(decide (s<0))=false) (n1:Ze Yir 81 [.agg [.bool na, .sl xs.length (lm xs)]] (.int .i64 s)) (n2:Ze Yir 81 [.agg [.bool nb, .sl ys.length (lm ys)]] (.int .i64 t)) (n3:Ze Yir 125 [.sl xs.length (lm xs)] (.fresh 1 ((Zh xs).length) (lm (Zh xs)))) (n4:Ze Yir 125 [.sl ys.length (lm ys)] (.fresh 1 ((Zh ys).length) (lm (Zh ys)))) (n5:Ze Yir 139 [.sl ((Zh xs).length) (lm (Zh xs)), .sl ((Zh ys).length) (lm (Zh ys))] (.int .i64 c)):Ze Yir 135 [.agg [.bool na, .sl xs.length (lm xs)], .agg [.bool nb, .sl ys.length (lm ys)]] (.int .i64 c):=Ze.go (fn:=Mq) Zk rfl 400 rfl [.r (.int .i64 s), .r (.int .i64 t), .b false, .b false, .r (.fresh 1 ((Zh xs).length) (lm (Zh xs))), .r (.fresh 1 ((Zh ys).length) (lm (Zh ys))), .r (.int .i64 c), .b false] (ac n1 (ac n2 (ac c1 (ac c2 (ac n3 (ac n4 (ac n5 (ac c3 a0))))))))
theorem Zd5 (na nb m1 m2:Bool) (xs ys us vs:List Int) (d:Int) (c1:(m1)=true) (c2:(m2)=true) (n1:Ze Yir 122 [.agg [.bool na, .sl xs.length (lm xs)]] (.tup [.bool m1, .sl us.length (lm us)])) (n2:Ze Yir 122 [.agg [.bool nb, .sl ys.length (lm ys)]] (.tup [.bool m2, .sl vs.length (lm vs)])) (n3:Ze Yir 150 [.sl vs.length (lm vs), .sl us.length (lm us)] (.int .i64 d)):Ze Yir 134 [.agg [.bool na, .sl xs.length (lm xs)], .agg [.bool nb, .sl ys.length (lm ys)]] (.int .i64 d):=Ze.go (fn:=Mr) Zk rfl 400 rfl [.r (.tup [.bool m1, .sl us.length (lm us)]), .r (.tup [.bool m2, .sl vs.length (lm vs)]), .b true, .b false, .b true, .b false, .b true, .r (.int .i64 d)] (ac n1 (ac n2 (ac c1 (ac (show (!m2)=false from (by rw [c2];rfl)) (ac c2 (ac (show (!m1)=false from (by rw [c1];rfl)) (ac c1 (ac n3 a0))))))))
theorem Zd4 (na nb m1 m2:Bool) (xs ys us vs:List Int) (c1:(m1)=true) (c2:(m2)=false) (n1:Ze Yir 122 [.agg [.bool na, .sl xs.length (lm xs)]] (.tup [.bool m1, .sl us.length (lm us)])) (n2:Ze Yir 122 [.agg [.bool nb, .sl ys.length (lm ys)]] (.tup [.bool m2, .sl vs.length (lm vs)])):Ze Yir 134 [.agg [.bool na, .sl xs.length (lm xs)], .agg [.bool nb, .sl ys.length (lm ys)]] (.int .i64 (-1)):=Ze.go (fn:=Mr) Zk rfl 400 rfl [.r (.tup [.bool m1, .sl us.length (lm us)]), .r (.tup [.bool m2, .sl vs.length (lm vs)]), .b true, .b true] (ac n1 (ac n2 (ac c1 (ac (show (!m2)=true from (by rw [c2];rfl)) a0))))
theorem Zd3 (na nb m1 m2:Bool) (xs ys us vs:List Int) (c1:(m1)=false) (c2:(m2)=true) (n1:Ze Yir 122 [.agg [.bool na, .sl xs.length (lm xs)]] (.tup [.bool m1, .sl us.length (lm us)])) (n2:Ze Yir 122 [.agg [.bool nb, .sl ys.length (lm ys)]] (.tup [.bool m2, .sl vs.length (lm vs)])):Ze Yir 134 [.agg [.bool na, .sl xs.length (lm xs)], .agg [.bool nb, .sl ys.length (lm ys)]] (.int .i64 1):=Ze.go (fn:=Mr) Zk rfl 400 rfl [.r (.tup [.bool m1, .sl us.length (lm us)]), .r (.tup [.bool m2, .sl vs.length (lm vs)]), .b false, .b false, .b true, .b true] (ac n1 (ac n2 (ac c1 (ac (show false=false from rfl) (ac c2 (ac (show (!m1)=true from (by rw [c1];rfl)) a0))))))
theorem Zd2 (na nb m1 m2:Bool) (xs ys us vs:List Int) (c:Int) (c1:(m1)=false) (c2:(m2)=false) (n1:Ze Yir 122 [.agg [.bool na, .sl xs.length (lm xs)]] (.tup [.bool m1, .sl us.length (lm us)])) (n2:Ze Yir 122 [.agg [.bool nb, .sl ys.length (lm ys)]] (.tup [.bool m2, .sl vs.length (lm vs)])) (n3:Ze Yir 150 [.sl us.length (lm us), .sl vs.length (lm vs)] (.int .i64 c)):Ze Yir 134 [.agg [.bool na, .sl xs.length (lm xs)], .agg [.bool nb, .sl ys.length (lm ys)]] (.int .i64 c):=Ze.go (fn:=Mr) Zk rfl 400 rfl [.r (.tup [.bool m1, .sl us.length (lm us)]), .r (.tup [.bool m2, .sl vs.length (lm vs)]), .b false, .b false, .b false, .b false, .b false, .r (.int .i64 c)] (ac n1 (ac n2 (ac c1 (ac (show false=false from rfl) (ac c2 (ac (show false=false from rfl) (ac c1 (ac n3 a0))))))))
theorem Yrun98 (r t:Rn) (e f X Y c:Int) (n1:Ze Yir 124 [Z8 r, .int .i64 (i64.wrap ((if f>e then f else e)-e))] (Zp X)) (n2:Ze Yir 124 [Z8 t, .int .i64 (i64.wrap ((if f>e then f else e)-f))] (Zp Y)) (n3:Ze Yir 134 [Zp X,Zp Y] (.int .i64 c)):Ze Yir 98 [.agg [.bool r.1, .sl r.2.length (lm r.2), .int .i64 e], .agg [.bool t.1, .sl t.2.length (lm t.2), .int .i64 f]] (.int .i64 c):=Ze.go (fn:=Yi98) Zk rfl 400 rfl [.r (Zp X), .r (Zp Y), .r (.int .i64 c)] (ac n1 (ac n2 (ac n3 a0)))
theorem Zh5 (r:Rn) (e s:Int) (c1:(decide (e≥0))=true) (c2:(decide (e≤4096))=true) (n1:Ze Yir 76 [Z8 r] (.int .i64 s)):Ze Yir 97 [.agg [.bool r.1, .sl r.2.length (lm r.2), .int .i64 e]] (.bool (decide (s≤256))):=Ze.go (fn:=Zqn) Zk rfl 400 rfl [.b true, .b true, .r (.int .i64 s)] (ac c1 (ac c2 (ac n1 a0)))
theorem Zh4 (r:Rn) (e:Int) (c1:(decide (e≥0))=true) (c2:(decide (e≤4096))=false):Ze Yir 97 [.agg [.bool r.1, .sl r.2.length (lm r.2), .int .i64 e]] (.bool false):=Ze.go (fn:=Zqn) Zk rfl 400 rfl [.b true, .b false] (ac c1 (ac c2 a0))
theorem Zh3 (r:Rn) (e:Int) (c1:(decide (e≥0))=false):Ze Yir 97 [.agg [.bool r.1, .sl r.2.length (lm r.2), .int .i64 e]] (.bool false):=Ze.go (fn:=Zqn) Zk rfl 400 rfl [.b false, .b false] (ac c1 (ac (show false=false from rfl) a0))
theorem Znk (r t:Rn) (e f X Y c:Int) (n1:Ze Yir 126 [Z8 r, .int .i64 f] (E4 X)) (n2:Ze Yir 126 [Z8 t, .int .i64 e] (E4 Y)) (n3:Ze Yir 135 [Zp X,Zp Y] (.int .i64 c)):Ze Yir 102 [.agg [.bool r.1, .sl r.2.length (lm r.2), .int .i64 e], .agg [.bool t.1, .sl t.2.length (lm t.2), .int .i64 f]] (.int .i64 c):=Ze.go (fn:=Ze4) Zk rfl 400 rfl [.r (E4 X), .r (E4 Y), .r (.int .i64 c)] (ac n1 (ac n2 (ac n3 a0)))
end Go.Proofs.Ythnnfemologhfaa

namespace Go.Proofs.Ythnnfemologhfaa
open Go.IntKind (i64 u64 u32)
open Go.Ai
set_option maxRecDepth 100000
theorem cmp_sg {a b X Y:Int} (ha:a=X∨a = -X) (hb:b=Y∨b = -Y) (hX:0≤X) (hY:0≤Y) :
  (Vc a<Vc b→Ux a b = -1)∧(Vc a>Vc b→Ux a b=1)∧(¬ Vc a<Vc b→¬ Vc a>Vc b→(Vc a<0→Ux a b = -Ux X Y)∧(¬ Vc a<0→Ux a b=Ux X Y)):=by
 unfold Vc Ux
 grind
theorem Zmw (a b:Int) : -1≤Ux a b∧Ux a b≤1:=by unfold Ux;grind
theorem rv_or (neg:Bool) (xs:List Int):rv neg xs=Zo xs∨rv neg xs = -Zo xs:=by unfold rv;cases neg <;> simp
theorem Zgu {na nb:Bool} {xs ys:List Int} (hx:U32 xs) (hy:U32 ys) (h1:xs.length≤1048576) (h2:ys.length≤1048576):Ze Yir 135 [.agg [.bool na, .sl xs.length (lm xs)], .agg [.bool nb, .sl ys.length (lm ys)]] (.int .i64 (Ux (rv na xs) (rv nb ys))):=by
 obtain⟨a1,a2,a3⟩:=cmp_sg (rv_or na xs) (rv_or nb ys) (Z3 hx) (Z3 hy)
 have s1:=Dq (neg:=na) hx h1
 have s2:=Dq (neg:=nb) hy h2
 by_cases c1:Vc (rv na xs)<Vc (rv nb ys)
 ·rw[a1 c1]
  exact Zd1 na nb xs ys _ _ (by rw[decide_eq_true_eq];exact c1) s1 s2
 by_cases c2:Vc (rv na xs)>Vc (rv nb ys)
 ·rw[a2 c2]
  exact Zd0 na nb xs ys _ _ (by rw[decide_eq_false_iff_not];exact c1) (by rw[decide_eq_true_eq];exact c2) s1 s2
 obtain⟨a4,a5⟩:=a3 c1 c2
 have t1:=Qz xs
 have t2:=Qz ys
 have hc:=Tj (V1 hx) (V1 hy) (by omega)
 rw[Hn,Hn] at hc
 by_cases c3:Vc (rv na xs)<0
 ·have hb:=Zmw (Zo xs) (Zo ys)
  have k:=Zdz na nb xs ys _ _ _ (by rw[decide_eq_false_iff_not];exact c1) (by rw[decide_eq_false_iff_not];exact c2) (by rw[decide_eq_true_eq];exact c3) s1 s2 (Ws h1) (Ws h2) hc
  rw[w64 (by omega) (by omega),Int.zero_sub] at k
  rw[a4 c3]
  exact k
 ·rw[a5 c3]
  exact Zdy na nb xs ys _ _ _ (by rw[decide_eq_false_iff_not];exact c1) (by rw[decide_eq_false_iff_not];exact c2) (by rw[decide_eq_false_iff_not];exact c3) s1 s2 (Ws h1) (Ws h2) hc
theorem Zf6 {na nb:Bool} {xs ys:List Int} (hx:U32 xs) (hy:U32 ys) (h1:xs.length≤1048576) (h2:ys.length≤1048576):Ze Yir 134 [.agg [.bool na, .sl xs.length (lm xs)], .agg [.bool nb, .sl ys.length (lm ys)]] (.int .i64 (Ux (rv na xs) (rv nb ys))):=by
 have s1:=Q8 (neg:=na) hx h1
 have s2:=Q8 (neg:=nb) hy h2
 have l1:=Uy (neg:=na) hx
 have l2:=Uy (neg:=nb) hy
 have k1:=Vh (Qr (rv na xs).natAbs) (Qr (rv nb ys).natAbs) (by omega)
 have k2:=Vh (Qr (rv nb ys).natAbs) (Qr (rv na xs).natAbs) (by omega)
 rw[Jx,Jx] at k1 k2
 by_cases c1:rv na xs<0
 ·by_cases c2:rv nb ys<0
  ·have e:Ux (rv na xs) (rv nb ys)=Ux ((rv nb ys).natAbs:Int) ((rv na xs).natAbs:Int):=by unfold Ux;grind
   rw[e]
   exact Zd5 na nb _ _ xs ys _ _ _ (decide_eq_true c1) (decide_eq_true c2) s1 s2 k2
  ·have e:Ux (rv na xs) (rv nb ys) = -1:=by unfold Ux;grind
   rw[e]
   exact Zd4 na nb _ _ xs ys _ _ (decide_eq_true c1) (decide_eq_false c2) s1 s2
 ·by_cases c2:rv nb ys<0
  ·have e:Ux (rv na xs) (rv nb ys)=1:=by unfold Ux;grind
   rw[e]
   exact Zd3 na nb _ _ xs ys _ _ (decide_eq_false c1) (decide_eq_true c2) s1 s2
  ·have e:Ux (rv na xs) (rv nb ys)=Ux ((rv na xs).natAbs:Int) ((rv nb ys).natAbs:Int):=by unfold Ux;grind
   rw[e]
   exact Zd2 na nb _ _ xs ys _ _ _ (decide_eq_false c1) (decide_eq_false c2) s1 s2 k1
end Go.Proofs.Ythnnfemologhfaa

namespace Go.Proofs.Ythnnfemologhfaa
open Go.IntKind (i64 u64 u32)
open Go.Ai
set_option maxRecDepth 100000
def dyA (n e:Int):AV := .agg [.bool (decide (n<0)), .sl (Zb n.natAbs).length (lm (Zb n.natAbs)), .int .i64 e]
end Go.Proofs.Ythnnfemologhfaa

namespace Go.Proofs.Ythnnfemologhfaa
open Go.IntKind (i64 u64 u32)
open Go.Ai
set_option maxRecDepth 100000
theorem ax0:Ze Yir 52 [.sl 3 [.int .i64 (-2), .int .i64 0, .int .i64 1]] (.fresh 2 3 [.bool true, .sl 1 [.int .u32 2], .bool false, .sl 0 [], .bool false, .sl 1 [.int .u32 1]]):=Zr Qa (Zg _) 400 _ _ _ (by kernel_rfl)
theorem ax1:Ze Yir 52 [.sl 3 [.int .i64 0, .int .i64 (-1), .int .i64 1]] (.fresh 2 3 [.bool false, .sl 0 [], .bool true, .sl 1 [.int .u32 1], .bool false, .sl 1 [.int .u32 1]]):=Zr Qa (Zg _) 400 _ _ _ (by kernel_rfl)
theorem ax2:Ze Yir 92 [.sl 3 [.bool true, .sl 1 [.int .u32 2], .bool false, .sl 0 [], .bool false, .sl 1 [.int .u32 1]]] (.fresh 2 3 [.bool true, .sl 1 [.int .u32 2], .bool false, .sl 0 [], .bool false, .sl 1 [.int .u32 1]]):=Zr Qa (Zg _) 400 _ _ _ (by kernel_rfl)
theorem ax3:Ze Yir 109 [.agg [.bool false, .sl 0 []], .agg [.bool false, .sl 1 [.int .u32 1]]] (.agg [.bool false, .sl 1 [.int .u32 1]]):=Zr Qa (Zg _) 400 _ _ _ (by kernel_rfl)
theorem ax4:Ze Yir 34 [.sl 3 [.bool true, .sl 1 [.int .u32 2], .bool false, .sl 0 [], .bool false, .sl 1 [.int .u32 1]]] (.tup [.sl 3 [.bool true, .sl 1 [.int .u32 2], .bool false, .sl 0 [], .bool false, .sl 1 [.int .u32 1]], .int .i64 0]):=Zr Qa (Zd ax3 (Zd ax2 (Zg _))) 400 _ _ _ (by kernel_rfl)
theorem ax5:Ze Yir 75 [.sl 3 [.bool true, .sl 1 [.int .u32 2], .bool false, .sl 0 [], .bool false, .sl 1 [.int .u32 1]]] (.fresh 2 2 [.bool false, .sl 0 [], .bool false, .sl 1 [.int .u32 2]]):=Zr Qa (Zg _) 400 _ _ _ (by kernel_rfl)
theorem ax6:Ze Yir 109 [.agg [.bool false, .sl 0 []], .agg [.bool false, .sl 1 [.int .u32 2]]] (.agg [.bool false, .sl 1 [.int .u32 2]]):=Zr Qa (Zg _) 400 _ _ _ (by kernel_rfl)
theorem ax7:Ze Yir 85 [.sl 2 [.bool false, .sl 0 [], .bool false, .sl 1 [.int .u32 2]]] (.agg [.bool false, .sl 1 [.int .u32 2]]):=Zr Qa (Zd ax6 (Zg _)) 400 _ _ _ (by kernel_rfl)
theorem ax8:Ze Yir 86 [.sl 2 [.bool false, .sl 0 [], .bool false, .sl 1 [.int .u32 2]]] (.fresh 2 2 [.bool false, .sl 0 [], .bool false, .sl 1 [.int .u32 1]]):=Zr Qa (Zd ax7 (Zg _)) 400 _ _ _ (by kernel_rfl)
theorem ax9:Ze Yir 86 [.sl 2 [.bool false, .sl 0 [], .bool false, .sl 1 [.int .u32 1]]] (.fresh 2 2 [.bool false, .sl 0 [], .bool false, .sl 1 [.int .u32 1]]):=Zr Qa (Zd ax3 (Zg _)) 400 _ _ _ (by kernel_rfl)
theorem ax10:Ze Yir 109 [.agg [.bool false, .sl 1 [.int .u32 1]], .agg [.bool false, .sl 1 [.int .u32 1]]] (.agg [.bool false, .sl 1 [.int .u32 1]]):=Zr Qa (Zg _) 400 _ _ _ (by kernel_rfl)
theorem ax11:Ze Yir 92 [.sl 3 [.bool true, .sl 1 [.int .u32 2], .bool false, .sl 0 [], .bool false, .sl 0 []]] (.fresh 2 1 [.bool true, .sl 1 [.int .u32 2]]):=Zr Qa (Zg _) 400 _ _ _ (by kernel_rfl)
theorem ax12:Ze Yir 109 [.agg [.bool false, .sl 0 []], .agg [.bool true, .sl 1 [.int .u32 2]]] (.agg [.bool false, .sl 1 [.int .u32 2]]):=Zr Qa (Zg _) 400 _ _ _ (by kernel_rfl)
theorem ax13:Ze Yir 86 [.sl 3 [.bool true, .sl 1 [.int .u32 2], .bool false, .sl 0 [], .bool false, .sl 0 []]] (.fresh 2 1 [.bool true, .sl 1 [.int .u32 1]]):=Zr Qa (Zd ax12 (Zd ax11 (Zg _))) 400 _ _ _ (by kernel_rfl)
theorem ax14:Ze Yir 64 [.sl 3 [.bool true, .sl 1 [.int .u32 2], .bool false, .sl 0 [], .bool false, .sl 1 [.int .u32 1]], .sl 2 [.bool false, .sl 0 [], .bool false, .sl 1 [.int .u32 1]]] (.fresh 2 1 [.bool true, .sl 1 [.int .u32 1]]):=Zr Qa (Zd ax13 (Zd ax10 (Zd ax9 (Zd ax3 (Zd ax2 (Zg _)))))) 400 _ _ _ (by kernel_rfl)
theorem ax15:Ze Yir 109 [.agg [.bool false, .sl 0 []], .agg [.bool true, .sl 1 [.int .u32 1]]] (.agg [.bool false, .sl 1 [.int .u32 1]]):=Zr Qa (Zg _) 400 _ _ _ (by kernel_rfl)
theorem ax16:Ze Yir 86 [.sl 1 [.bool true, .sl 1 [.int .u32 1]]] (.fresh 2 1 [.bool true, .sl 1 [.int .u32 1]]):=Zr Qa (Zd ax15 (Zg _)) 400 _ _ _ (by kernel_rfl)
theorem ax17:Ze Yir 109 [.agg [.bool true, .sl 1 [.int .u32 1]], .agg [.bool false, .sl 1 [.int .u32 1]]] (.agg [.bool false, .sl 1 [.int .u32 1]]):=Zr Qa (Zg _) 400 _ _ _ (by kernel_rfl)
theorem ax18:Ze Yir 64 [.sl 2 [.bool false, .sl 0 [], .bool false, .sl 1 [.int .u32 1]], .sl 1 [.bool true, .sl 1 [.int .u32 1]]] (.fresh 2 0 []):=Zr Qa (Zd ax17 (Zd ax16 (Zd ax9 (Zg _)))) 400 _ _ _ (by kernel_rfl)
theorem ax19:Ze Yir 65 [.sl 3 [.bool true, .sl 1 [.int .u32 2], .bool false, .sl 0 [], .bool false, .sl 1 [.int .u32 1]], .sl 2 [.bool false, .sl 0 [], .bool false, .sl 1 [.int .u32 2]]] (.fresh 2 1 [.bool false, .sl 1 [.int .u32 1]]):=Zr Qa (Zd ax18 (Zd ax14 (Zd ax8 (Zd ax3 (Zd ax2 (Zg _)))))) 400 _ _ _ (by kernel_rfl)
theorem ax20:Ze Yir 66 [.sl 3 [.bool true, .sl 1 [.int .u32 2], .bool false, .sl 0 [], .bool false, .sl 1 [.int .u32 1]]] (.sl 3 [.bool true, .sl 1 [.int .u32 2], .bool false, .sl 0 [], .bool false, .sl 1 [.int .u32 1]]):=Zr Qa (Zd ax19 (Zd ax5 (Zd ax3 (Zd ax2 (Zg _))))) 400 _ _ _ (by kernel_rfl)
theorem ax21:Ze Yir 86 [.sl 1 [.bool false, .sl 1 [.int .u32 1]]] (.fresh 2 1 [.bool false, .sl 1 [.int .u32 1]]):=Zr Qa (Zd ax3 (Zg _)) 400 _ _ _ (by kernel_rfl)
theorem ax22:Ze Yir 64 [.sl 2 [.bool false, .sl 0 [], .bool false, .sl 1 [.int .u32 1]], .sl 1 [.bool false, .sl 1 [.int .u32 1]]] (.fresh 2 0 []):=Zr Qa (Zd ax21 (Zd ax10 (Zd ax9 (Zg _)))) 400 _ _ _ (by kernel_rfl)
theorem ax23:Ze Yir 98 [.agg [.bool false, .sl 0 [], .int .i64 0], .agg [.bool false, .sl 1 [.int .u32 2], .int .i64 0]] (.int .i64 (-1)):=Zr Qa (Zg _) 400 _ _ _ (by kernel_rfl)
theorem ax24:Ze Yir 78 [.sl 3 [.bool true, .sl 1 [.int .u32 2], .bool false, .sl 0 [], .bool false, .sl 1 [.int .u32 1]], .agg [.bool false, .sl 0 [], .int .i64 0]] (.int .i64 (-1)):=Zr Qa (Zg _) 400 _ _ _ (by kernel_rfl)
theorem ax25:Ze Yir 78 [.sl 2 [.bool false, .sl 0 [], .bool false, .sl 1 [.int .u32 1]], .agg [.bool false, .sl 0 [], .int .i64 0]] (.int .i64 0):=Zr Qa (Zg _) 400 _ _ _ (by kernel_rfl)
theorem ax26:Ze Yir 78 [.sl 1 [.bool false, .sl 1 [.int .u32 1]], .agg [.bool false, .sl 0 [], .int .i64 0]] (.int .i64 1):=Zr Qa (Zg _) 400 _ _ _ (by kernel_rfl)
theorem ax27:Ze Yir 78 [.sl 3 [.bool true, .sl 1 [.int .u32 2], .bool false, .sl 0 [], .bool false, .sl 1 [.int .u32 1]], .agg [.bool false, .sl 1 [.int .u32 2], .int .i64 0]] (.int .i64 1):=Zr Qa (Zg _) 400 _ _ _ (by kernel_rfl)
theorem ax28:Ze Yir 78 [.sl 2 [.bool false, .sl 0 [], .bool false, .sl 1 [.int .u32 1]], .agg [.bool false, .sl 1 [.int .u32 2], .int .i64 0]] (.int .i64 1):=Zr Qa (Zg _) 400 _ _ _ (by kernel_rfl)
theorem ax29:Ze Yir 78 [.sl 1 [.bool false, .sl 1 [.int .u32 1]], .agg [.bool false, .sl 1 [.int .u32 2], .int .i64 0]] (.int .i64 1):=Zr Qa (Zg _) 400 _ _ _ (by kernel_rfl)
theorem ax30:Ze Yir 50 [.sl 3 [.bool true, .sl 1 [.int .u32 2], .bool false, .sl 0 [], .bool false, .sl 1 [.int .u32 1]], .agg [.bool false, .sl 0 [], .int .i64 0], .agg [.bool false, .sl 1 [.int .u32 2], .int .i64 0]] (.tup [.int .i64 1, .int .i64 0]):=Zr Qa (Zd ax29 (Zd ax28 (Zd ax27 (Zd ax26 (Zd ax25 (Zd ax24 (Zd ax23 (Zd ax22 (Zd ax20 (Zd ax14 (Zd ax8 (Zd ax5 (Zd ax4 (Zg _)))))))))))))) 400 _ _ _ (by kernel_rfl)
theorem ax31:Ze Yir 92 [.sl 3 [.bool false, .sl 0 [], .bool true, .sl 1 [.int .u32 1], .bool false, .sl 1 [.int .u32 1]]] (.fresh 2 3 [.bool false, .sl 0 [], .bool true, .sl 1 [.int .u32 1], .bool false, .sl 1 [.int .u32 1]]):=Zr Qa (Zg _) 400 _ _ _ (by kernel_rfl)
theorem ax32:Ze Yir 34 [.sl 3 [.bool false, .sl 0 [], .bool true, .sl 1 [.int .u32 1], .bool false, .sl 1 [.int .u32 1]]] (.tup [.sl 3 [.bool false, .sl 0 [], .bool true, .sl 1 [.int .u32 1], .bool false, .sl 1 [.int .u32 1]], .int .i64 0]):=Zr Qa (Zd ax31 (Zd ax3 (Zg _))) 400 _ _ _ (by kernel_rfl)
theorem ax33:Ze Yir 75 [.sl 3 [.bool false, .sl 0 [], .bool true, .sl 1 [.int .u32 1], .bool false, .sl 1 [.int .u32 1]]] (.fresh 2 2 [.bool true, .sl 1 [.int .u32 1], .bool false, .sl 1 [.int .u32 2]]):=Zr Qa (Zg _) 400 _ _ _ (by kernel_rfl)
end Go.Proofs.Ythnnfemologhfaa
