/- Texts of the proof of SturmCounts, packed by pack.py: part 15 of 19. -/
import Derived.Test.YthnnfemologhfaaScn14
namespace Go.Ai
open Go.IntKind (i64 u64 u32)
def Dv (g t:List Int):Prop:=∃ (c:Int) (k:List Int),c ≠ 0∧∀ x,c*Zg t x=Zg g x*Zg k x
theorem Dv.refl (g:List Int):Dv g g:=⟨1,[1],by decide,fun x=>by simp [Zg]⟩
theorem Dv.zero (g:List Int):Dv g []:=⟨1,[],by decide,fun x=>by simp [Zg]⟩
theorem Dv.trans {a b c:List Int} (h1:Dv a b) (h2:Dv b c):Dv a c:=by
 obtain⟨m,k,hm,h⟩:=h1
 obtain⟨n,l,hn,g⟩:=h2
 refine⟨m*n,Ut k l,Int.mul_ne_zero hm hn,fun x => ?_⟩
 have h':=h x;have g':=g x
 rw[Qb,Int.mul_assoc,g']
 rw[← Int.mul_assoc,h']
 grind
theorem Dv.comb {g s t r:List Int} {m:Int} (u v:List Int) (hm:m ≠ 0) (h1:Dv g s) (h2:Dv g t) (h:∀ x,m*Zg r x=Zg u x*Zg s x+Zg v x*Zg t x):Dv g r:=by
 obtain⟨c,k,hc,hk⟩:=h1
 obtain⟨d,l,hd,hl⟩:=h2
 refine⟨c*d*m,Bc (Zy d (Ut u k)) (Zy c (Ut v l)),Int.mul_ne_zero (Int.mul_ne_zero hc hd) hm,fun x => ?_⟩
 rw[Jh,Zr,Zr,Qb,Qb]
 have a:=hk x;have b:=hl x;have e:=h x
 rw[Int.mul_assoc,e]
 generalize Zg s x=s at *
 generalize Zg t x=t at *
 generalize Zg g x=g at *
 generalize Zg k x=k at *
 generalize Zg l x=l at *
 generalize Zg u x=u at *
 generalize Zg v x=v at *
 have e1:c*d*(u*s+v*t)=d*u*(c*s)+c*v*(d*t):=by grind
 rw[e1,a,b];grind
theorem Dv.scaled {g s r:List Int} {m n:Int} (hm:m ≠ 0) (h1:Dv g s) (h:∀ x,m*Zg r x=n*Zg s x):Dv g r :=
 Dv.comb [n] [] hm h1 h1 fun x=>by rw[h x];simp[Zg]
theorem Dv.left {g f t:List Int} {m n:Int} (_:m ≠ 0) (hn:n ≠ 0) (h1:Dv g t) (h:∀ x,m*Zg f x=n*Zg g x):Dv f t:=by
 obtain⟨c,k,hc,hk⟩:=h1
 refine⟨n*c,Zy m k,Int.mul_ne_zero hn hc,fun x => ?_⟩
 have a:=hk x;have b:=h x
 rw[Zr]
 have e1:n*c*Zg t x=n*(c*Zg t x):=by grind
 rw[e1,a]
 have e2:n*(Zg g x*Zg k x)=(n*Zg g x)*Zg k x:=by grind
 rw[e2,← b];grind
theorem Dv.mul_right {g s:List Int} (t:List Int) (h:Dv g s) {r:List Int} (hr:∀ x,Zg r x=Zg s x*Zg t x):Dv g r :=
 Dv.comb (m:=1) t [] (by decide) h h fun x=>by rw[hr x];simp[Zg];grind
theorem Ug {p:List Int} (h:Vm p) (h0:p ≠ []):Zc p ≠ []:=by rw [h];exact h0
theorem Nz {p q:List Int} (hp:Zc p ≠ []) (hq:Zc q ≠ []):(Zc (Ut p q)).length=(Zc p).length+(Zc q).length-1:=by
 have e:Zc (Ut p q)=Zc (Ut (Zc p) (Zc q)):=Wh fun x=>by rw[Qb,Qb,Vo,Vo]
 rw[e]
 have lp:=Kw p
 have lq:=Kw q
 generalize Zc p=P at *
 generalize Zc q=Q at *
 have h1:=List.length_pos_iff.2 hp
 have h2:=List.length_pos_iff.2 hq
 obtain⟨t1,t2⟩:=Ba P Q hp hq
 have t3:(Ut P Q).getD (P.length+Q.length-2) 0 ≠ 0:=by rw[t1];exact Int.mul_ne_zero (Vk lp hp) (Vk lq hq)
 rw[M5]
 have a1:¬ (Ut P Q).length≤P.length+Q.length-2:=fun h=>t3 (Qt h)
 have a2:¬ P.length+Q.length-1<(Ut P Q).length:=fun h=>by
  have hne:Ut P Q ≠ []:=by intro h0;rw[h0] at h;simp at h
  exact Vk (show Vm (Ut P Q) from M5 P Q) hne (t2 _ (by omega))
 omega
theorem Ru {p q:List Int} (hp:Zc p ≠ []) (h:∀ x,Zg p x*Zg q x=0):∀ x,Zg q x=0:=by
 intro x
 by_cases hq:Zc q=[]
 ·exact Js hq x
 ·have h1:=Nz hp hq
  have h2:Zc (Ut p q)=Zc []:=Wh fun x=>by rw[Qb,h x];rfl
  rw[h2] at h1
  have:=List.length_pos_iff.2 hp
  have:=List.length_pos_iff.2 hq
  have h0:(Zc []).length=0:=rfl
  rw[h0] at h1
  omega
theorem Lv {p:List Int} (hp:Zc p ≠ []) (q r:List Int) (h:∀ x,Zg p x*Zg q x=Zg p x*Zg r x):∀ x,Zg q x=Zg r x:=by
 intro x
 have:=Ru (q:=Zbn q r) hp (fun x=>by rw[Xz,Int.mul_sub,h x];omega) x
 rw[Xz] at this
 omega
theorem Dv.length {g t:List Int} (h:Dv g t) (ht:Zc t ≠ []):(Zc g).length≤(Zc t).length∧Zc g ≠ []:=by
 obtain⟨c,k,hc,hk⟩:=h
 have e:Zc (Zy c t)=Zc (Ut g k):=Wh fun x=>by rw[Zr,Qb];exact hk x
 rw[K7 hc] at e
 have e2:=congrArg List.length e
 rw[Zw] at e2
 have ht1:=List.length_pos_iff.2 ht
 by_cases hg:Zc g=[]
 ·have:Zc (Ut g k)=Zc []:=Wh fun x=>by rw[Qb,Js hg];simp[Zg]
  have h0:(Zc []).length=0:=rfl
  rw[this,h0] at e2
  omega
 ·by_cases hk0:Zc k=[]
  ·have:Zc (Ut g k)=Zc []:=Wh fun x=>by rw[Qb,Js hk0];simp[Zg]
   have h0:(Zc []).length=0:=rfl
   rw[this,h0] at e2
   omega
  ·rw[Nz hg hk0] at e2
   have:=List.length_pos_iff.2 hk0
   exact⟨by omega,hg⟩
def IsG (g s t:List Int):Prop:=Dv g s∧Dv g t∧∃ (c:Int) (u v:List Int),c ≠ 0∧∀ x,c*Zg g x=Zg u x*Zg s x+Zg v x*Zg t x
theorem IsG.comm {g s t:List Int} (h:IsG g s t):IsG g t s:=by
 obtain⟨a,b,c,u,v,hc,h⟩:=h
 exact⟨b,a,c,v,u,hc,fun x=>by rw[h x];omega⟩
theorem IsG.dv {g s t f:List Int} (h:IsG g s t) (h1:Dv f s) (h2:Dv f t):Dv f g:=by
 obtain⟨_,_,c,u,v,hc,h⟩:=h
 exact Dv.comb u v hc h1 h2 h
theorem IsG.start (s:List Int):IsG s s []:=⟨Dv.refl s,Dv.zero s,1,[1],[],by decide,fun x=>by simp [Zg]⟩
theorem IsG.length {f g s t:List Int} (h1:IsG f s t) (h2:IsG g s t) (hf:Zc f ≠ []):(Zc f).length=(Zc g).length:=by
 have a:=(h1.dv h2.1 h2.2.1).length hf
 have b:=(h2.dv h1.1 h1.2.1).length a.2
 omega
theorem IsG.step {g r d e q:List Int} {a m:Int} (ha:a ≠ 0) (hm:m ≠ 0) (hr:∀ x,a*Zg r x=Zg q x*Zg d x+m*Zg e x) (h:IsG g d e):IsG g r d:=by
 obtain⟨h1,h2,c,u,v,hc,h⟩:=h
 refine⟨Dv.comb q [m] ha h1 h2 (fun x=>by rw[hr x];simp[Zg]),h1,c*m,Zy a v,Zbn (Zy m u) (Ut v q),Int.mul_ne_zero hc hm,fun x => ?_⟩
 have e1:=hr x;have e2:=h x
 rw[Zr,Xz,Zr,Qb]
 generalize Zg g x=g at *
 generalize Zg d x=d at *
 generalize Zg e x=e at *
 generalize Zg r x=r at *
 generalize Zg q x=q at *
 generalize Zg u x=u at *
 generalize Zg v x=v at *
 have e3:c*m*g=m*(c*g):=by grind
 rw[e3,e2]
 have e4:a*v*r=v*(a*r):=by grind
 rw[e4,e1];grind
theorem IsG.scaled {g s t s' t':List Int} {m n k l:Int} (hm:m ≠ 0) (hn:n ≠ 0) (hk:k ≠ 0) (hl:l ≠ 0) (h1:∀ x,m*Zg s' x=n*Zg s x) (h2:∀ x,k*Zg t' x=l*Zg t x) (h:IsG g s t):IsG g s' t':=by
 obtain⟨a,b,c,u,v,hc,h⟩:=h
 refine⟨a.scaled hm h1,b.scaled hk h2,c*(n*l),Zy (m*l) u,Zy (k*n) v,Int.mul_ne_zero hc (Int.mul_ne_zero hn hl),fun x => ?_⟩
 have e1:=h1 x;have e2:=h2 x;have e3:=h x
 rw[Zr,Zr]
 generalize Zg g x=g at *
 generalize Zg s x=s at *
 generalize Zg t x=t at *
 generalize Zg s' x=s' at *
 generalize Zg t' x=t' at *
 generalize Zg u x=u at *
 generalize Zg v x=v at *
 have e4:c*(n*l)*g=n*l*(c*g):=by grind
 rw[e4,e3]
 have e5:m*l*u*s'=l*u*(m*s'):=by grind
 have e6:k*n*v*t'=n*v*(k*t'):=by grind
 rw[e5,e6,e1,e2];grind
theorem IsG.gscaled {g g' s t:List Int} {m n:Int} (hm:m ≠ 0) (hn:n ≠ 0) (h1:∀ x,m*Zg g' x=n*Zg g x) (h:IsG g s t):IsG g' s t:=by
 obtain⟨a,b,c,u,v,hc,h⟩:=h
 refine⟨a.left hm hn h1,b.left hm hn h1,c*m,Zy n u,Zy n v,Int.mul_ne_zero hc hm,fun x => ?_⟩
 have e1:=h1 x;have e2:=h x
 rw[Zr,Zr,Int.mul_assoc,e1]
 have e3:c*(n*Zg g x)=n*(c*Zg g x):=by grind
 rw[e3,e2];grind
theorem IsG.mul {d p q:List Int} (c:List Int) {d' p' q':List Int} (hd:∀ x,Zg d' x=Zg c x*Zg d x) (hp:∀ x,Zg p' x=Zg c x*Zg p x) (hq:∀ x,Zg q' x=Zg c x*Zg q x) (h:IsG d p q):IsG d' p' q':=by
 obtain⟨⟨m,k,hm,hk⟩,⟨n,l,hn,hl⟩,e,u,v,he,h⟩:=h
 refine⟨⟨m,k,hm,fun x => ?_⟩,⟨n,l,hn,fun x => ?_⟩,e,u,v,he,fun x => ?_⟩
 ·have:=hk x;rw[hd,hp];grind
 ·have:=hl x;rw[hd,hq];grind
 ·have:=h x;rw[hd,hp,hq];grind
theorem Ku (p:List Int):∃ m:Int,m ≠ 0∧∀ x,Zg p x=m*Zg (prim p) x:=by
 by_cases h:Zc p=[]
 ·refine⟨1,by decide,fun x => ?_⟩
  rw[Js h,Un.2 (Xa.1 h)];rfl
 ·have:=Hk h
  refine⟨(Jc p:Int),by omega,fun x => ?_⟩
  rw[← Zr,K9,Vo]
theorem Zbo {r d:List Int} (hl:d.length≤r.length) (ht:top d ≠ 0):∃ (a m:Int) (q:List Int),a ≠ 0∧m ≠ 0∧∀ x,a*Zg r x=Zg q x*Zg d x+m*Zg (Um r d) x:=by
 obtain⟨m,hm,h⟩:=Ku (Ur r d ((top d).natAbs:Int) (sg (top d)*top r) r.length)
 refine⟨((top d).natAbs:Int),m,Vr (r.length-d.length) [sg (top d)*top r],by omega,hm,fun x => ?_⟩
 have h1:=h x
 rw[Lo hl] at h1
 have e:Zg (Um r d) x=Zg (prim (Ur r d ((top d).natAbs:Int) (sg (top d)*top r) r.length)) x:=rfl
 rw[e,← h1,V8]
 simp only[Zg]
 grind
theorem Zbf {d:List Int} (ht:top d ≠ 0):∀ (f:Nat) (r:List Int),∃ (a m:Int) (q:List Int),a ≠ 0∧m ≠ 0∧∀ x,a*Zg r x=Zg q x*Zg d x+m*Zg (Vj f r d) x:=by
 intro f
 induction f with
 | zero=>intro r;exact⟨1,1,[],by decide,by decide,fun x=>by simp[Zg,Vj]⟩
 | succ f ih =>
  intro r
  simp only[Vj]
  split
  ·rename_i hl
   obtain⟨a,m,q,ha,hm,h⟩:=Zbo hl ht
   obtain⟨b,n,s,hb,hn,g⟩:=ih (Um r d)
   refine⟨b*a,m*n,Bc (Zy b q) (Zy m s),Int.mul_ne_zero hb ha,Int.mul_ne_zero hm hn,fun x => ?_⟩
   have h':=h x;have g':=g x
   rw[Jh,Zr,Zr,Int.mul_assoc,h']
   generalize Zg (Vj f (Um r d) d) x=z at *
   generalize Zg (Um r d) x=y at *
   have e:b*(Zg q x*Zg d x+m*y)=b*(Zg q x*Zg d x)+m*(b*y):=by grind
   rw[e,g'];grind
  ·exact⟨1,1,[],by decide,by decide,fun x=>by simp[Zg]⟩
theorem M9:∀ (f:Nat) (x y:List Int),y.length≤f→y.length≤x.length→Vm x→Vm y→IsG (H8 f x y) x y:=by
 intro f
 induction f with
 | zero =>
  intro x y h1 _ _ _
  have:y=[]:=List.eq_nil_of_length_eq_zero (by omega)
  subst this
  exact IsG.start x
 | succ f ih =>
  intro x y h1 h2 lx ly
  simp only[H8]
  split
  ·rename_i h;subst h;exact IsG.start x
  ·rename_i h
   have ht:top y ≠ 0:=Vk ly h
   obtain⟨r1,r2,_⟩:=T2 h (K:=Nat.max 1 (y.map Int.natAbs).sum) (fun i=>by
    have h3:(y.getD i 0).natAbs≤(y.map Int.natAbs).sum:=by
     clear ht h h1 h2 ly ih
     induction y generalizing i with
     | nil=>simp
     | cons c y ih => 
      cases i with
      | zero=>simp
      | succ i=>have:=ih i;simp at this ⊢;omega
    unfold Jg
    have h4:(y.map Int.natAbs).sum≤Nat.max 1 (y.map Int.natAbs).sum:=Nat.le_max_right _ _
    exact Nat.lt_of_le_of_lt (Nat.le_trans h3 h4) (Nat.lt_pow_self (by decide))) x.length x (Nat.max 1 (x.map Int.natAbs).sum) (Nat.le_refl _) lx (fun i=>by
    have h3:(x.getD i 0).natAbs≤(x.map Int.natAbs).sum:=by
     clear ht h h1 h2 lx ih
     induction x generalizing i with
     | nil=>simp
     | cons c y ih => 
      cases i with
      | zero=>simp
      | succ i=>have:=ih i;simp at this ⊢;omega
    unfold Jg
    have h4:(x.map Int.natAbs).sum≤Nat.max 1 (x.map Int.natAbs).sum:=Nat.le_max_right _ _
    exact Nat.lt_of_le_of_lt (Nat.le_trans h3 h4) (Nat.lt_pow_self (by decide)))
   obtain⟨a,m,q,ha,hm,e⟩:=Zbf ht x.length x
   exact IsG.step ha hm e (ih y (J2 x y) (by unfold J2;omega) (by unfold J2;omega) ly r1)
def Zc8 (x y:List Int):List Int:=if y.length≤x.length then H8 y.length x y else H8 x.length y x
theorem Zj9 {x y:List Int} (lx:Vm x) (ly:Vm y):IsG (Zc8 x y) x y:=by
 unfold Zc8
 split
 ·exact M9 _ _ _ (Nat.le_refl _) (by assumption) lx ly
 ·exact (M9 _ _ _ (Nat.le_refl _) (by omega) ly lx).comm
theorem M4 (p:List Int):∃ m:Int,m ≠ 0∧∀ x,Zg (Qv p) x=m*Zg p x:=by
 unfold Qv
 split
 ·exact⟨-1,by decide,fun x=>by rw[Hd];omega⟩
 ·exact⟨1,by decide,fun x=>by omega⟩
theorem Wx (p:List Int):(Qv p).length=p.length:=by
 unfold Qv;split
 ·exact Xy p
 ·rfl
def V3 (s t:List Int):List Int:=Qv (Zc8 (prim s) (prim t))
theorem Gm (s t:List Int):IsG (V3 s t) s t:=by
 have h:=Zj9 (Qr s) (Qr t)
 obtain⟨m,hm,h1⟩:=Ku s
 obtain⟨n,hn,h2⟩:=Ku t
 obtain⟨k,hk,h3⟩:=M4 (Zc8 (prim s) (prim t))
 have h4:=h.scaled (s':=s) (t':=t) (m:=1) (n:=m) (k:=1) (l:=n) (by decide) hm (by decide) hn (fun x=>by rw[h1 x];omega) (fun x=>by rw[h2 x];omega)
 exact h4.gscaled (m:=1) (n:=k) (by decide) hk (fun x=>by unfold V3;rw[h3 x];omega)
theorem Gy {p:List Int} (h:Vm p):Vm (Vd p):=by
 have e:Vd p=Zy (-1) p:=by
  unfold Vd Zy
  apply List.map_congr_left
  intro x _;omega
 rw[e];exact Zbv (by decide) h
theorem Gx {p:List Int} (h:Vm p):Vm (Qv p):=by
 unfold Qv;split
 ·exact Gy h
 ·exact h
theorem Ha:∀ (f:Nat) (x y:List Int),prim x=x→prim y=y→prim (H8 f x y)=H8 f x y:=by
 intro f
 induction f with
 | zero=>intro x y h _;exact h
 | succ f ih =>
  intro x y hx hy
  simp only[H8]
  split
  ·exact hx
  ·exact ih y _ hy (Vn _ _ _ hx)
theorem B4 {x y:List Int} (hx:prim x=x) (hy:prim y=y):prim (Zc8 x y)=Zc8 x y:=by
 unfold Zc8;split
 ·exact Ha _ _ _ hx hy
 ·exact Ha _ _ _ hy hx
theorem Lu (p:List Int):Jc (Vd p)=Jc p:=by
 have e:Vd p=Zy (-1) p:=by
  unfold Vd Zy
  apply List.map_congr_left
  intro x _;omega
 rw[e,Hj];simp
theorem Lt (p:List Int):Jc (Qv p)=Jc p:=by
 unfold Qv;split
 ·exact Lu p
 ·rfl
theorem Kx (s t:List Int):Vm (V3 s t):=Gx (Qk (B4 (Qg s) (Qg t)))
theorem Kt {p:List Int} (h:Vm p) (hc:Jc p=1):prim p=p:=by rw [Ny hc];exact h
theorem Fp {s t:List Int} (h:Zc s ≠ []):V3 s t ≠ []:=by
 have:=((Gm s t).1.length h).2
 intro h0;rw[h0] at this;exact this rfl
theorem Zfh {s t:List Int} (h:Zc s ≠ []):Jc (V3 s t)=1:=by
 have h1:=Fp (t:=t) h
 unfold V3 at *
 rw[Lt]
 have h2:Zc8 (prim s) (prim t) ≠ []:=by
  intro h0;rw[h0] at h1;exact h1 rfl
 have h3:=B4 (Qg s) (Qg t)
 rw[← h3]
 exact K1 (by rw[Qk h3];exact h2)
theorem Ts {p:List Int} (h:Vm p) (h0:p ≠ []):0<top (Qv p):=by
 have h1:=Vk h h0
 unfold Qv;split
 ·rename_i hn
  unfold top at *
  rw[Xy,Va];omega
 ·rename_i hn
  unfold top at *;omega
theorem Tt {s t:List Int} (h:Zc s ≠ []):0<top (V3 s t):=by
 have h1:=Fp (t:=t) h
 unfold V3 at *
 refine Ts (Qk (B4 (Qg s) (Qg t))) ?_
 intro h0;rw[h0] at h1;exact h1 rfl
theorem Zeu {s t:List Int} {K:Nat} (h:Zc s ≠ []) (hl:s.length≤9) (hK:Kb K s):Kb (K+3) (V3 s t)∧(V3 s t).length≤(Zc s).length:=by
 have hg:=(Gm s t).1
 have h1:=(hg.length h).1
 have hle:=Kx s t
 rw[hle] at h1
 obtain⟨c,k,hc,hk⟩:=hg
 have:=Qc s
 exact⟨An hc (Zfh h) h hl (by omega) hK hk,h1⟩
end Go.Ai

namespace Go.Proofs.Ythnnfemologhfaa
open Go.IntKind (i64 u64 u32)
open Go.Ai
set_option maxRecDepth 100000
def Gw (E rs:List Rn) (i:Nat):List Rn:=E.take i++rs.drop i
theorem Gs (E rs:List Rn):Gw E rs 0=rs:=by simp [Gw]
theorem Gv {E rs:List Rn} (h:E.length=rs.length):Gw E rs rs.length=E:=by
 unfold Gw;rw[List.drop_length,List.append_nil,List.take_of_length_le (by omega)]
theorem U1 {E rs:List Rn} (h:E.length=rs.length) (i:Nat):(Gw E rs i).length=rs.length:=by
 unfold Gw;rw[List.length_append,List.length_take,List.length_drop];omega
theorem Gu {E rs:List Rn} (h:E.length=rs.length) {i:Nat} (hi:i<rs.length):(Gw E rs i).getD i z0=rs.getD i z0:=by
 unfold Gw
 rw[List.getD_eq_getElem?_getD,List.getD_eq_getElem?_getD,List.getElem?_append_right (by rw[List.length_take];omega),List.length_take,List.getElem?_drop]
 congr 2;omega
theorem Gt {E rs:List Rn} (h:E.length=rs.length) {i:Nat} (hi:i<rs.length):(Gw E rs i).set i (E.getD i z0)=Gw E rs (i+1):=by
 have hpi:E[i]?=some (E.getD i z0):=by rw[List.getD_eq_getElem?_getD,List.getElem?_eq_getElem (by omega)];rfl
 apply List.ext_getElem?
 intro t
 have hl:=U1 h i
 unfold Gw at *
 rcases Nat.lt_trichotomy t i with g | g | g
 ·rw[List.getElem?_set_ne (by omega),List.getElem?_append_left (by rw[List.length_take];omega),List.getElem?_append_left (by rw[List.length_take];omega),List.getElem?_take_of_lt g,List.getElem?_take_of_lt (by omega)]
 ·subst g
  rw[List.getElem?_set_self (by omega),List.getElem?_append_left (by rw[List.length_take];omega),List.getElem?_take_of_lt (by omega),hpi]
 ·rw[List.getElem?_set_ne (by omega),List.getElem?_append_right (by rw[List.length_take];omega),List.getElem?_append_right (by rw[List.length_take];omega),List.length_take,List.length_take,List.getElem?_drop,List.getElem?_drop]
  congr 1;omega
theorem U2 (p:List Int) (i:Nat):Zn ((p.map cn).getD i z0)=p.getD i 0:=by rw [← Q2,Z5]
theorem X1 {p:List Int} {i:Nat} (h:i<p.length):(p.map cn).getD i z0=cn (p.getD i 0):=by
 rw[List.getD_eq_getElem?_getD,List.getElem?_map,List.getD_eq_getElem?_getD,List.getElem?_eq_getElem h];rfl
theorem Z1 {K:Nat} {p:List Int} (h:Kb K p):∀ r∈p.map cn,Ju K r:=Be h.mem
theorem T0 {rs:List Rn} {i:Nat} {r:Rn} (h:i<rs.length):(rs.set i r).getD i z0=r:=by
 simp[List.getD_eq_getElem?_getD,h]
theorem Ff {x y:Rn} {J K:Nat} (hx:Ju J x) (hy:Ju K y) (h:J+K≤1048576):Ze Yir 113 [Zt x,Zt y] (Zl (Zn x*Zn y)):=Nk hx.1 hy.1 (by have:=hx.2;have:=hy.2;omega)
theorem Zde {x y:Rn} {J K:Nat} (hx:Ju J x) (hy:Ju K y) (h:J<1048576) (h2:K<1048576):Ze Yir 114 [Zt x,Zt y] (Zl (Zn x-Zn y)):=Zjj hx.1 hy.1 (by have:=hx.2;omega) (by have:=hy.2;omega)
section
variable {p d:List Int} {J Kd:Nat}
theorem Mx {a b:Int} {t:Rn} (hp:Kb J p) (hd:Kb Kd d) (ha:Jg Kd a) (hb:Jg J b) (hS:J+Kd+1<1048576) (hl:d.length≤p.length) (hN:p.length≤1048576) :
  Za Yir (.loop Pi) (Fa (d.map cn) p.length (p.map cn) t (cn a) (cn b) ((p.length-d.length:Nat):Int) (p.length:Nat) 0) (.exit 2)
   (Fa (d.map cn) p.length ((Ur p d a b p.length).map cn) t (cn a) (cn b) ((p.length-d.length:Nat):Int) (p.length:Nat) (p.length:Nat)):=by
 have hE:((Ur p d a b p.length).map cn).length=(p.map cn).length:=by rw[List.length_map,List.length_map,J7]
 have hpl:(p.map cn).length=p.length:=List.length_map ..
 have h:=Za.up (prog:=Yir) (c:=Pi) (ex := .exit 2) (fin:=Fa (d.map cn) p.length ((Ur p d a b p.length).map cn) t (cn a) (cn b) ((p.length-d.length:Nat):Int) (p.length:Nat) (p.length:Nat))
  (fun i=>Fa (d.map cn) p.length (Gw ((Ur p d a b p.length).map cn) (p.map cn) i) t (cn a) (cn b) ((p.length-d.length:Nat):Int) (p.length:Nat) (i:Nat)) p.length (by intro e;cases e) ?_ ?_ 0 (Nat.zero_le _)
 ·rw[Gs] at h;exact h
 ·intro i hi
  have ei:i64.wrap ((i:Int)+1)=((i+1:Nat):Int):=by rw[w64 (by omega) (by omega)];omega
  have hml:=U1 hE i
  have hget:=Gu hE (i:=i) (by omega)
  have hEi:((Ur p d a b p.length).map cn).getD i z0=cn ((Ur p d a b p.length).getD i 0):=X1 (by rw[J7];exact hi)
  have hest:=Uo p d a b p.length i
  rw[if_pos hi] at hest
  have hset:=Gt hE (i:=i) (by omega)
  rw[hEi] at hset
  have gp:=Z8 (Z1 hp) i
  have ga:=Q5 ha
  have gb:=Q5 hb
  have vi:=U2 p i
  generalize Gw ((Ur p d a b p.length).map cn) (p.map cn) i=M at *
  by_cases hat:p.length-d.length≤i
  ·rw[if_pos hat] at hest
   have ea:i64.wrap ((i:Int)-((p.length-d.length:Nat):Int))=((i-(p.length-d.length):Nat):Int):=by rw[w64 (by omega) (by omega)];omega
   have gq:=Z8 (Z1 hd) (i-(p.length-d.length))
   have vq:=U2 d (i-(p.length-d.length))
   have m1:=Ff gp ga (by omega)
   have m2:=Ff gb gq (by omega)
   have f1:Jg (J+Kd) (Zn ((p.map cn).getD i z0)*Zn (cn a)):=gp.fits.mul (by rw[Z9];exact ha)
   have f2:Jg (J+Kd) (Zn (cn b)*Zn ((d.map cn).getD (i-(p.length-d.length)) z0)):=Jg.mul (by rw[Z9];exact hb) gq.fits
   have m3:=Zde (Q5 f1) (Q5 f2) (by omega) (by omega)
   rw[Z9 (Zn (cn b)*Zn ((d.map cn).getD (i-(p.length-d.length)) z0))] at m3
   have k:=Zte (d.map cn) p.length M t (cn a) (cn b) ((p.length-d.length:Nat):Int) (p.length:Nat) (i:Nat) (by simp;omega) (by rw[decide_eq_true_eq];omega) (by omega) (by omega) (by rw[List.length_set];omega) (by rw[ea,List.length_map];omega)
    (by rw[Int.toNat_natCast,hget];exact m1) (by rw[ea,Int.toNat_natCast];exact m2) (by
     simp only[ea,Int.toNat_natCast,hget]
     rw[T0 (by omega)]
     exact m3)
   refine k.to rfl ?_
   simp only[ea,ei,Int.toNat_natCast,hget]
   rw[T0 (by omega),List.set_set,Z9 (Zn ((p.map cn).getD i z0)*Zn (cn a)),vi,vq,Z9,Z9,Int.mul_comm (p.getD i 0) a,← hest]
   rw[hset]
  ·rw[if_neg hat] at hest
   have m1:=Ff gp ga (by omega)
   have k:=Ztd (d.map cn) p.length M t (cn a) (cn b) ((p.length-d.length:Nat):Int) (p.length:Nat) (i:Nat) (by simp;omega) (by rw[decide_eq_false_iff_not];omega) (by omega) (by omega) (by rw[Int.toNat_natCast,hget];exact m1)
   refine k.to rfl ?_
   simp only[ei,Int.toNat_natCast,hget]
   rw[vi,Z9,Int.mul_comm (p.getD i 0) a,← hest,hset]
 ·rw[show Gw ((Ur p d a b p.length).map cn) (p.map cn) p.length=(Ur p d a b p.length).map cn by have h:=Gv hE;rw[hpl] at h;exact h]
  exact Ztc (d.map cn) p.length _ t _ _ _ _ _ (by simp)
theorem gcd_ne {a b:Int} (h:a ≠ 0):0<Int.gcd a b:=by
 rw[Int.gcd];exact Nat.gcd_pos_of_pos_left _ (by omega)
theorem Zj3 (hp:Kb J p) (hd:Kb Kd d) (hS:J+Kd+1<1048576) (hd0:d ≠ []) (ht:top d ≠ 0) (hl:d.length≤p.length) (hN:p.length≤1048576) :
  Za Yir Zyj (Zdb (d.map cn) p.length (p.map cn) (cn (top d))) .norm (Zdb (d.map cn) (Um p d).length ((Um p d).map cn) (cn (top d))):=by
 have hdl:=List.length_pos_iff.2 hd0
 have e1:i64.wrap ((p.length:Int)-1)=((p.length-1:Nat):Int):=by rw[w64 (by omega) (by omega)];omega
 have e2:i64.wrap ((p.length:Int)-(((d.map cn).length:Nat):Int))=((p.length-d.length:Nat):Int):=by rw[List.length_map,w64 (by omega) (by omega)];omega
 have gt:=Q5 (X6 hd)
 have gl:=Z8 (Z1 hp) (p.length-1)
 have vl:Zn ((p.map cn).getD (p.length-1) z0)=top p:=U2 p (p.length-1)
 have hgp:=gcd_ne (a:=top d) (b:=top p) ht
 have hgcd:=Tn (na:=(cn (top d)).1) (nb:=((p.map cn).getD (p.length-1) z0).1) gt.1 gl.1 (by have:=gt.2;omega) (by have:=gl.2;omega)
 rw[show rv (cn (top d)).1 (cn (top d)).2=top d from Z9 _,show rv ((p.map cn).getD (p.length-1) z0).1 ((p.map cn).getD (p.length-1) z0).2=top p from vl] at hgcd
 have hd1:((Int.gcd (top d) (top p):Nat):Int)∣top d:=Int.gcd_dvd_left ..
 have hd2:((Int.gcd (top d) (top p):Nat):Int)∣top p:=Int.gcd_dvd_right ..
 have hd3:((Int.gcd (top d) (top p):Nat):Int)∣(((top d).natAbs:Nat):Int):=Int.dvd_natAbs.2 hd1
 have hgle:Jg Kd ((Int.gcd (top d) (top p):Nat):Int):=by
  have:=X6 hd
  unfold Jg at *
  rw[Int.natAbs_natCast]
  have:=Nat.le_of_dvd (by omega) (Int.ofNat_dvd_left.1 hd1)
  omega
 have gg:=Q5 hgle
 have habs:=Nl (neg:=(cn (top d)).1) gt.1 (by have:=gt.2;omega)
 rw[show rv (cn (top d)).1 (cn (top d)).2=top d from Z9 _] at habs
 have gab:=Q5 (Bh (X6 hd))
 have q1:=D4 (na:=(cn (((top d).natAbs:Nat):Int)).1) (nb:=(cn ((Int.gcd (top d) (top p):Nat):Int)).1) gab.1 gg.1 (by rw[show rv (cn ((Int.gcd (top d) (top p):Nat):Int)).1 (cn ((Int.gcd (top d) (top p):Nat):Int)).2=(Int.gcd (top d) (top p):Nat) from Z9 _];omega) (by have:=gab.2;omega) (by have:=gg.2;omega)
 rw[show rv (cn ((Int.gcd (top d) (top p):Nat):Int)).1 (cn ((Int.gcd (top d) (top p):Nat):Int)).2=(Int.gcd (top d) (top p):Nat) from Z9 _,show rv (cn (((top d).natAbs:Nat):Int)).1 (cn (((top d).natAbs:Nat):Int)).2=((top d).natAbs:Nat) from Z9 _] at q1
 have q2:=D4 (na:=((p.map cn).getD (p.length-1) z0).1) (nb:=(cn ((Int.gcd (top d) (top p):Nat):Int)).1) gl.1 gg.1 (by rw[show rv (cn ((Int.gcd (top d) (top p):Nat):Int)).1 (cn ((Int.gcd (top d) (top p):Nat):Int)).2=(Int.gcd (top d) (top p):Nat) from Z9 _];omega) (by have:=gl.2;omega) (by have:=gg.2;omega)
 rw[show rv (cn ((Int.gcd (top d) (top p):Nat):Int)).1 (cn ((Int.gcd (top d) (top p):Nat):Int)).2=(Int.gcd (top d) (top p):Nat) from Z9 _,show rv ((p.map cn).getD (p.length-1) z0).1 ((p.map cn).getD (p.length-1) z0).2=top p from vl] at q2
 have hG:(0:Int)<((Int.gcd (top d) (top p):Nat):Int):=by omega
 have x1:=Int.mul_ediv_cancel' hd3
 have x2:=Int.mul_ediv_cancel' hd2
 rw[K8 hG hd3] at q1
 rw[K8 hG hd2] at q2
 have hsg:=Ge (neg:=(cn (top d)).1) gt.1 (by have:=gt.2;omega)
 rw[show rv (cn (top d)).1 (cn (top d)).2=top d from Z9 _] at hsg
 -- sizes of the factors
 have fa:Jg Kd ((((top d).natAbs:Nat):Int) / ((Int.gcd (top d) (top p):Nat):Int)):=by
  rcases N7 (Bh (X6 hd)) (Int.gcd (top d) (top p)) with g | g
  ·exact g
  ·exact absurd hd3 g
 have fb:Jg J (top p / ((Int.gcd (top d) (top p):Nat):Int)):=by
  rcases N7 (X6 hp) (Int.gcd (top d) (top p)) with g | g
  ·exact g
  ·exact absurd hd2 g
 generalize hGd:((Int.gcd (top d) (top p):Nat):Int)=G at *
 generalize hx:(((top d).natAbs:Nat):Int) / G=x at *
 generalize hy:top p / G=y at *
 have pst:∀ b:Int,G*b=sg (top d)*top p→Um p d=prim (Ur p d x b p.length):=by
  intro b hb
  have h:=Er (r:=p) (d:=d) (c:=1) (g:=G) (a:=x) (b:=b) (by decide) hG x1 hb
  rwa [show Zy 1 d=d by unfold Zy;simp] at h
 have fin:∀ b:Int,G*b=sg (top d)*top p→Jg J b→Ze Yir 86 [.sl p.length (pc ((Ur p d x b p.length).map cn))] (.fresh 2 ((Um p d).map cn).length (pc ((Um p d).map cn))):=by
  intro b hb fb'
  have hK:=N6 hp hd fa fb' p.length
  have h:=Jm (rs:=(Ur p d x b p.length).map cn) (Z1 hK) (by omega) (by rw[List.length_map,J7];exact hN)
  rw[Z5,← pst b hb,List.length_map,J7] at h
  rw[List.length_map]
  exact h
 by_cases hneg:top d<0
 ·have hng:=Tm (neg:=(cn y).1) (xs:=(cn y).2) (Qx _) (by have:=fb.len;rw[Kc];omega)
  rw[show rv (cn y).1 (cn y).2=y from Z9 _] at hng
  have hb:G * -y=sg (top d)*top p:=by unfold sg;rw[if_pos hneg,Int.mul_neg,x2];omega
  have hin:=Mx (t:=cn (top d)) hp hd fa fb.neg hS hl hN
  have k:=Yk64_1 (d.map cn) p.length (p.map cn) (cn (top d)) _ _ _ _ G _ x y (-y) _ _ (Xh (top d)) _ _ _ (by rw[decide_eq_true_eq,List.length_map];omega) (by unfold Xh;rw[if_pos hneg];rfl) (by rw[e1];omega) (by rw[List.length_map]) (by rw[e1,Int.toNat_natCast];exact hgcd) habs q1 (by rw[e1,Int.toNat_natCast];exact q2) hsg hng (by rw[e2];exact hin) (fin (-y) hb fb.neg)
  rw[List.length_map] at k
  exact k
 ·have hb:G*y=sg (top d)*top p:=by unfold sg;rw[if_neg hneg,x2];omega
  have hin:=Mx (t:=cn (top d)) hp hd fa fb hS hl hN
  have k:=Yk64_2 (d.map cn) p.length (p.map cn) (cn (top d)) _ _ _ _ G _ x y _ _ (Xh (top d)) _ _ _ (by rw[decide_eq_true_eq,List.length_map];omega) (by unfold Xh;rw[if_neg hneg];split <;> rfl) (by rw[e1];omega) (by rw[List.length_map]) (by rw[e1,Int.toNat_natCast];exact hgcd) habs q1 (by rw[e1,Int.toNat_natCast];exact q2) hsg (by rw[e2];exact hin) (fin y hb fb)
  rw[List.length_map] at k
  exact k
end
theorem Zj4 {d:List Int} {Kd:Nat} (hd:Kb Kd d) (hd0:d ≠ []) (ht:top d ≠ 0):∀ (f:Nat) (p:List Int) (J:Nat),p.length≤f→Kb J p→J+(p.length+1-d.length)*(Kd+1)<1048576→p.length≤1048576 →
  Za Yir (.loop Zyj) (Zdb (d.map cn) p.length (p.map cn) (cn (top d))) (.exit 0) (Zdb (d.map cn) (Vj f p d).length ((Vj f p d).map cn) (cn (top d))):=by
 have hdl:=List.length_pos_iff.2 hd0
 intro f
 induction f with
 | zero =>
  intro p J hf _ _ _
  exact Za.loop_out (Zq1 (d.map cn) p.length (p.map cn) (cn (top d)) (by rw[decide_eq_false_iff_not,List.length_map];omega)) (by intro e;cases e)
 | succ f ih =>
  intro p J hf hJ hS hN
  simp only[Vj]
  split
  ·rename_i hl
   have hplen:=Ks hd0 hl
   have e:((Um p d).length+1-d.length)+1≤p.length+1-d.length:=by omega
   have:=Nat.mul_le_mul_right (Kd+1) e
   rw[Nat.add_mul,Nat.one_mul] at this
   have h1:=Zj3 hJ hd (by
    have h2:1*(Kd+1)≤(p.length+1-d.length)*(Kd+1):=Nat.mul_le_mul_right _ (by omega)
    omega) hd0 ht hl hN
   exact Za.loop h1 (ih (Um p d) (J+Kd+1) (by omega) (N4 hJ hd) (by omega) (by omega))
  ·rename_i hl
   exact Za.loop_out (Zq1 (d.map cn) p.length (p.map cn) (cn (top d)) (by rw[decide_eq_false_iff_not,List.length_map];omega)) (by intro e;cases e)
theorem We {rs ss:List Rn} {J K:Nat} (hr:∀ r∈rs,Ju J r) (hs:∀ r∈ss,Ju K r) (hJ:J<1048576) (hK:K<1048576) (hn:rs.length≤1048576) (hm:ss.length≤1048576) (h0:prim (Zi ss) ≠ []) (hS:J+((prim (Zi rs)).length+1-(prim (Zi ss)).length)*(K+1)<1048576) :
  Ze Yir 64 [.sl rs.length (pc rs), .sl ss.length (pc ss)] (.fresh 2 (J2 (prim (Zi rs)) (prim (Zi ss))).length (pk (J2 (prim (Zi rs)) (prim (Zi ss))))):=by
 have p1:=Jm hr hJ hn
 have p2:=Jm hs hK hm
 have k1:Kb J (prim (Zi rs)):=(Du (Jf hr)).prim
 have k2:Kb K (prim (Zi ss)):=(Du (Jf hs)).prim
 have l1:(prim (Zi rs)).length≤rs.length:=by rw[Qp];have:=Qc (Zi rs);rwa [Zs] at this
 have l2:(prim (Zi ss)).length≤ss.length:=by rw[Qp];have:=Qc (Zi ss);rwa [Zs] at this
 have hl:=List.length_pos_iff.2 h0
 have ht:top (prim (Zi ss)) ≠ 0:=Vk (Qr _) h0
 have hlp:=Zj4 k2 h0 ht (prim (Zi rs)).length (prim (Zi rs)) J (Nat.le_refl _) k1 hS (by omega)
 have e1:i64.wrap (((((prim (Zi ss)).map cn).length:Nat):Int)-1)=(((prim (Zi ss)).length-1:Nat):Int):=by rw[List.length_map,w64 (by omega) (by omega)];omega
 have p1':Ze Yir 86 [.sl rs.length (pc rs)] (.fresh 2 ((prim (Zi rs)).map cn).length (pc ((prim (Zi rs)).map cn))):=by rw[List.length_map];exact p1
 have p2':Ze Yir 86 [.sl ss.length (pc ss)] (.fresh 2 ((prim (Zi ss)).map cn).length (pc ((prim (Zi ss)).map cn))):=by rw[List.length_map];exact p2
 have k:=Yrun64 rs ss _ _ ((J2 (prim (Zi rs)) (prim (Zi ss))).map cn) (cn (top (prim (Zi ss)))) (J2 (prim (Zi rs)) (prim (Zi ss))).length p1' p2' (by rw[e1,List.length_map];omega) (by
  rw[e1,Int.toNat_natCast,X1 (show (prim (Zi ss)).length-1<(prim (Zi ss)).length by omega),List.length_map]
  exact hlp)
 exact k
theorem Zat:∀ (f:Nat) (x y:List Int) (M:Nat),0<M→y.length≤f→y.length≤x.length→x.length≤1048576→prim x=x→prim y=y→Kb (M-1) x→Kb (M-1) y→M*phi x.length y.length≤500000 →
  ∃ bs,Za Yir (.loop Zyi) (Zda (x.map cn) (y.map cn)) (.exit 0) (Zda ((H8 f x y).map cn) bs):=by
 intro f
 induction f with
 | zero =>
  intro x y M _ h1 _ _ _ _ _ _ _
  have:y=[]:=List.eq_nil_of_length_eq_zero (by omega)
  subst this
  exact⟨_,Za.loop_out (Zqz _ _ (by simp)) (by intro e;cases e)⟩
 | succ f ih =>
  intro x y M hM h1 h2 h3 px py kx ky hphi
  simp only[H8]
  split
  ·rename_i h
   subst h
   exact⟨_,Za.loop_out (Zqz _ _ (by simp)) (by intro e;cases e)⟩
  ·rename_i h
   have hyl:=List.length_pos_iff.2 h
   obtain⟨r1,r2,r3⟩:=Hb hM (Qk px) h kx ky h2
   have hM':0<M*(x.length-y.length+2):=Nat.mul_pos hM (by omega)
   have hMle:M≤M*(x.length-y.length+2):=Nat.le_mul_of_pos_right M (by omega)
   have hbig:M*(x.length-y.length+2)≤500000:=by
    refine Nat.le_trans (Nat.mul_le_mul_left _ ?_) hphi
    unfold phi
    exact Nat.le_mul_of_pos_right _ (Nat.pow_pos (by decide))
   have hrem:=We (rs:=x.map cn) (ss:=y.map cn) (Z1 kx) (Z1 ky) (by omega) (by omega) (by rw[List.length_map];exact h3) (by rw[List.length_map];omega) (by rw[Z5,py];exact h) (by
    rw[Z5,Z5,px,py,Nat.sub_add_cancel hM,show x.length+1-y.length=x.length-y.length+1 by omega,Nat.mul_comm _ M]
    have:M*(x.length-y.length+2)=M*(x.length-y.length+1)+M:=by rw[← Nat.mul_succ]
    omega)
   rw[Z5,Z5,px,py] at hrem
   have hrem':Ze Yir 64 [.sl (x.map cn).length (pc (x.map cn)), .sl (y.map cn).length (pc (y.map cn))] (.fresh 2 ((J2 x y).map cn).length (pc ((J2 x y).map cn))):=by
    have hlm:((J2 x y).map cn).length=(J2 x y).length:=List.length_map ..
    rw[hlm];exact hrem
   have k:=Zq0 (x.map cn) (y.map cn) _ (by simp;omega) hrem'
   obtain⟨bs,hb⟩:=ih y (J2 x y) (M*(x.length-y.length+2)) hM' (by omega) (by omega) (by omega) py (Vn _ _ _ px) (ky.mono (by omega)) r3 (Hc r2 hphi)
   exact⟨bs,Za.loop k hb⟩
def Tk (f:Nat) (args:List AV) (p:List Int):Prop:=Ze Yir f args (.fresh 2 (p.map cn).length (pc (p.map cn)))∨Ze Yir f args (.sl (p.map cn).length (pc (p.map cn)))
theorem A1 {p:List Int} {K:Nat} (hk:Kb K p) (hK:K≤1048576) (hN:p.length≤1048576) :
  (top p<0→Ze Yir 115 [.sl (p.map cn).length (pc (p.map cn))] (.fresh 2 ((Qv p).map cn).length (pc ((Qv p).map cn))))∧(¬ top p<0→Ze Yir 115 [.sl (p.map cn).length (pc (p.map cn))] (.sl (p.map cn).length (pc (p.map cn)))):=by
 have h:=Mg (rs:=p.map cn) (fun r hr=>(Z1 hk r hr).mono hK) (by rw[List.length_map];exact hN)
 rw[Z5] at h
 refine⟨fun hn => ?_,h.2⟩
 have h1:=h.1 hn
 have e:Qv p=Vd p:=by unfold Qv;rw[if_pos hn]
 have hl:((Vd p).map cn).length=(p.map cn).length:=by rw[List.length_map,List.length_map,Xy]
 rw[e,hl]
 exact h1
theorem D9 {p:List Int} (h:¬ top p<0):Qv p=p:=by unfold Qv;rw [if_neg h]
theorem He:∀ (f:Nat) (x y:List Int) (M:Nat),0<M→y.length≤f→y.length≤x.length→Vm x→Vm y→Kb (M-1) x→Kb (M-1) y→Kb (M*phi x.length y.length-1) (H8 f x y)∧(H8 f x y).length≤x.length:=by
 intro f
 induction f with
 | zero =>
  intro x y M hM _ h2 _ _ kx _
  refine⟨kx.mono ?_,Nat.le_refl _⟩
  have:M*1≤M*phi x.length y.length:=Nat.mul_le_mul_left _ (by unfold phi;exact Nat.mul_pos (by omega) (Nat.pow_pos (by decide)))
  omega
 | succ f ih =>
  intro x y M hM h1 h2 lx ly kx ky
  simp only[H8]
  split
  ·refine⟨kx.mono ?_,Nat.le_refl _⟩
   have:M*1≤M*phi x.length y.length:=Nat.mul_le_mul_left _ (by unfold phi;exact Nat.mul_pos (by omega) (Nat.pow_pos (by decide)))
   omega
  ·rename_i h
   have hyl:=List.length_pos_iff.2 h
   obtain⟨r1,r2,r3⟩:=Hb hM lx h kx ky h2
   have hM':0<M*(x.length-y.length+2):=Nat.mul_pos hM (by omega)
   have hMle:M≤M*(x.length-y.length+2):=Nat.le_mul_of_pos_right M (by omega)
   obtain⟨a,b⟩:=ih y (J2 x y) (M*(x.length-y.length+2)) hM' (by omega) (by omega) ly r1 (ky.mono (by omega)) r3
   exact⟨a.mono (Nat.sub_le_sub_right (Hc r2 (Nat.le_refl _)) 1),by omega⟩
theorem Dk {rs ss:List Rn} {g:List Int} {bs:List Rn} {K:Nat} (hr:∀ r∈rs,Ju K r) (hs:∀ r∈ss,Ju K r) (hK:K<1048576) (hn:rs.length≤1048576) (hm:ss.length≤1048576) {Kg:Nat} (hg:Kb Kg g) (hKg:Kg≤1048576) (hgl:g.length≤1048576)
  (hl:Za Yir (.loop Zyi) (Zda ((prim (Zi rs)).map cn) ((prim (Zi ss)).map cn)) (.exit 0) (Zda (g.map cn) bs)) :
  Tk 65 [.sl rs.length (pc rs), .sl ss.length (pc ss)] (Qv g):=by
 have p1:=Jm hr hK hn
 have p2:=Jm hs hK hm
 have p1':Ze Yir 86 [.sl rs.length (pc rs)] (.fresh 2 ((prim (Zi rs)).map cn).length (pc ((prim (Zi rs)).map cn))):=by rw[List.length_map];exact p1
 have p2':Ze Yir 86 [.sl ss.length (pc ss)] (.fresh 2 ((prim (Zi ss)).map cn).length (pc ((prim (Zi ss)).map cn))):=by rw[List.length_map];exact p2
 obtain⟨q1,q2⟩:=A1 hg hKg hgl
 by_cases h:top g<0
 ·exact .inl (Zlr rs ss _ _ (g.map cn) bs _ p1' p2' hl (q1 h))
 ·rw[D9 h]
  exact .inr (Zlq rs ss _ _ (g.map cn) bs p1' p2' hl (q2 h))
theorem Sl {rs ss:List Rn} {K c:Nat} (hr:∀ r∈rs,Ju K r) (hs:∀ r∈ss,Ju K r) (hn:rs.length≤c) (hm:ss.length≤c) (hc:c≤1048576) (hS:(K+1)*(2*3^c)≤500000) :
  Tk 65 [.sl rs.length (pc rs), .sl ss.length (pc ss)] (Qv (Zc8 (prim (Zi rs)) (prim (Zi ss)))):=by
 have h3:0<3^c:=Nat.pow_pos (by decide)
 have hK:K+1≤500000:=by
  have:(K+1)*1≤(K+1)*(2*3^c):=Nat.mul_le_mul_left _ (by omega)
  omega
 have k1:Kb K (prim (Zi rs)):=(Du (Jf hr)).prim
 have k2:Kb K (prim (Zi ss)):=(Du (Jf hs)).prim
 have l1:(prim (Zi rs)).length≤rs.length:=by rw[Qp];have:=Qc (Zi rs);rwa [Zs] at this
 have l2:(prim (Zi ss)).length≤ss.length:=by rw[Qp];have:=Qc (Zi ss);rwa [Zs] at this
 unfold Zc8
 split
 ·rename_i hl
  have hphi:(K+1)*phi (prim (Zi rs)).length (prim (Zi ss)).length≤500000:=Nat.le_trans (Nat.mul_le_mul_left _ (B7 hl (by omega))) hS
  obtain⟨bs,hb⟩:=Zat (prim (Zi ss)).length (prim (Zi rs)) (prim (Zi ss)) (K+1) (by omega) (Nat.le_refl _) hl (by omega) (Qg _) (Qg _) k1 k2 hphi
  obtain⟨s1,s2⟩:=He (prim (Zi ss)).length (prim (Zi rs)) (prim (Zi ss)) (K+1) (by omega) (Nat.le_refl _) hl (Qr _) (Qr _) k1 k2
  exact Dk hr hs (by omega) (by omega) (by omega) s1 (by omega) (by omega) hb
 ·rename_i hl
  have hphi:(K+1)*phi (prim (Zi ss)).length (prim (Zi rs)).length≤500000:=Nat.le_trans (Nat.mul_le_mul_left _ (B7 (by omega) (by omega))) hS
  obtain⟨bs,hb⟩:=Zat (prim (Zi rs)).length (prim (Zi ss)) (prim (Zi rs)) (K+1) (by omega) (Nat.le_refl _) (by omega) (by omega) (Qg _) (Qg _) k2 k1 hphi
  obtain⟨s1,s2⟩:=He (prim (Zi rs)).length (prim (Zi ss)) (prim (Zi rs)) (K+1) (by omega) (Nat.le_refl _) (by omega) (Qr _) (Qr _) k2 k1
  -- one step that changes their places
  have hy0:prim (Zi ss) ≠ []:=by intro h;rw[h] at hl;simp at hl
  have hsw:J2 (prim (Zi rs)) (prim (Zi ss))=prim (Zi rs):=by
   unfold J2
   cases hx:(prim (Zi rs)).length with
   | zero=>rfl
   | succ n=>simp only[Vj];rw[if_neg hl]
  have hrem:=We (rs:=(prim (Zi rs)).map cn) (ss:=(prim (Zi ss)).map cn) (Z1 k1) (Z1 k2) (by omega) (by omega) (by rw[List.length_map];omega) (by rw[List.length_map];omega) (by rw[Z5,Qg];exact hy0) (by
   rw[Z5,Z5,Qg,Qg,show (prim (Zi rs)).length+1-(prim (Zi ss)).length=0 by omega,Nat.zero_mul];omega)
  rw[Z5,Z5,Qg,Qg,hsw] at hrem
  have hrem':Ze Yir 64 [.sl ((prim (Zi rs)).map cn).length (pc ((prim (Zi rs)).map cn)), .sl ((prim (Zi ss)).map cn).length (pc ((prim (Zi ss)).map cn))] (.fresh 2 ((prim (Zi rs)).map cn).length (pc ((prim (Zi rs)).map cn))):=by
   have hlm:((prim (Zi rs)).map cn).length=(prim (Zi rs)).length:=List.length_map ..
   rw[hlm] at hrem ⊢;exact hrem
  have k:=Zq0 ((prim (Zi rs)).map cn) ((prim (Zi ss)).map cn) _ (by rw[decide_eq_true_eq,List.length_map];omega) hrem'
  exact Dk hr hs (by omega) (by omega) (by omega) s1 (by omega) (by omega) (Za.loop k hb)
def TMB:Jx:=TMA
theorem Zi7:Q1 Yir TMB:=Zi8
end Go.Proofs.Ythnnfemologhfaa

namespace Go.Ai
open Go.IntKind (i64 u64 u32)
theorem Zae {p q:List Int} (h:∀ x,Zg p x=Zg q x) (x:Int):Zg (Qu p) x=Zg (Qu q) x :=
 U8 (fun i=>by rw[X7,X7,Uf h]) x
theorem M8 (a:Int) (p:List Int) (x:Int):Zg (Qu (a::p)) x=Zg p x+x*Zg (Qu p) x:=by
 have h:∀ i,(Qu (a::p)).getD i 0=(Bc p (0::Qu p)).getD i 0:=by
  intro i
  rw[X8,X7,List.getD_cons_succ]
  cases i with
  | zero=>simp
  | succ i=>rw[List.getD_cons_succ,X7];push_cast;grind
 rw[U8 h x,Jh]
 simp[Zg]
theorem Zkb (p q:List Int) (x:Int):Zg (Qu (Bc p q)) x=Zg (Qu p) x+Zg (Qu q) x:=by
 rw[← Jh]
 exact U8 (fun i=>by rw[X8,X7,X7,X7,X8,Int.add_mul]) x
theorem Vu (c:Int) (p:List Int) (x:Int):Zg (Qu (Zy c p)) x=c*Zg (Qu p) x:=by
 rw[← Zr]
 exact U8 (fun i=>by rw[Z6,X7,X7,Z6,Int.mul_assoc]) x
theorem Zka:Qu []=[]:=rfl
theorem Zac (p q:List Int) (x:Int):Zg (Qu (Ut p q)) x=Zg (Qu p) x*Zg q x+Zg p x*Zg (Qu q) x:=by
 induction p with
 | nil=>simp[Ut,Zka,Zg]
 | cons a p ih =>
  simp only[Ut]
  rw[Zkb,Vu,M8,M8,ih,Qb]
  simp only[Zg]
  generalize Zg (Qu p) x=A at *
  generalize Zg (Qu q) x=B at *
  grind
theorem B9 {r p q:List Int} (h:∀ x,Zg r x=Zg p x*Zg q x) (x:Int):Zg (Qu r) x=Zg (Qu p) x*Zg q x+Zg p x*Zg (Qu q) x:=by
 rw[← Zac];exact Zae (fun x=>by rw[h x,Qb]) x
theorem Rr {p q:List Int} {c d:Int} (h:∀ x,c*Zg p x=d*Zg q x) (x:Int):c*Zg (Qu p) x=d*Zg (Qu q) x:=by
 rw[← Vu,← Vu];exact Zae (fun x=>by rw[Zr,Zr,h x]) x
theorem Zad (p:List Int):(Qu p).length≤p.length-1:=by
 unfold Qu
 have:=Qc ((List.range (p.length-1)).map fun j=>p.getD (j+1) 0*((j+1:Nat):Int))
 simpa using this
theorem R0 {K:Nat} {p:List Int} (h:Kb K p) (hl:p.length≤1048576):Kb (K+2) (Qu p):=fun i=>by
 rw[X7]
 by_cases hi:i<1048576
 ·refine ((h (i+1)).mul (k:=1) ?_).mono (by omega)
  unfold Jg;rw[Int.natAbs_natCast];omega
 ·rw[Qt (xs:=p) (by omega),Int.zero_mul];exact Vb _
def B5 (h:List Int):Nat→List Int
 | 0=>[1]
 | k+1=>Ut (B5 h k) h
theorem Zaa (h:List Int):∀ (k:Nat) (x:Int),Zg (Qu (B5 h k)) x*Zg h x=(k:Int)*Zg (B5 h k) x*Zg (Qu h) x
 | 0,x=>by simp[B5,Qu,Zg,Zc,Z0]
 | k+1,x=>by
  have ih:=Zaa h k x
  simp only[B5]
  rw[Zac,Qb]
  push_cast
  generalize Zg (Qu (B5 h k)) x=A at *
  generalize Zg (B5 h k) x=B at *
  generalize Zg (Qu h) x=C at *
  generalize Zg h x=H at *
  have:(A*H+B*C)*H=(A*H)*H+B*C*H:=by grind
  rw[this,ih];grind
theorem H7 {h:List Int} (hh:Zc h ≠ []):∀ k,Zc (B5 h k) ≠ []∧(Zc (B5 h k)).length=k*((Zc h).length-1)+1
 | 0=>by
  have e:Zc (B5 h 0)=[1]:=rfl
  rw[e];simp
 | k+1=>by
  obtain⟨a,b⟩:=H7 hh k
  have h1:=List.length_pos_iff.2 hh
  have e:=Nz a hh
  have e2:(Zc (B5 h (k+1))).length=(k+1)*((Zc h).length-1)+1:=by
   simp only[B5]
   rw[e,b,Nat.add_mul,Nat.one_mul];omega
  refine⟨?_,e2⟩
  intro h0
  rw[h0] at e2
  simp at e2
theorem P3 {a G f h:List Int} {c:Int} (ha:Zc a ≠ []) (hG:IsG G a (Qu a)) (hc:c ≠ 0) (hf:∀ x,c*Zg a x=Zg G x*Zg f x) (h1:Dv h f) (h2:Dv h (Qu f)):(Zc h).length=1:=by
 obtain⟨g1,⟨c2,e,hc2,he⟩,c3,u,v,hc3,hb⟩:=hG
 have hG0:Zc G ≠ []:=(g1.length ha).2
 have hf0:Zc f ≠ []:=by
  intro h0
  have:Zc a=Zc []:=by
   apply Wh
   intro x
   have h3:=hf x
   rw[Js h0,Int.mul_zero] at h3
   rcases Int.mul_eq_zero.1 h3 with g | g
   ·exact absurd g hc
   ·exact g
  exact ha this
 have hh0:Zc h ≠ []:=(h1.length hf0).2
 -- f and e have no common divisor
 have hC:∀ x,c*c2*c3=c2*Zg u x*Zg f x+c*Zg v x*Zg e x:=by
  have h3:=Lv hG0 [c*c2*c3] (Bc (Zy c2 (Ut u f)) (Zy c (Ut v e))) (fun x=>by
   have a1:=hf x;have a2:=he x;have a3:=hb x
   rw[Jh,Zr,Zr,Qb,Qb]
   simp only[Zg]
   generalize Zg G x=G at *
   generalize Zg f x=f at *
   generalize Zg e x=e at *
   generalize Zg u x=u at *
   generalize Zg v x=v at *
   generalize Zg (Qu a) x=a' at *
   generalize Zg a x=a at *
   have e1:G*(c*c2*c3+x*0)=c*c2*(c3*G):=by grind
   rw[e1,a3]
   have e2:c*c2*(u*a+v*a')=c2*u*(c*a)+c*v*(c2*a'):=by grind
   rw[e2,a1,a2];grind)
  intro x
  have h4:=h3 x
  rw[Jh,Zr,Zr,Qb,Qb] at h4
  simp only[Zg,Int.mul_zero,Int.add_zero] at h4
  grind
 -- the derivative of a
 have hd:∀ x,c*(Zg G x*Zg e x)=c2*(Zg (Qu G) x*Zg f x+Zg G x*Zg (Qu f) x):=by
  intro x
  have a1:=B9 (r:=Zy c a) (p:=G) (q:=f) (fun x=>by rw[Zr];exact hf x) x
  rw[Vu] at a1
  have a2:=he x
  rw[← a1,← a2];grind
 obtain⟨c4,t,hc4,ht⟩:=h1
 obtain⟨c5,w,hc5,hw⟩:=h2
 have hft:∀ x,c4*Zg (Qu f) x=Zg (Qu h) x*Zg t x+Zg h x*Zg (Qu t) x:=by
  intro x
  have a1:=B9 (r:=Zy c4 f) (p:=h) (q:=t) (fun x=>by rw[Zr];exact ht x) x
  rw[Vu] at a1
  exact a1
 -- all powers of h divide G
 have hk:∀ k,Dv (B5 h k) G:=by
  intro k
  induction k with
  | zero=>exact⟨1,G,by decide,fun x=>by simp[B5,Zg]⟩
  | succ k ih =>
   obtain⟨ck,s,hck,hs⟩:=ih
   obtain⟨p1,_⟩:=H7 hh0 k
   -- the derivative of G
   have hGs:∀ x,ck*Zg (Qu G) x=Zg (Qu (B5 h k)) x*Zg s x+Zg (B5 h k) x*Zg (Qu s) x:=by
    intro x
    have a1:=B9 (r:=Zy ck G) (p:=B5 h k) (q:=s) (fun x=>by rw[Zr];exact hs x) x
    rw[Vu] at a1
    exact a1
   have hes:∀ x,c4*c5*c*(Zg e x*Zg s x)=Zg h x*(c2*((k:Int)*Zg s x*(c4*Zg w x-c5*Zg (Qu t) x)+c5*(Zg (Qu s) x*Zg t x)+c4*(Zg s x*Zg w x))):=by
    have h3:=Lv (p:=Ut (B5 h k) h) (by
      intro h0
      have:=Nz p1 hh0
      rw[h0] at this
      have:=List.length_pos_iff.2 p1
      have:=List.length_pos_iff.2 hh0
      simp at *
      omega) (Zy (c4*c5*c) (Ut e s)) (Ut h (Zy c2 (Bc (Bc (Ut (Zy (k:Int) s) (Zbn (Zy c4 w) (Zy c5 (Qu t)))) (Zy c5 (Ut (Qu s) t))) (Zy c4 (Ut s w))))) (fun x=>by
     have a1:=hd x;have a2:=ht x;have a3:=hw x;have a4:=hft x;have a5:=hs x;have a6:=hGs x;have a7:=Zaa h k x
     simp only[Qb,Zr,Jh,Xz]
     generalize Zg (Qu (B5 h k)) x=P' at *
     generalize Zg (Qu G) x=G' at *
     generalize Zg (Qu f) x=f' at *
     generalize Zg (Qu h) x=h' at *
     generalize Zg (Qu t) x=t' at *
     generalize Zg (Qu s) x=s' at *
     generalize Zg (B5 h k) x=P at *
     generalize Zg G x=G at *
     generalize Zg f x=f at *
     generalize Zg e x=e at *
     generalize Zg h x=h at *
     generalize Zg t x=t at *
     generalize Zg w x=w at *
     generalize Zg s x=s at *
     have b1:P*h*(c4*c5*c*(e*s))=c4*c5*h*(c*((P*s)*e)):=by grind
     rw[b1,← a5]
     have b2:c4*c5*h*(c*(ck*G*e))=c4*c5*h*ck*(c*(G*e)):=by grind
     rw[b2,a1]
     have b3:c4*c5*h*ck*(c2*(G'*f+G*f'))=c5*c2*((ck*G')*h*(c4*f)+(ck*G)*h*(c4*f')):=by grind
     rw[b3,a6,a5,a2]
     have b4:(P'*s+P*s')*h*(h*t)=(P'*h)*s*h*t+P*s'*h*h*t:=by grind
     rw[b4,a7]
     have b5:(k:Int)*P*h'*s*h*t=(k:Int)*P*s*h*(h'*t):=by grind
     have b6:h'*t=c4*f'-h*t':=by omega
     rw[b5,b6]
     have b7:c5*c2*((k:Int)*P*s*h*(c4*f'-h*t')+P*s'*h*h*t+P*s*h*(c4*f'))=c2*((k:Int)*P*s*h*(c4*(c5*f')-c5*(h*t'))+c5*(P*s'*h*h*t)+P*s*h*(c4*(c5*f'))):=by grind
     rw[b7,a3];grind)
    intro x
    have h4:=h3 x
    simp only[Qb,Zr,Jh,Xz] at h4
    exact h4
   have d1:Dv h (Ut e s):=⟨c4*c5*c,Zy c2 (Bc (Bc (Ut (Zy (k:Int) s) (Zbn (Zy c4 w) (Zy c5 (Qu t)))) (Zy c5 (Ut (Qu s) t))) (Zy c4 (Ut s w))),Int.mul_ne_zero (Int.mul_ne_zero hc4 hc5) hc,fun x=>by
    simp only[Qb,Zr,Jh,Xz]
    exact hes x⟩
   have d2:Dv h (Ut f s):=Dv.mul_right s ⟨c4,t,hc4,ht⟩ (fun x=>Qb _ _ x)
   have d3:Dv h s:=Dv.comb (m:=c*c2*c3) (Zy c2 u) (Zy c v) (Int.mul_ne_zero (Int.mul_ne_zero hc hc2) hc3) d2 d1 (fun x=>by
    rw[hC x]
    simp only[Qb,Zr]
    grind)
   obtain⟨c6,s2,hc6,hs2⟩:=d3
   refine⟨c6*ck,s2,Int.mul_ne_zero hc6 hck,fun x => ?_⟩
   have a1:=hs x;have a2:=hs2 x
   simp only[B5]
   rw[Qb,Int.mul_assoc,a1]
   have b1:c6*(Zg (B5 h k) x*Zg s x)=Zg (B5 h k) x*(c6*Zg s x):=by grind
   rw[b1,a2];grind
 have hh1:=List.length_pos_iff.2 hh0
 apply Classical.byContradiction
 intro hn
 have h3:=((hk (Zc G).length).length hG0).1
 rw[(H7 hh0 _).2] at h3
 have:(Zc G).length*1≤(Zc G).length*((Zc h).length-1):=Nat.mul_le_mul_left _ (by omega)
 omega
def Ql (p:List Int):List Int :=
 if (Qv (prim p)).length<2∨(V3 (Qv (prim p)) (Qu (Qv (prim p)))).length<2 then Qv (prim p)
 else prim (Au (V3 (Qv (prim p)) (Qu (Qv (prim p)))) ((Qv (prim p)).length-(V3 (Qv (prim p)) (Qu (Qv (prim p)))).length+1) (Qv (prim p)) (List.replicate ((Qv (prim p)).length-(V3 (Qv (prim p)) (Qu (Qv (prim p)))).length+1) 0))
theorem Zef {g:List Int} (h:g.length=1):∃ c,g=[c]:=by
 match g,h with
 | [c],_=>exact⟨c,rfl⟩
theorem Zbr {a:List Int} (la:Vm a) (h0:a ≠ []) (ca:Jc a=1) (ta:0<top a) (f:List Int)
  (hf:f=if a.length<2∨(V3 a (Qu a)).length<2 then a else prim (Au (V3 a (Qu a)) (a.length-(V3 a (Qu a)).length+1) a (List.replicate (a.length-(V3 a (Qu a)).length+1) 0))) :
  Vm f∧Jc f=1∧0<top f∧f ≠ []∧f.length=a.length-(V3 a (Qu a)).length+1∧∃ c d:Int,c ≠ 0∧d ≠ 0∧∀ x,c*Zg a x=d*(Zg (V3 a (Qu a)) x*Zg f x):=by
 have hta:Zc a ≠ []:=Ug la h0
 have hG:=Gm a (Qu a)
 have lG:=Kx a (Qu a)
 have nG:=Fp (t:=Qu a) hta
 have tG:=Tt (t:=Qu a) hta
 have hGl:=(hG.1.length hta).1
 rw[lG,la] at hGl
 have hal:=List.length_pos_iff.2 h0
 have hgl:=List.length_pos_iff.2 nG
 generalize V3 a (Qu a)=G at *
 by_cases hs:a.length<2∨G.length<2
 ·rw[if_pos hs] at hf
  subst hf
  have hG1:G.length=1:=by omega
  obtain⟨c,rfl⟩:=Zef hG1
  refine⟨la,ca,ta,h0,by omega,c,1,?_,by decide,fun x=>by simp[Zg]⟩
  have:top [c]=c:=rfl
  omega
 ·rw[if_neg hs] at hf
  obtain⟨c',r',c1,r1,r2,r3⟩:=E5 (p:=a) (q:=G) nG tG hGl
  generalize Au G (a.length-G.length+1) a (List.replicate (a.length-G.length+1) 0)=o at *
  have to:=T5 c1 ta nG tG hGl r2 r3 r1
  have hr0:Zc r'=[]:=by
   apply Classical.byContradiction
   intro hn
   have hd:Dv G r':=Dv.comb (m:=1) [c'] (Vd o) (by decide) hG.1 (Dv.refl G) (fun x=>by
    have:=r3 x
    rw[Hd];simp only[Zg];grind)
   have h1:=(hd.length hn).1
   rw[lG] at h1
   have hl1:=List.length_pos_iff.2 hn
   have h2:=Vk (Kw r') hn
   rw[Je,r1 _ (by omega)] at h2
   exact h2 rfl
  have ho0:o ≠ []:=by intro h1;rw[h1] at r2;simp at r2
  have lo:Vm o:=Rx (Or.inr (by unfold top at to;omega))
  obtain⟨m,hm,hpe⟩:=Ku o
  subst hf
  refine⟨Qr o,K1 (Ug lo ho0),F7 to,?_,by rw[Qp,lo,r2],c',m,by omega,hm,fun x => ?_⟩
  ·intro h1;rw[Un,← Xa,lo] at h1;exact ho0 h1
  ·rw[r3 x,Js hr0,hpe x];grind
theorem Rp {p:List Int} (hp:Zc p ≠ []):Vm (Qv (prim p))∧Qv (prim p) ≠ []∧Jc (Qv (prim p))=1∧0<top (Qv (prim p))∧(Qv (prim p)).length=(Zc p).length∧∃ m:Int,m ≠ 0∧∃ n:Int,n ≠ 0∧∀ x,n*Zg p x=m*Zg (Qv (prim p)) x:=by
 have h1:prim p ≠ []:=by intro h;rw[Un,← Xa] at h;exact hp h
 obtain⟨m,hm,h2⟩:=Ku p
 obtain⟨n,hn,h3⟩:=M4 (prim p)
 refine⟨Gx (Qr p),?_,by rw[Lt];exact K1 hp,Ts (Qr p) h1,by rw[Wx,Qp],m,hm,n,hn,fun x=>by rw[h2 x,h3 x];grind⟩
 intro h
 have:=congrArg List.length h
 rw[Wx] at this
 exact h1 (List.eq_nil_of_length_eq_zero this)
theorem N0 {p:List Int} (hp:Zc p ≠ []):Vm (Ql p)∧Jc (Ql p)=1∧0<top (Ql p)∧Ql p ≠ []∧Dv (Ql p) p ∧
  (Ql p).length+(V3 (Qv (prim p)) (Qu (Qv (prim p)))).length=(Zc p).length+1∧IsG (V3 (Qv (prim p)) (Qu (Qv (prim p)))) p (Qu p)∧(V3 (Ql p) (Qu (Ql p))).length=1:=by
 obtain⟨la,h0,ca,ta,hl,m,hm,n,hn,hpe⟩:=Rp hp
 obtain⟨lf,cf,tf,f0,fl,c,d,hc,hd,hcd⟩:=Zbr la h0 ca ta (Ql p) rfl
 have hta:Zc (Qv (prim p)) ≠ []:=Ug la h0
 have hG:=Gm (Qv (prim p)) (Qu (Qv (prim p)))
 have lG:=Kx (Qv (prim p)) (Qu (Qv (prim p)))
 have nG:=Fp (t:=Qu (Qv (prim p))) hta
 have hGl:=(hG.1.length hta).1
 rw[lG,la] at hGl
 have hder:∀ x,n*Zg (Qu p) x=m*Zg (Qu (Qv (prim p))) x:=Rr hpe
 generalize Qv (prim p)=a at *
 generalize V3 a (Qu a)=G at *
 generalize Ql p=f at *
 have hal:=List.length_pos_iff.2 h0
 have hgl:=List.length_pos_iff.2 nG
 refine⟨lf,cf,tf,f0,?_,by omega,?_,?_⟩
 ·have h1:Dv f a:=⟨c,Zy d G,hc,fun x=>by rw[hcd x,Zr];grind⟩
  exact h1.scaled hn hpe
 ·exact hG.scaled hn hm hn hm hpe hder
 ·have hK:=Gm f (Qu f)
  have nK:=Fp (t:=Qu f) (Ug lf f0)
  have lK:=Kx f (Qu f)
  have h1:=P3 (h:=V3 f (Qu f)) (f:=Zy d f) (c:=c) hta hG hc (fun x=>by rw[hcd x,Zr];grind)
   (hK.1.scaled (m:=1) (n:=d) (by decide) (fun x=>by rw[Zr];omega)) (hK.2.1.scaled (m:=1) (n:=d) (by decide) (fun x=>by rw[Vu];omega))
  rwa [lK] at h1
theorem Zko {p:List Int} {K:Nat} (hp:Zc p ≠ []) (hl:p.length≤9) (hK:Kb K p):Kb (K+3) (Ql p)∧(Ql p).length≤(Zc p).length:=by
 obtain⟨lf,cf,tf,f0,hd,_,_,_⟩:=N0 hp
 have h1:=(hd.length hp).1
 rw[lf] at h1
 obtain⟨c,k,hc,hk⟩:=hd
 have:=Qc p
 exact⟨An hc cf hp hl (by omega) hK hk,h1⟩
end Go.Ai

namespace Go.Proofs.Ythnnfemologhfaa
open Go.IntKind (i64 u64 u32)
open Go.Ai
set_option maxRecDepth 100000
theorem Zeh {E rs:List Rn} {m:Nat} (hl:E.length=rs.length) (h:∀ x,x<m→E.getD x z0=rs.getD x z0):Gw E rs m=rs:=by
 apply List.ext_getElem?
 intro t
 unfold Gw
 by_cases ht:t<m
 ·by_cases hm:t<E.length
  ·have:=h t ht
   rw[List.getD_eq_getElem?_getD,List.getD_eq_getElem?_getD,List.getElem?_eq_getElem hm,List.getElem?_eq_getElem (by omega)] at this
   rw[List.getElem?_append_left (by rw[List.length_take];omega),List.getElem?_take_of_lt ht,List.getElem?_eq_getElem hm,List.getElem?_eq_getElem (by omega)]
   simpa using this
  ·rw[List.getElem?_eq_none (by rw[List.length_append,List.length_take,List.length_drop];omega),List.getElem?_eq_none (by omega)]
 ·by_cases hm:m≤E.length
  ·rw[List.getElem?_append_right (by rw[List.length_take];omega),List.length_take,List.getElem?_drop]
   congr 1;omega
  ·rw[List.getElem?_eq_none (by rw[List.length_append,List.length_take,List.length_drop];omega),List.getElem?_eq_none (by omega)]
theorem Zei {E rs:List Rn} {m:Nat} (hl:E.length=rs.length) (hm:m≤rs.length) (h:∀ x,m≤x→E.getD x z0=rs.getD x z0):Gw E rs m=E:=by
 apply List.ext_getElem?
 intro t
 unfold Gw
 by_cases ht:t<m
 ·rw[List.getElem?_append_left (by rw[List.length_take];omega),List.getElem?_take_of_lt ht]
 ·rw[List.getElem?_append_right (by rw[List.length_take];omega),List.length_take,List.getElem?_drop,show m+(t-min m E.length)=t by omega]
  by_cases hm:t<E.length
  ·have:=h t (by omega)
   rw[List.getD_eq_getElem?_getD,List.getD_eq_getElem?_getD,List.getElem?_eq_getElem hm,List.getElem?_eq_getElem (by omega)] at this
   rw[List.getElem?_eq_getElem hm,List.getElem?_eq_getElem (by omega)]
   simpa using this.symm
  ·rw[List.getElem?_eq_none (by omega),List.getElem?_eq_none (by omega)]
section
variable {p q:List Int} {J Kq:Nat}
theorem N5 {c:Int} (hp:Kb J p) (hc:Jg Kq c):Kb (J+Kq) (Zy c p):=fun i=>by
 rw[Z6,Nat.add_comm];exact hc.mul (hp i)
theorem div_a {t:Int} {l:Rn} {qs os:List Rn} {kq:Nat} {j:Int} (hp:Kb J p) (ht:Jg Kq t) (hS:J+Kq<1048576) (hN:p.length≤1048576) :
  Za Yir (.loop Nj) (H2 qs p.length (p.map cn) (cn t) kq os j l (p.length:Nat) 0) (.exit 2) (H2 qs p.length ((Zy t p).map cn) (cn t) kq os j l (p.length:Nat) (p.length:Nat)):=by
 have hE:((Zy t p).map cn).length=(p.map cn).length:=by rw[List.length_map,List.length_map,Zw]
 have hpl:(p.map cn).length=p.length:=List.length_map ..
 have h:=Za.up (prog:=Yir) (c:=Nj) (ex := .exit 2) (fin:=H2 qs p.length ((Zy t p).map cn) (cn t) kq os j l (p.length:Nat) (p.length:Nat))
  (fun i=>H2 qs p.length (Gw ((Zy t p).map cn) (p.map cn) i) (cn t) kq os j l (p.length:Nat) (i:Nat)) p.length (by intro e;cases e) ?_ ?_ 0 (Nat.zero_le _)
 ·rw[Gs] at h;exact h
 ·intro i hi
  have ei:i64.wrap ((i:Int)+1)=((i+1:Nat):Int):=by rw[w64 (by omega) (by omega)];omega
  have hml:=U1 hE i
  have hget:=Gu hE (i:=i) (by omega)
  have hEi:((Zy t p).map cn).getD i z0=cn ((Zy t p).getD i 0):=X1 (by rw[Zw];exact hi)
  have hset:=Gt hE (i:=i) (by omega)
  rw[hEi,Z6] at hset
  have gp:=Z8 (Z1 hp) i
  have gt:=Q5 ht
  have vi:=U2 p i
  have m1:=Ff gp gt (by omega)
  generalize Gw ((Zy t p).map cn) (p.map cn) i=M at *
  have k:=Znw qs p.length M (cn t) kq os j l (p.length:Nat) (i:Nat) (by simp;omega) (by omega) (by omega) (by rw[Int.toNat_natCast,hget];exact m1)
  refine k.to rfl ?_
  simp only[ei,Int.toNat_natCast,hget]
  rw[vi,Z9,Int.mul_comm,hset]
 ·rw[show Gw ((Zy t p).map cn) (p.map cn) p.length=(Zy t p).map cn by have h:=Gv hE;rw[hpl] at h;exact h]
  exact Znv _ _ _ _ _ _ _ _ _ _ (by simp)
theorem div_b {t:Int} {l:Rn} {qs rs:List Rn} {k:Nat} {j:Int} (hp:Kb J p) (ht:Jg Kq t) (hS:J+Kq<1048576) (hN:p.length≤1048576) :
  Za Yir (.loop Ni) (H1 qs k rs (cn t) p.length (p.map cn) j l (p.length:Nat) 0) (.exit 4) (H1 qs k rs (cn t) p.length ((Zy t p).map cn) j l (p.length:Nat) (p.length:Nat)):=by
 have hE:((Zy t p).map cn).length=(p.map cn).length:=by rw[List.length_map,List.length_map,Zw]
 have hpl:(p.map cn).length=p.length:=List.length_map ..
 have h:=Za.up (prog:=Yir) (c:=Ni) (ex := .exit 4) (fin:=H1 qs k rs (cn t) p.length ((Zy t p).map cn) j l (p.length:Nat) (p.length:Nat))
  (fun i=>H1 qs k rs (cn t) p.length (Gw ((Zy t p).map cn) (p.map cn) i) j l (p.length:Nat) (i:Nat)) p.length (by intro e;cases e) ?_ ?_ 0 (Nat.zero_le _)
 ·rw[Gs] at h;exact h
 ·intro i hi
  have ei:i64.wrap ((i:Int)+1)=((i+1:Nat):Int):=by rw[w64 (by omega) (by omega)];omega
  have hml:=U1 hE i
  have hget:=Gu hE (i:=i) (by omega)
  have hEi:((Zy t p).map cn).getD i z0=cn ((Zy t p).getD i 0):=X1 (by rw[Zw];exact hi)
  have hset:=Gt hE (i:=i) (by omega)
  rw[hEi,Z6] at hset
  have gp:=Z8 (Z1 hp) i
  have gt:=Q5 ht
  have vi:=U2 p i
  have m1:=Ff gp gt (by omega)
  generalize Gw ((Zy t p).map cn) (p.map cn) i=M at *
  have k:=Znu qs k rs (cn t) p.length M j l (p.length:Nat) (i:Nat) (by simp;omega) (by omega) (by omega) (by rw[Int.toNat_natCast,hget];exact m1)
  refine k.to rfl ?_
  simp only[ei,Int.toNat_natCast,hget]
  rw[vi,Z9,Int.mul_comm,hset]
 ·rw[show Gw ((Zy t p).map cn) (p.map cn) p.length=(Zy t p).map cn by have h:=Gv hE;rw[hpl] at h;exact h]
  exact Znt _ _ _ _ _ _ _ _ _ _ (by simp)
theorem div_c {t:Rn} {l:Int} {os:List Rn} {kq j Jp:Nat} (hp:Kb Jp p) (hq:Kb Kq q) (hl:Jg J l) (hS:J+Kq<1048576) (hJp:Jp<1048576) (hN:p.length≤1048576) (hj:j+q.length≤p.length) :
  Za Yir (.loop Nh) (H0 (q.map cn) p.length (p.map cn) t kq os (j:Nat) (cn l) (q.length:Nat) 0) (.exit 6) (H0 (q.map cn) p.length ((Ko p q l j).map cn) t kq os (j:Nat) (cn l) (q.length:Nat) (q.length:Nat)):=by
 have hE:((Ko p q l j).map cn).length=(p.map cn).length:=by rw[List.length_map,List.length_map,Ud]
 have hpl:(p.map cn).length=p.length:=List.length_map ..
 have gE:∀ x,x<p.length→((Ko p q l j).map cn).getD x z0=cn (p.getD x 0-l*(Vr j q).getD x 0):=fun x hx=>by
  rw[X1 (by rw[Ud];exact hx),Hg _ _ _ _ _ hj]
 have eout:∀ x,(x<j∨j+q.length≤x)→((Ko p q l j).map cn).getD x z0=(p.map cn).getD x z0:=by
  intro x hx
  by_cases h:x<p.length
  ·rw[gE x h,X1 h,Jl]
   rcases hx with hx | hx
   ·rw[if_neg (by omega),Int.mul_zero,Int.sub_zero]
   ·rw[if_pos (by omega),Qt (xs:=q) (show q.length≤x-j by omega),Int.mul_zero,Int.sub_zero]
  ·rw[List.getD_eq_getElem?_getD,List.getD_eq_getElem?_getD,List.getElem?_eq_none (by omega),List.getElem?_eq_none (by omega)]
 have h:=Za.up (prog:=Yir) (c:=Nh) (ex := .exit 6) (fin:=H0 (q.map cn) p.length ((Ko p q l j).map cn) t kq os (j:Nat) (cn l) (q.length:Nat) (q.length:Nat))
  (fun i=>H0 (q.map cn) p.length (Gw ((Ko p q l j).map cn) (p.map cn) (j+i)) t kq os (j:Nat) (cn l) (q.length:Nat) (i:Nat)) q.length (by intro e;cases e) ?_ ?_ 0 (Nat.zero_le _)
 ·rw[Nat.add_zero,Zeh hE (fun x hx=>eout x (.inl hx))] at h;exact h
 ·intro i hi
  have ei:i64.wrap ((i:Int)+1)=((i+1:Nat):Int):=by rw[w64 (by omega) (by omega)];omega
  have eji:i64.wrap ((j:Int)+(i:Int))=((j+i:Nat):Int):=by rw[w64 (by omega) (by omega)];omega
  have hml:=U1 hE (j+i)
  have hget:=Gu hE (i:=j+i) (by omega)
  have hEi:=gE (j+i) (by omega)
  rw[Jl,if_pos (by omega),show j+i-j=i by omega] at hEi
  have hset:=Gt hE (i:=j+i) (by omega)
  rw[hEi] at hset
  have gp:=Z8 (Z1 hp) (j+i)
  have gq:=Z8 (Z1 hq) i
  have gl:=Q5 hl
  have vi:=U2 p (j+i)
  have vq:=U2 q i
  have m1:=Ff gl gq (by omega)
  have f1:Jg (J+Kq) (Zn (cn l)*Zn ((q.map cn).getD i z0)):=Jg.mul (by rw[Z9];exact hl) gq.fits
  have m2:=Zde gp (Q5 f1) (by omega) (by omega)
  rw[Z9 (Zn (cn l)*Zn ((q.map cn).getD i z0))] at m2
  generalize Gw ((Ko p q l j).map cn) (p.map cn) (j+i)=M at *
  have k:=Zns (q.map cn) p.length M t kq os (j:Nat) (cn l) (q.length:Nat) (i:Nat) (by simp;omega) (by rw[eji];omega) (by omega) (by rw[List.length_map];omega) (by rw[Int.toNat_natCast];exact m1) (by rw[eji,Int.toNat_natCast,Int.toNat_natCast,hget];exact m2)
  refine k.to rfl ?_
  simp only[ei,eji,Int.toNat_natCast,hget]
  rw[vi,vq,Z9,hset,Nat.add_assoc]
 ·rw[Zei hE (by omega) (fun x hx=>eout x (.inr hx))]
  exact Znr _ _ _ _ _ _ _ _ _ _ (by simp)
theorem Zkn {l:Int} (hp:Kb (J+Kq) p) (hq:Kb Kq q) (hl:Jg J l) (k:Nat) (hk:k+q.length≤p.length):Kb (J+Kq+1) (Ko p q l k):=fun i=>by
 rw[Hg _ _ _ _ _ hk,Jl]
 split
 ·exact (hp i).add (hl.mul (hq _)).neg
 ·rw[Int.mul_zero,Int.sub_zero];exact (hp i).mono (by omega)
theorem Zqe {l:Int} (hp:Kb J p) (hl:Jg J l) (k:Nat):Kb J (p.set k l):=fun i=>by
 by_cases h:i=k
 ·subst h
  by_cases hi:i<p.length
  ·rw[List.getD_eq_getElem?_getD,List.getElem?_set_self hi];exact hl
  ·rw[Qt (by rw[List.length_set];omega)];exact Vb _
 ·rw[Qo (by omega)];exact hp i
end
theorem Zk1 {q:List Int} {Kq:Nat} (hq:Kb Kq q) (hq0:q ≠ []):∀ (k:Nat) (r out:List Int) (J:Nat),Kb J r→Kb J out→J+k*(Kq+1)<1048576→k≤out.length→out.length+q.length=r.length+1→r.length≤1048576 →
  (∃ r',Za Yir (.loop Ziz) (Sr (q.map cn) r.length (r.map cn) (cn (top q)) out.length (out.map cn) ((k:Int)-1)) (.exit 0) (Sr (q.map cn) r.length r' (cn (top q)) out.length ((Au q k r out).map cn) (-1)))∧Kb (J+k*(Kq+1)) (Au q k r out)∧(Au q k r out).length=out.length:=by
 have hql:=List.length_pos_iff.2 hq0
 intro k
 induction k with
 | zero =>
  intro r out J _ ho _ _ _ _
  exact⟨⟨_,Za.loop_out (Zva _ _ _ _ _ _ _ (by simp)) (by intro e;cases e)⟩,ho.mono (by omega),rfl⟩
 | succ k ih =>
  intro r out J hr ho hS hk hl hN
  simp only[Au]
  have hS':J+Kq+1+k*(Kq+1)<1048576:=by rw[Nat.add_mul,Nat.one_mul] at hS;omega
  have el:Jg J (r.getD (k+q.length-1) 0):=hr _
  have e1:((k+1:Nat):Int)-1=(k:Int):=by omega
  have e2:i64.wrap (i64.wrap ((k:Int)+(((q.map cn).length:Nat):Int))-1)=((k+q.length-1:Nat):Int):=by
   rw[List.length_map,w64 (n:=(k:Int)+(q.length:Nat)) (by omega) (by omega),w64 (by omega) (by omega)];omega
  have e3:(r.map cn).getD (k+q.length-1) z0=cn (r.getD (k+q.length-1) 0):=X1 (by omega)
  have e4:i64.wrap ((k:Int)-1)=(k:Int)-1:=w64 (by omega) (by omega)
  have ft:Jg Kq (top q):=hq _
  generalize hlead:r.getD (k+q.length-1) 0=l at *
  have hps:=N5 hr ft
  have hpo:=N5 ho ft
  have la:=div_a (l:=cn l) (qs:=q.map cn) (os:=out.map cn) (kq:=out.length) (j:=(k:Nat)) hr ft (by omega) hN
  have lb:=div_b (l:=cn l) (qs:=q.map cn) (rs:=(Zy (top q) r).map cn) (k:=r.length) (j:=(k:Nat)) ho ft (by omega) (by omega)
  have hlc:=div_c (t:=cn (top q)) (l:=l) (os:=((Zy (top q) out).set k l).map cn) (kq:=out.length) (j:=k) (p:=Zy (top q) r) (J:=J) hps hq el (by omega) (by omega) (by rw[Zw];exact hN) (by rw[Zw];omega)
  rw[Zw] at hlc
  obtain⟨⟨r',hr'⟩,kb,len⟩:=ih (Ko (Zy (top q) r) q l k) ((Zy (top q) out).set k l) (J+Kq+1) (Zkn hps hq el k (by rw[Zw];omega)) (Zqe (hpo.mono (by omega)) (el.mono (by omega)) k) hS' (by rw[List.length_set,Zw];omega) (by rw[List.length_set,Zw,Ud,Zw];exact hl) (by rw[Ud,Zw];exact hN)
  rw[List.length_set,Zw,Ud,Zw] at hr'
  refine⟨⟨r',?_⟩,kb.mono (by rw[Nat.add_mul,Nat.one_mul];omega),by rw[len,List.length_set,Zw]⟩
  have hset:((Zy (top q) out).map cn).set k (cn l)=((Zy (top q) out).set k l).map cn:=by rw[List.map_set]
  have k1:=Zvb (q.map cn) r.length (r.map cn) (cn (top q)) out.length (out.map cn) (k:Nat) ((Zy (top q) r).map cn) ((Ko (Zy (top q) r) q l k).map cn) ((Zy (top q) out).map cn) _ _ _ _ _ _ (by simp) (by rw[e2];omega) (List.length_map ..)
   (by rw[e2,Int.toNat_natCast,e3];exact la) (by rw[e2,Int.toNat_natCast,e3];exact lb) (by omega) (by rw[List.length_map,Zw]) (by rw[e2,Int.toNat_natCast,Int.toNat_natCast,e3,hset,List.length_map];exact hlc)
  rw[e2,Int.toNat_natCast,Int.toNat_natCast,e3,hset,e4] at k1
  rw[e1]
  exact Za.loop k1 hr'
theorem z0_cn:cn 0=z0:=rfl
theorem Lz {p q:List Int} {J K:Nat} (hp:Kb J p) (hq:Kb K q) (lp:Vm p) (hq0:q ≠ []) (hl:q.length≤p.length) (hN:p.length≤1000000) (hS:J+(p.length-q.length+1)*(K+1)<1048576) :
  Ze Yir 116 [.sl (p.map cn).length (pc (p.map cn)), .sl (q.map cn).length (pc (q.map cn))] (.fresh 2 ((prim (Au q (p.length-q.length+1) p (List.replicate (p.length-q.length+1) 0))).map cn).length (pc ((prim (Au q (p.length-q.length+1) p (List.replicate (p.length-q.length+1) 0))).map cn))):=by
 have hql:=List.length_pos_iff.2 hq0
 have htr:=Ax (rs:=p.map cn) (fun r h=>(Z1 hp r h).mono (show J≤1048576 by omega)) (by rw[List.length_map];omega)
 rw[Z5,lp] at htr
 have htr':Ze Yir 92 [.sl (p.map cn).length (pc (p.map cn))] (.fresh 2 (p.map cn).length (pc (p.map cn))):=by rw[List.length_map] at htr ⊢;exact htr
 obtain⟨⟨r',hlp⟩,kb,len⟩:=Zk1 hq hq0 (p.length-q.length+1) p (List.replicate (p.length-q.length+1) 0) J hp (fun i=>by rw[Jk];exact Vb _) hS (by simp) (by simp;omega) (by omega)
 rw[List.length_replicate] at hlp len
 have e1:i64.wrap ((((q.map cn).length:Nat):Int)-1)=((q.length-1:Nat):Int):=by rw[List.length_map,w64 (by omega) (by omega)];omega
 have e2:i64.wrap (i64.wrap ((((p.map cn).length:Nat):Int)-(((q.map cn).length:Nat):Int))+1)=((p.length-q.length+1:Nat):Int):=by
  rw[List.length_map,List.length_map,w64 (n:=(p.length:Int)-(q.length:Nat)) (by omega) (by omega),w64 (by omega) (by omega)];omega
 have e3:i64.wrap (((p.length-q.length+1:Nat):Int)-1)=((p.length-q.length+1:Nat):Int)-1:=w64 (by omega) (by omega)
 have hz:(List.replicate (p.length-q.length+1) (0:Int)).map cn=List.replicate (p.length-q.length+1) z0:=by rw[List.map_replicate,z0_cn]
 have hpr:=Jm (rs:=(Au q (p.length-q.length+1) p (List.replicate (p.length-q.length+1) 0)).map cn) (Z1 kb) (by omega) (by rw[List.length_map];omega)
 rw[Z5] at hpr
 have hpr':=hpr
 rw[show ∀ o:List Int,(o.map cn).length=o.length from fun o=>List.length_map ..,len] at hpr'
 have k:=Zsv (p.map cn) (q.map cn) (p.map cn) ((prim (Au q (p.length-q.length+1) p (List.replicate (p.length-q.length+1) 0))).map cn) r' ((Au q (p.length-q.length+1) p (List.replicate (p.length-q.length+1) 0)).map cn) (cn (top q)) p.length (p.length-q.length+1) (-1) htr' (by rw[e1,List.length_map];omega) (by rw[e2];omega) (by
   rw[e1,e2,Int.toNat_natCast,Int.toNat_natCast,e3,Nu,← hz,X1 (show q.length-1<q.length by omega),show (p.map cn).length=p.length from List.length_map ..]
   exact hlp) (by
   have hlm:((prim (Au q (p.length-q.length+1) p (List.replicate (p.length-q.length+1) 0))).map cn).length=(prim (Au q (p.length-q.length+1) p (List.replicate (p.length-q.length+1) 0))).length:=List.length_map ..
   rw[hlm];exact hpr')
 exact k
theorem Zfr {rs:List Rn} {K c:Nat} (hr:∀ r∈rs,Ju K r) (hn:rs.length≤c) (hc:c≤9) (hS:(K+3)*(2*3^c)≤500000):Tk 66 [.sl rs.length (pc rs)] (Ql (Zi rs)):=by
 have h3:0<3^c:=Nat.pow_pos (by decide)
 have hK:K+3≤250000:=by
  have:(K+3)*2≤(K+3)*(2*3^c):=Nat.mul_le_mul_left _ (by omega)
  omega
 have p1:=Jm hr (by omega) (by omega)
 have p1':Ze Yir 86 [.sl rs.length (pc rs)] (.fresh 2 ((prim (Zi rs)).map cn).length (pc ((prim (Zi rs)).map cn))):=by rw[List.length_map];exact p1
 have k1:Kb K (prim (Zi rs)):=(Du (Jf hr)).prim
 have l1:(prim (Zi rs)).length≤rs.length:=by rw[Qp];have:=Qc (Zi rs);rwa [Zs] at this
 obtain⟨q1,q2⟩:=A1 k1 (by omega) (by omega)
 have ka:Kb K (Qv (prim (Zi rs))):=by
  unfold Qv;split
  ·intro i;rw[Va];exact (k1 i).neg
  ·exact k1
 have la:=Wx (prim (Zi rs))
 have lda:Vm (Qv (prim (Zi rs))):=Gx (Qr _)
 have hpp:(¬ top (prim (Zi rs))<0)→Qv (prim (Zi rs))=prim (Zi rs):=D9
 have hder:=Di (rs:=(Qv (prim (Zi rs))).map cn) (Z1 ka) (by omega) (by rw[List.length_map];omega)
 rw[Z5] at hder
 have hder':Ze Yir 75 [.sl ((Qv (prim (Zi rs))).map cn).length (pc ((Qv (prim (Zi rs))).map cn))] (.fresh 2 ((Qu (Qv (prim (Zi rs)))).map cn).length (pc ((Qu (Qv (prim (Zi rs)))).map cn))):=by
  have hlm:((Qu (Qv (prim (Zi rs)))).map cn).length=(Qu (Qv (prim (Zi rs)))).length:=List.length_map ..
  rw[hlm];exact hder
 have kd:Kb (K+2) (Qu (Qv (prim (Zi rs)))):=R0 ka (by omega)
 have ld:(Qu (Qv (prim (Zi rs)))).length≤c:=by have:=Zad (Qv (prim (Zi rs)));omega
 have hcom:=Sl (rs:=(Qv (prim (Zi rs))).map cn) (ss:=(Qu (Qv (prim (Zi rs)))).map cn) (K:=K+2) (c:=c) (fun r h=>(Z1 ka r h).mono (by omega)) (Z1 kd) (by rw[List.length_map];omega) (by rw[List.length_map];exact ld) (by omega) hS
 rw[Z5,Z5] at hcom
 change Tk 65 _ (V3 (Qv (prim (Zi rs))) (Qu (Qv (prim (Zi rs))))) at hcom
 have hdiv:2≤(V3 (Qv (prim (Zi rs))) (Qu (Qv (prim (Zi rs))))).length→Ze Yir 116 [.sl ((Qv (prim (Zi rs))).map cn).length (pc ((Qv (prim (Zi rs))).map cn)), .sl ((V3 (Qv (prim (Zi rs))) (Qu (Qv (prim (Zi rs))))).map cn).length (pc ((V3 (Qv (prim (Zi rs))) (Qu (Qv (prim (Zi rs))))).map cn))]
   (.fresh 2 ((prim (Au (V3 (Qv (prim (Zi rs))) (Qu (Qv (prim (Zi rs))))) ((Qv (prim (Zi rs))).length-(V3 (Qv (prim (Zi rs))) (Qu (Qv (prim (Zi rs))))).length+1) (Qv (prim (Zi rs))) (List.replicate ((Qv (prim (Zi rs))).length-(V3 (Qv (prim (Zi rs))) (Qu (Qv (prim (Zi rs))))).length+1) 0))).map cn).length (pc ((prim (Au (V3 (Qv (prim (Zi rs))) (Qu (Qv (prim (Zi rs))))) ((Qv (prim (Zi rs))).length-(V3 (Qv (prim (Zi rs))) (Qu (Qv (prim (Zi rs))))).length+1) (Qv (prim (Zi rs))) (List.replicate ((Qv (prim (Zi rs))).length-(V3 (Qv (prim (Zi rs))) (Qu (Qv (prim (Zi rs))))).length+1) 0))).map cn))):=by
  intro h2
  have hp0:Zc (Zi rs) ≠ []:=by
   intro h0
   have:prim (Zi rs)=[]:=Un.2 (Xa.1 h0)
   rw[this] at h2
   exact absurd h2 (by decide)
  obtain⟨a1,a2,_,_,_,_⟩:=Rp hp0
  obtain⟨b1,b2⟩:=Zeu (t:=Qu (Qv (prim (Zi rs)))) (Ug a1 a2) (by omega) ka
  rw[a1] at b2
  exact Lz ka b1 lda (by intro h0;rw[h0] at h2;exact absurd h2 (by decide)) b2 (by omega) (by
   have h4:(Qv (prim (Zi rs))).length-(V3 (Qv (prim (Zi rs))) (Qu (Qv (prim (Zi rs))))).length+1≤10:=by omega
   have h5:=Nat.mul_le_mul_right (K+3+1) h4
   have h6:3^2≤3^c:=Nat.pow_le_pow_right (by decide) (by omega)
   have h7:(K+3)*18≤(K+3)*(2*3^c):=Nat.mul_le_mul_left _ (by omega)
   omega)
 unfold Ql
 by_cases hs:(Qv (prim (Zi rs))).length<2
 ·rw[if_pos (.inl hs)]
  by_cases ht:top (prim (Zi rs))<0
  ·exact .inr (S9 rs _ _ (by rw[decide_eq_true_eq,List.length_map];omega) p1' (q1 ht))
  ·rw[hpp ht] at hs ⊢
   exact .inr (S0 rs _ (by rw[decide_eq_true_eq,List.length_map];omega) p1' (q2 ht))
 ·by_cases hg:(V3 (Qv (prim (Zi rs))) (Qu (Qv (prim (Zi rs))))).length<2
  ·rw[if_pos (.inr hg)]
   by_cases ht:top (prim (Zi rs))<0
   ·rcases hcom with h | h
    ·exact .inr (S8 rs _ _ _ _ (by rw[decide_eq_false_iff_not,List.length_map];omega) (by rw[decide_eq_true_eq,List.length_map];omega) p1' (q1 ht) hder' h)
    ·exact .inr (S6 rs _ _ _ _ (by rw[decide_eq_false_iff_not,List.length_map];omega) (by rw[decide_eq_true_eq,List.length_map];omega) p1' (q1 ht) hder' h)
   ·rw[hpp ht] at *
    rcases hcom with h | h
    ·exact .inr (S4 rs _ _ _ (by rw[decide_eq_false_iff_not,List.length_map];omega) (by rw[decide_eq_true_eq,List.length_map];omega) p1' (q2 ht) hder' h)
    ·exact .inr (Sz rs _ _ _ (by rw[decide_eq_false_iff_not,List.length_map];omega) (by rw[decide_eq_true_eq,List.length_map];omega) p1' (q2 ht) hder' h)
  ·rw[if_neg (by omega)]
   have hdiv:=hdiv (by omega)
   by_cases ht:top (prim (Zi rs))<0
   ·rcases hcom with h | h
    ·exact .inl (S7 rs _ _ _ _ _ (by rw[decide_eq_false_iff_not,List.length_map];omega) (by rw[decide_eq_false_iff_not,List.length_map];omega) p1' (q1 ht) hder' h hdiv)
    ·exact .inl (S5 rs _ _ _ _ _ (by rw[decide_eq_false_iff_not,List.length_map];omega) (by rw[decide_eq_false_iff_not,List.length_map];omega) p1' (q1 ht) hder' h hdiv)
   ·rw[hpp ht] at *
    rcases hcom with h | h
    ·exact .inl (S3 rs _ _ _ _ (by rw[decide_eq_false_iff_not,List.length_map];omega) (by rw[decide_eq_false_iff_not,List.length_map];omega) p1' (q2 ht) hder' h hdiv)
    ·exact .inl (Sy rs _ _ _ _ (by rw[decide_eq_false_iff_not,List.length_map];omega) (by rw[decide_eq_false_iff_not,List.length_map];omega) p1' (q2 ht) hder' h hdiv)
def TMC:Jx:=TMB
theorem Zi6:Q1 Yir TMC:=Zi7
end Go.Proofs.Ythnnfemologhfaa

namespace Go.Proofs.Ythnnfemologhfaa
open Go.IntKind (i64 u64 u32)
open Go.Ai
set_option maxRecDepth 100000
def plA (p:List Int):AV := .sl (p.map cn).length (pc (p.map cn))
def plF (p:List Int):AV := .fresh 2 (p.map cn).length (pc (p.map cn))
theorem Ve {f:Nat} {args:List AV} {X:List Int} (h:Ze Yir f args (.fresh 2 X.length (pk X))):Ze Yir f args (.fresh 2 (X.map cn).length (pc (X.map cn))):=by
 rw[List.length_map];exact h
theorem Zek (p:List Int):Zn ((p.map cn).getD (p.length-1) z0)=top p:=U2 p (p.length-1)
theorem H6 {p:List Int} {K:Nat} (hk:Kb K p) (hL:Vm p) (hK:K≤1048576) (hN:p.length≤1048576) :
  (top p<0→Ze Yir 119 [plA p] (plF (Qv p)))∧(¬ top p<0→Ze Yir 119 [plA p] (plA p)):=by
 have hg:∀ r∈p.map cn,Ju 1048576 r:=fun r hr=>(Z1 hk r hr).mono hK
 have hlm:(p.map cn).length=p.length:=List.length_map ..
 by_cases h0:0<p.length
 ·have e1:i64.wrap ((((p.map cn).length:Nat):Int)-1)=((p.length-1:Nat):Int):=by rw[hlm,w64 (by omega) (by omega)];omega
  obtain⟨g1,g2⟩:=Z8 hg (p.length-1)
  have hs:=Uk (neg:=((p.map cn).getD (p.length-1) z0).1) g1 g2
  have ht:Zn ((p.map cn).getD (p.length-1) z0)=top p:=Zek p
  rw[show rv ((p.map cn).getD (p.length-1) z0).1 ((p.map cn).getD (p.length-1) z0).2=top p from ht] at hs
  refine⟨fun h => ?_,fun h => ?_⟩
  ·have hn:=T6 hg (by omega)
   rw[Z5,Gy hL] at hn
   have e:Qv p=Vd p:=by unfold Qv;rw[if_pos h]
   unfold plA plF
   rw[e]
   exact Zgt _ _ (by rw[decide_eq_true_eq];omega) (by rw[e1,Int.toNat_natCast,ht,decide_eq_true_eq];unfold Xh;rw[if_pos h];decide) (by rw[e1];omega) (by rw[e1,Int.toNat_natCast,ht];exact hs) (Ve hn)
  ·exact Zgs _ (by rw[decide_eq_true_eq];omega) (by rw[e1,Int.toNat_natCast,ht,decide_eq_false_iff_not];unfold Xh;rw[if_neg h];split <;> decide) (by rw[e1];omega) (by rw[e1,Int.toNat_natCast,ht];exact hs)
 ·have hz:p=[]:=List.eq_nil_of_length_eq_zero (by omega)
  subst hz
  refine⟨fun h=>absurd h (by decide),fun _=>Zgr [] (by decide)⟩
theorem Zdo (n:Int):Zn (false,(cn n).2)=(n.natAbs:Int):=by
 show rv false (Zb n.natAbs)=_
 unfold rv;rw[Q9];simp
theorem Zdr {x y:Rn} {J K:Nat} (hx:Ju J x) (hy:Ju K y) (h:J+K≤1048576):Ze Yir 105 [.agg [.bool x.1, .sl x.2.length (lm x.2)],Zt y] (Zl (Zn x*Zn y)):=Fh hx.1 hy.1 (by have:=hx.2;have:=hy.2;omega)
theorem rm_cn {x y:Rn} {J K:Nat} (hx:Ju J x) (hy:Ju K y) (h:J<1048576) (h2:K<1048576):Ze Yir 118 [Zt x,Zt y] (Zl (Zn x-Zn y)):=En hx.1 hy.1 (by have:=hx.2;omega) (by have:=hy.2;omega)
def gst (p d:List Int) (a b:Int) (j:Nat):Int:=if p.length-d.length≤j then a*p.getD j 0-b*d.getD (j-(p.length-d.length)) 0 else a*p.getD j 0
theorem Zez (p d:List Int) (a b:Int) (n:Nat):((List.range n).map fun j=>cn (gst p d a b j))=(Ur p d a b n).map cn:=by
 unfold Ur gst;rw[List.map_map];rfl
section
variable {p d:List Int} {J Kd:Nat}
theorem B2 {b:Int} (hp:Kb J p) (hd:Kb Kd d) (hb:Jg J b) (hS:J+Kd+1<1000000) (hd0:d ≠ []) (hl:d.length≤p.length) (hN:p.length≤1048576) :
  Za Yir (.loop Ph) (Gd (p.map cn) (d.map cn) (cn (top d)) (cn b) ((p.length-d.length:Nat):Int) 0 [] 0) (.exit 2)
   (Gd (p.map cn) (d.map cn) (cn (top d)) (cn b) ((p.length-d.length:Nat):Int) (p.length-1) (pc ((Ur p d ((top d).natAbs:Int) b (p.length-1)).map cn)) ((p.length-1:Nat):Int)):=by
 have hdl:=List.length_pos_iff.2 hd0
 have hlm:(p.map cn).length=p.length:=List.length_map ..
 have hld:(d.map cn).length=d.length:=List.length_map ..
 have e1:i64.wrap ((((p.map cn).length:Nat):Int)-1)=((p.length-1:Nat):Int):=by rw[hlm,w64 (by omega) (by omega)];omega
 have h:=Za.up (prog:=Yir) (c:=Ph) (ex := .exit 2) (fin:=Gd (p.map cn) (d.map cn) (cn (top d)) (cn b) ((p.length-d.length:Nat):Int) (p.length-1) (pc ((Ur p d ((top d).natAbs:Int) b (p.length-1)).map cn)) ((p.length-1:Nat):Int))
  (fun i=>Gd (p.map cn) (d.map cn) (cn (top d)) (cn b) ((p.length-d.length:Nat):Int) i (pc ((List.range i).map fun j=>cn (gst p d ((top d).natAbs:Int) b j))) (i:Nat)) (p.length-1) (by intro e;cases e) ?_ ?_ 0 (Nat.zero_le _)
 ·exact h
 ·intro i hi
  have ei:i64.wrap ((i:Int)+1)=((i+1:Nat):Int):=by rw[w64 (by omega) (by omega)];omega
  have gp:=Z8 (Z1 hp) i
  have ga:Ju Kd (false,(cn (top d)).2):=by
   have:=Q5 (X6 hd)
   exact⟨this.1,this.2⟩
  have gb:=Q5 hb
  have vi:=U2 p i
  have m1:=Zdr ga gp (by omega)
  have va:=Zdo (top d)
  by_cases hat:p.length-d.length≤i
  ·have ea:i64.wrap ((i:Int)-((p.length-d.length:Nat):Int))=((i-(p.length-d.length):Nat):Int):=by rw[w64 (by omega) (by omega)];omega
   have gq:=Z8 (Z1 hd) (i-(p.length-d.length))
   have vq:=U2 d (i-(p.length-d.length))
   have m2:=Zdr gb gq (by omega)
   have f1:Jg (Kd+J) (Zn (false,(cn (top d)).2)*Zn ((p.map cn).getD i z0)):=ga.fits.mul gp.fits
   have f2:Jg (J+Kd) (Zn (cn b)*Zn ((d.map cn).getD (i-(p.length-d.length)) z0)):=gb.fits.mul gq.fits
   have m3:=rm_cn (Q5 f1) (Q5 f2) (by omega) (by omega)
   rw[Z9 (Zn (false,(cn (top d)).2)*_),Z9 (Zn (cn b)*Zn ((d.map cn).getD (i-(p.length-d.length)) z0))] at m3
   have k:=Ztb (p.map cn) (d.map cn) (cn (top d)) (cn b) ((p.length-d.length:Nat):Int) i (pc ((List.range i).map fun j=>cn (gst p d ((top d).natAbs:Int) b j))) (i:Nat) (by rw[e1,decide_eq_true_eq];omega) (by rw[decide_eq_true_eq];omega) (by omega) (by rw[ea];omega) (by omega)
    (by rw[Int.toNat_natCast];exact m1) (by rw[ea,Int.toNat_natCast];exact m2) (by rw[ea,Int.toNat_natCast,Int.toNat_natCast];exact m3)
   refine k.to rfl ?_
   rw[ea,Int.toNat_natCast,Int.toNat_natCast,ei]
   rw[← Uc (gst p d ((top d).natAbs:Int) b) i]
   unfold gst
   rw[if_pos hat,va,vi,Z9,vq]
  ·have k:=Zta (p.map cn) (d.map cn) (cn (top d)) (cn b) ((p.length-d.length:Nat):Int) i (pc ((List.range i).map fun j=>cn (gst p d ((top d).natAbs:Int) b j))) (i:Nat) (by rw[e1,decide_eq_true_eq];omega) (by rw[decide_eq_false_iff_not];omega) (by omega) (by omega)
    (by rw[Int.toNat_natCast];exact m1)
   refine k.to rfl ?_
   rw[Int.toNat_natCast,ei]
   rw[← Uc (gst p d ((top d).natAbs:Int) b) i]
   unfold gst
   rw[if_neg hat,va,vi]
 ·show Za _ _ (Gd _ _ _ _ _ _ (pc ((List.range (p.length-1)).map fun j=>cn (gst p d ((top d).natAbs:Int) b j))) _) _ _
  rw[Zez]
  exact Zs9 _ _ _ _ _ _ _ _ (by rw[e1,decide_eq_false_iff_not];omega)
theorem Zbi (hp:Kb J p) (hd:Kb Kd d) (hS:J+Kd+1<1000000) (hd0:d ≠ []) (hl:d.length≤p.length) (hN:p.length≤1048576) :
  Za Yir Zyh (Zc9 (p.map cn) (d.map cn) (cn (top d))) .norm (Zc9 ((Um p d).map cn) (d.map cn) (cn (top d))):=by
 have hdl:=List.length_pos_iff.2 hd0
 have hlm:(p.map cn).length=p.length:=List.length_map ..
 have hld:(d.map cn).length=d.length:=List.length_map ..
 have e1:i64.wrap ((((p.map cn).length:Nat):Int)-1)=((p.length-1:Nat):Int):=by rw[hlm,w64 (by omega) (by omega)];omega
 have e2:i64.wrap ((((p.map cn).length:Nat):Int)-(((d.map cn).length:Nat):Int))=((p.length-d.length:Nat):Int):=by rw[hlm,hld,w64 (by omega) (by omega)];omega
 have gt:=Q5 (X6 hd)
 have gl:=Z8 (Z1 hp) (p.length-1)
 have vl:=Zek p
 have hs:=Uk (neg:=(cn (top d)).1) gt.1 (by have:=gt.2;omega)
 rw[show rv (cn (top d)).1 (cn (top d)).2=top d from Z9 _] at hs
 have hT:∀ b,Jg J b→b=sg (top d)*top p→Ze Yir 43 [.sl (p.length-1) (pc ((Ur p d ((top d).natAbs:Int) b (p.length-1)).map cn))] (.fresh 2 ((Zc (Ur p d ((top d).natAbs:Int) b (p.length-1))).map cn).length (pc ((Zc (Ur p d ((top d).natAbs:Int) b (p.length-1))).map cn)))
   ∧ Ze Yir 91 [.sl ((Zc (Ur p d ((top d).natAbs:Int) b (p.length-1))).map cn).length (pc ((Zc (Ur p d ((top d).natAbs:Int) b (p.length-1))).map cn))] (.fresh 2 ((Um p d).map cn).length (pc ((Um p d).map cn))):=by
  intro b fb hb
  have kE:Kb (J+Kd+1) (Ur p d ((top d).natAbs:Int) b (p.length-1)):=N6 hp hd (Bh (X6 hd)) fb _
  have hlE:=J7 p d ((top d).natAbs:Int) b (p.length-1)
  have htl:=Qc (Ur p d ((top d).natAbs:Int) b (p.length-1))
  refine⟨?_,?_⟩
  ·have h:=Xl (rs:=(Ur p d ((top d).natAbs:Int) b (p.length-1)).map cn) (fun r hr=>(Z1 kE r hr).mono (by omega)) (by rw[List.length_map];omega)
   rw[Z5,List.length_map,hlE] at h
   exact Ve h
  ·have h:=Vs (rs:=(Zc (Ur p d ((top d).natAbs:Int) b (p.length-1))).map cn) (Z1 kE.trim) (by omega) (by rw[List.length_map];omega)
   rw[Z5] at h
   have e:prim (Zc (Ur p d ((top d).natAbs:Int) b (p.length-1)))=Um p d:=by
    rw[M2 hd0 hl,← hb]
    exact Gk (Je _)
   rw[e] at h
   exact Ve h
 by_cases hneg:top d<0
 ·have hng:=Nt (neg:=((p.map cn).getD (p.length-1) z0).1) gl.1 (by have:=gl.2;omega)
  rw[show rv ((p.map cn).getD (p.length-1) z0).1 ((p.map cn).getD (p.length-1) z0).2=top p from vl] at hng
  have hb : -(top p)=sg (top d)*top p:=by unfold sg;rw[if_pos hneg];omega
  obtain⟨t1,t2⟩:=hT _ (X6 hp).neg hb
  exact Yk69_1 (p.map cn) (d.map cn) (cn (top d)) ((Ur p d ((top d).natAbs:Int) (-(top p)) (p.length-1)).map cn) _ _ (p.length-1) ((p.length-1:Nat):Int) (by rw[decide_eq_true_eq];omega) (by rw[Z9,decide_eq_true_eq];unfold Xh;rw[if_pos hneg];decide) (by rw[e1];omega) (by rw[Z9];exact hs) (by rw[e1,Int.toNat_natCast,vl];exact hng)
   (by rw[e1,e2,Int.toNat_natCast,vl];exact B2 hp hd (X6 hp).neg hS hd0 hl hN) t1 t2
 ·have hb:top p=sg (top d)*top p:=by unfold sg;rw[if_neg hneg];omega
  obtain⟨t1,t2⟩:=hT _ (X6 hp) hb
  have hu:(p.map cn).getD (p.length-1) z0=cn (top p):=X1 (by omega)
  exact Yk69_2 (p.map cn) (d.map cn) (cn (top d)) ((Ur p d ((top d).natAbs:Int) (top p) (p.length-1)).map cn) _ _ (p.length-1) ((p.length-1:Nat):Int) (by rw[decide_eq_true_eq];omega) (by rw[Z9,decide_eq_false_iff_not];unfold Xh;rw[if_neg hneg];split <;> decide) (by rw[e1];omega) (by rw[Z9];exact hs)
   (by rw[e1,e2,Int.toNat_natCast,hu];exact B2 hp hd (X6 hp) hS hd0 hl hN) t1 t2
end
theorem Zbj {d:List Int} {Kd:Nat} (hd:Kb Kd d) (hd0:d ≠ []):∀ (f:Nat) (p:List Int) (J:Nat),p.length≤f→Kb J p→J+(p.length+1-d.length)*(Kd+1)<1000000→p.length≤1048576 →
  Za Yir (.loop Zyh) (Zc9 (p.map cn) (d.map cn) (cn (top d))) (.exit 0) (Zc9 ((Vj f p d).map cn) (d.map cn) (cn (top d))):=by
 have hdl:=List.length_pos_iff.2 hd0
 intro f
 induction f with
 | zero =>
  intro p J hf _ _ _
  exact Za.loop_out (Zqy (p.map cn) (d.map cn) (cn (top d)) (by rw[decide_eq_false_iff_not,List.length_map,List.length_map];omega)) (by intro e;cases e)
 | succ f ih =>
  intro p J hf hJ hS hN
  simp only[Vj]
  split
  ·rename_i hl
   have hplen:=Ks hd0 hl
   have e:((Um p d).length+1-d.length)+1≤p.length+1-d.length:=by omega
   have:=Nat.mul_le_mul_right (Kd+1) e
   rw[Nat.add_mul,Nat.one_mul] at this
   have h1:=Zbi hJ hd (by
    have h2:1*(Kd+1)≤(p.length+1-d.length)*(Kd+1):=Nat.mul_le_mul_right _ (by omega)
    omega) hd0 hl hN
   exact Za.loop h1 (ih (Um p d) (J+Kd+1) (by omega) (N4 hJ hd) (by omega) (by omega))
  ·rename_i hl
   exact Za.loop_out (Zqy (p.map cn) (d.map cn) (cn (top d)) (by rw[decide_eq_false_iff_not,List.length_map,List.length_map];omega)) (by intro e;cases e)
theorem Rm {x y:List Int} (hy:Zc y ≠ []):J2 x (Zc y)=J2 x (prim y):=by
 unfold J2
 rw[← K9 y,Rb (by have:=Hk hy;omega)]
theorem B1 {rs ss:List Rn} {J K:Nat} (hr:∀ r∈rs,Ju J r) (hs:∀ r∈ss,Ju K r) (hJ:J<1000000) (hK:K<1000000) (hn:rs.length≤1048576) (hm:ss.length≤1048576) (h0:Zc (Zi ss) ≠ []) (hS:J+((Zc (Zi rs)).length+1-(Zc (Zi ss)).length)*(K+1)<1000000) :
  Ze Yir 69 [.sl rs.length (pc rs), .sl ss.length (pc ss)] (plA (J2 (prim (Zi rs)) (prim (Zi ss)))):=by
 have p1:=Vs hr hJ hn
 have p2:=Xl (fun r h=>(hs r h).mono (show K≤1048576 by omega)) hm
 have k1:Kb J (prim (Zi rs)):=(Du (Jf hr)).prim
 have k2:Kb K (Zc (Zi ss)):=(Du (Jf hs)).trim
 have l1:(prim (Zi rs)).length≤rs.length:=by rw[Qp];have:=Qc (Zi rs);rwa [Zs] at this
 have l2:(Zc (Zi ss)).length≤ss.length:=by have:=Qc (Zi ss);rwa [Zs] at this
 have hl:=List.length_pos_iff.2 h0
 have hlp:=Zbj k2 h0 (prim (Zi rs)).length (prim (Zi rs)) J (Nat.le_refl _) k1 (by rw[Qp];exact hS) (by omega)
 have e1:i64.wrap (((((Zc (Zi ss)).map cn).length:Nat):Int)-1)=(((Zc (Zi ss)).length-1:Nat):Int):=by rw[List.length_map,w64 (by omega) (by omega)];omega
 rw[← Rm h0]
 exact Yrun69 rs ss _ _ ((J2 (prim (Zi rs)) (Zc (Zi ss))).map cn) (cn (top (Zc (Zi ss)))) (Ve p1) (Ve p2) (by rw[e1,List.length_map];omega) (by
  rw[e1,Int.toNat_natCast,X1 (show (Zc (Zi ss)).length-1<(Zc (Zi ss)).length by omega)]
  exact hlp)
theorem M1:∀ (f:Nat) (x y:List Int) (M:Nat),0<M→y.length≤f→y.length≤x.length→x.length≤1048576→prim x=x→prim y=y→Kb (M-1) x→Kb (M-1) y→M*phi x.length y.length≤500000 →
  ∃ bs,Za Yir (.loop Tg) (Dz (x.map cn) (y.map cn)) (.exit 0) (Dz ((H8 f x y).map cn) bs):=by
 intro f
 induction f with
 | zero =>
  intro x y M _ h1 _ _ _ _ _ _ _
  have:y=[]:=List.eq_nil_of_length_eq_zero (by omega)
  subst this
  exact⟨_,Za.loop_out (Zhm _ _ (by simp)) (by intro e;cases e)⟩
 | succ f ih =>
  intro x y M hM h1 h2 h3 px py kx ky hphi
  simp only[H8]
  split
  ·rename_i h
   subst h
   exact⟨_,Za.loop_out (Zhm _ _ (by simp)) (by intro e;cases e)⟩
  ·rename_i h
   have hyl:=List.length_pos_iff.2 h
   obtain⟨r1,r2,r3⟩:=Hb hM (Qk px) h kx ky h2
   have hM':0<M*(x.length-y.length+2):=Nat.mul_pos hM (by omega)
   have hMle:M≤M*(x.length-y.length+2):=Nat.le_mul_of_pos_right M (by omega)
   have hbig:M*(x.length-y.length+2)≤500000:=by
    refine Nat.le_trans (Nat.mul_le_mul_left _ ?_) hphi
    unfold phi
    exact Nat.le_mul_of_pos_right _ (Nat.pow_pos (by decide))
   have hrem:=B1 (rs:=x.map cn) (ss:=y.map cn) (Z1 kx) (Z1 ky) (by omega) (by omega) (by rw[List.length_map];exact h3) (by rw[List.length_map];omega) (by rw[Z5,Qk py];exact h) (by
    rw[Z5,Z5,Qk px,Qk py,Nat.sub_add_cancel hM,show x.length+1-y.length=x.length-y.length+1 by omega,Nat.mul_comm _ M]
    have:M*(x.length-y.length+2)=M*(x.length-y.length+1)+M:=by rw[← Nat.mul_succ]
    omega)
   rw[Z5,Z5,px,py] at hrem
   have k:=Zhn (x.map cn) (y.map cn) _ (by simp;omega) hrem
   obtain⟨bs,hb⟩:=ih y (J2 x y) (M*(x.length-y.length+2)) hM' (by omega) (by omega) (by omega) py (Vn _ _ _ px) (ky.mono (by omega)) r3 (Hc r2 hphi)
   exact⟨bs,Za.loop k hb⟩
theorem Da {rs ss:List Rn} {g:List Int} {bs:List Rn} {K:Nat} (hr:∀ r∈rs,Ju K r) (hs:∀ r∈ss,Ju K r) (hK:K<1000000) (hn:rs.length≤1048576) (hm:ss.length≤1048576) {Kg:Nat} (hg:Kb Kg g) (hgL:Vm g) (hKg:Kg≤1048576) (hgl:g.length≤1048576)
  (hl:Za Yir (.loop Tg) (Dz ((prim (Zi rs)).map cn) ((prim (Zi ss)).map cn)) (.exit 0) (Dz (g.map cn) bs)) :
  Tk 70 [.sl rs.length (pc rs), .sl ss.length (pc ss)] (Qv g):=by
 have p1:=Vs hr hK hn
 have p2:=Vs hs hK hm
 obtain⟨q1,q2⟩:=H6 hg hgL hKg hgl
 by_cases h:top g<0
 ·exact .inl (Zlp rs ss _ _ (g.map cn) bs _ (Ve p1) (Ve p2) hl (q1 h))
 ·rw[D9 h]
  exact .inr (Zlo rs ss _ _ (g.map cn) bs (Ve p1) (Ve p2) hl (q2 h))
theorem Rh {rs ss:List Rn} {K c:Nat} (hr:∀ r∈rs,Ju K r) (hs:∀ r∈ss,Ju K r) (hn:rs.length≤c) (hm:ss.length≤c) (hc:c≤1048576) (hS:(K+1)*(2*3^c)≤500000) :
  Tk 70 [.sl rs.length (pc rs), .sl ss.length (pc ss)] (Qv (Zc8 (prim (Zi rs)) (prim (Zi ss)))):=by
 have h3:0<3^c:=Nat.pow_pos (by decide)
 have hK:K+1≤500000:=by
  have:(K+1)*1≤(K+1)*(2*3^c):=Nat.mul_le_mul_left _ (by omega)
  omega
 have k1:Kb K (prim (Zi rs)):=(Du (Jf hr)).prim
 have k2:Kb K (prim (Zi ss)):=(Du (Jf hs)).prim
 have l1:(prim (Zi rs)).length≤rs.length:=by rw[Qp];have:=Qc (Zi rs);rwa [Zs] at this
 have l2:(prim (Zi ss)).length≤ss.length:=by rw[Qp];have:=Qc (Zi ss);rwa [Zs] at this
 unfold Zc8
 split
 ·rename_i hl
  have hphi:(K+1)*phi (prim (Zi rs)).length (prim (Zi ss)).length≤500000:=Nat.le_trans (Nat.mul_le_mul_left _ (B7 hl (by omega))) hS
  obtain⟨bs,hb⟩:=M1 (prim (Zi ss)).length (prim (Zi rs)) (prim (Zi ss)) (K+1) (by omega) (Nat.le_refl _) hl (by omega) (Qg _) (Qg _) k1 k2 hphi
  obtain⟨s1,s2⟩:=He (prim (Zi ss)).length (prim (Zi rs)) (prim (Zi ss)) (K+1) (by omega) (Nat.le_refl _) hl (Qr _) (Qr _) k1 k2
  exact Da hr hs (by omega) (by omega) (by omega) s1 (Qk (Ha _ _ _ (Qg _) (Qg _))) (by omega) (by omega) hb
 ·rename_i hl
  have hphi:(K+1)*phi (prim (Zi ss)).length (prim (Zi rs)).length≤500000:=Nat.le_trans (Nat.mul_le_mul_left _ (B7 (by omega) (by omega))) hS
  obtain⟨bs,hb⟩:=M1 (prim (Zi rs)).length (prim (Zi ss)) (prim (Zi rs)) (K+1) (by omega) (Nat.le_refl _) (by omega) (by omega) (Qg _) (Qg _) k2 k1 hphi
  obtain⟨s1,s2⟩:=He (prim (Zi rs)).length (prim (Zi ss)) (prim (Zi rs)) (K+1) (by omega) (Nat.le_refl _) (by omega) (Qr _) (Qr _) k2 k1
  have hy0:prim (Zi ss) ≠ []:=by intro h;rw[h] at hl;simp at hl
  have hsw:J2 (prim (Zi rs)) (prim (Zi ss))=prim (Zi rs):=by
   unfold J2
   cases hx:(prim (Zi rs)).length with
   | zero=>rfl
   | succ n=>simp only[Vj];rw[if_neg hl]
  have hrem:=B1 (rs:=(prim (Zi rs)).map cn) (ss:=(prim (Zi ss)).map cn) (Z1 k1) (Z1 k2) (by omega) (by omega) (by rw[List.length_map];omega) (by rw[List.length_map];omega) (by rw[Z5,Qr];exact hy0) (by
   rw[Z5,Z5,Qr,Qr,show (prim (Zi rs)).length+1-(prim (Zi ss)).length=0 by omega,Nat.zero_mul];omega)
  rw[Z5,Z5,Qg,Qg,hsw] at hrem
  have k:=Zhn ((prim (Zi rs)).map cn) ((prim (Zi ss)).map cn) _ (by rw[decide_eq_true_eq,List.length_map];omega) hrem
  exact Da hr hs (by omega) (by omega) (by omega) s1 (Qk (Ha _ _ _ (Qg _) (Qg _))) (by omega) (by omega) (Za.loop k hb)
end Go.Proofs.Ythnnfemologhfaa

namespace Go.Proofs.Ythnnfemologhfaa
open Go.IntKind (i64 u64 u32)
open Go.Ai
set_option maxRecDepth 100000
section
variable {p d:List Int} {J Kd:Nat}
theorem Zrg {t:Int} {l:Rn} {rs ds:List Rn} {q:Int} (hp:Kb J p) (ht:Jg Kd t) (hS:J+Kd<1000000) (hN:p.length≤1048576) :
  Za Yir (.loop Ng) (Hz rs ds (cn t) p.length (p.map cn) l q 0) (.exit 2) (Hz rs ds (cn t) p.length ((Zy t p).map cn) l q (p.length:Nat)):=by
 have hE:((Zy t p).map cn).length=(p.map cn).length:=by rw[List.length_map,List.length_map,Zw]
 have hpl:(p.map cn).length=p.length:=List.length_map ..
 have h:=Za.up (prog:=Yir) (c:=Ng) (ex := .exit 2) (fin:=Hz rs ds (cn t) p.length ((Zy t p).map cn) l q (p.length:Nat))
  (fun i=>Hz rs ds (cn t) p.length (Gw ((Zy t p).map cn) (p.map cn) i) l q (i:Nat)) p.length (by intro e;cases e) ?_ ?_ 0 (Nat.zero_le _)
 ·rw[Gs] at h;exact h
 ·intro i hi
  have ei:i64.wrap ((i:Int)+1)=((i+1:Nat):Int):=by rw[w64 (by omega) (by omega)];omega
  have hml:=U1 hE i
  have hget:=Gu hE (i:=i) (by omega)
  have hEi:((Zy t p).map cn).getD i z0=cn ((Zy t p).getD i 0):=X1 (by rw[Zw];exact hi)
  have hset:=Gt hE (i:=i) (by omega)
  rw[hEi,Z6] at hset
  have gp:=Z8 (Z1 hp) i
  have gt:=Q5 ht
  have vi:=U2 p i
  have m1:=Zdr gp gt (by omega)
  generalize Gw ((Zy t p).map cn) (p.map cn) i=M at *
  have k:=Znq rs ds (cn t) p.length M l q (i:Nat) (by simp;omega) (by omega) (by omega) (by rw[Int.toNat_natCast,hget];exact m1)
  refine k.to rfl ?_
  simp only[ei,Int.toNat_natCast,hget]
  rw[vi,Z9,Int.mul_comm,hset]
 ·rw[show Gw ((Zy t p).map cn) (p.map cn) p.length=(Zy t p).map cn by have h:=Gv hE;rw[hpl] at h;exact h]
  exact Znp _ _ _ _ _ _ _ _ (by simp)
theorem Zrf {b:Int} {k:Nat} {os:List Rn} (hp:Kb J p) (hd:Kb Kd d) (hb:Jg J b) (hS:J+Kd+1<1000000) (hd0:d ≠ []) (hl:d.length≤p.length) (hN:p.length≤1048576) :
  Za Yir (.loop A6) (Ws (p.map cn) (d.map cn) (cn (top d)) k os (cn b) ((p.length-d.length:Nat):Int) 0 [] 0) (.exit 4)
   (Ws (p.map cn) (d.map cn) (cn (top d)) k os (cn b) ((p.length-d.length:Nat):Int) (p.length-1) (pc ((Ur p d (top d) b (p.length-1)).map cn)) ((p.length-1:Nat):Int)):=by
 have hdl:=List.length_pos_iff.2 hd0
 have hlm:(p.map cn).length=p.length:=List.length_map ..
 have hld:(d.map cn).length=d.length:=List.length_map ..
 have e1:i64.wrap ((((p.map cn).length:Nat):Int)-1)=((p.length-1:Nat):Int):=by rw[hlm,w64 (by omega) (by omega)];omega
 have h:=Za.up (prog:=Yir) (c:=A6) (ex := .exit 4) (fin:=Ws (p.map cn) (d.map cn) (cn (top d)) k os (cn b) ((p.length-d.length:Nat):Int) (p.length-1) (pc ((Ur p d (top d) b (p.length-1)).map cn)) ((p.length-1:Nat):Int))
  (fun i=>Ws (p.map cn) (d.map cn) (cn (top d)) k os (cn b) ((p.length-d.length:Nat):Int) i (pc ((List.range i).map fun j=>cn (gst p d (top d) b j))) (i:Nat)) (p.length-1) (by intro e;cases e) ?_ ?_ 0 (Nat.zero_le _)
 ·exact h
 ·intro i hi
  have ei:i64.wrap ((i:Int)+1)=((i+1:Nat):Int):=by rw[w64 (by omega) (by omega)];omega
  have gp:=Z8 (Z1 hp) i
  have ga:=Q5 (X6 hd)
  have gb:=Q5 hb
  have vi:=U2 p i
  have m1:=Zdr ga gp (by omega)
  have va:=Z9 (top d)
  by_cases hat:p.length-d.length≤i
  ·have ea:i64.wrap ((i:Int)-((p.length-d.length:Nat):Int))=((i-(p.length-d.length):Nat):Int):=by rw[w64 (by omega) (by omega)];omega
   have gq:=Z8 (Z1 hd) (i-(p.length-d.length))
   have vq:=U2 d (i-(p.length-d.length))
   have m2:=Zdr gb gq (by omega)
   have f1:Jg (Kd+J) (Zn (cn (top d))*Zn ((p.map cn).getD i z0)):=ga.fits.mul gp.fits
   have f2:Jg (J+Kd) (Zn (cn b)*Zn ((d.map cn).getD (i-(p.length-d.length)) z0)):=gb.fits.mul gq.fits
   have m3:=rm_cn (Q5 f1) (Q5 f2) (by omega) (by omega)
   rw[Z9 (Zn (cn (top d))*_),Z9 (Zn (cn b)*Zn ((d.map cn).getD (i-(p.length-d.length)) z0))] at m3
   have k:=Zno (p.map cn) (d.map cn) (cn (top d)) k os (cn b) ((p.length-d.length:Nat):Int) i (pc ((List.range i).map fun j=>cn (gst p d (top d) b j))) (i:Nat) (by rw[e1,decide_eq_true_eq];omega) (by rw[decide_eq_true_eq];omega) (by omega) (by rw[ea];omega) (by omega)
    (by rw[Int.toNat_natCast];exact m1) (by rw[ea,Int.toNat_natCast];exact m2) (by rw[ea,Int.toNat_natCast,Int.toNat_natCast];exact m3)
   refine k.to rfl ?_
   rw[ea,Int.toNat_natCast,Int.toNat_natCast,ei]
   rw[← Uc (gst p d (top d) b) i]
   unfold gst
   rw[if_pos hat,va,vi,Z9,vq]
  ·have k:=Znn (p.map cn) (d.map cn) (cn (top d)) k os (cn b) ((p.length-d.length:Nat):Int) i (pc ((List.range i).map fun j=>cn (gst p d (top d) b j))) (i:Nat) (by rw[e1,decide_eq_true_eq];omega) (by rw[decide_eq_false_iff_not];omega) (by omega) (by omega)
    (by rw[Int.toNat_natCast];exact m1)
   refine k.to rfl ?_
   rw[Int.toNat_natCast,ei]
   rw[← Uc (gst p d (top d) b) i]
   unfold gst
   rw[if_neg hat,va,vi]
 ·show Za _ _ (Ws _ _ _ _ _ _ _ _ (pc ((List.range (p.length-1)).map fun j=>cn (gst p d (top d) b j))) _) _ _
  rw[Zez]
  exact Znm _ _ _ _ _ _ _ _ _ _ (by rw[e1,decide_eq_false_iff_not];omega)
end
theorem Zbk {d:List Int} {Kd:Nat} (hd:Kb Kd d) (hd0:d ≠ []):∀ (f:Nat) (r out:List Int) (J:Nat),r.length≤f→Kb J r→Kb J out→J+(r.length+1-d.length)*(Kd+1)<1000000→r.length+1≤out.length+d.length→out.length≤1048576→r.length≤1048576 →
  (∃ r',Za Yir (.loop Ziy) (Sq (r.map cn) (d.map cn) (cn (top d)) out.length (out.map cn)) (.exit 0) (Sq r' (d.map cn) (cn (top d)) out.length ((Rt d f r out).map cn)))∧Kb (J+(r.length+1-d.length)*(Kd+1)) (Rt d f r out)∧(Rt d f r out).length=out.length:=by
 have hdl:=List.length_pos_iff.2 hd0
 have hld:(d.map cn).length=d.length:=List.length_map ..
 intro f
 induction f with
 | zero =>
  intro r out J hf _ ho _ _ _ _
  exact⟨⟨_,Za.loop_out (Zht (r.map cn) (d.map cn) (cn (top d)) out.length (out.map cn) (by rw[decide_eq_false_iff_not,List.length_map,List.length_map];omega)) (by intro e;cases e)⟩,ho.mono (Nat.le_add_right _ _),rfl⟩
 | succ f ih =>
  intro r out J hf hJ ho hS hlo hN1 hN
  have hlm:(r.map cn).length=r.length:=List.length_map ..
  simp only[Rt]
  split
  ·rename_i hl
   have e1:i64.wrap ((((r.map cn).length:Nat):Int)-1)=((r.length-1:Nat):Int):=by rw[hlm,w64 (by omega) (by omega)];omega
   have e2:i64.wrap ((((r.map cn).length:Nat):Int)-(((d.map cn).length:Nat):Int))=((r.length-d.length:Nat):Int):=by rw[hlm,hld,w64 (by omega) (by omega)];omega
   have hlen:=Kv hd0 hl
   have e:((Zc (Ur r d (top d) (top r) (r.length-1))).length+1-d.length)+1≤r.length+1-d.length:=by omega
   have hmul:=Nat.mul_le_mul_right (Kd+1) e
   rw[Nat.add_mul,Nat.one_mul] at hmul
   have hsz:J+Kd+1<1000000:=by omega
   have kE:Kb (J+Kd+1) (Ur r d (top d) (top r) (r.length-1)):=N6 hJ hd (X6 hd) (X6 hJ) _
   have hlE:=J7 r d (top d) (top r) (r.length-1)
   have hps:=N5 ho (X6 hd)
   have ht:=Xl (rs:=(Ur r d (top d) (top r) (r.length-1)).map cn) (fun x hx=>(Z1 kE x hx).mono (by omega)) (by rw[List.length_map];omega)
   rw[Z5,List.length_map,hlE] at ht
   have hu:(r.map cn).getD (r.length-1) z0=cn (top r):=X1 (by omega)
   have hset:((Zy (top d) out).map cn).set (r.length-d.length) (cn (top r))=((Zy (top d) out).set (r.length-d.length) (top r)).map cn:=by rw[List.map_set]
   obtain⟨⟨r',hr'⟩,kb,len⟩:=ih (Zc (Ur r d (top d) (top r) (r.length-1))) ((Zy (top d) out).set (r.length-d.length) (top r)) (J+Kd+1) (by omega) kE.trim (Zqe (hps.mono (by omega)) ((X6 hJ).mono (by omega)) _) (by omega) (by rw[List.length_set,Zw];omega) (by rw[List.length_set,Zw];exact hN1) (by omega)
   rw[List.length_set,Zw] at hr' len
   refine⟨⟨r',Za.loop ?_ hr'⟩,kb.mono (by omega),len⟩
   have k:=Zu9 (r.map cn) (d.map cn) (cn (top d)) out.length (out.map cn) ((Zy (top d) out).map cn) ((Ur r d (top d) (top r) (r.length-1)).map cn) _ (r.length-1) (out.length:Nat) ((r.length-1:Nat):Int) (by rw[decide_eq_true_eq];omega) (by rw[e1];omega)
    (by rw[e1,e2,Int.toNat_natCast,hu];exact Zrg ho (X6 hd) (by omega) hN1) (by rw[e2];omega) (by rw[List.length_map,Zw])
    (by rw[e1,e2,Int.toNat_natCast,Int.toNat_natCast,hu];exact Zrf hJ hd (X6 hJ) hsz hd0 hl hN) (Ve ht)
   rw[e1,e2,Int.toNat_natCast,Int.toNat_natCast,hu,hset] at k
   exact k
  ·rename_i hl
   exact⟨⟨_,Za.loop_out (Zht (r.map cn) (d.map cn) (cn (top d)) out.length (out.map cn) (by rw[decide_eq_false_iff_not,List.length_map,List.length_map];omega)) (by intro e;cases e)⟩,ho.mono (Nat.le_add_right _ _),rfl⟩
theorem Zd1 {p q:List Int} {J K:Nat} (hp:Kb J p) (hq:Kb K q) (lp:Vm p) (lq:Vm q) (hq0:q ≠ []) (tq:0<top q) (tp:0<top p) (hl:q.length≤p.length) (hN:p.length≤1000000) (hS:J+(p.length+1-q.length)*(K+1)<1000000) :
  Ze Yir 120 [.sl (p.map cn).length (pc (p.map cn)), .sl (q.map cn).length (pc (q.map cn))] (plA (prim (Rt q p.length p (List.replicate (p.length-q.length+1) 0)))):=by
 have hql:=List.length_pos_iff.2 hq0
 have hlp:(p.map cn).length=p.length:=List.length_map ..
 have hlq:(q.map cn).length=q.length:=List.length_map ..
 have h1:1*(K+1)≤(p.length+1-q.length)*(K+1):=Nat.mul_le_mul_right _ (by omega)
 have t1:=Xl (rs:=p.map cn) (fun r h=>(Z1 hp r h).mono (show J≤1048576 by omega)) (by omega)
 have t2:=Xl (rs:=q.map cn) (fun r h=>(Z1 hq r h).mono (show K≤1048576 by omega)) (by omega)
 rw[Z5,lp] at t1
 rw[Z5,lq] at t2
 have hz:(List.replicate (p.length-q.length+1) (0:Int)).map cn=List.replicate (p.length-q.length+1) z0:=by rw[List.map_replicate,z0_cn]
 obtain⟨⟨r',hlp2⟩,kb,len⟩:=Zbk hq hq0 p.length p (List.replicate (p.length-q.length+1) 0) J (Nat.le_refl _) hp (fun i=>by rw[Jk];exact Vb _) hS (by simp;omega) (by simp;omega) (by omega)
 rw[List.length_replicate] at hlp2 len
 obtain⟨c',r1,a1,a2,_,a4⟩:=Fs (p:=p) hq0 tq hl
 have tO:=T5 a1 tp hq0 tq hl len a4 a2
 generalize Rt q p.length p (List.replicate (p.length-q.length+1) 0)=o at *
 have e1:i64.wrap ((((q.map cn).length:Nat):Int)-1)=((q.length-1:Nat):Int):=by rw[hlq,w64 (by omega) (by omega)];omega
 have e2:i64.wrap (i64.wrap ((((p.map cn).length:Nat):Int)-(((q.map cn).length:Nat):Int))+1)=((p.length-q.length+1:Nat):Int):=by
  rw[hlp,hlq,w64 (n:=(p.length:Int)-(q.length:Nat)) (by omega) (by omega),w64 (by omega) (by omega)];omega
 have t3:=Xl (rs:=o.map cn) (fun r h=>(Z1 kb r h).mono (by omega)) (by rw[List.length_map];omega)
 rw[Z5,List.length_map,len] at t3
 have htl:=Qc o
 have p3:=Vs (rs:=(Zc o).map cn) (Z1 kb.trim) (by omega) (by rw[List.length_map];omega)
 rw[Z5,Gk (Je o)] at p3
 have hpl:(prim o).length≤o.length:=by rw[Qp];exact htl
 have hps:=(H6 (p:=prim o) kb.prim (Qr o) (by omega) (by omega)).2 (by have:=F7 tO;omega)
 exact Zss (p.map cn) (q.map cn) (p.map cn) (q.map cn) r' (o.map cn) _ _ (cn (top q)) (p.length-q.length+1) (Ve t1) (Ve t2) (by rw[e1,hlq];omega) (by rw[e2];omega)
  (by rw[e1,e2,Int.toNat_natCast,Int.toNat_natCast,Nu,← hz,X1 (show q.length-1<q.length by omega)];exact hlp2) (Ve t3) (Ve p3) hps
theorem Zkd {p:List Int} {c:Int} (hc:0<c) (hp:prim p=p) (hl:1≤p.length):prim (Rt [c] p.length p (List.replicate (p.length-1+1) 0))=p:=by
 obtain⟨c',r',a1,a2,_,a4⟩:=Fs (p:=p) (d:=[c]) (by simp) (show 0<top [c] from hc) hl
 have lq:Vm [c]:=Rx (.inr (by show c ≠ 0;omega))
 have h:=B3 a1 hc (B0 (o2:=p) (r2:=[]) (c2:=c) lq (by simp) a4 (fun x=>by simp[Zg]) a2 (fun i _=>rfl))
 rw[hp] at h
 exact h
theorem Rg {rs:List Rn} {K c:Nat} (hr:∀ r∈rs,Ju K r) (hn:rs.length≤c) (hc:c≤9) (hS:(K+3)*(2*3^c)≤500000):Ze Yir 71 [.sl rs.length (pc rs)] (plA (Ql (Zi rs))):=by
 have h3:0<3^c:=Nat.pow_pos (by decide)
 have hK:K+3≤250000:=by
  have:(K+3)*2≤(K+3)*(2*3^c):=Nat.mul_le_mul_left _ (by omega)
  omega
 have p1:=Ve (Vs hr (by omega) (by omega))
 have k1:Kb K (prim (Zi rs)):=(Du (Jf hr)).prim
 have l1:(prim (Zi rs)).length≤rs.length:=by rw[Qp];have:=Qc (Zi rs);rwa [Zs] at this
 obtain⟨q1,q2⟩:=H6 k1 (Qr _) (by omega) (by omega)
 have ka:Kb K (Qv (prim (Zi rs))):=by
  unfold Qv;split
  ·intro i;rw[Va];exact (k1 i).neg
  ·exact k1
 have la:=Wx (prim (Zi rs))
 have lda:Vm (Qv (prim (Zi rs))):=Gx (Qr _)
 have hpp:(¬ top (prim (Zi rs))<0)→Qv (prim (Zi rs))=prim (Zi rs):=D9
 have hder:=T7 (rs:=(Qv (prim (Zi rs))).map cn) (Z1 ka) (by omega) (by rw[List.length_map];omega)
 rw[Z5] at hder
 have hder':=Ve hder
 have kd:Kb (K+2) (Qu (Qv (prim (Zi rs)))):=R0 ka (by omega)
 have ld:(Qu (Qv (prim (Zi rs)))).length≤c:=by have:=Zad (Qv (prim (Zi rs)));omega
 have hcom:=Rh (rs:=(Qv (prim (Zi rs))).map cn) (ss:=(Qu (Qv (prim (Zi rs)))).map cn) (K:=K+2) (c:=c) (fun r h=>(Z1 ka r h).mono (by omega)) (Z1 kd) (by rw[List.length_map];omega) (by rw[List.length_map];exact ld) (by omega) hS
 rw[Z5,Z5] at hcom
 change Tk 70 _ (V3 (Qv (prim (Zi rs))) (Qu (Qv (prim (Zi rs))))) at hcom
 have hover:2≤(Qv (prim (Zi rs))).length→Ze Yir 120 [.sl ((Qv (prim (Zi rs))).map cn).length (pc ((Qv (prim (Zi rs))).map cn)), .sl ((V3 (Qv (prim (Zi rs))) (Qu (Qv (prim (Zi rs))))).map cn).length (pc ((V3 (Qv (prim (Zi rs))) (Qu (Qv (prim (Zi rs))))).map cn))] (plA (Ql (Zi rs))):=by
  intro h2
  have hp0:Zc (Zi rs) ≠ []:=by
   intro h0
   have:prim (Zi rs)=[]:=Un.2 (Xa.1 h0)
   rw[this] at h2
   exact absurd h2 (by decide)
  obtain⟨a1,a2,a3,a4,_,_⟩:=Rp hp0
  have hta:Zc (Qv (prim (Zi rs))) ≠ []:=Ug a1 a2
  obtain⟨b1,b2⟩:=Zeu (t:=Qu (Qv (prim (Zi rs)))) hta (by omega) ka
  rw[a1] at b2
  have nG:=Fp (t:=Qu (Qv (prim (Zi rs)))) hta
  have lG:=Kx (Qv (prim (Zi rs))) (Qu (Qv (prim (Zi rs))))
  have tG:=Tt (t:=Qu (Qv (prim (Zi rs)))) hta
  have h:=Zd1 ka b1 lda lG nG tG a4 b2 (by omega) (by
   have h4:(Qv (prim (Zi rs))).length+1-(V3 (Qv (prim (Zi rs))) (Qu (Qv (prim (Zi rs))))).length≤10:=by omega
   have h5:=Nat.mul_le_mul_right (K+3+1) h4
   have h6:3^2≤3^c:=Nat.pow_le_pow_right (by decide) (by omega)
   have h7:(K+3)*18≤(K+3)*(2*3^c):=Nat.mul_le_mul_left _ (by omega)
   omega)
  have e:prim (Rt (V3 (Qv (prim (Zi rs))) (Qu (Qv (prim (Zi rs))))) (Qv (prim (Zi rs))).length (Qv (prim (Zi rs))) (List.replicate ((Qv (prim (Zi rs))).length-(V3 (Qv (prim (Zi rs))) (Qu (Qv (prim (Zi rs))))).length+1) 0))=Ql (Zi rs):=by
   unfold Ql
   by_cases hg:(V3 (Qv (prim (Zi rs))) (Qu (Qv (prim (Zi rs))))).length<2
   ·rw[if_pos (.inr hg)]
    have hgl:=List.length_pos_iff.2 nG
    obtain⟨c,hc⟩:=Zef (show (V3 (Qv (prim (Zi rs))) (Qu (Qv (prim (Zi rs))))).length=1 by omega)
    rw[hc] at tG ⊢
    exact Zkd tG (Kt a1 a3) (by omega)
   ·rw[if_neg (by omega)]
    exact (Zrt lG nG tG b2).symm
  rw[e] at h
  exact h
 by_cases hs:(Qv (prim (Zi rs))).length<2
 ·have e:Ql (Zi rs)=Qv (prim (Zi rs)):=by unfold Ql;rw[if_pos (.inl hs)]
  rw[e]
  by_cases ht:top (prim (Zi rs))<0
  ·exact Sx rs _ _ (by rw[decide_eq_true_eq,List.length_map];omega) p1 (q1 ht)
  ·rw[hpp ht] at hs ⊢
   exact St rs _ (by rw[decide_eq_true_eq,List.length_map];omega) p1 (q2 ht)
 ·have hover:=hover (by omega)
  by_cases ht:top (prim (Zi rs))<0
  ·rcases hcom with h | h
   ·exact Sw rs _ _ _ _ _ (by rw[decide_eq_false_iff_not,List.length_map];omega) p1 (q1 ht) hder' h hover
   ·exact Sv rs _ _ _ _ _ (by rw[decide_eq_false_iff_not,List.length_map];omega) p1 (q1 ht) hder' h hover
  ·rw[hpp ht] at *
   rcases hcom with h | h
   ·exact Su rs _ _ _ _ (by rw[decide_eq_false_iff_not,List.length_map];omega) p1 (q2 ht) hder' h hover
   ·exact Ss rs _ _ _ _ (by rw[decide_eq_false_iff_not,List.length_map];omega) p1 (q2 ht) hder' h hover
end Go.Proofs.Ythnnfemologhfaa

namespace Go.Proofs.Ythnnfemologhfaa
open Go.IntKind (i64 u64 u32)
open Go.Ai
set_option maxRecDepth 100000
def Kj (o:Bool) (ps:List (List Rn)) (n:Int) (k:Int) (rs:List Rn) (d:Int) (i:Int):Zk:=(dds 2 (.val (.bool o)::(dds 1 (.val (.sl rs.length (pc rs))::(.val (.int .i64 d)::(.val (.int .i64 i)::(.val (.sl ps.length (pp ps))::(.val (.int .i64 n)::(.val (.int .i64 k)::(dds 19 []))))))))))
theorem Zti (o:Bool) (ps:List (List Rn)) (n:Int) (k:Int) (rs:List Rn) (d:Int) (i:Int) (z:Int) (c1:(decide (i≤d))=true) (c2:(decide (z>256))=true) (n1:0≤i∧i<(rs.length:Int)) (n2:Ze Yir 76 [Zt (rs.getD (Int.toNat i) z0)] (.int .i64 z)):Za Yir A4 (Kj o ps n k rs d i) .ret (Kj true ps n k rs d i):=(Za.go Qj 400 [.b true, .v (Zt (rs.getD (Int.toNat i) z0)), .r (.int .i64 z), .b true] [2,4,5,6,7,8,9] (ac c1 (ac n1 (ac (Qi n1) (ac n2 (ac c2 a0))))))
theorem Zth (o:Bool) (ps:List (List Rn)) (n:Int) (k:Int) (rs:List Rn) (d:Int) (i:Int) (z:Int) (c1:(decide (i≤d))=true) (c2:(decide (z>256))=false) (n1:0≤i∧i<(rs.length:Int)) (n2:Ze Yir 76 [Zt (rs.getD (Int.toNat i) z0)] (.int .i64 z)):Za Yir A4 (Kj o ps n k rs d i) .norm (Kj o ps n k rs d (i64.wrap (i+1))):=(Za.go Qj 400 [.b true, .v (Zt (rs.getD (Int.toNat i) z0)), .r (.int .i64 z), .b false] [2,4,5,6,7,8,9] (ac c1 (ac n1 (ac (Qi n1) (ac n2 (ac c2 a0))))))
theorem Ztg (o:Bool) (ps:List (List Rn)) (n:Int) (k:Int) (rs:List Rn) (d:Int) (i:Int)  (c1:(decide (i≤d))=false):Za Yir A4 (Kj o ps n k rs d i) (.exit 2) (Kj o ps n k rs d i):=(Za.go Qj 400 [.b false] [2,4,5,6,7,8,9] (ac c1 a0))
def Zpx:ICode := .seq (rg [oB 10 .lss 9 8]) (.seq (.cond (.t 10) (.skip) (.exit 0)) (.seq (.block 1 (.seq (rg [o1 11 (.ixa 7 (.t 9) 1),o1 12 (.ld 11 11 1 true),oM 4 12]) (.seq (rg [oM 13 4,oC 14 62 [13],oM 5 14]) (.seq (.seq (rg [oM 15 5,o1 16 (.bin .gtr (.t 15) (ci 16))]) (.cond (.t 16) (.seq (rg [o1 2 (.mov (.c (.bool true)))]) (.ret)) (.skip))) (.seq (rg [o1 6 (.mov (ci 0))]) (.block 2 (.loop (.seq (.seq (rg [oM 17 6,oM 18 5,oB 19 .leq 17 18]) (.cond (.t 19) (.skip) (.exit 2))) (.seq (.block 3 (.seq (rg [oM 22 4,oM 23 6,o1 24 (.ixa 22 (.t 23) 2),o1 25 (.ld 24 24 2 false),oC 26 76 [25],o1 27 (.bin .gtr (.t 26) (ci 256))]) (.cond (.t 27) (.seq (rg [o1 2 (.mov (.c (.bool true)))]) (.ret)) (.skip)))) (rg [oM 20 6,o1 21 (.bin .add (.t 20) (ci 1)),oM 6 21])))))))))) (rg [o1 28 (.bin .add (.t 9) (ci 1)),oM 9 28])))
def Pv (o:Bool) (ps:List (List Rn)) (n:Int) (k:Int):Zk:=(dds 2 (.val (.bool o)::(dds 4 (.val (.sl ps.length (pp ps))::(.val (.int .i64 n)::(.val (.int .i64 k)::(dds 19 [])))))))
theorem Yk61_1 (o:Bool) (ps:List (List Rn)) (n:Int) (k:Int) (d:Int) (c1:(decide (k<n))=true) (c2:(decide (d>16))=true) (n1:0≤k∧k<(ps.length:Int)) (n2:Ze Yir 62 [.sl ((ps.getD (Int.toNat k) []).length) (pc (ps.getD (Int.toNat k) []))] (.int .i64 d)):Za Yir Zpx (Pv o ps n k) .ret (Pv true ps n k):=(Za.seq (Za.go (t:=(dds 2 (.val (.bool o)::(dds 4 (.val (.sl ps.length (pp ps))::(vi n::(vi k::(.val (.bool (decide (k<n)))::(dds 18 []))))))))) Qj 400 [] [2,7,8,9,10] a0) (Za.seq (Za.go (t:=(dds 2 (.val (.bool o)::(dds 4 (.val (.sl ps.length (pp ps))::(vi n::(vi k::(dds 19 [])))))))) Qj 400 [.b true] [2,7,8,9] (ac c1 a0)) (Za.seq_out (Za.block_ret (Za.seq (Za.go (t:=(dds 2 (.val (.bool o)::(dds 1 (.val (.sl ((ps.getD (Int.toNat k) []).length) (pc (ps.getD (Int.toNat k) [])))::(dds 2 (.val (.sl ps.length (pp ps))::(vi n::(vi k::(dds 19 [])))))))))) Qj 400 [.v (.sl ((ps.getD (Int.toNat k) []).length) (pc (ps.getD (Int.toNat k) [])))] [2,4,7,8,9] (ac n1 (ac (Uj n1) a0))) (Za.seq (Za.go (t:=(dds 2 (.val (.bool o)::(dds 1 (.val (.sl ((ps.getD (Int.toNat k) []).length) (pc (ps.getD (Int.toNat k) [])))::(vi d::(dds 1 (.val (.sl ps.length (pp ps))::(vi n::(vi k::(dds 19 []))))))))))) Qj 400 [.r (.int .i64 d)] [2,4,5,7,8,9] (ac n2 a0)) (Za.seq_out (Za.go Qj 400 [.b true] [2,7,8,9] (ac c2 a0)) (by intro e;cases e))))) (by intro e;cases e))))
theorem Yk61_2 (o:Bool) (ps:List (List Rn)) (n:Int) (k:Int) (d i:Int) (c1:(decide (k<n))=true) (c2:(decide (d>16))=false) (n1:0≤k∧k<(ps.length:Int)) (n2:Ze Yir 62 [.sl ((ps.getD (Int.toNat k) []).length) (pc (ps.getD (Int.toNat k) []))] (.int .i64 d)) (hl3:Za Yir (.loop A4) (Kj o ps n k (ps.getD (Int.toNat k) []) d 0) (.exit 2) (Kj o ps n k (ps.getD (Int.toNat k) []) d i)):Za Yir Zpx (Pv o ps n k) .norm (Pv o ps n (i64.wrap (k+1))):=(Za.seq (Za.go (t:=(dds 2 (.val (.bool o)::(dds 4 (.val (.sl ps.length (pp ps))::(vi n::(vi k::(.val (.bool (decide (k<n)))::(dds 18 []))))))))) Qj 400 [] [2,7,8,9,10] a0) (Za.seq (Za.go (t:=(dds 2 (.val (.bool o)::(dds 4 (.val (.sl ps.length (pp ps))::(vi n::(vi k::(dds 19 [])))))))) Qj 400 [.b true] [2,7,8,9] (ac c1 a0)) (Za.seq (Za.block_norm (Za.seq (Za.go (t:=(dds 2 (.val (.bool o)::(dds 1 (.val (.sl ((ps.getD (Int.toNat k) []).length) (pc (ps.getD (Int.toNat k) [])))::(dds 2 (.val (.sl ps.length (pp ps))::(vi n::(vi k::(dds 19 [])))))))))) Qj 400 [.v (.sl ((ps.getD (Int.toNat k) []).length) (pc (ps.getD (Int.toNat k) [])))] [2,4,7,8,9] (ac n1 (ac (Uj n1) a0))) (Za.seq (Za.go (t:=(dds 2 (.val (.bool o)::(dds 1 (.val (.sl ((ps.getD (Int.toNat k) []).length) (pc (ps.getD (Int.toNat k) [])))::(vi d::(dds 1 (.val (.sl ps.length (pp ps))::(vi n::(vi k::(dds 19 []))))))))))) Qj 400 [.r (.int .i64 d)] [2,4,5,7,8,9] (ac n2 a0)) (Za.seq (Za.go (t:=(dds 2 (.val (.bool o)::(dds 1 (.val (.sl ((ps.getD (Int.toNat k) []).length) (pc (ps.getD (Int.toNat k) [])))::(vi d::(dds 1 (.val (.sl ps.length (pp ps))::(vi n::(vi k::(dds 19 []))))))))))) Qj 400 [.b false] [2,4,5,7,8,9] (ac c2 a0)) (Za.seq (Za.go Qj 400 [] [2,4,5,6,7,8,9] a0) (Za.block hl3)))))) (Za.go Qj 400 [] [2,7,8,9] a0))))
theorem Yk61_3 (o:Bool) (ps:List (List Rn)) (n:Int) (k:Int)  (c1:(decide (k<n))=false):Za Yir Zpx (Pv o ps n k) (.exit 0) (Pv o ps n k):=(Za.seq (Za.go (t:=(dds 2 (.val (.bool o)::(dds 4 (.val (.sl ps.length (pp ps))::(vi n::(vi k::(.val (.bool (decide (k<n)))::(dds 18 []))))))))) Qj 400 [] [2,7,8,9,10] a0) (Za.seq_out (Za.go Qj 400 [.b false] [2,7,8,9] (ac c1 a0)) (by intro e;cases e)))
def Ys61y (o:Bool) (ps:List (List Rn)) (n:Int) (k:Int):Zk:=(dds 2 (.val (.bool o)::(dds 4 (.val (.sl ps.length (pp ps))::(.val (.int .i64 n)::(.val (.int .i64 k)::(dds 19 [])))))))
theorem Ztf (o:Bool) (ps:List (List Rn)) (n:Int) (k:Int) (d i:Int) (c1:(decide (k<n))=true) (c2:(decide (d>16))=false) (n1:0≤k∧k<(ps.length:Int)) (n2:Ze Yir 62 [.sl ((ps.getD (Int.toNat k) []).length) (pc (ps.getD (Int.toNat k) []))] (.int .i64 d)) (hl3:Za Yir (.loop A4) (Kj o ps n k (ps.getD (Int.toNat k) []) d 0) .ret (Kj true ps n k (ps.getD (Int.toNat k) []) d i)):Za Yir Yc61y (Ys61y o ps n k) .ret (Ys61y true ps n k):=(Za.seq (Za.go (t:=(dds 2 (.val (.bool o)::(dds 4 (.val (.sl ps.length (pp ps))::(vi n::(vi k::(.val (.bool (decide (k<n)))::(dds 18 []))))))))) Qj 400 [] [2,7,8,9,10] a0) (Za.seq (Za.go (t:=(dds 2 (.val (.bool o)::(dds 4 (.val (.sl ps.length (pp ps))::(vi n::(vi k::(dds 19 [])))))))) Qj 400 [.b true] [2,7,8,9] (ac c1 a0)) (Za.seq_out (Za.block_ret (Za.seq (Za.go (t:=(dds 2 (.val (.bool o)::(dds 1 (.val (.sl ((ps.getD (Int.toNat k) []).length) (pc (ps.getD (Int.toNat k) [])))::(dds 2 (.val (.sl ps.length (pp ps))::(vi n::(vi k::(dds 19 [])))))))))) Qj 400 [.v (.sl ((ps.getD (Int.toNat k) []).length) (pc (ps.getD (Int.toNat k) [])))] [2,4,7,8,9] (ac n1 (ac (Uj n1) a0))) (Za.seq (Za.go (t:=(dds 2 (.val (.bool o)::(dds 1 (.val (.sl ((ps.getD (Int.toNat k) []).length) (pc (ps.getD (Int.toNat k) [])))::(vi d::(dds 1 (.val (.sl ps.length (pp ps))::(vi n::(vi k::(dds 19 []))))))))))) Qj 400 [.r (.int .i64 d)] [2,4,5,7,8,9] (ac n2 a0)) (Za.seq (Za.go (t:=(dds 2 (.val (.bool o)::(dds 1 (.val (.sl ((ps.getD (Int.toNat k) []).length) (pc (ps.getD (Int.toNat k) [])))::(vi d::(dds 1 (.val (.sl ps.length (pp ps))::(vi n::(vi k::(dds 19 []))))))))))) Qj 400 [.b false] [2,4,5,7,8,9] (ac c2 a0)) (Za.seq (Za.go Qj 400 [] [2,4,5,6,7,8,9] a0) (Za.block_ret (Za.keep (t':=(dds 2 (.val (.bool true)::(dds 4 (.val (.sl ps.length (pp ps))::(.val (.int .i64 n)::(.val (.int .i64 k)::(dds 19 [])))))))) [2,7,8,9] hl3 (by kernel_rfl)))))))) (by intro e;cases e))))
theorem Zlt (ps:List (List Rn)) (n k:Int) (hl1:Za Yir (.loop Zpx) (Pv false ps (ps.length:Int) 0) (.exit 0) (Pv false ps n k)):Ze Yir 61 [.sl ps.length (pp ps)] (.bool false):=Ze.of_bodyW (fn:=Zyv) (s:=(dds 2 (.val (.bool false)::(dds 26 [])))) (ex := .ret) rfl rfl (Za.seq (Za.go (t:=(.val (.sl ps.length (pp ps))::(dds 1 (.val (.bool false)::(dds 26 []))))) Qj 400 [] [0,2] a0) (Za.seq (Za.seq (Za.go Qj 400 [] [2,7,8,9] a0) (Za.block hl1)) (Za.go Qj 400 [] [2] a0))) (by intro i e;cases e) rfl
theorem Zls (ps:List (List Rn)) (n k:Int) (hl1:Za Yir (.loop Zpx) (Pv false ps (ps.length:Int) 0) .ret (Pv true ps n k)):Ze Yir 61 [.sl ps.length (pp ps)] (.bool true):=Ze.of_bodyW (fn:=Zyv) (s:=(dds 2 (.val (.bool true)::(dds 4 (.val (.sl ps.length (pp ps))::(.val (.int .i64 n)::(.val (.int .i64 k)::(dds 19 [])))))))) (ex := .ret) rfl rfl (Za.seq (Za.go (t:=(.val (.sl ps.length (pp ps))::(dds 1 (.val (.bool false)::(dds 26 []))))) Qj 400 [] [0,2] a0) (Za.seq_out (Za.seq (Za.go Qj 400 [] [2,7,8,9] a0) (Za.block_ret hl1)) (by intro e;cases e))) (by intro i e;cases e) rfl
end Go.Proofs.Ythnnfemologhfaa
