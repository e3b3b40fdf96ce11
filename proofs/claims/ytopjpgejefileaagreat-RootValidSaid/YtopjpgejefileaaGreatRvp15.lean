/- Texts of the proof of RootValid, packed by pack.py: part 15 of 21. -/
import Derived.Test.YtopjpgejefileaaGreatRvp14
namespace Go.Ai
open Go.IntKind (i64 u64 u32)
theorem Zgx (c:Nat) (hc:1<c):∃ p,1<p/\p∣c/\∀ d,d∣p->d=1\/d=p:=by
 have h:∀ n,∀ m,m<=n->1<m->m∣c->∃ p,1<p/\p∣c/\∀ d,d∣p->d=1\/d=p:=by
  intro n;induction n with
  | zero=>intro m h1 h2;omega
  | succ n ih =>
   intro m h1 h2 h3;by_cases h:∀ d,d∣m->d=1\/d=m
   ·exact⟨m,h2,h3,h⟩
   ·obtain⟨d,hd⟩:=Classical.not_forall.1 h;obtain⟨hd1,hd2⟩:=Classical.not_imp.1 hd;have h5:=Nat.le_of_dvd (by omega) hd1;have h6:d ≠ 0:=by intro h0;subst h0;have:=Nat.zero_dvd.1 hd1;omega
    exact ih d (by omega) (by omega) (Nat.dvd_trans hd1 h3)
 exact h c c (Nat.le_refl _) hc (Nat.dvd_refl _)
theorem Zf6 {p:Nat} (hp:∀ d,d∣p->d=1\/d=p) {a b:Int} (h:(p:Int)∣a*b):(p:Int)∣a\/(p:Int)∣b:=by
 rcases hp (Nat.gcd p a.natAbs) (Nat.gcd_dvd_left _ _) with g | g
 ·right;have h1:p∣a.natAbs*b.natAbs:=by rw[<- Int.natAbs_mul];exact Int.ofNat_dvd_left.1 h
  exact Int.ofNat_dvd_left.2 (Nat.Coprime.dvd_of_dvd_mul_left g h1)
 ·left;have:p∣a.natAbs:=by rw[<- g];exact Nat.gcd_dvd_right _ _
  exact Int.ofNat_dvd_left.2 this
theorem Ef (g:List Int) (b:Int) (k:List Int) (i:Nat):(U1 g (b::k)).getD i 0=b*g.getD i 0+(V5 1 (U1 g k)).getD i 0:=by
 have h:=Un (p:=U1 g (b::k)) (q:=F8 (Zy b g) (V5 1 (U1 g k))) (fun x=>by
  rw[Qa,Jf,Zq,Wf,Qa];simp only[Zg,Int.pow_succ,Int.pow_zero];grind) i
 rw[h,Xm,Z5]
theorem Ev {p:Nat} (hp:∀ d,d∣p->d=1\/d=p):∀ (g k:List Int),(∀ i,(p:Int)∣(U1 g k).getD i 0)->(¬ ∀ i,(p:Int)∣g.getD i 0)->∀ i,(p:Int)∣k.getD i 0
 | [],k,_,h=>absurd (fun i=>by simp) h
 | a::g,k,h,hn=>by
  by_cases ha:(p:Int)∣a
  ·refine Ev hp g k (fun i => ?_) (fun h2=>hn fun i => ?_)
   ·have h1:=h (i+1);rw[Xn,Jo,if_pos (by omega)] at h1;exact (Int.dvd_add_right (Int.dvd_trans ha (Int.dvd_mul_right _ _))).1 h1
   ·cases i with
    | zero=>simpa using ha
    | succ i=>simpa using h2 i
  ·clear hn;induction k with
   | nil=>intro i;simp
   | cons b k ih =>
    have h0:=h 0;rw[Xn,Jo,if_neg (by omega),Int.add_zero] at h0;have hb:(p:Int)∣b:=by
     rcases Zf6 hp h0 with g1 | g1
     ·exact absurd g1 ha
     ·simpa using g1
    have h2:=ih (fun i=>by
     have h1:=h (i+1);rw[Ef,Jo,if_pos (by omega)] at h1;exact (Int.dvd_add_right (Int.dvd_trans hb (Int.dvd_mul_right _ _))).1 h1)
    intro i;cases i with
    | zero=>simpa using hb
    | succ i=>simpa using h2 i
theorem gauss {g : List Int} (hg :   Jb g = 1) : ∀ (c : Nat) (k : List Int), 0 < c -> (∀ i, (c : Int) ∣ (  U1 g k).getD i 0) -> ∀ i, (c : Int) ∣ k.getD i 0 := by
  intro c
  induction c using Nat.strongRecOn with
  | ind c ih =>
    intro k hc h
    by_cases h1 : c = 1
    · intro i; rw [h1]; exact Int.one_dvd _
    · obtain ⟨p, p1, ⟨d, hd⟩, p3⟩ :=       Zgx c (by omega)
      have hd0 : 0 < d := by rcases Nat.eq_zero_or_pos d with g | g
                             · rw [g, Nat.mul_zero] at hd; omega
                             · exact g
      have hdc : d < c := by rw [hd]; exact (Nat.lt_mul_iff_one_lt_left hd0).2 p1
      have hpk :=          Ev p3 g k (fun i => Int.dvd_trans ⟨(d : Int), by rw [hd]; push_cast; rfl⟩ (h i)) (fun h2 => by
        have := (      H1 p g).2 h2
        rw [hg] at this
        have := Nat.le_of_dvd (by decide) this
        omega)
      have hk :    Zy (p : Int) (k.map fun x => x / (p : Int)) = k := by
        apply       Hy (by simp [   Zy])
        intro i
        rw [        Z5]
        have e : (k.map fun x => x / (p : Int)).getD i 0 = k.getD i 0 / (p : Int) := by
          simp only [List.getD_eq_getElem?_getD, List.getElem?_map]
          cases k[i]? <;> simp
        rw [e]
        exact Int.mul_ediv_cancel' (hpk i)
      generalize k.map (fun x => x / (p : Int)) = k1 at hk
      subst hk
      have h3 := ih d hdc k1 hd0 (fun i => by
        have h2 := h i
        have e : (  U1 g (   Zy (p : Int) k1)).getD i 0 = (p : Int) * (  U1 g k1).getD i 0 := by
          rw [<-         Z5]
          exact         Un (fun x => by rw [        Qa,          Zq,          Zq,         Qa]; grind) i
        rw [e, hd, Int.natCast_mul] at h2
        exact Int.dvd_of_mul_dvd_mul_left (by omega) h2)
      intro i
      rw [        Z5, hd, Int.natCast_mul]
      exact Int.mul_dvd_mul_left _ (h3 i)
def syn:List Int->Int->List Int
 | [],_=>[]
 | _::p,a=>F8 p (Zy a (syn p a))
theorem Ad:∀ (p:List Int) (a x:Int),Zg p x-Zg p a=(x-a)*Zg (syn p a) x
 | [],a,x=>by simp[syn,Zg]
 | c::p,a,x=>by
  have ih:=Ad p a x;simp only[syn,Zg];rw[Jf,Zq];grind
theorem Sp:∀ (p:List Int) (a:Int),(syn p a).length<=p.length-1
 | [],a=>by simp[syn]
 | c::p,a=>by
  have ih:=Sp p a;have:=Znh p (Zy a (syn p a));rw[Zx] at this;simp only[syn,List.length_cons];omega
theorem Zbf (p:List Int) (a:Int) (i:Nat):p.getD i 0=(Zg p a::syn p a).getD i 0-a*(syn p a).getD i 0:=by
 have h:=Un (p:=p) (q:=Zdb (Zg p a::syn p a) (Zy a (syn p a))) (fun x=>by
  rw[X2,Zq];simp only[Zg];have:=Ad p a x;grind) i
 rw[h,Et,Z5]
theorem Zfv:∀ (n:Nat) (p:List Int) (l:List Int),p.length<=n->l.Nodup->(∀ x∈l,Zg p x=0)->n<=l.length->∀ i,p.getD i 0=0:=by
 intro n;induction n with
 | zero =>
  intro p l h _ _ _ i;rw[List.eq_nil_of_length_eq_zero (by omega:p.length=0)];simp
 | succ n ih =>
  intro p l h1 h2 h3 h4 i;cases l with
  | nil=>simp at h4
  | cons a l =>
   have ha:=h3 a List.mem_cons_self;have hq:=ih (syn p a) l (by have:=Sp p a;omega) (List.nodup_cons.1 h2).2 (fun x hx=>by
    have h5:=Ad p a x;rw[ha,h3 x (List.mem_cons_of_mem _ hx)] at h5;rcases Int.mul_eq_zero.1 (h5.symm.trans (by omega)) with g | g
    ·have hxa:x=a:=by omega
     subst hxa;exact absurd hx (List.nodup_cons.1 h2).1
    ·exact g) (by simp at h4;omega)
   rw[Zbf p a i,ha,hq i];cases i with
   | zero=>simp
   | succ i=>simpa using hq i
theorem Zcv {R:Nat}:∀ (n:Nat) (g:List Int) (l:List Int) (M:Nat),g.length<=n+1->l.Nodup->l.length=n+1->(∀ x∈l,x.natAbs<=R/\(Zg g x).natAbs<=M)->(∀ x∈l,∀ y∈l,x ≠ y->1<=(x-y).natAbs)->∀ i,(g.getD i 0).natAbs<=M*(2*R+3)^n:=by
 intro n;induction n with
 | zero =>
  intro g l M h1 h2 h3 h4 _ i;cases l with
  | nil=>simp at h3
  | cons a l =>
   have ha:=h4 a List.mem_cons_self;cases g with
   | nil=>simp
   | cons c g =>
    have:g=[]:=by simpa using h1
    subst this;simp only[Zg,Int.mul_zero,Int.add_zero] at ha;rw[Nat.pow_zero,Nat.mul_one];cases i with
    | zero=>simpa using ha.2
    | succ i=>simp
 | succ n ih =>
  intro g l M h1 h2 h3 h4 h6 i;cases l with
  | nil=>simp at h3
  | cons a l =>
   obtain⟨ha1,ha2⟩:=h4 a List.mem_cons_self;have hq:=ih (syn g a) l (2*M) (by have:=Sp g a;omega) (List.nodup_cons.1 h2).2 (by simpa using h3) (fun x hx=>by
    obtain⟨hx1,hx2⟩:=h4 x (List.mem_cons_of_mem _ hx);refine⟨hx1,?_⟩;have h5:=congrArg Int.natAbs (Ad g a x);rw[Int.natAbs_mul] at h5;have hne:x ≠ a:=by intro e;subst e;exact absurd hx (List.nodup_cons.1 h2).1
    have h7:1<=(x-a).natAbs:=by omega
    have h8:=Nat.le_mul_of_pos_left (Zg (syn g a) x).natAbs h7;have h9:(Zg g x-Zg g a).natAbs<=2*M:=by omega
    omega) (fun x hx y hy=>h6 x (List.mem_cons_of_mem _ hx) y (List.mem_cons_of_mem _ hy))
   rw[Zbf g a i];have hX:1<=(2*R+3)^n:=Nat.pow_pos (by omega);have e1:M*(2*R+3)^(n+1)=R*(2*M*(2*R+3)^n)+2*M*(2*R+3)^n+M*(2*R+3)^n:=by rw[Nat.pow_succ];grind
   have e2:M*1<=M*(2*R+3)^n:=Nat.mul_le_mul_left _ hX;have b1:=hq i;have b2:(a*(syn g a).getD i 0).natAbs<=R*(2*M*(2*R+3)^n):=by rw[Int.natAbs_mul];exact Nat.mul_le_mul ha1 b1
   have b3:((Zg g a::syn g a).getD i 0).natAbs<=2*M*(2*R+3)^n+M*(2*R+3)^n:=by
    cases i with
    | zero=>simp only[List.getD_cons_zero];omega
    | succ i=>have:=hq i;simp only[List.getD_cons_succ];omega
   rw[e1];generalize R*(2*M*(2*R+3)^n)=A at *
   generalize 2*M*(2*R+3)^n=B at *
   generalize M*(2*R+3)^n=C at *
   omega
theorem Zbv {R B:Nat}:∀ (t:List Int) (x:Int),(∀ i,(t.getD i 0).natAbs<=B)->x.natAbs<=R->(Zg t x).natAbs<=B*(R+1)^t.length
 | [],x,_,_=>by simp[Zg]
 | c::t,x,h,hx=>by
  have ih:=Zbv t x (fun i=>by simpa using h (i+1)) hx;have h0:c.natAbs<=B:=by simpa using h 0
  simp only[Zg,List.length_cons];have h1:(x*Zg t x).natAbs<=R*(B*(R+1)^t.length):=by rw[Int.natAbs_mul];exact Nat.mul_le_mul hx ih
  have h2:B*1<=B*(R+1)^t.length:=Nat.mul_le_mul_left _ (Nat.pow_pos (by omega));have e:B*(R+1)^(t.length+1)=R*(B*(R+1)^t.length)+B*(R+1)^t.length:=by rw[Nat.pow_succ];grind
  rw[e];generalize R*(B*(R+1)^t.length)=X at *
  omega
theorem Znk {t:List Int} {n:Nat} (ht:Ze t ≠ []) (hl:t.length<=n+1):∃ l:List Int,l.Nodup/\l.length=n+1/\∀ x∈l,x.natAbs<=2*n/\Zg t x ≠ 0:=by
 have hnd:((List.range (2*n+1)).map fun i:Nat=>(i:Int)).Nodup:=by
  rw[List.nodup_iff_pairwise_ne,List.pairwise_map];exact (List.nodup_iff_pairwise_ne.1 List.nodup_range).imp (fun h=>by omega)
 have hmem:∀ x∈(List.range (2*n+1)).map fun i:Nat=>(i:Int),x.natAbs<=2*n:=by
  intro x hx;obtain⟨i,hi,rfl⟩:=List.mem_map.1 hx;have:=List.mem_range.1 hi;omega
 have hlen:((List.range (2*n+1)).map fun i:Nat=>(i:Int)).length=2*n+1:=by simp
 generalize ((List.range (2*n+1)).map fun i:Nat=>(i:Int))=L at *
 have hsum:=List.length_eq_countP_add_countP (fun x=>decide (Zg t x=0)) (l:=L);rw[List.countP_eq_length_filter,List.countP_eq_length_filter] at hsum;have hA:(L.filter fun x=>decide (Zg t x=0)).length<=n:=by
  apply Nat.le_of_not_lt;intro h;apply ht;rw[Xi];exact Zfv (n+1) t (L.filter fun x=>decide (Zg t x=0)) hl (hnd.filter _) (fun x hx=>by simpa using (List.mem_filter.1 hx).2) (by omega)
 refine⟨(L.filter fun x=>decide ¬ (decide (Zg t x=0))=true).take (n+1),(hnd.filter _).sublist (List.take_sublist _ _),?_,?_⟩
 ·rw[List.length_take];omega
 ·intro x hx;obtain⟨h1,h2⟩:=List.mem_filter.1 (List.mem_of_mem_take hx);exact⟨hmem x h1,by simpa using h2⟩
theorem Lg {t g k:List Int} {K:Nat} (ht:Ze t ≠ []) (hl:t.length<=9) (hg:g.length<=9) (hK:Kb K t) (h:∀ x,Zg t x=Zg g x*Zg k x):Kb (K+3) g:=by
 obtain⟨l,l1,l2,l3⟩:=Znk (n:=8) ht hl;have hb:∀ i,(t.getD i 0).natAbs<=4294967296^K:=fun i=>Nat.le_of_lt (hK i);have h1:=Zcv (R:=16) 8 g l (4294967296^K*17^9) hg l1 l2 (fun x hx=>by
  obtain⟨a,b⟩:=l3 x hx;refine⟨a,?_⟩;have h2:=Zbv (R:=16) t x hb a;have h3:=congrArg Int.natAbs (h x);rw[Int.natAbs_mul] at h3;have h4:1<=(Zg k x).natAbs:=by
   rcases Nat.eq_zero_or_pos (Zg k x).natAbs with g | g
   ·rw[g,Nat.mul_zero] at h3;omega
   ·exact g
  have h5:=Nat.le_mul_of_pos_right (Zg g x).natAbs h4;have h6:4294967296^K*17^t.length<=4294967296^K*17^9:=Nat.mul_le_mul_left _ (Nat.pow_le_pow_right (by decide) hl);exact Nat.le_trans (Nat.le_trans h5 (Nat.le_of_eq h3.symm)) (Nat.le_trans h2 h6)) (fun x _ y _ hne=>by omega)
 intro i;have h2:=h1 i;unfold Jc;refine Nat.lt_of_le_of_lt h2 ?_;rw[Nat.mul_assoc,Nat.pow_add];exact Nat.mul_lt_mul_of_pos_left (by decide) (Nat.pow_pos (by decide))
theorem Zdo {t g k:List Int} {c:Int} (hc:c ≠ 0) (hg:Jb g=1) (h:∀ x,c*Zg t x=Zg g x*Zg k x):∃ k',∀ x,Zg t x=Zg g x*Zg k' x:=by
 have h1:=Un (p:=U1 g k) (q:=Zy c t) (fun x=>by rw[Qa,Zq];exact (h x).symm);have h2:=gauss hg c.natAbs k (by omega) (fun i=>by rw[h1,Z5];exact Int.dvd_trans (Int.natAbs_dvd.2 (Int.dvd_refl _)) (Int.dvd_mul_right _ _));have hk:Zy c (k.map fun x=>x / c)=k:=by
  apply Hy (by simp[Zy]);intro i;rw[Z5];have e:(k.map fun x=>x / c).getD i 0=k.getD i 0 / c:=by
   simp only[List.getD_eq_getElem?_getD,List.getElem?_map];cases k[i]? <;> simp
  rw[e];exact Int.mul_ediv_cancel' (Int.natAbs_dvd.1 (h2 i))
 refine⟨k.map fun x=>x / c,fun x => ?_⟩;have h3:=h x;rw[<- hk,Zq] at h3;apply Int.eq_of_mul_eq_mul_left hc;rw[h3];grind
theorem Eu {t g k:List Int} {c:Int} {K:Nat} (hc:c ≠ 0) (hg:Jb g=1) (ht:Ze t ≠ []) (hl:t.length<=9) (hgl:g.length<=9) (hK:Kb K t) (h:∀ x,c*Zg t x=Zg g x*Zg k x):Kb (K+3) g:=by
 obtain⟨k',hk⟩:=Zdo hc hg h;exact Lg ht hl hgl hK hk
end Go.Ai

namespace Go.Ai
open Go.IntKind (i64 u64 u32)
def Dv (g t:List Int):Prop:=∃ (c:Int) (k:List Int),c ≠ 0/\∀ x,c*Zg t x=Zg g x*Zg k x
theorem Dv.refl (g:List Int):Dv g g:=⟨1,[1],by decide,fun x=>by simp [Zg]⟩
theorem Dv.zero (g:List Int):Dv g []:=⟨1,[],by decide,fun x=>by simp [Zg]⟩
theorem Dv.trans {a b c:List Int} (h1:Dv a b) (h2:Dv b c):Dv a c:=by
 obtain⟨m,k,hm,h⟩:=h1;obtain⟨n,l,hn,g⟩:=h2;refine⟨m*n,U1 k l,Int.mul_ne_zero hm hn,fun x => ?_⟩;have h':=h x;have g':=g x;rw[Qa,Int.mul_assoc,g'];rw[<- Int.mul_assoc,h'];grind
theorem Dv.comb {g s t r:List Int} {m:Int} (u v:List Int) (hm:m ≠ 0) (h1:Dv g s) (h2:Dv g t) (h:∀ x,m*Zg r x=Zg u x*Zg s x+Zg v x*Zg t x):Dv g r:=by
 obtain⟨c,k,hc,hk⟩:=h1;obtain⟨d,l,hd,hl⟩:=h2;refine⟨c*d*m,F8 (Zy d (U1 u k)) (Zy c (U1 v l)),Int.mul_ne_zero (Int.mul_ne_zero hc hd) hm,fun x => ?_⟩;rw[Jf,Zq,Zq,Qa,Qa];have a:=hk x;have b:=hl x;have e:=h x;rw[Int.mul_assoc,e];generalize Zg s x=s at *
 generalize Zg t x=t at *
 generalize Zg g x=g at *
 generalize Zg k x=k at *
 generalize Zg l x=l at *
 generalize Zg u x=u at *
 generalize Zg v x=v at *
 have e1:c*d*(u*s+v*t)=d*u*(c*s)+c*v*(d*t):=by grind
 rw[e1,a,b];grind
theorem Dv.scaled {g s r:List Int} {m n:Int} (hm:m ≠ 0) (h1:Dv g s) (h:∀ x,m*Zg r x=n*Zg s x):Dv g r :=
 Dv.comb [n] [] hm h1 h1 fun x=>by rw[h x];simp[Zg]
theorem Dv.left {g f t:List Int} {m n:Int} (_:m ≠ 0) (hn:n ≠ 0) (h1:Dv g t) (h:∀ x,m*Zg f x=n*Zg g x):Dv f t:=by
 obtain⟨c,k,hc,hk⟩:=h1;refine⟨n*c,Zy m k,Int.mul_ne_zero hn hc,fun x => ?_⟩;have a:=hk x;have b:=h x;rw[Zq];have e1:n*c*Zg t x=n*(c*Zg t x):=by grind
 rw[e1,a];have e2:n*(Zg g x*Zg k x)=(n*Zg g x)*Zg k x:=by grind
 rw[e2,<- b];grind
theorem Dv.mul_right {g s:List Int} (t:List Int) (h:Dv g s) {r:List Int} (hr:∀ x,Zg r x=Zg s x*Zg t x):Dv g r :=
 Dv.comb (m:=1) t [] (by decide) h h fun x=>by rw[hr x];simp[Zg];grind
theorem Uo {p:List Int} (h:Vn p) (h0:p ≠ []):Ze p ≠ []:=by rw [h];exact h0
theorem M2 {p q:List Int} (hp:Ze p ≠ []) (hq:Ze q ≠ []):(Ze (U1 p q)).length=(Ze p).length+(Ze q).length-1:=by
 have e:Ze (U1 p q)=Ze (U1 (Ze p) (Ze q)):=Wt fun x=>by rw[Qa,Qa,V2,V2]
 rw[e];have lp:=K8 p;have lq:=K8 q;generalize Ze p=P at *
 generalize Ze q=Q at *
 have h1:=List.length_pos_iff.2 hp;have h2:=List.length_pos_iff.2 hq;obtain⟨t1,t2⟩:=Ag P Q hp hq;have t3:(U1 P Q).getD (P.length+Q.length-2) 0 ≠ 0:=by rw[t1];exact Int.mul_ne_zero (Vw lp hp) (Vw lq hq)
 rw[Pf];have a1:¬ (U1 P Q).length<=P.length+Q.length-2:=fun h=>t3 (Qo h);have a2:¬ P.length+Q.length-1<(U1 P Q).length:=fun h=>by
  have hne:U1 P Q ≠ []:=by intro h0;rw[h0] at h;simp at h
  exact Vw (show Vn (U1 P Q) from Pf P Q) hne (t2 _ (by omega))
 omega
theorem Tj {p q:List Int} (hp:Ze p ≠ []) (h:∀ x,Zg p x*Zg q x=0):∀ x,Zg q x=0:=by
 intro x;by_cases hq:Ze q=[]
 ·exact Jt hq x
 ·have h1:=M2 hp hq;have h2:Ze (U1 p q)=Ze []:=Wt fun x=>by rw[Qa,h x];rfl
  rw[h2] at h1;have:=List.length_pos_iff.2 hp;have:=List.length_pos_iff.2 hq;have h0:(Ze []).length=0:=rfl;rw[h0] at h1;omega
theorem P6 {p:List Int} (hp:Ze p ≠ []) (q r:List Int) (h:∀ x,Zg p x*Zg q x=Zg p x*Zg r x):∀ x,Zg q x=Zg r x:=by
 intro x;have:=Tj (q:=Zdb q r) hp (fun x=>by rw[X2,Int.mul_sub,h x];omega) x;rw[X2] at this;omega
theorem Dv.length {g t:List Int} (h:Dv g t) (ht:Ze t ≠ []):(Ze g).length<=(Ze t).length/\Ze g ≠ []:=by
 obtain⟨c,k,hc,hk⟩:=h;have e:Ze (Zy c t)=Ze (U1 g k):=Wt fun x=>by rw[Zq,Qa];exact hk x
 rw[Hm hc] at e;have e2:=congrArg List.length e;rw[Zx] at e2;have ht1:=List.length_pos_iff.2 ht;by_cases hg:Ze g=[]
 ·have:Ze (U1 g k)=Ze []:=Wt fun x=>by rw[Qa,Jt hg];simp[Zg]
  have h0:(Ze []).length=0:=rfl;rw[this,h0] at e2;omega
 ·by_cases hk0:Ze k=[]
  ·have:Ze (U1 g k)=Ze []:=Wt fun x=>by rw[Qa,Jt hk0];simp[Zg]
   have h0:(Ze []).length=0:=rfl;rw[this,h0] at e2;omega
  ·rw[M2 hg hk0] at e2;have:=List.length_pos_iff.2 hk0;exact⟨by omega,hg⟩
def IsG (g s t:List Int):Prop:=Dv g s/\Dv g t/\∃ (c:Int) (u v:List Int),c ≠ 0/\∀ x,c*Zg g x=Zg u x*Zg s x+Zg v x*Zg t x
theorem IsG.comm {g s t:List Int} (h:IsG g s t):IsG g t s:=by
 obtain⟨a,b,c,u,v,hc,h⟩:=h;exact⟨b,a,c,v,u,hc,fun x=>by rw[h x];omega⟩
theorem IsG.dv {g s t f:List Int} (h:IsG g s t) (h1:Dv f s) (h2:Dv f t):Dv f g:=by
 obtain⟨_,_,c,u,v,hc,h⟩:=h;exact Dv.comb u v hc h1 h2 h
theorem IsG.start (s:List Int):IsG s s []:=⟨Dv.refl s,Dv.zero s,1,[1],[],by decide,fun x=>by simp [Zg]⟩
theorem IsG.length {f g s t:List Int} (h1:IsG f s t) (h2:IsG g s t) (hf:Ze f ≠ []):(Ze f).length=(Ze g).length:=by
 have a:=(h1.dv h2.1 h2.2.1).length hf;have b:=(h2.dv h1.1 h1.2.1).length a.2;omega
theorem IsG.step {g r d e q:List Int} {a m:Int} (ha:a ≠ 0) (hm:m ≠ 0) (hr:∀ x,a*Zg r x=Zg q x*Zg d x+m*Zg e x) (h:IsG g d e):IsG g r d:=by
 obtain⟨h1,h2,c,u,v,hc,h⟩:=h;refine⟨Dv.comb q [m] ha h1 h2 (fun x=>by rw[hr x];simp[Zg]),h1,c*m,Zy a v,Zdb (Zy m u) (U1 v q),Int.mul_ne_zero hc hm,fun x => ?_⟩;have e1:=hr x;have e2:=h x;rw[Zq,X2,Zq,Qa];generalize Zg g x=g at *
 generalize Zg d x=d at *
 generalize Zg e x=e at *
 generalize Zg r x=r at *
 generalize Zg q x=q at *
 generalize Zg u x=u at *
 generalize Zg v x=v at *
 have e3:c*m*g=m*(c*g):=by grind
 rw[e3,e2];have e4:a*v*r=v*(a*r):=by grind
 rw[e4,e1];grind
theorem IsG.scaled {g s t s' t':List Int} {m n k l:Int} (hm:m ≠ 0) (hn:n ≠ 0) (hk:k ≠ 0) (hl:l ≠ 0) (h1:∀ x,m*Zg s' x=n*Zg s x) (h2:∀ x,k*Zg t' x=l*Zg t x) (h:IsG g s t):IsG g s' t':=by
 obtain⟨a,b,c,u,v,hc,h⟩:=h;refine⟨a.scaled hm h1,b.scaled hk h2,c*(n*l),Zy (m*l) u,Zy (k*n) v,Int.mul_ne_zero hc (Int.mul_ne_zero hn hl),fun x => ?_⟩;have e1:=h1 x;have e2:=h2 x;have e3:=h x;rw[Zq,Zq];generalize Zg g x=g at *
 generalize Zg s x=s at *
 generalize Zg t x=t at *
 generalize Zg s' x=s' at *
 generalize Zg t' x=t' at *
 generalize Zg u x=u at *
 generalize Zg v x=v at *
 have e4:c*(n*l)*g=n*l*(c*g):=by grind
 rw[e4,e3];have e5:m*l*u*s'=l*u*(m*s'):=by grind
 have e6:k*n*v*t'=n*v*(k*t'):=by grind
 rw[e5,e6,e1,e2];grind
theorem IsG.gscaled {g g' s t:List Int} {m n:Int} (hm:m ≠ 0) (hn:n ≠ 0) (h1:∀ x,m*Zg g' x=n*Zg g x) (h:IsG g s t):IsG g' s t:=by
 obtain⟨a,b,c,u,v,hc,h⟩:=h;refine⟨a.left hm hn h1,b.left hm hn h1,c*m,Zy n u,Zy n v,Int.mul_ne_zero hc hm,fun x => ?_⟩;have e1:=h1 x;have e2:=h x;rw[Zq,Zq,Int.mul_assoc,e1];have e3:c*(n*Zg g x)=n*(c*Zg g x):=by grind
 rw[e3,e2];grind
theorem IsG.mul {d p q:List Int} (c:List Int) {d' p' q':List Int} (hd:∀ x,Zg d' x=Zg c x*Zg d x) (hp:∀ x,Zg p' x=Zg c x*Zg p x) (hq:∀ x,Zg q' x=Zg c x*Zg q x) (h:IsG d p q):IsG d' p' q':=by
 obtain⟨⟨m,k,hm,hk⟩,⟨n,l,hn,hl⟩,e,u,v,he,h⟩:=h;refine⟨⟨m,k,hm,fun x => ?_⟩,⟨n,l,hn,fun x => ?_⟩,e,u,v,he,fun x => ?_⟩
 ·have:=hk x;rw[hd,hp];grind
 ·have:=hl x;rw[hd,hq];grind
 ·have:=h x;rw[hd,hp,hq];grind
theorem K5 (p:List Int):∃ m:Int,m ≠ 0/\∀ x,Zg p x=m*Zg (prim p) x:=by
 by_cases h:Ze p=[]
 ·refine⟨1,by decide,fun x => ?_⟩;rw[Jt h,Ve.2 (Xi.1 h)];rfl
 ·have:=H3 h;refine⟨(Jb p:Int),by omega,fun x => ?_⟩;rw[<- Zq,Hr,V2]
theorem Zdc {r d:List Int} (hl:d.length<=r.length) (ht:top d ≠ 0):∃ (a m:Int) (q:List Int),a ≠ 0/\m ≠ 0/\∀ x,a*Zg r x=Zg q x*Zg d x+m*Zg (Uv r d) x:=by
 obtain⟨m,hm,h⟩:=K5 (Uz r d ((top d).natAbs:Int) (sg (top d)*top r) r.length);refine⟨((top d).natAbs:Int),m,V5 (r.length-d.length) [sg (top d)*top r],by omega,hm,fun x => ?_⟩;have h1:=h x;rw[Pz hl] at h1;have e:Zg (Uv r d) x=Zg (prim (Uz r d ((top d).natAbs:Int) (sg (top d)*top r) r.length)) x:=rfl;rw[e,<- h1,Wf];simp only[Zg];grind
theorem Zc3 {d:List Int} (ht:top d ≠ 0):∀ (f:Nat) (r:List Int),∃ (a m:Int) (q:List Int),a ≠ 0/\m ≠ 0/\∀ x,a*Zg r x=Zg q x*Zg d x+m*Zg (Vv f r d) x:=by
 intro f;induction f with
 | zero=>intro r;exact⟨1,1,[],by decide,by decide,fun x=>by simp[Zg,Vv]⟩
 | succ f ih =>
  intro r;simp only[Vv];split
  ·rename_i hl;obtain⟨a,m,q,ha,hm,h⟩:=Zdc hl ht;obtain⟨b,n,s,hb,hn,g⟩:=ih (Uv r d);refine⟨b*a,m*n,F8 (Zy b q) (Zy m s),Int.mul_ne_zero hb ha,Int.mul_ne_zero hm hn,fun x => ?_⟩;have h':=h x;have g':=g x;rw[Jf,Zq,Zq,Int.mul_assoc,h'];generalize Zg (Vv f (Uv r d) d) x=z at *
   generalize Zg (Uv r d) x=y at *
   have e:b*(Zg q x*Zg d x+m*y)=b*(Zg q x*Zg d x)+m*(b*y):=by grind
   rw[e,g'];grind
  ·exact⟨1,1,[],by decide,by decide,fun x=>by simp[Zg]⟩
theorem Pj:∀ (f:Nat) (x y:List Int),y.length<=f->y.length<=x.length->Vn x->Vn y->IsG (Gv f x y) x y:=by
 intro f;induction f with
 | zero =>
  intro x y h1 _ _ _;have:y=[]:=List.eq_nil_of_length_eq_zero (by omega);subst this;exact IsG.start x
 | succ f ih =>
  intro x y h1 h2 lx ly;simp only[Gv];split
  ·rename_i h;subst h;exact IsG.start x
  ·rename_i h;have ht:top y ≠ 0:=Vw ly h;obtain⟨r1,r2,_⟩:=Zbm h (K:=Nat.max 1 (y.map Int.natAbs).sum) (fun i=>by
    have h3:(y.getD i 0).natAbs<=(y.map Int.natAbs).sum:=by
     clear ht h h1 h2 ly ih;induction y generalizing i with
     | nil=>simp
     | cons c y ih => 
      cases i with
      | zero=>simp
      | succ i=>have:=ih i;simp at this |-;omega
    unfold Jc;have h4:(y.map Int.natAbs).sum<=Nat.max 1 (y.map Int.natAbs).sum:=Nat.le_max_right _ _;exact Nat.lt_of_le_of_lt (Nat.le_trans h3 h4) (Nat.lt_pow_self (by decide))) x.length x (Nat.max 1 (x.map Int.natAbs).sum) (Nat.le_refl _) lx (fun i=>by
    have h3:(x.getD i 0).natAbs<=(x.map Int.natAbs).sum:=by
     clear ht h h1 h2 lx ih;induction x generalizing i with
     | nil=>simp
     | cons c y ih => 
      cases i with
      | zero=>simp
      | succ i=>have:=ih i;simp at this |-;omega
    unfold Jc;have h4:(x.map Int.natAbs).sum<=Nat.max 1 (x.map Int.natAbs).sum:=Nat.le_max_right _ _;exact Nat.lt_of_le_of_lt (Nat.le_trans h3 h4) (Nat.lt_pow_self (by decide)))
   obtain⟨a,m,q,ha,hm,e⟩:=Zc3 ht x.length x;exact IsG.step ha hm e (ih y (J3 x y) (by unfold J3;omega) (by unfold J3;omega) ly r1)
def Ze8 (x y:List Int):List Int:=if y.length<=x.length then Gv y.length x y else Gv x.length y x
theorem Zne {x y:List Int} (lx:Vn x) (ly:Vn y):IsG (Ze8 x y) x y:=by
 unfold Ze8;split
 ·exact Pj _ _ _ (Nat.le_refl _) (by assumption) lx ly
 ·exact (Pj _ _ _ (Nat.le_refl _) (by omega) ly lx).comm
theorem Pe (p:List Int):∃ m:Int,m ≠ 0/\∀ x,Zg (Qz p) x=m*Zg p x:=by
 unfold Qz;split
 ·exact⟨-1,by decide,fun x=>by rw[Hv];omega⟩
 ·exact⟨1,by decide,fun x=>by omega⟩
theorem W9 (p:List Int):(Qz p).length=p.length:=by
 unfold Qz;split
 ·exact X1 p
 ·rfl
def Wd (s t:List Int):List Int:=Qz (Ze8 (prim s) (prim t))
theorem Fe (s t:List Int):IsG (Wd s t) s t:=by
 have h:=Zne (Qt s) (Qt t);obtain⟨m,hm,h1⟩:=K5 s;obtain⟨n,hn,h2⟩:=K5 t;obtain⟨k,hk,h3⟩:=Pe (Ze8 (prim s) (prim t));have h4:=h.scaled (s':=s) (t':=t) (m:=1) (n:=m) (k:=1) (l:=n) (by decide) hm (by decide) hn (fun x=>by rw[h1 x];omega) (fun x=>by rw[h2 x];omega);exact h4.gscaled (m:=1) (n:=k) (by decide) hk (fun x=>by unfold Wd;rw[h3 x];omega)
theorem Fq {p:List Int} (h:Vn p):Vn (Vq p):=by
 have e:Vq p=Zy (-1) p:=by
  unfold Vq Zy;apply List.map_congr_left;intro x _;omega
 rw[e];exact Zdl (by decide) h
theorem Fp {p:List Int} (h:Vn p):Vn (Qz p):=by
 unfold Qz;split
 ·exact Fq h
 ·exact h
theorem Hs:∀ (f:Nat) (x y:List Int),prim x=x->prim y=y->prim (Gv f x y)=Gv f x y:=by
 intro f;induction f with
 | zero=>intro x y h _;exact h
 | succ f ih =>
  intro x y hx hy;simp only[Gv];split
  ·exact hx
  ·exact ih y _ hy (V0 _ _ _ hx)
theorem Ed {x y:List Int} (hx:prim x=x) (hy:prim y=y):prim (Ze8 x y)=Ze8 x y:=by
 unfold Ze8;split
 ·exact Hs _ _ _ hx hy
 ·exact Hs _ _ _ hy hx
theorem P5 (p:List Int):Jb (Vq p)=Jb p:=by
 have e:Vq p=Zy (-1) p:=by
  unfold Vq Zy;apply List.map_congr_left;intro x _;omega
 rw[e,H2];simp
theorem P4 (p:List Int):Jb (Qz p)=Jb p:=by
 unfold Qz;split
 ·exact P5 p
 ·rfl
theorem K9 (s t:List Int):Vn (Wd s t):=Fp (Ql (Ed (Qf s) (Qf t)))
theorem K4 {p:List Int} (h:Vn p) (hc:Jb p=1):prim p=p:=by rw [M1 hc];exact h
theorem Dk {s t:List Int} (h:Ze s ≠ []):Wd s t ≠ []:=by
 have:=((Fe s t).1.length h).2;intro h0;rw[h0] at this;exact this rfl
theorem Zht {s t:List Int} (h:Ze s ≠ []):Jb (Wd s t)=1:=by
 have h1:=Dk (t:=t) h;unfold Wd at *
 rw[P4];have h2:Ze8 (prim s) (prim t) ≠ []:=by
  intro h0;rw[h0] at h1;exact h1 rfl
 have h3:=Ed (Qf s) (Qf t);rw[<- h3];exact He (by rw[Ql h3];exact h2)
theorem Za9 {p:List Int} (h:Vn p) (h0:p ≠ []):0<top (Qz p):=by
 have h1:=Vw h h0;unfold Qz;split
 ·rename_i hn;unfold top at *
  rw[X1,Vk];omega
 ·rename_i hn;unfold top at *;omega
theorem Zba {s t:List Int} (h:Ze s ≠ []):0<top (Wd s t):=by
 have h1:=Dk (t:=t) h;unfold Wd at *
 refine Za9 (Ql (Ed (Qf s) (Qf t))) ?_;intro h0;rw[h0] at h1;exact h1 rfl
theorem Zg3 {s t:List Int} {K:Nat} (h:Ze s ≠ []) (hl:s.length<=9) (hK:Kb K s):Kb (K+3) (Wd s t)/\(Wd s t).length<=(Ze s).length:=by
 have hg:=(Fe s t).1;have h1:=(hg.length h).1;have hle:=K9 s t;rw[hle] at h1;obtain⟨c,k,hc,hk⟩:=hg;have:=Qb s;exact⟨Eu hc (Zht h) h hl (by omega) hK hk,h1⟩
end Go.Ai

namespace Go.Proofs.YtopjpgejefileaaGreat
open Go.IntKind (i64 u64 u32)
open Go.Ai
set_option maxRecDepth 100000
def Fn (E rs:List Rn) (i:Nat):List Rn:=E.take i++rs.drop i
theorem Fj (E rs:List Rn):Fn E rs 0=rs:=by simp [Fn]
theorem Fm {E rs:List Rn} (h:E.length=rs.length):Fn E rs rs.length=E:=by
 unfold Fn;rw[List.drop_length,List.append_nil,List.take_of_length_le (by omega)]
theorem U9 {E rs:List Rn} (h:E.length=rs.length) (i:Nat):(Fn E rs i).length=rs.length:=by
 unfold Fn;rw[List.length_append,List.length_take,List.length_drop];omega
theorem Fl {E rs:List Rn} (h:E.length=rs.length) {i:Nat} (hi:i<rs.length):(Fn E rs i).getD i z0=rs.getD i z0:=by
 unfold Fn;rw[List.getD_eq_getElem?_getD,List.getD_eq_getElem?_getD,List.getElem?_append_right (by rw[List.length_take];omega),List.length_take,List.getElem?_drop];congr 2;omega
theorem Fk {E rs:List Rn} (h:E.length=rs.length) {i:Nat} (hi:i<rs.length):(Fn E rs i).set i (E.getD i z0)=Fn E rs (i+1):=by
 have hpi:E[i]?=some (E.getD i z0):=by rw[List.getD_eq_getElem?_getD,List.getElem?_eq_getElem (by omega)];rfl
 apply List.ext_getElem?;intro t;have hl:=U9 h i;unfold Fn at *
 rcases Nat.lt_trichotomy t i with g | g | g
 ·rw[List.getElem?_set_ne (by omega),List.getElem?_append_left (by rw[List.length_take];omega),List.getElem?_append_left (by rw[List.length_take];omega),List.getElem?_take_of_lt g,List.getElem?_take_of_lt (by omega)]
 ·subst g;rw[List.getElem?_set_self (by omega),List.getElem?_append_left (by rw[List.length_take];omega),List.getElem?_take_of_lt (by omega),hpi]
 ·rw[List.getElem?_set_ne (by omega),List.getElem?_append_right (by rw[List.length_take];omega),List.getElem?_append_right (by rw[List.length_take];omega),List.length_take,List.length_take,List.getElem?_drop,List.getElem?_drop];congr 1;omega
theorem Va (p:List Int) (i:Nat):Zh ((p.map cn).getD i z0)=p.getD i 0:=by rw [<- Q1,Z3]
theorem X3 {p:List Int} {i:Nat} (h:i<p.length):(p.map cn).getD i z0=cn (p.getD i 0):=by
 rw[List.getD_eq_getElem?_getD,List.getElem?_map,List.getD_eq_getElem?_getD,List.getElem?_eq_getElem h];rfl
theorem Z2 {K:Nat} {p:List Int} (h:Kb K p):∀ r∈p.map cn,Q5 K r:=Kc h.mem
theorem Zbj {rs:List Rn} {i:Nat} {r:Rn} (h:i<rs.length):(rs.set i r).getD i z0=r:=by
 simp[List.getD_eq_getElem?_getD,h]
theorem Da {x y:Rn} {J K:Nat} (hx:Q5 J x) (hy:Q5 K y) (h:J+K<=1048576):Zc Yir 112 [Zp x,Zp y] (Zi (Zh x*Zh y)):=Mp hx.1 hy.1 (by have:=hx.2;have:=hy.2;omega)
theorem Zfa {x y:Rn} {J K:Nat} (hx:Q5 J x) (hy:Q5 K y) (h:J<1048576) (h2:K<1048576):Zc Yir 127 [Zp x,Zp y] (Zi (Zh x-Zh y)):=Zmm hx.1 hy.1 (by have:=hx.2;omega) (by have:=hy.2;omega)
section
variable {p d:List Int} {J Kd:Nat}
theorem L3 {a b:Int} {t:Rn} (hp:Kb J p) (hd:Kb Kd d) (ha:Jc Kd a) (hb:Jc J b) (hS:J+Kd+1<1048576) (hl:d.length<=p.length) (hN:p.length<=1048576) :
  Za Yir (.loop Bu) (Wi (d.map cn) p.length (p.map cn) t (cn a) (cn b) ((p.length-d.length:Nat):Int) (p.length:Nat) 0) (.exit 2)
   (Wi (d.map cn) p.length ((Uz p d a b p.length).map cn) t (cn a) (cn b) ((p.length-d.length:Nat):Int) (p.length:Nat) (p.length:Nat)):=by
 have hE:((Uz p d a b p.length).map cn).length=(p.map cn).length:=by rw[List.length_map,List.length_map,Xa]
 have hpl:(p.map cn).length=p.length:=List.length_map ..;have h:=Za.up (prog:=Yir) (c:=Bu) (ex := .exit 2) (fin:=Wi (d.map cn) p.length ((Uz p d a b p.length).map cn) t (cn a) (cn b) ((p.length-d.length:Nat):Int) (p.length:Nat) (p.length:Nat))
  (fun i=>Wi (d.map cn) p.length (Fn ((Uz p d a b p.length).map cn) (p.map cn) i) t (cn a) (cn b) ((p.length-d.length:Nat):Int) (p.length:Nat) (i:Nat)) p.length (by nofun) ?_ ?_ 0 (Nat.zero_le _)
 ·rw[Fj] at h;exact h
 ·intro i hi;have ei:i64.wrap ((i:Int)+1)=((i+1:Nat):Int):=by rw[w64 (by omega) (by omega)];omega
  have hml:=U9 hE i;have hget:=Fl hE (i:=i) (by omega);have hEi:((Uz p d a b p.length).map cn).getD i z0=cn ((Uz p d a b p.length).getD i 0):=X3 (by rw[Xa];exact hi);have hest:=Ux p d a b p.length i;rw[if_pos hi] at hest;have hset:=Fk hE (i:=i) (by omega);rw[hEi] at hset;have gp:=Z1 (Z2 hp) i;have ga:=Qi ha;have gb:=Qi hb;have vi:=Va p i;generalize Fn ((Uz p d a b p.length).map cn) (p.map cn) i=M at *
  by_cases hat:p.length-d.length<=i
  ·rw[if_pos hat] at hest;have ea:i64.wrap ((i:Int)-((p.length-d.length:Nat):Int))=((i-(p.length-d.length):Nat):Int):=by rw[w64 (by omega) (by omega)];omega
   have gq:=Z1 (Z2 hd) (i-(p.length-d.length));have vq:=Va d (i-(p.length-d.length));have m1:=Da gp ga (by omega);have m2:=Da gb gq (by omega);have f1:Jc (J+Kd) (Zh ((p.map cn).getD i z0)*Zh (cn a)):=gp.fits.mul (by rw[Z0];exact ha);have f2:Jc (J+Kd) (Zh (cn b)*Zh ((d.map cn).getD (i-(p.length-d.length)) z0)):=Jc.mul (by rw[Z0];exact hb) gq.fits;have m3:=Zfa (Qi f1) (Qi f2) (by omega) (by omega);rw[Z0 (Zh (cn b)*Zh ((d.map cn).getD (i-(p.length-d.length)) z0))] at m3;have k:=Zsf (d.map cn) p.length M t (cn a) (cn b) ((p.length-d.length:Nat):Int) (p.length:Nat) (i:Nat) (by simp;omega) (by rw[decide_eq_true_eq];omega) (by omega) (by omega) (by rw[List.length_set];omega) (by rw[ea,List.length_map];omega)
    (by rw[Int.toNat_natCast,hget];exact m1) (by rw[ea,Int.toNat_natCast];exact m2) (by
     simp only[ea,Int.toNat_natCast,hget];rw[Zbj (by omega)];exact m3)
   refine k.to rfl ?_;simp only[ea,ei,Int.toNat_natCast,hget];rw[Zbj (by omega),List.set_set,Z0 (Zh ((p.map cn).getD i z0)*Zh (cn a)),vi,vq,Z0,Z0,Int.mul_comm (p.getD i 0) a,<- hest];rw[hset]
  ·rw[if_neg hat] at hest;have m1:=Da gp ga (by omega);have k:=Zse (d.map cn) p.length M t (cn a) (cn b) ((p.length-d.length:Nat):Int) (p.length:Nat) (i:Nat) (by simp;omega) (by rw[decide_eq_false_iff_not];omega) (by omega) (by omega) (by rw[Int.toNat_natCast,hget];exact m1);refine k.to rfl ?_;simp only[ei,Int.toNat_natCast,hget];rw[vi,Z0,Int.mul_comm (p.getD i 0) a,<- hest,hset]
 ·rw[show Fn ((Uz p d a b p.length).map cn) (p.map cn) p.length=(Uz p d a b p.length).map cn by have h:=Fm hE;rw[hpl] at h;exact h];exact Zsd (d.map cn) p.length _ t _ _ _ _ _ (by simp)
theorem gcd_ne {a b:Int} (h:a ≠ 0):0<Int.gcd a b:=by
 rw[Int.gcd];exact Nat.gcd_pos_of_pos_left _ (by omega)
theorem Zm8 (hp:Kb J p) (hd:Kb Kd d) (hS:J+Kd+1<1048576) (hd0:d ≠ []) (ht:top d ≠ 0) (hl:d.length<=p.length) (hN:p.length<=1048576) :
  Za Yir Zaz (B8 (d.map cn) p.length (p.map cn) (cn (top d))) .norm (B8 (d.map cn) (Uv p d).length ((Uv p d).map cn) (cn (top d))):=by
 have hdl:=List.length_pos_iff.2 hd0;have e1:i64.wrap ((p.length:Int)-1)=((p.length-1:Nat):Int):=by rw[w64 (by omega) (by omega)];omega
 have e2:i64.wrap ((p.length:Int)-(((d.map cn).length:Nat):Int))=((p.length-d.length:Nat):Int):=by rw[List.length_map,w64 (by omega) (by omega)];omega
 have gt:=Qi (Ua hd);have gl:=Z1 (Z2 hp) (p.length-1);have vl:Zh ((p.map cn).getD (p.length-1) z0)=top p:=Va p (p.length-1);have hgp:=gcd_ne (a:=top d) (b:=top p) ht;have hgcd:=Za3 (na:=(cn (top d)).1) (nb:=((p.map cn).getD (p.length-1) z0).1) gt.1 gl.1 (by have:=gt.2;omega) (by have:=gl.2;omega);rw[show rv (cn (top d)).1 (cn (top d)).2=top d from Z0 _,show rv ((p.map cn).getD (p.length-1) z0).1 ((p.map cn).getD (p.length-1) z0).2=top p from vl] at hgcd;have hd1:((Int.gcd (top d) (top p):Nat):Int)∣top d:=Int.gcd_dvd_left ..;have hd2:((Int.gcd (top d) (top p):Nat):Int)∣top p:=Int.gcd_dvd_right ..;have hd3:((Int.gcd (top d) (top p):Nat):Int)∣(((top d).natAbs:Nat):Int):=Int.dvd_natAbs.2 hd1;have hgle:Jc Kd ((Int.gcd (top d) (top p):Nat):Int):=by
  have:=Ua hd;unfold Jc at *
  rw[Int.natAbs_natCast];have:=Nat.le_of_dvd (by omega) (Int.ofNat_dvd_left.1 hd1);omega
 have gg:=Qi hgle;have habs:=Mq (neg:=(cn (top d)).1) gt.1 (by have:=gt.2;omega);rw[show rv (cn (top d)).1 (cn (top d)).2=top d from Z0 _] at habs;have gab:=Qi (Ak (Ua hd));have q1:=Aa (na:=(cn (((top d).natAbs:Nat):Int)).1) (nb:=(cn ((Int.gcd (top d) (top p):Nat):Int)).1) gab.1 gg.1 (by rw[show rv (cn ((Int.gcd (top d) (top p):Nat):Int)).1 (cn ((Int.gcd (top d) (top p):Nat):Int)).2=(Int.gcd (top d) (top p):Nat) from Z0 _];omega) (by have:=gab.2;omega) (by have:=gg.2;omega);rw[show rv (cn ((Int.gcd (top d) (top p):Nat):Int)).1 (cn ((Int.gcd (top d) (top p):Nat):Int)).2=(Int.gcd (top d) (top p):Nat) from Z0 _,show rv (cn (((top d).natAbs:Nat):Int)).1 (cn (((top d).natAbs:Nat):Int)).2=((top d).natAbs:Nat) from Z0 _] at q1;have q2:=Aa (na:=((p.map cn).getD (p.length-1) z0).1) (nb:=(cn ((Int.gcd (top d) (top p):Nat):Int)).1) gl.1 gg.1 (by rw[show rv (cn ((Int.gcd (top d) (top p):Nat):Int)).1 (cn ((Int.gcd (top d) (top p):Nat):Int)).2=(Int.gcd (top d) (top p):Nat) from Z0 _];omega) (by have:=gl.2;omega) (by have:=gg.2;omega);rw[show rv (cn ((Int.gcd (top d) (top p):Nat):Int)).1 (cn ((Int.gcd (top d) (top p):Nat):Int)).2=(Int.gcd (top d) (top p):Nat) from Z0 _,show rv ((p.map cn).getD (p.length-1) z0).1 ((p.map cn).getD (p.length-1) z0).2=top p from vl] at q2;have hG:(0:Int)<((Int.gcd (top d) (top p):Nat):Int):=by omega
 have x1:=Int.mul_ediv_cancel' hd3;have x2:=Int.mul_ediv_cancel' hd2;rw[Ho hG hd3] at q1;rw[Ho hG hd2] at q2;have hsg:=G3 (neg:=(cn (top d)).1) gt.1 (by have:=gt.2;omega);rw[show rv (cn (top d)).1 (cn (top d)).2=top d from Z0 _] at hsg;have fa:Jc Kd ((((top d).natAbs:Nat):Int) / ((Int.gcd (top d) (top p):Nat):Int)):=by
  rcases Lf (Ak (Ua hd)) (Int.gcd (top d) (top p)) with g | g
  ·exact g
  ·exact absurd hd3 g
 have fb:Jc J (top p / ((Int.gcd (top d) (top p):Nat):Int)):=by
  rcases Lf (Ua hp) (Int.gcd (top d) (top p)) with g | g
  ·exact g
  ·exact absurd hd2 g
 generalize hGd:((Int.gcd (top d) (top p):Nat):Int)=G at *
 generalize hx:(((top d).natAbs:Nat):Int) / G=x at *
 generalize hy:top p / G=y at *
 have pst:∀ b:Int,G*b=sg (top d)*top p->Uv p d=prim (Uz p d x b p.length):=by
  intro b hb;have h:=Nz (r:=p) (d:=d) (c:=1) (g:=G) (a:=x) (b:=b) (by decide) hG x1 hb;rwa [show Zy 1 d=d by unfold Zy;simp] at h
 have fin:∀ b:Int,G*b=sg (top d)*top p->Jc J b->Zc Yir 115 [.sl p.length (pc ((Uz p d x b p.length).map cn))] (.fresh 2 ((Uv p d).map cn).length (pc ((Uv p d).map cn))):=by
  intro b hb fb';have hK:=Lc hp hd fa fb' p.length;have h:=Jw (rs:=(Uz p d x b p.length).map cn) (Z2 hK) (by omega) (by rw[List.length_map,Xa];exact hN);rw[Z3,<- pst b hb,List.length_map,Xa] at h;rw[List.length_map];exact h
 by_cases hneg:top d<0
 ·have hng:=Za2 (neg:=(cn y).1) (xs:=(cn y).2) (Qk _) (by have:=fb.len;rw[Kt];omega);rw[show rv (cn y).1 (cn y).2=y from Z0 _] at hng;have hb:G * -y=sg (top d)*top p:=by unfold sg;rw[if_pos hneg,Int.mul_neg,x2];omega
  have hin:=L3 (t:=cn (top d)) hp hd fa fb.neg hS hl hN;have k:=Z0x (d.map cn) p.length (p.map cn) (cn (top d)) _ _ _ _ G _ x y (-y) _ _ (Xd (top d)) _ _ _ (by rw[decide_eq_true_eq,List.length_map];omega) (by unfold Xd;rw[if_pos hneg];rfl) (by rw[e1];omega) (by rw[List.length_map]) (by rw[e1,Int.toNat_natCast];exact hgcd) habs q1 (by rw[e1,Int.toNat_natCast];exact q2) hsg hng (by rw[e2];exact hin) (fin (-y) hb fb.neg);rw[List.length_map] at k;exact k
 ·have hb:G*y=sg (top d)*top p:=by unfold sg;rw[if_neg hneg,x2];omega
  have hin:=L3 (t:=cn (top d)) hp hd fa fb hS hl hN;have k:=Z0w (d.map cn) p.length (p.map cn) (cn (top d)) _ _ _ _ G _ x y _ _ (Xd (top d)) _ _ _ (by rw[decide_eq_true_eq,List.length_map];omega) (by unfold Xd;rw[if_neg hneg];split <;> rfl) (by rw[e1];omega) (by rw[List.length_map]) (by rw[e1,Int.toNat_natCast];exact hgcd) habs q1 (by rw[e1,Int.toNat_natCast];exact q2) hsg (by rw[e2];exact hin) (fin y hb fb);rw[List.length_map] at k;exact k
end
theorem Zm9 {d:List Int} {Kd:Nat} (hd:Kb Kd d) (hd0:d ≠ []) (ht:top d ≠ 0):∀ (f:Nat) (p:List Int) (J:Nat),p.length<=f->Kb J p->J+(p.length+1-d.length)*(Kd+1)<1048576->p.length<=1048576 ->
  Za Yir (.loop Zaz) (B8 (d.map cn) p.length (p.map cn) (cn (top d))) (.exit 0) (B8 (d.map cn) (Vv f p d).length ((Vv f p d).map cn) (cn (top d))):=by
 have hdl:=List.length_pos_iff.2 hd0;intro f;induction f with
 | zero =>
  intro p J hf _ _ _;exact Za.loop_out (Zkk (d.map cn) p.length (p.map cn) (cn (top d)) (by rw[decide_eq_false_iff_not,List.length_map];omega)) (by nofun)
 | succ f ih =>
  intro p J hf hJ hS hN;simp only[Vv];split
  ·rename_i hl;have hplen:=K3 hd0 hl;have e:((Uv p d).length+1-d.length)+1<=p.length+1-d.length:=by omega
   have:=Nat.mul_le_mul_right (Kd+1) e;rw[Nat.add_mul,Nat.one_mul] at this;have h1:=Zm8 hJ hd (by
    have h2:1*(Kd+1)<=(p.length+1-d.length)*(Kd+1):=Nat.mul_le_mul_right _ (by omega);omega) hd0 ht hl hN
   exact Za.loop h1 (ih (Uv p d) (J+Kd+1) (by omega) (La hJ hd) (by omega) (by omega))
  ·rename_i hl;exact Za.loop_out (Zkk (d.map cn) p.length (p.map cn) (cn (top d)) (by rw[decide_eq_false_iff_not,List.length_map];omega)) (by nofun)
theorem Wo {rs ss:List Rn} {J K:Nat} (hr:∀ r∈rs,Q5 J r) (hs:∀ r∈ss,Q5 K r) (hJ:J<1048576) (hK:K<1048576) (hn:rs.length<=1048576) (hm:ss.length<=1048576) (h0:prim (Zf ss) ≠ []) (hS:J+((prim (Zf rs)).length+1-(prim (Zf ss)).length)*(K+1)<1048576) :
  Zc Yir 118 [.sl rs.length (pc rs),.sl ss.length (pc ss)] (.fresh 2 (J3 (prim (Zf rs)) (prim (Zf ss))).length (pk (J3 (prim (Zf rs)) (prim (Zf ss))))):=by
 have p1:=Jw hr hJ hn;have p2:=Jw hs hK hm;have k1:Kb J (prim (Zf rs)):=(Bx (Q2 hr)).prim;have k2:Kb K (prim (Zf ss)):=(Bx (Q2 hs)).prim;have l1:(prim (Zf rs)).length<=rs.length:=by rw[Qr];have:=Qb (Zf rs);rwa [Zn] at this
 have l2:(prim (Zf ss)).length<=ss.length:=by rw[Qr];have:=Qb (Zf ss);rwa [Zn] at this
 have hl:=List.length_pos_iff.2 h0;have ht:top (prim (Zf ss)) ≠ 0:=Vw (Qt _) h0;have hlp:=Zm9 k2 h0 ht (prim (Zf rs)).length (prim (Zf rs)) J (Nat.le_refl _) k1 hS (by omega);have e1:i64.wrap (((((prim (Zf ss)).map cn).length:Nat):Int)-1)=(((prim (Zf ss)).length-1:Nat):Int):=by rw[List.length_map,w64 (by omega) (by omega)];omega
 have p1':Zc Yir 115 [.sl rs.length (pc rs)] (.fresh 2 ((prim (Zf rs)).map cn).length (pc ((prim (Zf rs)).map cn))):=by rw[List.length_map];exact p1
 have p2':Zc Yir 115 [.sl ss.length (pc ss)] (.fresh 2 ((prim (Zf ss)).map cn).length (pc ((prim (Zf ss)).map cn))):=by rw[List.length_map];exact p2
 have k:=Zyd rs ss _ _ ((J3 (prim (Zf rs)) (prim (Zf ss))).map cn) (cn (top (prim (Zf ss)))) (J3 (prim (Zf rs)) (prim (Zf ss))).length p1' p2' (by rw[e1,List.length_map];omega) (by
  rw[e1,Int.toNat_natCast,X3 (show (prim (Zf ss)).length-1<(prim (Zf ss)).length by omega),List.length_map];exact hlp)
 exact k
theorem Zce:∀ (f:Nat) (x y:List Int) (M:Nat),0<M->y.length<=f->y.length<=x.length->x.length<=1048576->prim x=x->prim y=y->Kb (M-1) x->Kb (M-1) y->M*phi x.length y.length<=500000 ->
  ∃ bs,Za Yir (.loop Zax) (B6 (x.map cn) (y.map cn)) (.exit 0) (B6 ((Gv f x y).map cn) bs):=by
 intro f;induction f with
 | zero =>
  intro x y M _ h1 _ _ _ _ _ _ _;have:y=[]:=List.eq_nil_of_length_eq_zero (by omega);subst this;exact⟨_,Za.loop_out (Zkg _ _ (by simp)) (by nofun)⟩
 | succ f ih =>
  intro x y M hM h1 h2 h3 px py kx ky hphi;simp only[Gv];split
  ·rename_i h;subst h;exact⟨_,Za.loop_out (Zkg _ _ (by simp)) (by nofun)⟩
  ·rename_i h;have hyl:=List.length_pos_iff.2 h;obtain⟨r1,r2,r3⟩:=Ht hM (Ql px) h kx ky h2;have hM':0<M*(x.length-y.length+2):=Nat.mul_pos hM (by omega);have hMle:M<=M*(x.length-y.length+2):=Nat.le_mul_of_pos_right M (by omega);have hbig:M*(x.length-y.length+2)<=500000:=by
    refine Nat.le_trans (Nat.mul_le_mul_left _ ?_) hphi;unfold phi;exact Nat.le_mul_of_pos_right _ (Nat.pow_pos (by decide))
   have hrem:=Wo (rs:=x.map cn) (ss:=y.map cn) (Z2 kx) (Z2 ky) (by omega) (by omega) (by rw[List.length_map];exact h3) (by rw[List.length_map];omega) (by rw[Z3,py];exact h) (by
    rw[Z3,Z3,px,py,Nat.sub_add_cancel hM,show x.length+1-y.length=x.length-y.length+1 by omega,Nat.mul_comm _ M];have:M*(x.length-y.length+2)=M*(x.length-y.length+1)+M:=by rw[<- Nat.mul_succ]
    omega)
   rw[Z3,Z3,px,py] at hrem;have hrem':Zc Yir 118 [.sl (x.map cn).length (pc (x.map cn)),.sl (y.map cn).length (pc (y.map cn))] (.fresh 2 ((J3 x y).map cn).length (pc ((J3 x y).map cn))):=by
    have hlm:((J3 x y).map cn).length=(J3 x y).length:=List.length_map ..;rw[hlm];exact hrem
   have k:=Zkh (x.map cn) (y.map cn) _ (by simp;omega) hrem';obtain⟨bs,hb⟩:=ih y (J3 x y) (M*(x.length-y.length+2)) hM' (by omega) (by omega) (by omega) py (V0 _ _ _ px) (ky.mono (by omega)) r3 (Hu r2 hphi);exact⟨bs,Za.loop k hb⟩
def Za0 (f:Nat) (args:List AV) (p:List Int):Prop:=Zc Yir f args (.fresh 2 (p.map cn).length (pc (p.map cn)))\/Zc Yir f args (.sl (p.map cn).length (pc (p.map cn)))
theorem E9 {p:List Int} {K:Nat} (hk:Kb K p) (hK:K<=1048576) (hN:p.length<=1048576) :
  (top p<0->Zc Yir 155 [.sl (p.map cn).length (pc (p.map cn))] (.fresh 2 ((Qz p).map cn).length (pc ((Qz p).map cn))))/\(¬ top p<0->Zc Yir 155 [.sl (p.map cn).length (pc (p.map cn))] (.sl (p.map cn).length (pc (p.map cn)))):=by
 have h:=Ln (rs:=p.map cn) (fun r hr=>(Z2 hk r hr).mono hK) (by rw[List.length_map];exact hN);rw[Z3] at h;refine⟨fun hn => ?_,h.2⟩;have h1:=h.1 hn;have e:Qz p=Vq p:=by unfold Qz;rw[if_pos hn]
 have hl:((Vq p).map cn).length=(p.map cn).length:=by rw[List.length_map,List.length_map,X1]
 rw[e,hl];exact h1
theorem Af {p:List Int} (h:¬ top p<0):Qz p=p:=by unfold Qz;rw [if_neg h]
theorem Hw:∀ (f:Nat) (x y:List Int) (M:Nat),0<M->y.length<=f->y.length<=x.length->Vn x->Vn y->Kb (M-1) x->Kb (M-1) y->Kb (M*phi x.length y.length-1) (Gv f x y)/\(Gv f x y).length<=x.length:=by
 intro f;induction f with
 | zero =>
  intro x y M hM _ h2 _ _ kx _;refine⟨kx.mono ?_,Nat.le_refl _⟩;have:M*1<=M*phi x.length y.length:=Nat.mul_le_mul_left _ (by unfold phi;exact Nat.mul_pos (by omega) (Nat.pow_pos (by decide)));omega
 | succ f ih =>
  intro x y M hM h1 h2 lx ly kx ky;simp only[Gv];split
  ·refine⟨kx.mono ?_,Nat.le_refl _⟩;have:M*1<=M*phi x.length y.length:=Nat.mul_le_mul_left _ (by unfold phi;exact Nat.mul_pos (by omega) (Nat.pow_pos (by decide)));omega
  ·rename_i h;have hyl:=List.length_pos_iff.2 h;obtain⟨r1,r2,r3⟩:=Ht hM lx h kx ky h2;have hM':0<M*(x.length-y.length+2):=Nat.mul_pos hM (by omega);have hMle:M<=M*(x.length-y.length+2):=Nat.le_mul_of_pos_right M (by omega);obtain⟨a,b⟩:=ih y (J3 x y) (M*(x.length-y.length+2)) hM' (by omega) (by omega) ly r1 (ky.mono (by omega)) r3;exact⟨a.mono (Nat.sub_le_sub_right (Hu r2 (Nat.le_refl _)) 1),by omega⟩
theorem Bk {rs ss:List Rn} {g:List Int} {bs:List Rn} {K:Nat} (hr:∀ r∈rs,Q5 K r) (hs:∀ r∈ss,Q5 K r) (hK:K<1048576) (hn:rs.length<=1048576) (hm:ss.length<=1048576) {Kg:Nat} (hg:Kb Kg g) (hKg:Kg<=1048576) (hgl:g.length<=1048576)
  (hl:Za Yir (.loop Zax) (B6 ((prim (Zf rs)).map cn) ((prim (Zf ss)).map cn)) (.exit 0) (B6 (g.map cn) bs)) :
  Za0 135 [.sl rs.length (pc rs),.sl ss.length (pc ss)] (Qz g):=by
 have p1:=Jw hr hK hn;have p2:=Jw hs hK hm;have p1':Zc Yir 115 [.sl rs.length (pc rs)] (.fresh 2 ((prim (Zf rs)).map cn).length (pc ((prim (Zf rs)).map cn))):=by rw[List.length_map];exact p1
 have p2':Zc Yir 115 [.sl ss.length (pc ss)] (.fresh 2 ((prim (Zf ss)).map cn).length (pc ((prim (Zf ss)).map cn))):=by rw[List.length_map];exact p2
 obtain⟨q1,q2⟩:=E9 hg hKg hgl;by_cases h:top g<0
 ·exact .inl (Zix rs ss _ _ (g.map cn) bs _ p1' p2' hl (q1 h))
 ·rw[Af h];exact .inr (Ziw rs ss _ _ (g.map cn) bs p1' p2' hl (q2 h))
theorem Zab {rs ss:List Rn} {K c:Nat} (hr:∀ r∈rs,Q5 K r) (hs:∀ r∈ss,Q5 K r) (hn:rs.length<=c) (hm:ss.length<=c) (hc:c<=1048576) (hS:(K+1)*(2*3^c)<=500000) :
  Za0 135 [.sl rs.length (pc rs),.sl ss.length (pc ss)] (Qz (Ze8 (prim (Zf rs)) (prim (Zf ss)))):=by
 have h3:0<3^c:=Nat.pow_pos (by decide);have hK:K+1<=500000:=by
  have:(K+1)*1<=(K+1)*(2*3^c):=Nat.mul_le_mul_left _ (by omega);omega
 have k1:Kb K (prim (Zf rs)):=(Bx (Q2 hr)).prim;have k2:Kb K (prim (Zf ss)):=(Bx (Q2 hs)).prim;have l1:(prim (Zf rs)).length<=rs.length:=by rw[Qr];have:=Qb (Zf rs);rwa [Zn] at this
 have l2:(prim (Zf ss)).length<=ss.length:=by rw[Qr];have:=Qb (Zf ss);rwa [Zn] at this
 unfold Ze8;split
 ·rename_i hl;have hphi:(K+1)*phi (prim (Zf rs)).length (prim (Zf ss)).length<=500000:=Nat.le_trans (Nat.mul_le_mul_left _ (Eg hl (by omega))) hS;obtain⟨bs,hb⟩:=Zce (prim (Zf ss)).length (prim (Zf rs)) (prim (Zf ss)) (K+1) (by omega) (Nat.le_refl _) hl (by omega) (Qf _) (Qf _) k1 k2 hphi;obtain⟨s1,s2⟩:=Hw (prim (Zf ss)).length (prim (Zf rs)) (prim (Zf ss)) (K+1) (by omega) (Nat.le_refl _) hl (Qt _) (Qt _) k1 k2;exact Bk hr hs (by omega) (by omega) (by omega) s1 (by omega) (by omega) hb
 ·rename_i hl;have hphi:(K+1)*phi (prim (Zf ss)).length (prim (Zf rs)).length<=500000:=Nat.le_trans (Nat.mul_le_mul_left _ (Eg (by omega) (by omega))) hS;obtain⟨bs,hb⟩:=Zce (prim (Zf rs)).length (prim (Zf ss)) (prim (Zf rs)) (K+1) (by omega) (Nat.le_refl _) (by omega) (by omega) (Qf _) (Qf _) k2 k1 hphi;obtain⟨s1,s2⟩:=Hw (prim (Zf rs)).length (prim (Zf ss)) (prim (Zf rs)) (K+1) (by omega) (Nat.le_refl _) (by omega) (Qt _) (Qt _) k2 k1;have hy0:prim (Zf ss) ≠ []:=by intro h;rw[h] at hl;simp at hl
  have hsw:J3 (prim (Zf rs)) (prim (Zf ss))=prim (Zf rs):=by
   unfold J3;cases hx:(prim (Zf rs)).length with
   | zero=>rfl
   | succ n=>simp only[Vv];rw[if_neg hl]
  have hrem:=Wo (rs:=(prim (Zf rs)).map cn) (ss:=(prim (Zf ss)).map cn) (Z2 k1) (Z2 k2) (by omega) (by omega) (by rw[List.length_map];omega) (by rw[List.length_map];omega) (by rw[Z3,Qf];exact hy0) (by
   rw[Z3,Z3,Qf,Qf,show (prim (Zf rs)).length+1-(prim (Zf ss)).length=0 by omega,Nat.zero_mul];omega)
  rw[Z3,Z3,Qf,Qf,hsw] at hrem;have hrem':Zc Yir 118 [.sl ((prim (Zf rs)).map cn).length (pc ((prim (Zf rs)).map cn)),.sl ((prim (Zf ss)).map cn).length (pc ((prim (Zf ss)).map cn))] (.fresh 2 ((prim (Zf rs)).map cn).length (pc ((prim (Zf rs)).map cn))):=by
   have hlm:((prim (Zf rs)).map cn).length=(prim (Zf rs)).length:=List.length_map ..;rw[hlm] at hrem |-;exact hrem
  have k:=Zkh ((prim (Zf rs)).map cn) ((prim (Zf ss)).map cn) _ (by rw[decide_eq_true_eq,List.length_map];omega) hrem';exact Bk hr hs (by omega) (by omega) (by omega) s1 (by omega) (by omega) (Za.loop k hb)
end Go.Proofs.YtopjpgejefileaaGreat

namespace Go.Ai
open Go.IntKind (i64 u64 u32)
theorem Zby {p q:List Int} (h:∀ x,Zg p x=Zg q x) (x:Int):Zg (Qv p) x=Zg (Qv q) x :=
 Vi (fun i=>by rw[Ub,Ub,Un h]) x
theorem Pi (a:Int) (p:List Int) (x:Int):Zg (Qv (a::p)) x=Zg p x+x*Zg (Qv p) x:=by
 have h:∀ i,(Qv (a::p)).getD i 0=(F8 p (0::Qv p)).getD i 0:=by
  intro i;rw[Xm,Ub,List.getD_cons_succ];cases i with
  | zero=>simp
  | succ i=>rw[List.getD_cons_succ,Ub];push_cast;grind
 rw[Vi h x,Jf];simp[Zg]
theorem Zng (p q:List Int) (x:Int):Zg (Qv (F8 p q)) x=Zg (Qv p) x+Zg (Qv q) x:=by
 rw[<- Jf];exact Vi (fun i=>by rw[Xm,Ub,Ub,Ub,Xm,Int.add_mul]) x
theorem V7 (c:Int) (p:List Int) (x:Int):Zg (Qv (Zy c p)) x=c*Zg (Qv p) x:=by
 rw[<- Zq];exact Vi (fun i=>by rw[Z5,Ub,Ub,Z5,Int.mul_assoc]) x
theorem Znf:Qv []=[]:=rfl
theorem Zbw (p q:List Int) (x:Int):Zg (Qv (U1 p q)) x=Zg (Qv p) x*Zg q x+Zg p x*Zg (Qv q) x:=by
 induction p with
 | nil=>simp[U1,Znf,Zg]
 | cons a p ih =>
  simp only[U1];rw[Zng,V7,Pi,Pi,ih,Qa];simp only[Zg];generalize Zg (Qv p) x=A at *
  generalize Zg (Qv q) x=B at *
  grind
theorem Ei {r p q:List Int} (h:∀ x,Zg r x=Zg p x*Zg q x) (x:Int):Zg (Qv r) x=Zg (Qv p) x*Zg q x+Zg p x*Zg (Qv q) x:=by
 rw[<- Zbw];exact Zby (fun x=>by rw[h x,Qa]) x
theorem Tg {p q:List Int} {c d:Int} (h:∀ x,c*Zg p x=d*Zg q x) (x:Int):c*Zg (Qv p) x=d*Zg (Qv q) x:=by
 rw[<- V7,<- V7];exact Zby (fun x=>by rw[Zq,Zq,h x]) x
theorem Zbx (p:List Int):(Qv p).length<=p.length-1:=by
 unfold Qv;have:=Qb ((List.range (p.length-1)).map fun j=>p.getD (j+1) 0*((j+1:Nat):Int));simpa using this
theorem Tq {K:Nat} {p:List Int} (h:Kb K p) (hl:p.length<=1048576):Kb (K+2) (Qv p):=fun i=>by
 rw[Ub];by_cases hi:i<1048576
 ·refine ((h (i+1)).mul (k:=1) ?_).mono (by omega);unfold Jc;rw[Int.natAbs_natCast];omega
 ·rw[Qo (xs:=p) (by omega),Int.zero_mul];exact Vl _
def Ee (h:List Int):Nat->List Int
 | 0=>[1]
 | k+1=>U1 (Ee h k) h
theorem Zbu (h:List Int):∀ (k:Nat) (x:Int),Zg (Qv (Ee h k)) x*Zg h x=(k:Int)*Zg (Ee h k) x*Zg (Qv h) x
 | 0,x=>by simp[Ee,Qv,Zg,Ze,Zz]
 | k+1,x=>by
  have ih:=Zbu h k x;simp only[Ee];rw[Zbw,Qa];push_cast;generalize Zg (Qv (Ee h k)) x=A at *
  generalize Zg (Ee h k) x=B at *
  generalize Zg (Qv h) x=C at *
  generalize Zg h x=H at *
  have:(A*H+B*C)*H=(A*H)*H+B*C*H:=by grind
  rw[this,ih];grind
theorem Gu {h:List Int} (hh:Ze h ≠ []):∀ k,Ze (Ee h k) ≠ []/\(Ze (Ee h k)).length=k*((Ze h).length-1)+1
 | 0=>by
  have e:Ze (Ee h 0)=[1]:=rfl;rw[e];simp
 | k+1=>by
  obtain⟨a,b⟩:=Gu hh k;have h1:=List.length_pos_iff.2 hh;have e:=M2 a hh;have e2:(Ze (Ee h (k+1))).length=(k+1)*((Ze h).length-1)+1:=by
   simp only[Ee];rw[e,b,Nat.add_mul,Nat.one_mul];omega
  refine⟨?_,e2⟩;intro h0;rw[h0] at e2;simp at e2
theorem Sq {a G f h:List Int} {c:Int} (ha:Ze a ≠ []) (hG:IsG G a (Qv a)) (hc:c ≠ 0) (hf:∀ x,c*Zg a x=Zg G x*Zg f x) (h1:Dv h f) (h2:Dv h (Qv f)):(Ze h).length=1:=by
 obtain⟨g1,⟨c2,e,hc2,he⟩,c3,u,v,hc3,hb⟩:=hG;have hG0:Ze G ≠ []:=(g1.length ha).2;have hf0:Ze f ≠ []:=by
  intro h0;have:Ze a=Ze []:=by
   apply Wt;intro x;have h3:=hf x;rw[Jt h0,Int.mul_zero] at h3;rcases Int.mul_eq_zero.1 h3 with g | g
   ·exact absurd g hc
   ·exact g
  exact ha this
 have hh0:Ze h ≠ []:=(h1.length hf0).2;have hC:∀ x,c*c2*c3=c2*Zg u x*Zg f x+c*Zg v x*Zg e x:=by
  have h3:=P6 hG0 [c*c2*c3] (F8 (Zy c2 (U1 u f)) (Zy c (U1 v e))) (fun x=>by
   have a1:=hf x;have a2:=he x;have a3:=hb x;rw[Jf,Zq,Zq,Qa,Qa];simp only[Zg];generalize Zg G x=G at *
   generalize Zg f x=f at *
   generalize Zg e x=e at *
   generalize Zg u x=u at *
   generalize Zg v x=v at *
   generalize Zg (Qv a) x=a' at *
   generalize Zg a x=a at *
   have e1:G*(c*c2*c3+x*0)=c*c2*(c3*G):=by grind
   rw[e1,a3];have e2:c*c2*(u*a+v*a')=c2*u*(c*a)+c*v*(c2*a'):=by grind
   rw[e2,a1,a2];grind)
  intro x;have h4:=h3 x;rw[Jf,Zq,Zq,Qa,Qa] at h4;simp only[Zg,Int.mul_zero,Int.add_zero] at h4;grind
 have hd:∀ x,c*(Zg G x*Zg e x)=c2*(Zg (Qv G) x*Zg f x+Zg G x*Zg (Qv f) x):=by
  intro x;have a1:=Ei (r:=Zy c a) (p:=G) (q:=f) (fun x=>by rw[Zq];exact hf x) x;rw[V7] at a1;have a2:=he x;rw[<- a1,<- a2];grind
 obtain⟨c4,t,hc4,ht⟩:=h1;obtain⟨c5,w,hc5,hw⟩:=h2;have hft:∀ x,c4*Zg (Qv f) x=Zg (Qv h) x*Zg t x+Zg h x*Zg (Qv t) x:=by
  intro x;have a1:=Ei (r:=Zy c4 f) (p:=h) (q:=t) (fun x=>by rw[Zq];exact ht x) x;rw[V7] at a1;exact a1
 have hk:∀ k,Dv (Ee h k) G:=by
  intro k;induction k with
  | zero=>exact⟨1,G,by decide,fun x=>by simp[Ee,Zg]⟩
  | succ k ih =>
   obtain⟨ck,s,hck,hs⟩:=ih;obtain⟨p1,_⟩:=Gu hh0 k;have hGs:∀ x,ck*Zg (Qv G) x=Zg (Qv (Ee h k)) x*Zg s x+Zg (Ee h k) x*Zg (Qv s) x:=by
    intro x;have a1:=Ei (r:=Zy ck G) (p:=Ee h k) (q:=s) (fun x=>by rw[Zq];exact hs x) x;rw[V7] at a1;exact a1
   have hes:∀ x,c4*c5*c*(Zg e x*Zg s x)=Zg h x*(c2*((k:Int)*Zg s x*(c4*Zg w x-c5*Zg (Qv t) x)+c5*(Zg (Qv s) x*Zg t x)+c4*(Zg s x*Zg w x))):=by
    have h3:=P6 (p:=U1 (Ee h k) h) (by
      intro h0;have:=M2 p1 hh0;rw[h0] at this;have:=List.length_pos_iff.2 p1;have:=List.length_pos_iff.2 hh0;simp at *
      omega) (Zy (c4*c5*c) (U1 e s)) (U1 h (Zy c2 (F8 (F8 (U1 (Zy (k:Int) s) (Zdb (Zy c4 w) (Zy c5 (Qv t)))) (Zy c5 (U1 (Qv s) t))) (Zy c4 (U1 s w))))) (fun x=>by
     have a1:=hd x;have a2:=ht x;have a3:=hw x;have a4:=hft x;have a5:=hs x;have a6:=hGs x;have a7:=Zbu h k x;simp only[Qa,Zq,Jf,X2];generalize Zg (Qv (Ee h k)) x=P' at *
     generalize Zg (Qv G) x=G' at *
     generalize Zg (Qv f) x=f' at *
     generalize Zg (Qv h) x=h' at *
     generalize Zg (Qv t) x=t' at *
     generalize Zg (Qv s) x=s' at *
     generalize Zg (Ee h k) x=P at *
     generalize Zg G x=G at *
     generalize Zg f x=f at *
     generalize Zg e x=e at *
     generalize Zg h x=h at *
     generalize Zg t x=t at *
     generalize Zg w x=w at *
     generalize Zg s x=s at *
     have b1:P*h*(c4*c5*c*(e*s))=c4*c5*h*(c*((P*s)*e)):=by grind
     rw[b1,<- a5];have b2:c4*c5*h*(c*(ck*G*e))=c4*c5*h*ck*(c*(G*e)):=by grind
     rw[b2,a1];have b3:c4*c5*h*ck*(c2*(G'*f+G*f'))=c5*c2*((ck*G')*h*(c4*f)+(ck*G)*h*(c4*f')):=by grind
     rw[b3,a6,a5,a2];have b4:(P'*s+P*s')*h*(h*t)=(P'*h)*s*h*t+P*s'*h*h*t:=by grind
     rw[b4,a7];have b5:(k:Int)*P*h'*s*h*t=(k:Int)*P*s*h*(h'*t):=by grind
     have b6:h'*t=c4*f'-h*t':=by omega
     rw[b5,b6];have b7:c5*c2*((k:Int)*P*s*h*(c4*f'-h*t')+P*s'*h*h*t+P*s*h*(c4*f'))=c2*((k:Int)*P*s*h*(c4*(c5*f')-c5*(h*t'))+c5*(P*s'*h*h*t)+P*s*h*(c4*(c5*f'))):=by grind
     rw[b7,a3];grind)
    intro x;have h4:=h3 x;simp only[Qa,Zq,Jf,X2] at h4;exact h4
   have d1:Dv h (U1 e s):=⟨c4*c5*c,Zy c2 (F8 (F8 (U1 (Zy (k:Int) s) (Zdb (Zy c4 w) (Zy c5 (Qv t)))) (Zy c5 (U1 (Qv s) t))) (Zy c4 (U1 s w))),Int.mul_ne_zero (Int.mul_ne_zero hc4 hc5) hc,fun x=>by
    simp only[Qa,Zq,Jf,X2];exact hes x⟩
   have d2:Dv h (U1 f s):=Dv.mul_right s ⟨c4,t,hc4,ht⟩ (fun x=>Qa _ _ x);have d3:Dv h s:=Dv.comb (m:=c*c2*c3) (Zy c2 u) (Zy c v) (Int.mul_ne_zero (Int.mul_ne_zero hc hc2) hc3) d2 d1 (fun x=>by
    rw[hC x];simp only[Qa,Zq];grind)
   obtain⟨c6,s2,hc6,hs2⟩:=d3;refine⟨c6*ck,s2,Int.mul_ne_zero hc6 hck,fun x => ?_⟩;have a1:=hs x;have a2:=hs2 x;simp only[Ee];rw[Qa,Int.mul_assoc,a1];have b1:c6*(Zg (Ee h k) x*Zg s x)=Zg (Ee h k) x*(c6*Zg s x):=by grind
   rw[b1,a2];grind
 have hh1:=List.length_pos_iff.2 hh0;apply Classical.byContradiction;intro hn;have h3:=((hk (Ze G).length).length hG0).1;rw[(Gu hh0 _).2] at h3;have:(Ze G).length*1<=(Ze G).length*((Ze h).length-1):=Nat.mul_le_mul_left _ (by omega);omega
def Qg (p:List Int):List Int :=
 if (Qz (prim p)).length<2\/(Wd (Qz (prim p)) (Qv (Qz (prim p)))).length<2 then Qz (prim p)
 else prim (E0 (Wd (Qz (prim p)) (Qv (Qz (prim p)))) ((Qz (prim p)).length-(Wd (Qz (prim p)) (Qv (Qz (prim p)))).length+1) (Qz (prim p)) (List.replicate ((Qz (prim p)).length-(Wd (Qz (prim p)) (Qv (Qz (prim p)))).length+1) 0))
theorem Zgj {g:List Int} (h:g.length=1):∃ c,g=[c]:=by
 match g,h with
 | [c],_=>exact⟨c,rfl⟩
theorem Zdg {a:List Int} (la:Vn a) (h0:a ≠ []) (ca:Jb a=1) (ta:0<top a) (f:List Int)
  (hf:f=if a.length<2\/(Wd a (Qv a)).length<2 then a else prim (E0 (Wd a (Qv a)) (a.length-(Wd a (Qv a)).length+1) a (List.replicate (a.length-(Wd a (Qv a)).length+1) 0))) :
  Vn f/\Jb f=1/\0<top f/\f ≠ []/\f.length=a.length-(Wd a (Qv a)).length+1/\∃ c d:Int,c ≠ 0/\d ≠ 0/\∀ x,c*Zg a x=d*(Zg (Wd a (Qv a)) x*Zg f x):=by
 have hta:Ze a ≠ []:=Uo la h0;have hG:=Fe a (Qv a);have lG:=K9 a (Qv a);have nG:=Dk (t:=Qv a) hta;have tG:=Zba (t:=Qv a) hta;have hGl:=(hG.1.length hta).1;rw[lG,la] at hGl;have hal:=List.length_pos_iff.2 h0;have hgl:=List.length_pos_iff.2 nG;generalize Wd a (Qv a)=G at *
 by_cases hs:a.length<2\/G.length<2
 ·rw[if_pos hs] at hf;subst hf;have hG1:G.length=1:=by omega
  obtain⟨c,rfl⟩:=Zgj hG1;refine⟨la,ca,ta,h0,by omega,c,1,?_,by decide,fun x=>by simp[Zg]⟩;have:top [c]=c:=rfl;omega
 ·rw[if_neg hs] at hf;obtain⟨c',r',c1,r1,r2,r3⟩:=Ma (p:=a) (q:=G) nG tG hGl;generalize E0 G (a.length-G.length+1) a (List.replicate (a.length-G.length+1) 0)=o at *
  have to:=Zbp c1 ta nG tG hGl r2 r3 r1;have hr0:Ze r'=[]:=by
   apply Classical.byContradiction;intro hn;have hd:Dv G r':=Dv.comb (m:=1) [c'] (Vq o) (by decide) hG.1 (Dv.refl G) (fun x=>by
    have:=r3 x;rw[Hv];simp only[Zg];grind)
   have h1:=(hd.length hn).1;rw[lG] at h1;have hl1:=List.length_pos_iff.2 hn;have h2:=Vw (K8 r') hn;rw[Je,r1 _ (by omega)] at h2;exact h2 rfl
  have ho0:o ≠ []:=by intro h1;rw[h1] at r2;simp at r2
  have lo:Vn o:=Tm (Or.inr (by unfold top at to;omega));obtain⟨m,hm,hpe⟩:=K5 o;subst hf;refine⟨Qt o,He (Uo lo ho0),D6 to,?_,by rw[Qr,lo,r2],c',m,by omega,hm,fun x => ?_⟩
  ·intro h1;rw[Ve,<- Xi,lo] at h1;exact ho0 h1
  ·rw[r3 x,Jt hr0,hpe x];grind
theorem Tf {p:List Int} (hp:Ze p ≠ []):Vn (Qz (prim p))/\Qz (prim p) ≠ []/\Jb (Qz (prim p))=1/\0<top (Qz (prim p))/\(Qz (prim p)).length=(Ze p).length/\∃ m:Int,m ≠ 0/\∃ n:Int,n ≠ 0/\∀ x,n*Zg p x=m*Zg (Qz (prim p)) x:=by
 have h1:prim p ≠ []:=by intro h;rw[Ve,<- Xi] at h;exact hp h
 obtain⟨m,hm,h2⟩:=K5 p;obtain⟨n,hn,h3⟩:=Pe (prim p);refine⟨Fp (Qt p),?_,by rw[P4];exact He hp,Za9 (Qt p) h1,by rw[W9,Qr],m,hm,n,hn,fun x=>by rw[h2 x,h3 x];grind⟩;intro h;have:=congrArg List.length h;rw[W9] at this;exact h1 (List.eq_nil_of_length_eq_zero this)
theorem M3 {p:List Int} (hp:Ze p ≠ []):Vn (Qg p)/\Jb (Qg p)=1/\0<top (Qg p)/\Qg p ≠ []/\Dv (Qg p) p /\
  (Qg p).length+(Wd (Qz (prim p)) (Qv (Qz (prim p)))).length=(Ze p).length+1/\IsG (Wd (Qz (prim p)) (Qv (Qz (prim p)))) p (Qv p)/\(Wd (Qg p) (Qv (Qg p))).length=1:=by
 obtain⟨la,h0,ca,ta,hl,m,hm,n,hn,hpe⟩:=Tf hp;obtain⟨lf,cf,tf,f0,fl,c,d,hc,hd,hcd⟩:=Zdg la h0 ca ta (Qg p) rfl;have hta:Ze (Qz (prim p)) ≠ []:=Uo la h0;have hG:=Fe (Qz (prim p)) (Qv (Qz (prim p)));have lG:=K9 (Qz (prim p)) (Qv (Qz (prim p)));have nG:=Dk (t:=Qv (Qz (prim p))) hta;have hGl:=(hG.1.length hta).1;rw[lG,la] at hGl;have hder:∀ x,n*Zg (Qv p) x=m*Zg (Qv (Qz (prim p))) x:=Tg hpe;generalize Qz (prim p)=a at *
 generalize Wd a (Qv a)=G at *
 generalize Qg p=f at *
 have hal:=List.length_pos_iff.2 h0;have hgl:=List.length_pos_iff.2 nG;refine⟨lf,cf,tf,f0,?_,by omega,?_,?_⟩
 ·have h1:Dv f a:=⟨c,Zy d G,hc,fun x=>by rw[hcd x,Zq];grind⟩;exact h1.scaled hn hpe
 ·exact hG.scaled hn hm hn hm hpe hder
 ·have hK:=Fe f (Qv f);have nK:=Dk (t:=Qv f) (Uo lf f0);have lK:=K9 f (Qv f);have h1:=Sq (h:=Wd f (Qv f)) (f:=Zy d f) (c:=c) hta hG hc (fun x=>by rw[hcd x,Zq];grind)
   (hK.1.scaled (m:=1) (n:=d) (by decide) (fun x=>by rw[Zq];omega)) (hK.2.1.scaled (m:=1) (n:=d) (by decide) (fun x=>by rw[V7];omega))
  rwa [lK] at h1
theorem Zb8 {p:List Int} {K:Nat} (hp:Ze p ≠ []) (hl:p.length<=9) (hK:Kb K p):Kb (K+3) (Qg p)/\(Qg p).length<=(Ze p).length:=by
 obtain⟨lf,cf,tf,f0,hd,_,_,_⟩:=M3 hp;have h1:=(hd.length hp).1;rw[lf] at h1;obtain⟨c,k,hc,hk⟩:=hd;have:=Qb p;exact⟨Eu hc cf hp hl (by omega) hK hk,h1⟩
end Go.Ai

namespace Go.Proofs.YtopjpgejefileaaGreat
open Go.IntKind (i64 u64 u32)
open Go.Ai
set_option maxRecDepth 100000
theorem Zgl {E rs:List Rn} {m:Nat} (hl:E.length=rs.length) (h:∀ x,x<m->E.getD x z0=rs.getD x z0):Fn E rs m=rs:=by
 apply List.ext_getElem?;intro t;unfold Fn;by_cases ht:t<m
 ·by_cases hm:t<E.length
  ·have:=h t ht;rw[List.getD_eq_getElem?_getD,List.getD_eq_getElem?_getD,List.getElem?_eq_getElem hm,List.getElem?_eq_getElem (by omega)] at this;rw[List.getElem?_append_left (by rw[List.length_take];omega),List.getElem?_take_of_lt ht,List.getElem?_eq_getElem hm,List.getElem?_eq_getElem (by omega)];simpa using this
  ·rw[List.getElem?_eq_none (by rw[List.length_append,List.length_take,List.length_drop];omega),List.getElem?_eq_none (by omega)]
 ·by_cases hm:m<=E.length
  ·rw[List.getElem?_append_right (by rw[List.length_take];omega),List.length_take,List.getElem?_drop];congr 1;omega
  ·rw[List.getElem?_eq_none (by rw[List.length_append,List.length_take,List.length_drop];omega),List.getElem?_eq_none (by omega)]
theorem Zgm {E rs:List Rn} {m:Nat} (hl:E.length=rs.length) (hm:m<=rs.length) (h:∀ x,m<=x->E.getD x z0=rs.getD x z0):Fn E rs m=E:=by
 apply List.ext_getElem?;intro t;unfold Fn;by_cases ht:t<m
 ·rw[List.getElem?_append_left (by rw[List.length_take];omega),List.getElem?_take_of_lt ht]
 ·rw[List.getElem?_append_right (by rw[List.length_take];omega),List.length_take,List.getElem?_drop,show m+(t-min m E.length)=t by omega];by_cases hm:t<E.length
  ·have:=h t (by omega);rw[List.getD_eq_getElem?_getD,List.getD_eq_getElem?_getD,List.getElem?_eq_getElem hm,List.getElem?_eq_getElem (by omega)] at this;rw[List.getElem?_eq_getElem hm,List.getElem?_eq_getElem (by omega)];simpa using this.symm
  ·rw[List.getElem?_eq_none (by omega),List.getElem?_eq_none (by omega)]
section
variable {p q:List Int} {J Kq:Nat}
theorem Lb {c:Int} (hp:Kb J p) (hc:Jc Kq c):Kb (J+Kq) (Zy c p):=fun i=>by
 rw[Z5,Nat.add_comm];exact hc.mul (hp i)
theorem div_a {t:Int} {l:Rn} {qs os:List Rn} {kq:Nat} {j:Int} (hp:Kb J p) (ht:Jc Kq t) (hS:J+Kq<1048576) (hN:p.length<=1048576) :
  Za Yir (.loop Mm) (Gp qs p.length (p.map cn) (cn t) kq os j l (p.length:Nat) 0) (.exit 2) (Gp qs p.length ((Zy t p).map cn) (cn t) kq os j l (p.length:Nat) (p.length:Nat)):=by
 have hE:((Zy t p).map cn).length=(p.map cn).length:=by rw[List.length_map,List.length_map,Zx]
 have hpl:(p.map cn).length=p.length:=List.length_map ..;have h:=Za.up (prog:=Yir) (c:=Mm) (ex := .exit 2) (fin:=Gp qs p.length ((Zy t p).map cn) (cn t) kq os j l (p.length:Nat) (p.length:Nat))
  (fun i=>Gp qs p.length (Fn ((Zy t p).map cn) (p.map cn) i) (cn t) kq os j l (p.length:Nat) (i:Nat)) p.length (by nofun) ?_ ?_ 0 (Nat.zero_le _)
 ·rw[Fj] at h;exact h
 ·intro i hi;have ei:i64.wrap ((i:Int)+1)=((i+1:Nat):Int):=by rw[w64 (by omega) (by omega)];omega
  have hml:=U9 hE i;have hget:=Fl hE (i:=i) (by omega);have hEi:((Zy t p).map cn).getD i z0=cn ((Zy t p).getD i 0):=X3 (by rw[Zx];exact hi);have hset:=Fk hE (i:=i) (by omega);rw[hEi,Z5] at hset;have gp:=Z1 (Z2 hp) i;have gt:=Qi ht;have vi:=Va p i;have m1:=Da gp gt (by omega);generalize Fn ((Zy t p).map cn) (p.map cn) i=M at *
  have k:=Zru qs p.length M (cn t) kq os j l (p.length:Nat) (i:Nat) (by simp;omega) (by omega) (by omega) (by rw[Int.toNat_natCast,hget];exact m1);refine k.to rfl ?_;simp only[ei,Int.toNat_natCast,hget];rw[vi,Z0,Int.mul_comm,hset]
 ·rw[show Fn ((Zy t p).map cn) (p.map cn) p.length=(Zy t p).map cn by have h:=Fm hE;rw[hpl] at h;exact h];exact Zrt _ _ _ _ _ _ _ _ _ _ (by simp)
theorem div_b {t:Int} {l:Rn} {qs rs:List Rn} {k:Nat} {j:Int} (hp:Kb J p) (ht:Jc Kq t) (hS:J+Kq<1048576) (hN:p.length<=1048576) :
  Za Yir (.loop Ml) (Gn qs k rs (cn t) p.length (p.map cn) j l (p.length:Nat) 0) (.exit 4) (Gn qs k rs (cn t) p.length ((Zy t p).map cn) j l (p.length:Nat) (p.length:Nat)):=by
 have hE:((Zy t p).map cn).length=(p.map cn).length:=by rw[List.length_map,List.length_map,Zx]
 have hpl:(p.map cn).length=p.length:=List.length_map ..;have h:=Za.up (prog:=Yir) (c:=Ml) (ex := .exit 4) (fin:=Gn qs k rs (cn t) p.length ((Zy t p).map cn) j l (p.length:Nat) (p.length:Nat))
  (fun i=>Gn qs k rs (cn t) p.length (Fn ((Zy t p).map cn) (p.map cn) i) j l (p.length:Nat) (i:Nat)) p.length (by nofun) ?_ ?_ 0 (Nat.zero_le _)
 ·rw[Fj] at h;exact h
 ·intro i hi;have ei:i64.wrap ((i:Int)+1)=((i+1:Nat):Int):=by rw[w64 (by omega) (by omega)];omega
  have hml:=U9 hE i;have hget:=Fl hE (i:=i) (by omega);have hEi:((Zy t p).map cn).getD i z0=cn ((Zy t p).getD i 0):=X3 (by rw[Zx];exact hi);have hset:=Fk hE (i:=i) (by omega);rw[hEi,Z5] at hset;have gp:=Z1 (Z2 hp) i;have gt:=Qi ht;have vi:=Va p i;have m1:=Da gp gt (by omega);generalize Fn ((Zy t p).map cn) (p.map cn) i=M at *
  have k:=Zrs qs k rs (cn t) p.length M j l (p.length:Nat) (i:Nat) (by simp;omega) (by omega) (by omega) (by rw[Int.toNat_natCast,hget];exact m1);refine k.to rfl ?_;simp only[ei,Int.toNat_natCast,hget];rw[vi,Z0,Int.mul_comm,hset]
 ·rw[show Fn ((Zy t p).map cn) (p.map cn) p.length=(Zy t p).map cn by have h:=Fm hE;rw[hpl] at h;exact h];exact Zrr _ _ _ _ _ _ _ _ _ _ (by simp)
theorem div_c {t:Rn} {l:Int} {os:List Rn} {kq j Jp:Nat} (hp:Kb Jp p) (hq:Kb Kq q) (hl:Jc J l) (hS:J+Kq<1048576) (hJp:Jp<1048576) (hN:p.length<=1048576) (hj:j+q.length<=p.length) :
  Za Yir (.loop Mk) (Gm (q.map cn) p.length (p.map cn) t kq os (j:Nat) (cn l) (q.length:Nat) 0) (.exit 6) (Gm (q.map cn) p.length ((K0 p q l j).map cn) t kq os (j:Nat) (cn l) (q.length:Nat) (q.length:Nat)):=by
 have hE:((K0 p q l j).map cn).length=(p.map cn).length:=by rw[List.length_map,List.length_map,Uk]
 have hpl:(p.map cn).length=p.length:=List.length_map ..;have gE:∀ x,x<p.length->((K0 p q l j).map cn).getD x z0=cn (p.getD x 0-l*(V5 j q).getD x 0):=fun x hx=>by
  rw[X3 (by rw[Uk];exact hx),Hz _ _ _ _ _ hj]
 have eout:∀ x,(x<j\/j+q.length<=x)->((K0 p q l j).map cn).getD x z0=(p.map cn).getD x z0:=by
  intro x hx;by_cases h:x<p.length
  ·rw[gE x h,X3 h,Jo];rcases hx with hx | hx
   ·rw[if_neg (by omega),Int.mul_zero,Int.sub_zero]
   ·rw[if_pos (by omega),Qo (xs:=q) (show q.length<=x-j by omega),Int.mul_zero,Int.sub_zero]
  ·rw[List.getD_eq_getElem?_getD,List.getD_eq_getElem?_getD,List.getElem?_eq_none (by omega),List.getElem?_eq_none (by omega)]
 have h:=Za.up (prog:=Yir) (c:=Mk) (ex := .exit 6) (fin:=Gm (q.map cn) p.length ((K0 p q l j).map cn) t kq os (j:Nat) (cn l) (q.length:Nat) (q.length:Nat))
  (fun i=>Gm (q.map cn) p.length (Fn ((K0 p q l j).map cn) (p.map cn) (j+i)) t kq os (j:Nat) (cn l) (q.length:Nat) (i:Nat)) q.length (by nofun) ?_ ?_ 0 (Nat.zero_le _)
 ·rw[Nat.add_zero,Zgl hE (fun x hx=>eout x (.inl hx))] at h;exact h
 ·intro i hi;have ei:i64.wrap ((i:Int)+1)=((i+1:Nat):Int):=by rw[w64 (by omega) (by omega)];omega
  have eji:i64.wrap ((j:Int)+(i:Int))=((j+i:Nat):Int):=by rw[w64 (by omega) (by omega)];omega
  have hml:=U9 hE (j+i);have hget:=Fl hE (i:=j+i) (by omega);have hEi:=gE (j+i) (by omega);rw[Jo,if_pos (by omega),show j+i-j=i by omega] at hEi;have hset:=Fk hE (i:=j+i) (by omega);rw[hEi] at hset;have gp:=Z1 (Z2 hp) (j+i);have gq:=Z1 (Z2 hq) i;have gl:=Qi hl;have vi:=Va p (j+i);have vq:=Va q i;have m1:=Da gl gq (by omega);have f1:Jc (J+Kq) (Zh (cn l)*Zh ((q.map cn).getD i z0)):=Jc.mul (by rw[Z0];exact hl) gq.fits;have m2:=Zfa gp (Qi f1) (by omega) (by omega);rw[Z0 (Zh (cn l)*Zh ((q.map cn).getD i z0))] at m2;generalize Fn ((K0 p q l j).map cn) (p.map cn) (j+i)=M at *
  have k:=Zrq (q.map cn) p.length M t kq os (j:Nat) (cn l) (q.length:Nat) (i:Nat) (by simp;omega) (by rw[eji];omega) (by omega) (by rw[List.length_map];omega) (by rw[Int.toNat_natCast];exact m1) (by rw[eji,Int.toNat_natCast,Int.toNat_natCast,hget];exact m2);refine k.to rfl ?_;simp only[ei,eji,Int.toNat_natCast,hget];rw[vi,vq,Z0,hset,Nat.add_assoc]
 ·rw[Zgm hE (by omega) (fun x hx=>eout x (.inr hx))];exact Zrp _ _ _ _ _ _ _ _ _ _ (by simp)
theorem Zns {l:Int} (hp:Kb (J+Kq) p) (hq:Kb Kq q) (hl:Jc J l) (k:Nat) (hk:k+q.length<=p.length):Kb (J+Kq+1) (K0 p q l k):=fun i=>by
 rw[Hz _ _ _ _ _ hk,Jo];split
 ·exact (hp i).add (hl.mul (hq _)).neg
 ·rw[Int.mul_zero,Int.sub_zero];exact (hp i).mono (by omega)
theorem Zu9 {l:Int} (hp:Kb J p) (hl:Jc J l) (k:Nat):Kb J (p.set k l):=fun i=>by
 by_cases h:i=k
 ·subst h;by_cases hi:i<p.length
  ·rw[List.getD_eq_getElem?_getD,List.getElem?_set_self hi];exact hl
  ·rw[Qo (by rw[List.length_set];omega)];exact Vl _
 ·rw[Qq (by omega)];exact hp i
end
theorem Zn5 {q:List Int} {Kq:Nat} (hq:Kb Kq q) (hq0:q ≠ []):∀ (k:Nat) (r out:List Int) (J:Nat),Kb J r->Kb J out->J+k*(Kq+1)<1048576->k<=out.length->out.length+q.length=r.length+1->r.length<=1048576 ->
  (∃ r',Za Yir (.loop Zlv) (Zaf (q.map cn) r.length (r.map cn) (cn (top q)) out.length (out.map cn) ((k:Int)-1)) (.exit 0) (Zaf (q.map cn) r.length r' (cn (top q)) out.length ((E0 q k r out).map cn) (-1)))/\Kb (J+k*(Kq+1)) (E0 q k r out)/\(E0 q k r out).length=out.length:=by
 have hql:=List.length_pos_iff.2 hq0;intro k;induction k with
 | zero =>
  intro r out J _ ho _ _ _ _;exact⟨⟨_,Za.loop_out (Zzq _ _ _ _ _ _ _ (by simp)) (by nofun)⟩,ho.mono (by omega),rfl⟩
 | succ k ih =>
  intro r out J hr ho hS hk hl hN;simp only[E0];have hS':J+Kq+1+k*(Kq+1)<1048576:=by rw[Nat.add_mul,Nat.one_mul] at hS;omega
  have el:Jc J (r.getD (k+q.length-1) 0):=hr _;have e1:((k+1:Nat):Int)-1=(k:Int):=by omega
  have e2:i64.wrap (i64.wrap ((k:Int)+(((q.map cn).length:Nat):Int))-1)=((k+q.length-1:Nat):Int):=by
   rw[List.length_map,w64 (n:=(k:Int)+(q.length:Nat)) (by omega) (by omega),w64 (by omega) (by omega)];omega
  have e3:(r.map cn).getD (k+q.length-1) z0=cn (r.getD (k+q.length-1) 0):=X3 (by omega);have e4:i64.wrap ((k:Int)-1)=(k:Int)-1:=w64 (by omega) (by omega);have ft:Jc Kq (top q):=hq _;generalize hlead:r.getD (k+q.length-1) 0=l at *
  have hps:=Lb hr ft;have hpo:=Lb ho ft;have la:=div_a (l:=cn l) (qs:=q.map cn) (os:=out.map cn) (kq:=out.length) (j:=(k:Nat)) hr ft (by omega) hN;have lb:=div_b (l:=cn l) (qs:=q.map cn) (rs:=(Zy (top q) r).map cn) (k:=r.length) (j:=(k:Nat)) ho ft (by omega) (by omega);have hlc:=div_c (t:=cn (top q)) (l:=l) (os:=((Zy (top q) out).set k l).map cn) (kq:=out.length) (j:=k) (p:=Zy (top q) r) (J:=J) hps hq el (by omega) (by omega) (by rw[Zx];exact hN) (by rw[Zx];omega);rw[Zx] at hlc;obtain⟨⟨r',hr'⟩,kb,len⟩:=ih (K0 (Zy (top q) r) q l k) ((Zy (top q) out).set k l) (J+Kq+1) (Zns hps hq el k (by rw[Zx];omega)) (Zu9 (hpo.mono (by omega)) (el.mono (by omega)) k) hS' (by rw[List.length_set,Zx];omega) (by rw[List.length_set,Zx,Uk,Zx];exact hl) (by rw[Uk,Zx];exact hN);rw[List.length_set,Zx,Uk,Zx] at hr';refine⟨⟨r',?_⟩,kb.mono (by rw[Nat.add_mul,Nat.one_mul];omega),by rw[len,List.length_set,Zx]⟩;have hset:((Zy (top q) out).map cn).set k (cn l)=((Zy (top q) out).set k l).map cn:=by rw[List.map_set]
  have k1:=Zzr (q.map cn) r.length (r.map cn) (cn (top q)) out.length (out.map cn) (k:Nat) ((Zy (top q) r).map cn) ((K0 (Zy (top q) r) q l k).map cn) ((Zy (top q) out).map cn) _ _ _ _ _ _ (by simp) (by rw[e2];omega) (List.length_map ..)
   (by rw[e2,Int.toNat_natCast,e3];exact la) (by rw[e2,Int.toNat_natCast,e3];exact lb) (by omega) (by rw[List.length_map,Zx]) (by rw[e2,Int.toNat_natCast,Int.toNat_natCast,e3,hset,List.length_map];exact hlc)
  rw[e2,Int.toNat_natCast,Int.toNat_natCast,e3,hset,e4] at k1;rw[e1];exact Za.loop k1 hr'
theorem z0_cn:cn 0=z0:=rfl
theorem Rc {p q:List Int} {J K:Nat} (hp:Kb J p) (hq:Kb K q) (lp:Vn p) (hq0:q ≠ []) (hl:q.length<=p.length) (hN:p.length<=1000000) (hS:J+(p.length-q.length+1)*(K+1)<1048576) :
  Zc Yir 156 [.sl (p.map cn).length (pc (p.map cn)),.sl (q.map cn).length (pc (q.map cn))] (.fresh 2 ((prim (E0 q (p.length-q.length+1) p (List.replicate (p.length-q.length+1) 0))).map cn).length (pc ((prim (E0 q (p.length-q.length+1) p (List.replicate (p.length-q.length+1) 0))).map cn))):=by
 have hql:=List.length_pos_iff.2 hq0;have htr:=W3 (rs:=p.map cn) (fun r h=>(Z2 hp r h).mono (show J<=1048576 by omega)) (by rw[List.length_map];omega);rw[Z3,lp] at htr;have htr':Zc Yir 66 [.sl (p.map cn).length (pc (p.map cn))] (.fresh 2 (p.map cn).length (pc (p.map cn))):=by rw[List.length_map] at htr |-;exact htr
 obtain⟨⟨r',hlp⟩,kb,len⟩:=Zn5 hq hq0 (p.length-q.length+1) p (List.replicate (p.length-q.length+1) 0) J hp (fun i=>by rw[Jn];exact Vl _) hS (by simp) (by simp;omega) (by omega);rw[List.length_replicate] at hlp len;have e1:i64.wrap ((((q.map cn).length:Nat):Int)-1)=((q.length-1:Nat):Int):=by rw[List.length_map,w64 (by omega) (by omega)];omega
 have e2:i64.wrap (i64.wrap ((((p.map cn).length:Nat):Int)-(((q.map cn).length:Nat):Int))+1)=((p.length-q.length+1:Nat):Int):=by
  rw[List.length_map,List.length_map,w64 (n:=(p.length:Int)-(q.length:Nat)) (by omega) (by omega),w64 (by omega) (by omega)];omega
 have e3:i64.wrap (((p.length-q.length+1:Nat):Int)-1)=((p.length-q.length+1:Nat):Int)-1:=w64 (by omega) (by omega);have hz:(List.replicate (p.length-q.length+1) (0:Int)).map cn=List.replicate (p.length-q.length+1) z0:=by rw[List.map_replicate,z0_cn]
 have hpr:=Jw (rs:=(E0 q (p.length-q.length+1) p (List.replicate (p.length-q.length+1) 0)).map cn) (Z2 kb) (by omega) (by rw[List.length_map];omega);rw[Z3] at hpr;have hpr':=hpr;rw[show ∀ o:List Int,(o.map cn).length=o.length from fun o=>List.length_map ..,len] at hpr';have k:=Zxw (p.map cn) (q.map cn) (p.map cn) ((prim (E0 q (p.length-q.length+1) p (List.replicate (p.length-q.length+1) 0))).map cn) r' ((E0 q (p.length-q.length+1) p (List.replicate (p.length-q.length+1) 0)).map cn) (cn (top q)) p.length (p.length-q.length+1) (-1) htr' (by rw[e1,List.length_map];omega) (by rw[e2];omega) (by
   rw[e1,e2,Int.toNat_natCast,Int.toNat_natCast,e3,A7,<- hz,X3 (show q.length-1<q.length by omega),show (p.map cn).length=p.length from List.length_map ..];exact hlp) (by
   have hlm:((prim (E0 q (p.length-q.length+1) p (List.replicate (p.length-q.length+1) 0))).map cn).length=(prim (E0 q (p.length-q.length+1) p (List.replicate (p.length-q.length+1) 0))).length:=List.length_map ..;rw[hlm];exact hpr')
 exact k
theorem Rb {rs:List Rn} {K c:Nat} (hr:∀ r∈rs,Q5 K r) (hn:rs.length<=c) (hc:c<=9) (hS:(K+3)*(2*3^c)<=500000):Za0 114 [.sl rs.length (pc rs)] (Qg (Zf rs)):=by
 have h3:0<3^c:=Nat.pow_pos (by decide);have hK:K+3<=250000:=by
  have:(K+3)*2<=(K+3)*(2*3^c):=Nat.mul_le_mul_left _ (by omega);omega
 have p1:=Jw hr (by omega) (by omega);have p1':Zc Yir 115 [.sl rs.length (pc rs)] (.fresh 2 ((prim (Zf rs)).map cn).length (pc ((prim (Zf rs)).map cn))):=by rw[List.length_map];exact p1
 have k1:Kb K (prim (Zf rs)):=(Bx (Q2 hr)).prim;have l1:(prim (Zf rs)).length<=rs.length:=by rw[Qr];have:=Qb (Zf rs);rwa [Zn] at this
 obtain⟨q1,q2⟩:=E9 k1 (by omega) (by omega);have ka:Kb K (Qz (prim (Zf rs))):=by
  unfold Qz;split
  ·intro i;rw[Vk];exact (k1 i).neg
  ·exact k1
 have la:=W9 (prim (Zf rs));have lda:Vn (Qz (prim (Zf rs))):=Fp (Qt _);have hpp:(¬ top (prim (Zf rs))<0)->Qz (prim (Zf rs))=prim (Zf rs):=Af;have hder:=Bi (rs:=(Qz (prim (Zf rs))).map cn) (Z2 ka) (by omega) (by rw[List.length_map];omega);rw[Z3] at hder;have hder':Zc Yir 116 [.sl ((Qz (prim (Zf rs))).map cn).length (pc ((Qz (prim (Zf rs))).map cn))] (.fresh 2 ((Qv (Qz (prim (Zf rs)))).map cn).length (pc ((Qv (Qz (prim (Zf rs)))).map cn))):=by
  have hlm:((Qv (Qz (prim (Zf rs)))).map cn).length=(Qv (Qz (prim (Zf rs)))).length:=List.length_map ..;rw[hlm];exact hder
 have kd:Kb (K+2) (Qv (Qz (prim (Zf rs)))):=Tq ka (by omega);have ld:(Qv (Qz (prim (Zf rs)))).length<=c:=by have:=Zbx (Qz (prim (Zf rs)));omega
 have hcom:=Zab (rs:=(Qz (prim (Zf rs))).map cn) (ss:=(Qv (Qz (prim (Zf rs)))).map cn) (K:=K+2) (c:=c) (fun r h=>(Z2 ka r h).mono (by omega)) (Z2 kd) (by rw[List.length_map];omega) (by rw[List.length_map];exact ld) (by omega) hS;rw[Z3,Z3] at hcom;change Za0 135 _ (Wd (Qz (prim (Zf rs))) (Qv (Qz (prim (Zf rs))))) at hcom;have hdiv:2<=(Wd (Qz (prim (Zf rs))) (Qv (Qz (prim (Zf rs))))).length->Zc Yir 156 [.sl ((Qz (prim (Zf rs))).map cn).length (pc ((Qz (prim (Zf rs))).map cn)),.sl ((Wd (Qz (prim (Zf rs))) (Qv (Qz (prim (Zf rs))))).map cn).length (pc ((Wd (Qz (prim (Zf rs))) (Qv (Qz (prim (Zf rs))))).map cn))]
   (.fresh 2 ((prim (E0 (Wd (Qz (prim (Zf rs))) (Qv (Qz (prim (Zf rs))))) ((Qz (prim (Zf rs))).length-(Wd (Qz (prim (Zf rs))) (Qv (Qz (prim (Zf rs))))).length+1) (Qz (prim (Zf rs))) (List.replicate ((Qz (prim (Zf rs))).length-(Wd (Qz (prim (Zf rs))) (Qv (Qz (prim (Zf rs))))).length+1) 0))).map cn).length (pc ((prim (E0 (Wd (Qz (prim (Zf rs))) (Qv (Qz (prim (Zf rs))))) ((Qz (prim (Zf rs))).length-(Wd (Qz (prim (Zf rs))) (Qv (Qz (prim (Zf rs))))).length+1) (Qz (prim (Zf rs))) (List.replicate ((Qz (prim (Zf rs))).length-(Wd (Qz (prim (Zf rs))) (Qv (Qz (prim (Zf rs))))).length+1) 0))).map cn))):=by
  intro h2;have hp0:Ze (Zf rs) ≠ []:=by
   intro h0;have:prim (Zf rs)=[]:=Ve.2 (Xi.1 h0);rw[this] at h2;exact absurd h2 (by decide)
  obtain⟨a1,a2,_,_,_,_⟩:=Tf hp0;obtain⟨b1,b2⟩:=Zg3 (t:=Qv (Qz (prim (Zf rs)))) (Uo a1 a2) (by omega) ka;rw[a1] at b2;exact Rc ka b1 lda (by intro h0;rw[h0] at h2;exact absurd h2 (by decide)) b2 (by omega) (by
   have h4:(Qz (prim (Zf rs))).length-(Wd (Qz (prim (Zf rs))) (Qv (Qz (prim (Zf rs))))).length+1<=10:=by omega
   have h5:=Nat.mul_le_mul_right (K+3+1) h4;have h6:3^2<=3^c:=Nat.pow_le_pow_right (by decide) (by omega);have h7:(K+3)*18<=(K+3)*(2*3^c):=Nat.mul_le_mul_left _ (by omega);omega)
 unfold Qg;by_cases hs:(Qz (prim (Zf rs))).length<2
 ·rw[if_pos (.inl hs)];by_cases ht:top (prim (Zf rs))<0
  ·exact .inr (R0 rs _ _ (by rw[decide_eq_true_eq,List.length_map];omega) p1' (q1 ht))
  ·rw[hpp ht] at hs |-;exact .inr (Rt rs _ (by rw[decide_eq_true_eq,List.length_map];omega) p1' (q2 ht))
 ·by_cases hg:(Wd (Qz (prim (Zf rs))) (Qv (Qz (prim (Zf rs))))).length<2
  ·rw[if_pos (.inr hg)];by_cases ht:top (prim (Zf rs))<0
   ·rcases hcom with h | h
    ·exact .inr (Rz rs _ _ _ _ (by rw[decide_eq_false_iff_not,List.length_map];omega) (by rw[decide_eq_true_eq,List.length_map];omega) p1' (q1 ht) hder' h)
    ·exact .inr (Rx rs _ _ _ _ (by rw[decide_eq_false_iff_not,List.length_map];omega) (by rw[decide_eq_true_eq,List.length_map];omega) p1' (q1 ht) hder' h)
   ·rw[hpp ht] at *
    rcases hcom with h | h
    ·exact .inr (Rv rs _ _ _ (by rw[decide_eq_false_iff_not,List.length_map];omega) (by rw[decide_eq_true_eq,List.length_map];omega) p1' (q2 ht) hder' h)
    ·exact .inr (Rs rs _ _ _ (by rw[decide_eq_false_iff_not,List.length_map];omega) (by rw[decide_eq_true_eq,List.length_map];omega) p1' (q2 ht) hder' h)
  ·rw[if_neg (by omega)];have hdiv:=hdiv (by omega);by_cases ht:top (prim (Zf rs))<0
   ·rcases hcom with h | h
    ·exact .inl (Ry rs _ _ _ _ _ (by rw[decide_eq_false_iff_not,List.length_map];omega) (by rw[decide_eq_false_iff_not,List.length_map];omega) p1' (q1 ht) hder' h hdiv)
    ·exact .inl (Rw rs _ _ _ _ _ (by rw[decide_eq_false_iff_not,List.length_map];omega) (by rw[decide_eq_false_iff_not,List.length_map];omega) p1' (q1 ht) hder' h hdiv)
   ·rw[hpp ht] at *
    rcases hcom with h | h
    ·exact .inl (Ru rs _ _ _ _ (by rw[decide_eq_false_iff_not,List.length_map];omega) (by rw[decide_eq_false_iff_not,List.length_map];omega) p1' (q2 ht) hder' h hdiv)
    ·exact .inl (Rr rs _ _ _ _ (by rw[decide_eq_false_iff_not,List.length_map];omega) (by rw[decide_eq_false_iff_not,List.length_map];omega) p1' (q2 ht) hder' h hdiv)
end Go.Proofs.YtopjpgejefileaaGreat

namespace Go.Proofs.YtopjpgejefileaaGreat
open Go.IntKind (i64 u64 u32)
open Go.Ai
set_option maxRecDepth 100000
def plA (p:List Int):AV := .sl (p.map cn).length (pc (p.map cn))
def plF (p:List Int):AV := .fresh 2 (p.map cn).length (pc (p.map cn))
theorem U2 {f:Nat} {args:List AV} {X:List Int} (h:Zc Yir f args (.fresh 2 X.length (pk X))):Zc Yir f args (.fresh 2 (X.map cn).length (pc (X.map cn))):=by
 rw[List.length_map];exact h
theorem Zgr (p:List Int):Zh ((p.map cn).getD (p.length-1) z0)=top p:=Va p (p.length-1)
theorem Gt {p:List Int} {K:Nat} (hk:Kb K p) (hL:Vn p) (hK:K<=1048576) (hN:p.length<=1048576) :
  (top p<0->Zc Yir 120 [plA p] (plF (Qz p)))/\(¬ top p<0->Zc Yir 120 [plA p] (plA p)):=by
 have hg:∀ r∈p.map cn,Q5 1048576 r:=fun r hr=>(Z2 hk r hr).mono hK;have hlm:(p.map cn).length=p.length:=List.length_map ..;by_cases h0:0<p.length
 ·have e1:i64.wrap ((((p.map cn).length:Nat):Int)-1)=((p.length-1:Nat):Int):=by rw[hlm,w64 (by omega) (by omega)];omega
  obtain⟨g1,g2⟩:=Z1 hg (p.length-1);have hs:=Ut (neg:=((p.map cn).getD (p.length-1) z0).1) g1 g2;have ht:Zh ((p.map cn).getD (p.length-1) z0)=top p:=Zgr p;rw[show rv ((p.map cn).getD (p.length-1) z0).1 ((p.map cn).getD (p.length-1) z0).2=top p from ht] at hs;refine⟨fun h => ?_,fun h => ?_⟩
  ·have hn:=Zbq hg (by omega);rw[Z3,Fq hL] at hn;have e:Qz p=Vq p:=by unfold Qz;rw[if_pos h]
   unfold plA plF;rw[e];exact Zjc _ _ (by rw[decide_eq_true_eq];omega) (by rw[e1,Int.toNat_natCast,ht,decide_eq_true_eq];unfold Xd;rw[if_pos h];decide) (by rw[e1];omega) (by rw[e1,Int.toNat_natCast,ht];exact hs) (U2 hn)
  ·exact Zjb _ (by rw[decide_eq_true_eq];omega) (by rw[e1,Int.toNat_natCast,ht,decide_eq_false_iff_not];unfold Xd;rw[if_neg h];split <;> decide) (by rw[e1];omega) (by rw[e1,Int.toNat_natCast,ht];exact hs)
 ·have hz:p=[]:=List.eq_nil_of_length_eq_zero (by omega);subst hz;refine⟨fun h=>absurd h (by decide),fun _=>Zja [] (by decide)⟩
theorem Zfn (n:Int):Zh (false,(cn n).2)=(n.natAbs:Int):=by
 show rv false (Zb n.natAbs)=_;unfold rv;rw[Qs];simp
theorem Zfp {x y:Rn} {J K:Nat} (hx:Q5 J x) (hy:Q5 K y) (h:J+K<=1048576):Zc Yir 96 [.agg [.bool x.1,.sl x.2.length (lm x.2)],Zp y] (Zi (Zh x*Zh y)):=Dd hx.1 hy.1 (by have:=hx.2;have:=hy.2;omega)
theorem rm_cn {x y:Rn} {J K:Nat} (hx:Q5 J x) (hy:Q5 K y) (h:J<1048576) (h2:K<1048576):Zc Yir 129 [Zp x,Zp y] (Zi (Zh x-Zh y)):=Nv hx.1 hy.1 (by have:=hx.2;omega) (by have:=hy.2;omega)
def gst (p d:List Int) (a b:Int) (j:Nat):Int:=if p.length-d.length<=j then a*p.getD j 0-b*d.getD (j-(p.length-d.length)) 0 else a*p.getD j 0
theorem Zg8 (p d:List Int) (a b:Int) (n:Nat):((List.range n).map fun j=>cn (gst p d a b j))=(Uz p d a b n).map cn:=by
 unfold Uz gst;rw[List.map_map];rfl
section
variable {p d:List Int} {J Kd:Nat}
theorem Eb {b:Int} (hp:Kb J p) (hd:Kb Kd d) (hb:Jc J b) (hS:J+Kd+1<1000000) (hd0:d ≠ []) (hl:d.length<=p.length) (hN:p.length<=1048576) :
  Za Yir (.loop Bt) (Wa (p.map cn) (d.map cn) (cn (top d)) (cn b) ((p.length-d.length:Nat):Int) 0 [] 0) (.exit 2)
   (Wa (p.map cn) (d.map cn) (cn (top d)) (cn b) ((p.length-d.length:Nat):Int) (p.length-1) (pc ((Uz p d ((top d).natAbs:Int) b (p.length-1)).map cn)) ((p.length-1:Nat):Int)):=by
 have hdl:=List.length_pos_iff.2 hd0;have hlm:(p.map cn).length=p.length:=List.length_map ..;have hld:(d.map cn).length=d.length:=List.length_map ..;have e1:i64.wrap ((((p.map cn).length:Nat):Int)-1)=((p.length-1:Nat):Int):=by rw[hlm,w64 (by omega) (by omega)];omega
 have h:=Za.up (prog:=Yir) (c:=Bt) (ex := .exit 2) (fin:=Wa (p.map cn) (d.map cn) (cn (top d)) (cn b) ((p.length-d.length:Nat):Int) (p.length-1) (pc ((Uz p d ((top d).natAbs:Int) b (p.length-1)).map cn)) ((p.length-1:Nat):Int))
  (fun i=>Wa (p.map cn) (d.map cn) (cn (top d)) (cn b) ((p.length-d.length:Nat):Int) i (pc ((List.range i).map fun j=>cn (gst p d ((top d).natAbs:Int) b j))) (i:Nat)) (p.length-1) (by nofun) ?_ ?_ 0 (Nat.zero_le _)
 ·exact h
 ·intro i hi;have ei:i64.wrap ((i:Int)+1)=((i+1:Nat):Int):=by rw[w64 (by omega) (by omega)];omega
  have gp:=Z1 (Z2 hp) i;have ga:Q5 Kd (false,(cn (top d)).2):=by
   have:=Qi (Ua hd);exact⟨this.1,this.2⟩
  have gb:=Qi hb;have vi:=Va p i;have m1:=Zfp ga gp (by omega);have va:=Zfn (top d);by_cases hat:p.length-d.length<=i
  ·have ea:i64.wrap ((i:Int)-((p.length-d.length:Nat):Int))=((i-(p.length-d.length):Nat):Int):=by rw[w64 (by omega) (by omega)];omega
   have gq:=Z1 (Z2 hd) (i-(p.length-d.length));have vq:=Va d (i-(p.length-d.length));have m2:=Zfp gb gq (by omega);have f1:Jc (Kd+J) (Zh (false,(cn (top d)).2)*Zh ((p.map cn).getD i z0)):=ga.fits.mul gp.fits;have f2:Jc (J+Kd) (Zh (cn b)*Zh ((d.map cn).getD (i-(p.length-d.length)) z0)):=gb.fits.mul gq.fits;have m3:=rm_cn (Qi f1) (Qi f2) (by omega) (by omega);rw[Z0 (Zh (false,(cn (top d)).2)*_),Z0 (Zh (cn b)*Zh ((d.map cn).getD (i-(p.length-d.length)) z0))] at m3;have k:=Zsc (p.map cn) (d.map cn) (cn (top d)) (cn b) ((p.length-d.length:Nat):Int) i (pc ((List.range i).map fun j=>cn (gst p d ((top d).natAbs:Int) b j))) (i:Nat) (by rw[e1,decide_eq_true_eq];omega) (by rw[decide_eq_true_eq];omega) (by omega) (by rw[ea];omega) (by omega)
    (by rw[Int.toNat_natCast];exact m1) (by rw[ea,Int.toNat_natCast];exact m2) (by rw[ea,Int.toNat_natCast,Int.toNat_natCast];exact m3)
   refine k.to rfl ?_;rw[ea,Int.toNat_natCast,Int.toNat_natCast,ei];rw[<- Uh (gst p d ((top d).natAbs:Int) b) i];unfold gst;rw[if_pos hat,va,vi,Z0,vq]
  ·have k:=Zsb (p.map cn) (d.map cn) (cn (top d)) (cn b) ((p.length-d.length:Nat):Int) i (pc ((List.range i).map fun j=>cn (gst p d ((top d).natAbs:Int) b j))) (i:Nat) (by rw[e1,decide_eq_true_eq];omega) (by rw[decide_eq_false_iff_not];omega) (by omega) (by omega)
    (by rw[Int.toNat_natCast];exact m1)
   refine k.to rfl ?_;rw[Int.toNat_natCast,ei];rw[<- Uh (gst p d ((top d).natAbs:Int) b) i];unfold gst;rw[if_neg hat,va,vi]
 ·show Za _ _ (Wa _ _ _ _ _ _ (pc ((List.range (p.length-1)).map fun j=>cn (gst p d ((top d).natAbs:Int) b j))) _) _ _;rw[Zg8];exact Zsa _ _ _ _ _ _ _ _ (by rw[e1,decide_eq_false_iff_not];omega)
theorem Zc6 (hp:Kb J p) (hd:Kb Kd d) (hS:J+Kd+1<1000000) (hd0:d ≠ []) (hl:d.length<=p.length) (hN:p.length<=1048576) :
  Za Yir Zay (B7 (p.map cn) (d.map cn) (cn (top d))) .norm (B7 ((Uv p d).map cn) (d.map cn) (cn (top d))):=by
 have hdl:=List.length_pos_iff.2 hd0;have hlm:(p.map cn).length=p.length:=List.length_map ..;have hld:(d.map cn).length=d.length:=List.length_map ..;have e1:i64.wrap ((((p.map cn).length:Nat):Int)-1)=((p.length-1:Nat):Int):=by rw[hlm,w64 (by omega) (by omega)];omega
 have e2:i64.wrap ((((p.map cn).length:Nat):Int)-(((d.map cn).length:Nat):Int))=((p.length-d.length:Nat):Int):=by rw[hlm,hld,w64 (by omega) (by omega)];omega
 have gt:=Qi (Ua hd);have gl:=Z1 (Z2 hp) (p.length-1);have vl:=Zgr p;have hs:=Ut (neg:=(cn (top d)).1) gt.1 (by have:=gt.2;omega);rw[show rv (cn (top d)).1 (cn (top d)).2=top d from Z0 _] at hs;have hT:∀ b,Jc J b->b=sg (top d)*top p->Zc Yir 46 [.sl (p.length-1) (pc ((Uz p d ((top d).natAbs:Int) b (p.length-1)).map cn))] (.fresh 2 ((Ze (Uz p d ((top d).natAbs:Int) b (p.length-1))).map cn).length (pc ((Ze (Uz p d ((top d).natAbs:Int) b (p.length-1))).map cn)))
   /\ Zc Yir 86 [.sl ((Ze (Uz p d ((top d).natAbs:Int) b (p.length-1))).map cn).length (pc ((Ze (Uz p d ((top d).natAbs:Int) b (p.length-1))).map cn))] (.fresh 2 ((Uv p d).map cn).length (pc ((Uv p d).map cn))):=by
  intro b fb hb;have kE:Kb (J+Kd+1) (Uz p d ((top d).natAbs:Int) b (p.length-1)):=Lc hp hd (Ak (Ua hd)) fb _;have hlE:=Xa p d ((top d).natAbs:Int) b (p.length-1);have htl:=Qb (Uz p d ((top d).natAbs:Int) b (p.length-1));refine⟨?_,?_⟩
  ·have h:=Xf (rs:=(Uz p d ((top d).natAbs:Int) b (p.length-1)).map cn) (fun r hr=>(Z2 kE r hr).mono (by omega)) (by rw[List.length_map];omega);rw[Z3,List.length_map,hlE] at h;exact U2 h
  ·have h:=V6 (rs:=(Ze (Uz p d ((top d).natAbs:Int) b (p.length-1))).map cn) (Z2 kE.trim) (by omega) (by rw[List.length_map];omega);rw[Z3] at h;have e:prim (Ze (Uz p d ((top d).natAbs:Int) b (p.length-1)))=Uv p d:=by
    rw[Pc hd0 hl,<- hb];exact Fc (Je _)
   rw[e] at h;exact U2 h
 by_cases hneg:top d<0
 ·have hng:=Mx (neg:=((p.map cn).getD (p.length-1) z0).1) gl.1 (by have:=gl.2;omega);rw[show rv ((p.map cn).getD (p.length-1) z0).1 ((p.map cn).getD (p.length-1) z0).2=top p from vl] at hng;have hb : -(top p)=sg (top d)*top p:=by unfold sg;rw[if_pos hneg];omega
  obtain⟨t1,t2⟩:=hT _ (Ua hp).neg hb;exact Z0v (p.map cn) (d.map cn) (cn (top d)) ((Uz p d ((top d).natAbs:Int) (-(top p)) (p.length-1)).map cn) _ _ (p.length-1) ((p.length-1:Nat):Int) (by rw[decide_eq_true_eq];omega) (by rw[Z0,decide_eq_true_eq];unfold Xd;rw[if_pos hneg];decide) (by rw[e1];omega) (by rw[Z0];exact hs) (by rw[e1,Int.toNat_natCast,vl];exact hng)
   (by rw[e1,e2,Int.toNat_natCast,vl];exact Eb hp hd (Ua hp).neg hS hd0 hl hN) t1 t2
 ·have hb:top p=sg (top d)*top p:=by unfold sg;rw[if_neg hneg];omega
  obtain⟨t1,t2⟩:=hT _ (Ua hp) hb;have hu:(p.map cn).getD (p.length-1) z0=cn (top p):=X3 (by omega);exact Z0u (p.map cn) (d.map cn) (cn (top d)) ((Uz p d ((top d).natAbs:Int) (top p) (p.length-1)).map cn) _ _ (p.length-1) ((p.length-1:Nat):Int) (by rw[decide_eq_true_eq];omega) (by rw[Z0,decide_eq_false_iff_not];unfold Xd;rw[if_neg hneg];split <;> decide) (by rw[e1];omega) (by rw[Z0];exact hs)
   (by rw[e1,e2,Int.toNat_natCast,hu];exact Eb hp hd (Ua hp) hS hd0 hl hN) t1 t2
end
theorem Zc7 {d:List Int} {Kd:Nat} (hd:Kb Kd d) (hd0:d ≠ []):∀ (f:Nat) (p:List Int) (J:Nat),p.length<=f->Kb J p->J+(p.length+1-d.length)*(Kd+1)<1000000->p.length<=1048576 ->
  Za Yir (.loop Zay) (B7 (p.map cn) (d.map cn) (cn (top d))) (.exit 0) (B7 ((Vv f p d).map cn) (d.map cn) (cn (top d))):=by
 have hdl:=List.length_pos_iff.2 hd0;intro f;induction f with
 | zero =>
  intro p J hf _ _ _;exact Za.loop_out (Zkj (p.map cn) (d.map cn) (cn (top d)) (by rw[decide_eq_false_iff_not,List.length_map,List.length_map];omega)) (by nofun)
 | succ f ih =>
  intro p J hf hJ hS hN;simp only[Vv];split
  ·rename_i hl;have hplen:=K3 hd0 hl;have e:((Uv p d).length+1-d.length)+1<=p.length+1-d.length:=by omega
   have:=Nat.mul_le_mul_right (Kd+1) e;rw[Nat.add_mul,Nat.one_mul] at this;have h1:=Zc6 hJ hd (by
    have h2:1*(Kd+1)<=(p.length+1-d.length)*(Kd+1):=Nat.mul_le_mul_right _ (by omega);omega) hd0 hl hN
   exact Za.loop h1 (ih (Uv p d) (J+Kd+1) (by omega) (La hJ hd) (by omega) (by omega))
  ·rename_i hl;exact Za.loop_out (Zkj (p.map cn) (d.map cn) (cn (top d)) (by rw[decide_eq_false_iff_not,List.length_map,List.length_map];omega)) (by nofun)
theorem Te {x y:List Int} (hy:Ze y ≠ []):J3 x (Ze y)=J3 x (prim y):=by
 unfold J3;rw[<- Hr y,Sz (by have:=H3 hy;omega)]
theorem Ea {rs ss:List Rn} {J K:Nat} (hr:∀ r∈rs,Q5 J r) (hs:∀ r∈ss,Q5 K r) (hJ:J<1000000) (hK:K<1000000) (hn:rs.length<=1048576) (hm:ss.length<=1048576) (h0:Ze (Zf ss) ≠ []) (hS:J+((Ze (Zf rs)).length+1-(Ze (Zf ss)).length)*(K+1)<1000000) :
  Zc Yir 119 [.sl rs.length (pc rs),.sl ss.length (pc ss)] (plA (J3 (prim (Zf rs)) (prim (Zf ss)))):=by
 have p1:=V6 hr hJ hn;have p2:=Xf (fun r h=>(hs r h).mono (show K<=1048576 by omega)) hm;have k1:Kb J (prim (Zf rs)):=(Bx (Q2 hr)).prim;have k2:Kb K (Ze (Zf ss)):=(Bx (Q2 hs)).trim;have l1:(prim (Zf rs)).length<=rs.length:=by rw[Qr];have:=Qb (Zf rs);rwa [Zn] at this
 have l2:(Ze (Zf ss)).length<=ss.length:=by have:=Qb (Zf ss);rwa [Zn] at this
 have hl:=List.length_pos_iff.2 h0;have hlp:=Zc7 k2 h0 (prim (Zf rs)).length (prim (Zf rs)) J (Nat.le_refl _) k1 (by rw[Qr];exact hS) (by omega);have e1:i64.wrap (((((Ze (Zf ss)).map cn).length:Nat):Int)-1)=(((Ze (Zf ss)).length-1:Nat):Int):=by rw[List.length_map,w64 (by omega) (by omega)];omega
 rw[<- Te h0];exact Zyc rs ss _ _ ((J3 (prim (Zf rs)) (Ze (Zf ss))).map cn) (cn (top (Ze (Zf ss)))) (U2 p1) (U2 p2) (by rw[e1,List.length_map];omega) (by
  rw[e1,Int.toNat_natCast,X3 (show (Ze (Zf ss)).length-1<(Ze (Zf ss)).length by omega)];exact hlp)
theorem Pb:∀ (f:Nat) (x y:List Int) (M:Nat),0<M->y.length<=f->y.length<=x.length->x.length<=1048576->prim x=x->prim y=y->Kb (M-1) x->Kb (M-1) y->M*phi x.length y.length<=500000 ->
  ∃ bs,Za Yir (.loop Zas) (B1 (x.map cn) (y.map cn)) (.exit 0) (B1 ((Gv f x y).map cn) bs):=by
 intro f;induction f with
 | zero =>
  intro x y M _ h1 _ _ _ _ _ _ _;have:y=[]:=List.eq_nil_of_length_eq_zero (by omega);subst this;exact⟨_,Za.loop_out (Zj9 _ _ (by simp)) (by nofun)⟩
 | succ f ih =>
  intro x y M hM h1 h2 h3 px py kx ky hphi;simp only[Gv];split
  ·rename_i h;subst h;exact⟨_,Za.loop_out (Zj9 _ _ (by simp)) (by nofun)⟩
  ·rename_i h;have hyl:=List.length_pos_iff.2 h;obtain⟨r1,r2,r3⟩:=Ht hM (Ql px) h kx ky h2;have hM':0<M*(x.length-y.length+2):=Nat.mul_pos hM (by omega);have hMle:M<=M*(x.length-y.length+2):=Nat.le_mul_of_pos_right M (by omega);have hbig:M*(x.length-y.length+2)<=500000:=by
    refine Nat.le_trans (Nat.mul_le_mul_left _ ?_) hphi;unfold phi;exact Nat.le_mul_of_pos_right _ (Nat.pow_pos (by decide))
   have hrem:=Ea (rs:=x.map cn) (ss:=y.map cn) (Z2 kx) (Z2 ky) (by omega) (by omega) (by rw[List.length_map];exact h3) (by rw[List.length_map];omega) (by rw[Z3,Ql py];exact h) (by
    rw[Z3,Z3,Ql px,Ql py,Nat.sub_add_cancel hM,show x.length+1-y.length=x.length-y.length+1 by omega,Nat.mul_comm _ M];have:M*(x.length-y.length+2)=M*(x.length-y.length+1)+M:=by rw[<- Nat.mul_succ]
    omega)
   rw[Z3,Z3,px,py] at hrem;have k:=Zka (x.map cn) (y.map cn) _ (by simp;omega) hrem;obtain⟨bs,hb⟩:=ih y (J3 x y) (M*(x.length-y.length+2)) hM' (by omega) (by omega) (by omega) py (V0 _ _ _ px) (ky.mono (by omega)) r3 (Hu r2 hphi);exact⟨bs,Za.loop k hb⟩
theorem D9 {rs ss:List Rn} {g:List Int} {bs:List Rn} {K:Nat} (hr:∀ r∈rs,Q5 K r) (hs:∀ r∈ss,Q5 K r) (hK:K<1000000) (hn:rs.length<=1048576) (hm:ss.length<=1048576) {Kg:Nat} (hg:Kb Kg g) (hgL:Vn g) (hKg:Kg<=1048576) (hgl:g.length<=1048576)
  (hl:Za Yir (.loop Zas) (B1 ((prim (Zf rs)).map cn) ((prim (Zf ss)).map cn)) (.exit 0) (B1 (g.map cn) bs)) :
  Za0 70 [.sl rs.length (pc rs),.sl ss.length (pc ss)] (Qz g):=by
 have p1:=V6 hr hK hn;have p2:=V6 hs hK hm;obtain⟨q1,q2⟩:=Gt hg hgL hKg hgl;by_cases h:top g<0
 ·exact .inl (Zo3 rs ss _ _ (g.map cn) bs _ (U2 p1) (U2 p2) hl (q1 h))
 ·rw[Af h];exact .inr (Zo2 rs ss _ _ (g.map cn) bs (U2 p1) (U2 p2) hl (q2 h))
theorem S9 {rs ss:List Rn} {K c:Nat} (hr:∀ r∈rs,Q5 K r) (hs:∀ r∈ss,Q5 K r) (hn:rs.length<=c) (hm:ss.length<=c) (hc:c<=1048576) (hS:(K+1)*(2*3^c)<=500000) :
  Za0 70 [.sl rs.length (pc rs),.sl ss.length (pc ss)] (Qz (Ze8 (prim (Zf rs)) (prim (Zf ss)))):=by
 have h3:0<3^c:=Nat.pow_pos (by decide);have hK:K+1<=500000:=by
  have:(K+1)*1<=(K+1)*(2*3^c):=Nat.mul_le_mul_left _ (by omega);omega
 have k1:Kb K (prim (Zf rs)):=(Bx (Q2 hr)).prim;have k2:Kb K (prim (Zf ss)):=(Bx (Q2 hs)).prim;have l1:(prim (Zf rs)).length<=rs.length:=by rw[Qr];have:=Qb (Zf rs);rwa [Zn] at this
 have l2:(prim (Zf ss)).length<=ss.length:=by rw[Qr];have:=Qb (Zf ss);rwa [Zn] at this
 unfold Ze8;split
 ·rename_i hl;have hphi:(K+1)*phi (prim (Zf rs)).length (prim (Zf ss)).length<=500000:=Nat.le_trans (Nat.mul_le_mul_left _ (Eg hl (by omega))) hS;obtain⟨bs,hb⟩:=Pb (prim (Zf ss)).length (prim (Zf rs)) (prim (Zf ss)) (K+1) (by omega) (Nat.le_refl _) hl (by omega) (Qf _) (Qf _) k1 k2 hphi;obtain⟨s1,s2⟩:=Hw (prim (Zf ss)).length (prim (Zf rs)) (prim (Zf ss)) (K+1) (by omega) (Nat.le_refl _) hl (Qt _) (Qt _) k1 k2;exact D9 hr hs (by omega) (by omega) (by omega) s1 (Ql (Hs _ _ _ (Qf _) (Qf _))) (by omega) (by omega) hb
 ·rename_i hl;have hphi:(K+1)*phi (prim (Zf ss)).length (prim (Zf rs)).length<=500000:=Nat.le_trans (Nat.mul_le_mul_left _ (Eg (by omega) (by omega))) hS;obtain⟨bs,hb⟩:=Pb (prim (Zf rs)).length (prim (Zf ss)) (prim (Zf rs)) (K+1) (by omega) (Nat.le_refl _) (by omega) (by omega) (Qf _) (Qf _) k2 k1 hphi;obtain⟨s1,s2⟩:=Hw (prim (Zf rs)).length (prim (Zf ss)) (prim (Zf rs)) (K+1) (by omega) (Nat.le_refl _) (by omega) (Qt _) (Qt _) k2 k1;have hy0:prim (Zf ss) ≠ []:=by intro h;rw[h] at hl;simp at hl
  have hsw:J3 (prim (Zf rs)) (prim (Zf ss))=prim (Zf rs):=by
   unfold J3;cases hx:(prim (Zf rs)).length with
   | zero=>rfl
   | succ n=>simp only[Vv];rw[if_neg hl]
  have hrem:=Ea (rs:=(prim (Zf rs)).map cn) (ss:=(prim (Zf ss)).map cn) (Z2 k1) (Z2 k2) (by omega) (by omega) (by rw[List.length_map];omega) (by rw[List.length_map];omega) (by rw[Z3,Qt];exact hy0) (by
   rw[Z3,Z3,Qt,Qt,show (prim (Zf rs)).length+1-(prim (Zf ss)).length=0 by omega,Nat.zero_mul];omega)
  rw[Z3,Z3,Qf,Qf,hsw] at hrem;have k:=Zka ((prim (Zf rs)).map cn) ((prim (Zf ss)).map cn) _ (by rw[decide_eq_true_eq,List.length_map];omega) hrem;exact D9 hr hs (by omega) (by omega) (by omega) s1 (Ql (Hs _ _ _ (Qf _) (Qf _))) (by omega) (by omega) (Za.loop k hb)
end Go.Proofs.YtopjpgejefileaaGreat

namespace Go.Proofs.YtopjpgejefileaaGreat
open Go.IntKind (i64 u64 u32)
open Go.Ai
set_option maxRecDepth 100000
section
variable {p d:List Int} {J Kd:Nat}
theorem Zwh {t:Int} {l:Rn} {rs ds:List Rn} {q:Int} (hp:Kb J p) (ht:Jc Kd t) (hS:J+Kd<1000000) (hN:p.length<=1048576) :
  Za Yir (.loop Mn) (Gq rs ds (cn t) p.length (p.map cn) l q 0) (.exit 2) (Gq rs ds (cn t) p.length ((Zy t p).map cn) l q (p.length:Nat)):=by
 have hE:((Zy t p).map cn).length=(p.map cn).length:=by rw[List.length_map,List.length_map,Zx]
 have hpl:(p.map cn).length=p.length:=List.length_map ..;have h:=Za.up (prog:=Yir) (c:=Mn) (ex := .exit 2) (fin:=Gq rs ds (cn t) p.length ((Zy t p).map cn) l q (p.length:Nat))
  (fun i=>Gq rs ds (cn t) p.length (Fn ((Zy t p).map cn) (p.map cn) i) l q (i:Nat)) p.length (by nofun) ?_ ?_ 0 (Nat.zero_le _)
 ·rw[Fj] at h;exact h
 ·intro i hi;have ei:i64.wrap ((i:Int)+1)=((i+1:Nat):Int):=by rw[w64 (by omega) (by omega)];omega
  have hml:=U9 hE i;have hget:=Fl hE (i:=i) (by omega);have hEi:((Zy t p).map cn).getD i z0=cn ((Zy t p).getD i 0):=X3 (by rw[Zx];exact hi);have hset:=Fk hE (i:=i) (by omega);rw[hEi,Z5] at hset;have gp:=Z1 (Z2 hp) i;have gt:=Qi ht;have vi:=Va p i;have m1:=Zfp gp gt (by omega);generalize Fn ((Zy t p).map cn) (p.map cn) i=M at *
  have k:=Zr9 rs ds (cn t) p.length M l q (i:Nat) (by simp;omega) (by omega) (by omega) (by rw[Int.toNat_natCast,hget];exact m1);refine k.to rfl ?_;simp only[ei,Int.toNat_natCast,hget];rw[vi,Z0,Int.mul_comm,hset]
 ·rw[show Fn ((Zy t p).map cn) (p.map cn) p.length=(Zy t p).map cn by have h:=Fm hE;rw[hpl] at h;exact h];exact Zr8 _ _ _ _ _ _ _ _ (by simp)
theorem Zwg {b:Int} {k:Nat} {os:List Rn} (hp:Kb J p) (hd:Kb Kd d) (hb:Jc J b) (hS:J+Kd+1<1000000) (hd0:d ≠ []) (hl:d.length<=p.length) (hN:p.length<=1048576) :
  Za Yir (.loop Nd) (W4 (p.map cn) (d.map cn) (cn (top d)) k os (cn b) ((p.length-d.length:Nat):Int) 0 [] 0) (.exit 4)
   (W4 (p.map cn) (d.map cn) (cn (top d)) k os (cn b) ((p.length-d.length:Nat):Int) (p.length-1) (pc ((Uz p d (top d) b (p.length-1)).map cn)) ((p.length-1:Nat):Int)):=by
 have hdl:=List.length_pos_iff.2 hd0;have hlm:(p.map cn).length=p.length:=List.length_map ..;have hld:(d.map cn).length=d.length:=List.length_map ..;have e1:i64.wrap ((((p.map cn).length:Nat):Int)-1)=((p.length-1:Nat):Int):=by rw[hlm,w64 (by omega) (by omega)];omega
 have h:=Za.up (prog:=Yir) (c:=Nd) (ex := .exit 4) (fin:=W4 (p.map cn) (d.map cn) (cn (top d)) k os (cn b) ((p.length-d.length:Nat):Int) (p.length-1) (pc ((Uz p d (top d) b (p.length-1)).map cn)) ((p.length-1:Nat):Int))
  (fun i=>W4 (p.map cn) (d.map cn) (cn (top d)) k os (cn b) ((p.length-d.length:Nat):Int) i (pc ((List.range i).map fun j=>cn (gst p d (top d) b j))) (i:Nat)) (p.length-1) (by nofun) ?_ ?_ 0 (Nat.zero_le _)
 ·exact h
 ·intro i hi;have ei:i64.wrap ((i:Int)+1)=((i+1:Nat):Int):=by rw[w64 (by omega) (by omega)];omega
  have gp:=Z1 (Z2 hp) i;have ga:=Qi (Ua hd);have gb:=Qi hb;have vi:=Va p i;have m1:=Zfp ga gp (by omega);have va:=Z0 (top d);by_cases hat:p.length-d.length<=i
  ·have ea:i64.wrap ((i:Int)-((p.length-d.length:Nat):Int))=((i-(p.length-d.length):Nat):Int):=by rw[w64 (by omega) (by omega)];omega
   have gq:=Z1 (Z2 hd) (i-(p.length-d.length));have vq:=Va d (i-(p.length-d.length));have m2:=Zfp gb gq (by omega);have f1:Jc (Kd+J) (Zh (cn (top d))*Zh ((p.map cn).getD i z0)):=ga.fits.mul gp.fits;have f2:Jc (J+Kd) (Zh (cn b)*Zh ((d.map cn).getD (i-(p.length-d.length)) z0)):=gb.fits.mul gq.fits;have m3:=rm_cn (Qi f1) (Qi f2) (by omega) (by omega);rw[Z0 (Zh (cn (top d))*_),Z0 (Zh (cn b)*Zh ((d.map cn).getD (i-(p.length-d.length)) z0))] at m3;have k:=Zr7 (p.map cn) (d.map cn) (cn (top d)) k os (cn b) ((p.length-d.length:Nat):Int) i (pc ((List.range i).map fun j=>cn (gst p d (top d) b j))) (i:Nat) (by rw[e1,decide_eq_true_eq];omega) (by rw[decide_eq_true_eq];omega) (by omega) (by rw[ea];omega) (by omega)
    (by rw[Int.toNat_natCast];exact m1) (by rw[ea,Int.toNat_natCast];exact m2) (by rw[ea,Int.toNat_natCast,Int.toNat_natCast];exact m3)
   refine k.to rfl ?_;rw[ea,Int.toNat_natCast,Int.toNat_natCast,ei];rw[<- Uh (gst p d (top d) b) i];unfold gst;rw[if_pos hat,va,vi,Z0,vq]
  ·have k:=Zr6 (p.map cn) (d.map cn) (cn (top d)) k os (cn b) ((p.length-d.length:Nat):Int) i (pc ((List.range i).map fun j=>cn (gst p d (top d) b j))) (i:Nat) (by rw[e1,decide_eq_true_eq];omega) (by rw[decide_eq_false_iff_not];omega) (by omega) (by omega)
    (by rw[Int.toNat_natCast];exact m1)
   refine k.to rfl ?_;rw[Int.toNat_natCast,ei];rw[<- Uh (gst p d (top d) b) i];unfold gst;rw[if_neg hat,va,vi]
 ·show Za _ _ (W4 _ _ _ _ _ _ _ _ (pc ((List.range (p.length-1)).map fun j=>cn (gst p d (top d) b j))) _) _ _;rw[Zg8];exact Zr5 _ _ _ _ _ _ _ _ _ _ (by rw[e1,decide_eq_false_iff_not];omega)
end
theorem Zc8 {d:List Int} {Kd:Nat} (hd:Kb Kd d) (hd0:d ≠ []):∀ (f:Nat) (r out:List Int) (J:Nat),r.length<=f->Kb J r->Kb J out->J+(r.length+1-d.length)*(Kd+1)<1000000->r.length+1<=out.length+d.length->out.length<=1048576->r.length<=1048576 ->
  (∃ r',Za Yir (.loop Zlz) (Zag (r.map cn) (d.map cn) (cn (top d)) out.length (out.map cn)) (.exit 0) (Zag r' (d.map cn) (cn (top d)) out.length ((Ti d f r out).map cn)))/\Kb (J+(r.length+1-d.length)*(Kd+1)) (Ti d f r out)/\(Ti d f r out).length=out.length:=by
 have hdl:=List.length_pos_iff.2 hd0;have hld:(d.map cn).length=d.length:=List.length_map ..;intro f;induction f with
 | zero =>
  intro r out J hf _ ho _ _ _ _;exact⟨⟨_,Za.loop_out (Zki (r.map cn) (d.map cn) (cn (top d)) out.length (out.map cn) (by rw[decide_eq_false_iff_not,List.length_map,List.length_map];omega)) (by nofun)⟩,ho.mono (Nat.le_add_right _ _),rfl⟩
 | succ f ih =>
  intro r out J hf hJ ho hS hlo hN1 hN;have hlm:(r.map cn).length=r.length:=List.length_map ..;simp only[Ti];split
  ·rename_i hl;have e1:i64.wrap ((((r.map cn).length:Nat):Int)-1)=((r.length-1:Nat):Int):=by rw[hlm,w64 (by omega) (by omega)];omega
   have e2:i64.wrap ((((r.map cn).length:Nat):Int)-(((d.map cn).length:Nat):Int))=((r.length-d.length:Nat):Int):=by rw[hlm,hld,w64 (by omega) (by omega)];omega
   have hlen:=K7 hd0 hl;have e:((Ze (Uz r d (top d) (top r) (r.length-1))).length+1-d.length)+1<=r.length+1-d.length:=by omega
   have hmul:=Nat.mul_le_mul_right (Kd+1) e;rw[Nat.add_mul,Nat.one_mul] at hmul;have hsz:J+Kd+1<1000000:=by omega
   have kE:Kb (J+Kd+1) (Uz r d (top d) (top r) (r.length-1)):=Lc hJ hd (Ua hd) (Ua hJ) _;have hlE:=Xa r d (top d) (top r) (r.length-1);have hps:=Lb ho (Ua hd);have ht:=Xf (rs:=(Uz r d (top d) (top r) (r.length-1)).map cn) (fun x hx=>(Z2 kE x hx).mono (by omega)) (by rw[List.length_map];omega);rw[Z3,List.length_map,hlE] at ht;have hu:(r.map cn).getD (r.length-1) z0=cn (top r):=X3 (by omega);have hset:((Zy (top d) out).map cn).set (r.length-d.length) (cn (top r))=((Zy (top d) out).set (r.length-d.length) (top r)).map cn:=by rw[List.map_set]
   obtain⟨⟨r',hr'⟩,kb,len⟩:=ih (Ze (Uz r d (top d) (top r) (r.length-1))) ((Zy (top d) out).set (r.length-d.length) (top r)) (J+Kd+1) (by omega) kE.trim (Zu9 (hps.mono (by omega)) ((Ua hJ).mono (by omega)) _) (by omega) (by rw[List.length_set,Zx];omega) (by rw[List.length_set,Zx];exact hN1) (by omega);rw[List.length_set,Zx] at hr' len;refine⟨⟨r',Za.loop ?_ hr'⟩,kb.mono (by omega),len⟩;have k:=Z0r (r.map cn) (d.map cn) (cn (top d)) out.length (out.map cn) ((Zy (top d) out).map cn) ((Uz r d (top d) (top r) (r.length-1)).map cn) _ (r.length-1) (out.length:Nat) ((r.length-1:Nat):Int) (by rw[decide_eq_true_eq];omega) (by rw[e1];omega)
    (by rw[e1,e2,Int.toNat_natCast,hu];exact Zwh ho (Ua hd) (by omega) hN1) (by rw[e2];omega) (by rw[List.length_map,Zx])
    (by rw[e1,e2,Int.toNat_natCast,Int.toNat_natCast,hu];exact Zwg hJ hd (Ua hJ) hsz hd0 hl hN) (U2 ht)
   rw[e1,e2,Int.toNat_natCast,Int.toNat_natCast,hu,hset] at k;exact k
  ·rename_i hl;exact⟨⟨_,Za.loop_out (Zki (r.map cn) (d.map cn) (cn (top d)) out.length (out.map cn) (by rw[decide_eq_false_iff_not,List.length_map,List.length_map];omega)) (by nofun)⟩,ho.mono (Nat.le_add_right _ _),rfl⟩
theorem Zf4 {p q:List Int} {J K:Nat} (hp:Kb J p) (hq:Kb K q) (lp:Vn p) (lq:Vn q) (hq0:q ≠ []) (tq:0<top q) (tp:0<top p) (hl:q.length<=p.length) (hN:p.length<=1000000) (hS:J+(p.length+1-q.length)*(K+1)<1000000) :
  Zc Yir 123 [.sl (p.map cn).length (pc (p.map cn)),.sl (q.map cn).length (pc (q.map cn))] (plA (prim (Ti q p.length p (List.replicate (p.length-q.length+1) 0)))):=by
 have hql:=List.length_pos_iff.2 hq0;have hlp:(p.map cn).length=p.length:=List.length_map ..;have hlq:(q.map cn).length=q.length:=List.length_map ..;have h1:1*(K+1)<=(p.length+1-q.length)*(K+1):=Nat.mul_le_mul_right _ (by omega);have t1:=Xf (rs:=p.map cn) (fun r h=>(Z2 hp r h).mono (show J<=1048576 by omega)) (by omega);have t2:=Xf (rs:=q.map cn) (fun r h=>(Z2 hq r h).mono (show K<=1048576 by omega)) (by omega);rw[Z3,lp] at t1;rw[Z3,lq] at t2;have hz:(List.replicate (p.length-q.length+1) (0:Int)).map cn=List.replicate (p.length-q.length+1) z0:=by rw[List.map_replicate,z0_cn]
 obtain⟨⟨r',hlp2⟩,kb,len⟩:=Zc8 hq hq0 p.length p (List.replicate (p.length-q.length+1) 0) J (Nat.le_refl _) hp (fun i=>by rw[Jn];exact Vl _) hS (by simp;omega) (by simp;omega) (by omega);rw[List.length_replicate] at hlp2 len;obtain⟨c',r1,a1,a2,_,a4⟩:=Dn (p:=p) hq0 tq hl;have tO:=Zbp a1 tp hq0 tq hl len a4 a2;generalize Ti q p.length p (List.replicate (p.length-q.length+1) 0)=o at *
 have e1:i64.wrap ((((q.map cn).length:Nat):Int)-1)=((q.length-1:Nat):Int):=by rw[hlq,w64 (by omega) (by omega)];omega
 have e2:i64.wrap (i64.wrap ((((p.map cn).length:Nat):Int)-(((q.map cn).length:Nat):Int))+1)=((p.length-q.length+1:Nat):Int):=by
  rw[hlp,hlq,w64 (n:=(p.length:Int)-(q.length:Nat)) (by omega) (by omega),w64 (by omega) (by omega)];omega
 have t3:=Xf (rs:=o.map cn) (fun r h=>(Z2 kb r h).mono (by omega)) (by rw[List.length_map];omega);rw[Z3,List.length_map,len] at t3;have htl:=Qb o;have p3:=V6 (rs:=(Ze o).map cn) (Z2 kb.trim) (by omega) (by rw[List.length_map];omega);rw[Z3,Fc (Je o)] at p3;have hpl:(prim o).length<=o.length:=by rw[Qr];exact htl
 have hps:=(Gt (p:=prim o) kb.prim (Qt o) (by omega) (by omega)).2 (by have:=D6 tO;omega);exact Zx9 (p.map cn) (q.map cn) (p.map cn) (q.map cn) r' (o.map cn) _ _ (cn (top q)) (p.length-q.length+1) (U2 t1) (U2 t2) (by rw[e1,hlq];omega) (by rw[e2];omega)
  (by rw[e1,e2,Int.toNat_natCast,Int.toNat_natCast,A7,<- hz,X3 (show q.length-1<q.length by omega)];exact hlp2) (U2 t3) (U2 p3) hps
theorem Znj {p:List Int} {c:Int} (hc:0<c) (hp:prim p=p) (hl:1<=p.length):prim (Ti [c] p.length p (List.replicate (p.length-1+1) 0))=p:=by
 obtain⟨c',r',a1,a2,_,a4⟩:=Dn (p:=p) (d:=[c]) (by simp) (show 0<top [c] from hc) hl;have lq:Vn [c]:=Tm (.inr (by show c ≠ 0;omega));have h:=Ec a1 hc (A8 (o2:=p) (r2:=[]) (c2:=c) lq (by simp) a4 (fun x=>by simp[Zg]) a2 (fun i _=>rfl));rw[hp] at h;exact h
theorem A9 {rs:List Rn} {K c:Nat} (hr:∀ r∈rs,Q5 K r) (hn:rs.length<=c) (hc:c<=9) (hS:(K+3)*(2*3^c)<=500000):Zc Yir 73 [.sl rs.length (pc rs)] (plA (Qg (Zf rs))):=by
 have h3:0<3^c:=Nat.pow_pos (by decide);have hK:K+3<=250000:=by
  have:(K+3)*2<=(K+3)*(2*3^c):=Nat.mul_le_mul_left _ (by omega);omega
 have p1:=U2 (V6 hr (by omega) (by omega));have k1:Kb K (prim (Zf rs)):=(Bx (Q2 hr)).prim;have l1:(prim (Zf rs)).length<=rs.length:=by rw[Qr];have:=Qb (Zf rs);rwa [Zn] at this
 obtain⟨q1,q2⟩:=Gt k1 (Qt _) (by omega) (by omega);have ka:Kb K (Qz (prim (Zf rs))):=by
  unfold Qz;split
  ·intro i;rw[Vk];exact (k1 i).neg
  ·exact k1
 have la:=W9 (prim (Zf rs));have lda:Vn (Qz (prim (Zf rs))):=Fp (Qt _);have hpp:(¬ top (prim (Zf rs))<0)->Qz (prim (Zf rs))=prim (Zf rs):=Af;have hder:=Zbr (rs:=(Qz (prim (Zf rs))).map cn) (Z2 ka) (by omega) (by rw[List.length_map];omega);rw[Z3] at hder;have hder':=U2 hder;have kd:Kb (K+2) (Qv (Qz (prim (Zf rs)))):=Tq ka (by omega);have ld:(Qv (Qz (prim (Zf rs)))).length<=c:=by have:=Zbx (Qz (prim (Zf rs)));omega
 have hcom:=S9 (rs:=(Qz (prim (Zf rs))).map cn) (ss:=(Qv (Qz (prim (Zf rs)))).map cn) (K:=K+2) (c:=c) (fun r h=>(Z2 ka r h).mono (by omega)) (Z2 kd) (by rw[List.length_map];omega) (by rw[List.length_map];exact ld) (by omega) hS;rw[Z3,Z3] at hcom;change Za0 70 _ (Wd (Qz (prim (Zf rs))) (Qv (Qz (prim (Zf rs))))) at hcom;have hover:2<=(Qz (prim (Zf rs))).length->Zc Yir 123 [.sl ((Qz (prim (Zf rs))).map cn).length (pc ((Qz (prim (Zf rs))).map cn)),.sl ((Wd (Qz (prim (Zf rs))) (Qv (Qz (prim (Zf rs))))).map cn).length (pc ((Wd (Qz (prim (Zf rs))) (Qv (Qz (prim (Zf rs))))).map cn))] (plA (Qg (Zf rs))):=by
  intro h2;have hp0:Ze (Zf rs) ≠ []:=by
   intro h0;have:prim (Zf rs)=[]:=Ve.2 (Xi.1 h0);rw[this] at h2;exact absurd h2 (by decide)
  obtain⟨a1,a2,a3,a4,_,_⟩:=Tf hp0;have hta:Ze (Qz (prim (Zf rs))) ≠ []:=Uo a1 a2;obtain⟨b1,b2⟩:=Zg3 (t:=Qv (Qz (prim (Zf rs)))) hta (by omega) ka;rw[a1] at b2;have nG:=Dk (t:=Qv (Qz (prim (Zf rs)))) hta;have lG:=K9 (Qz (prim (Zf rs))) (Qv (Qz (prim (Zf rs))));have tG:=Zba (t:=Qv (Qz (prim (Zf rs)))) hta;have h:=Zf4 ka b1 lda lG nG tG a4 b2 (by omega) (by
   have h4:(Qz (prim (Zf rs))).length+1-(Wd (Qz (prim (Zf rs))) (Qv (Qz (prim (Zf rs))))).length<=10:=by omega
   have h5:=Nat.mul_le_mul_right (K+3+1) h4;have h6:3^2<=3^c:=Nat.pow_le_pow_right (by decide) (by omega);have h7:(K+3)*18<=(K+3)*(2*3^c):=Nat.mul_le_mul_left _ (by omega);omega)
  have e:prim (Ti (Wd (Qz (prim (Zf rs))) (Qv (Qz (prim (Zf rs))))) (Qz (prim (Zf rs))).length (Qz (prim (Zf rs))) (List.replicate ((Qz (prim (Zf rs))).length-(Wd (Qz (prim (Zf rs))) (Qv (Qz (prim (Zf rs))))).length+1) 0))=Qg (Zf rs):=by
   unfold Qg;by_cases hg:(Wd (Qz (prim (Zf rs))) (Qv (Qz (prim (Zf rs))))).length<2
   ·rw[if_pos (.inr hg)];have hgl:=List.length_pos_iff.2 nG;obtain⟨c,hc⟩:=Zgj (show (Wd (Qz (prim (Zf rs))) (Qv (Qz (prim (Zf rs))))).length=1 by omega);rw[hc] at tG |-;exact Znj tG (K4 a1 a3) (by omega)
   ·rw[if_neg (by omega)];exact (Zwy lG nG tG b2).symm
  rw[e] at h;exact h
 by_cases hs:(Qz (prim (Zf rs))).length<2
 ·have e:Qg (Zf rs)=Qz (prim (Zf rs)):=by unfold Qg;rw[if_pos (.inl hs)]
  rw[e];by_cases ht:top (prim (Zf rs))<0
  ·exact Zan rs _ _ (by rw[decide_eq_true_eq,List.length_map];omega) p1 (q1 ht)
  ·rw[hpp ht] at hs |-;exact Zaj rs _ (by rw[decide_eq_true_eq,List.length_map];omega) p1 (q2 ht)
 ·have hover:=hover (by omega);by_cases ht:top (prim (Zf rs))<0
  ·rcases hcom with h | h
   ·exact Zam rs _ _ _ _ _ (by rw[decide_eq_false_iff_not,List.length_map];omega) p1 (q1 ht) hder' h hover
   ·exact Zal rs _ _ _ _ _ (by rw[decide_eq_false_iff_not,List.length_map];omega) p1 (q1 ht) hder' h hover
  ·rw[hpp ht] at *
   rcases hcom with h | h
   ·exact Zak rs _ _ _ _ (by rw[decide_eq_false_iff_not,List.length_map];omega) p1 (q2 ht) hder' h hover
   ·exact Zai rs _ _ _ _ (by rw[decide_eq_false_iff_not,List.length_map];omega) p1 (q2 ht) hder' h hover
end Go.Proofs.YtopjpgejefileaaGreat
