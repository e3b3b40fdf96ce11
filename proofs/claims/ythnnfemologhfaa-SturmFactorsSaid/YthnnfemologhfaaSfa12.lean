/- Texts of the proof of SturmFactors, packed by pack.py: part 12 of 17. -/
import Derived.Test.YthnnfemologhfaaSfa11
namespace Go.Ai
open Go.IntKind (i64 u64 u32)
def Kb (K:Nat) (r:List Int):Prop:=∀ i,Jh K (r.getD i 0)
theorem Kb.mono {J K:Nat} {r:List Int} (h:Kb J r) (hk:J≤K):Kb K r:=fun i=>(h i).mono hk
theorem Kb.mem {K:Nat} {r:List Int} (h:Kb K r):∀ x∈r,Jh K x:=fun x hx=>by
 obtain⟨i,hi,rfl⟩:=List.mem_iff_getElem.1 hx
 have:=h i
 rwa [List.getD_eq_getElem?_getD,List.getElem?_eq_getElem hi] at this
theorem Mq {K:Nat} {r:List Int} (h:∀ x∈r,Jh K x):Kb K r:=Mt h
theorem Kb.prim {K:Nat} {r:List Int} (h:Kb K r):Kb K (prim r):=Zd2 h
def top (r:List Int):Int:=r.getD (r.length-1) 0
def K3 (r d:List Int) (a b:Int) (n:Nat):List Int:=(List.range n).map fun i=>if r.length-d.length≤i then a*r.getD i 0-b*d.getD (i-(r.length-d.length)) 0 else a*r.getD i 0
theorem X5 (r d:List Int) (a b:Int) (n:Nat):(K3 r d a b n).length=n:=by simp [K3]
theorem Wa (f:Nat→Int) (n i:Nat):((List.range n).map f).getD i 0=if i<n then f i else 0:=by
 rw[List.getD_eq_getElem?_getD,List.getElem?_map]
 by_cases h:i<n
 ·rw[List.getElem?_range h,if_pos h];rfl
 ·rw[List.getElem?_eq_none (by simpa using h),if_neg h];rfl
theorem Ug (r d:List Int) (a b:Int) (n i:Nat):(K3 r d a b n).getD i 0=if i<n then (if r.length-d.length≤i then a*r.getD i 0-b*d.getD (i-(r.length-d.length)) 0 else a*r.getD i 0) else 0:=Wa _ _ _
theorem Zdq {J K:Nat} {r d:List Int} {a b:Int} (hr:Kb J r) (hd:Kb K d) (ha:Jh K a) (hb:Jh J b) (n:Nat):Kb (J+K+1) (K3 r d a b n):=by
 intro i
 rw[Ug]
 have h1:=(Jh.mul ha (hr i))
 have h2:=(Jh.mul hb (hd (i-(r.length-d.length))))
 rw[Nat.add_comm] at h1
 split
 ·split
  ·exact h1.add h2.neg
  ·exact h1.mono (by omega)
 ·exact Wc _
theorem Zee {r d:List Int} {a b:Int} (hd:d ≠ []) (hl:d.length≤r.length) (h:a*top r=b*top d) (i:Nat):(K3 r d a b r.length).getD i 0=(K3 r d a b (r.length-1)).getD i 0:=by
 have:=List.length_pos_iff.2 hd
 rw[Ug,Ug]
 by_cases h1:i<r.length-1
 ·rw[if_pos h1,if_pos (by omega)]
 ·rw[if_neg h1]
  split
  ·have:i=r.length-1:=by omega
   subst this
   rw[if_pos (by omega),show r.length-1-(r.length-d.length)=d.length-1 by omega]
   unfold top at h
   omega
  ·rfl
theorem Zaq (r d:List Int) (k a b:Int) (n i:Nat):(K3 r d (k*a) (k*b) n).getD i 0=k*(K3 r d a b n).getD i 0:=by
 rw[Ug,Ug]
 split
 ·split
  ·rw[Int.mul_sub,Int.mul_assoc,Int.mul_assoc]
  ·rw[Int.mul_assoc]
 ·simp
theorem Zar (r d:List Int) (c a b:Int) (n:Nat):K3 r (Zu c d) a b n=K3 r d a (b*c) n:=by
 apply K1 (by rw[X5,X5])
 intro i
 rw[Ug,Ug,Z2,show (Zu c d).length=d.length by simp[Zu]]
 rw[Int.mul_assoc]
def sg (n:Int):Int:=if n<0 then -1 else 1
theorem sg_mul (n:Int):sg n*n=(n.natAbs:Int):=by unfold sg;split <;> omega
def U0 (r d:List Int):List Int:=prim (K3 r d ((top d).natAbs:Int) (sg (top d)*top r) r.length)
def U5:Nat→List Int→List Int→List Int
 | 0,r,_=>r
 | f+1,r,d=>if d.length≤r.length then U5 f (U0 r d) d else r
theorem Mh (r d:List Int):((top d).natAbs:Int)*top r=sg (top d)*top r*top d:=by
 rw[← sg_mul];grind
theorem Zcr {r d:List Int} (hd:d ≠ []) (hl:d.length≤r.length):U0 r d=prim (K3 r d ((top d).natAbs:Int) (sg (top d)*top r) (r.length-1)) :=
 So (Zee hd hl (Mh r d))
theorem W8 {r d:List Int} (hd:d ≠ []) (hl:d.length≤r.length):(U0 r d).length<r.length:=by
 have:=List.length_pos_iff.2 hd
 rw[Zcr hd hl,Qx]
 have:=Qw (K3 r d ((top d).natAbs:Int) (sg (top d)*top r) (r.length-1))
 rw[X5] at this
 omega
theorem Zb2 (c:Int) (d:List Int):top (Zu c d)=c*top d:=by
 unfold top;rw[Z2,show (Zu c d).length=d.length by simp[Zu]]
theorem Tz {c:Int} (hc:0<c) (n:Int):sg (c*n)=sg n:=by
 unfold sg
 have:c*n<0↔n<0:=by
  constructor
  ·intro h
   apply Int.not_le.1
   intro hn
   have:=Int.mul_nonneg (show 0≤c by omega) hn
   omega
  ·intro h;exact Int.mul_neg_of_pos_of_neg hc h
 simp only[this]
theorem T9 {r d:List Int} {c g a b:Int} (hc:0<c) (hg:0<g) (ha:g*a=((top d).natAbs:Int)) (hb:g*b=sg (top d)*top r):U0 r (Zu c d)=prim (K3 r d a b r.length):=by
 unfold U0
 rw[Zar,Zb2,Tz hc,Int.natAbs_mul]
 apply Pf (k:=c*g) (Int.mul_pos hc hg)
 intro i
 rw[← Zaq]
 congr 2
 ·rw[Int.mul_assoc,ha,Int.natCast_mul,Int.natAbs_of_nonneg (by omega)]
 ·rw[Int.mul_assoc c g b,hb];grind
theorem Eg (r d:List Int):Ub (U0 r d):=Jl _
theorem Bx {K:Nat} {d:List Int} (h:Kb K d):Jh K (top d):=h _
theorem Nn {K:Nat} {n:Int} (h:Jh K n):Jh K (n.natAbs:Int):=by unfold Jh at *;rwa [Int.natAbs_natCast]
theorem Zom {K:Nat} {m n:Int} (h:Jh K n):Jh K (sg m*n):=by
 unfold Jh sg at *;split <;> simpa using h
theorem S7 {J K:Nat} {r d:List Int} (hr:Kb J r) (hd:Kb K d):Kb (J+K+1) (U0 r d) :=
 (Zdq hr hd (Nn (Bx hd)) (Zom (Bx hr)) _).prim
theorem Sk {d:List Int} (hd:d ≠ []) {K:Nat} (hK:Kb K d):∀ (f:Nat) (r:List Int) (J:Nat),r.length≤f→Ub r→Kb J r →
  Ub (U5 f r d)∧(U5 f r d).length<d.length∧Kb (J+(r.length+1-d.length)*(K+1)) (U5 f r d):=by
 have hd1:=List.length_pos_iff.2 hd
 intro f
 induction f with
 | zero =>
  intro r J h1 h2 h3
  exact⟨h2,by simp only[U5];omega,h3.mono (Nat.le_add_right _ _)⟩
 | succ f ih =>
  intro r J h1 h2 h3
  simp only[U5]
  split
  ·rename_i hl
   have hp:=W8 hd hl
   obtain⟨a1,a2,a3⟩:=ih (U0 r d) (J+K+1) (by omega) (Eg r d) (S7 h3 hK)
   refine⟨a1,a2,a3.mono ?_⟩
   have e:((U0 r d).length+1-d.length)+1≤r.length+1-d.length:=by omega
   have:=Nat.mul_le_mul_right (K+1) e
   rw[Nat.add_mul,Nat.one_mul] at this
   omega
  ·exact⟨h2,by omega,h3.mono (Nat.le_add_right _ _)⟩
def Q5 (x y:List Int):List Int:=U5 x.length x y
def Ff:Nat→List Int→List Int→List Int
 | 0,x,_=>x
 | f+1,x,y=>if y=[] then x else Ff f y (Q5 x y)
def Jf (x:List Int):List Int:=if top x<0 then X4 x else x
theorem Ky (d:List Int):∀ (f:Nat) (r:List Int),prim r=r→prim (U5 f r d)=U5 f r d:=by
 intro f
 induction f with
 | zero=>intro r h;exact h
 | succ f ih =>
  intro r h
  simp only[U5]
  split
  ·exact ih _ (Ja _)
  ·exact h
theorem Xa {r:List Int} (h:prim r=r):Ub r:=h ▸ Jl r
theorem Zb5 {m l:Nat} (h:l<m):(m-l+2)*3^l≤3^m:=by
 obtain⟨k,rfl⟩:∃ k,m=l+1+k:=⟨m-l-1,by omega⟩
 rw[show l+1+k-l+2=k+3 by omega,show l+1+k=(k+1)+l by omega,Nat.pow_add]
 apply Nat.mul_le_mul_right
 clear h
 induction k with
 | zero=>decide
 | succ k ih=>rw[Nat.pow_succ];omega
def phi (n m:Nat):Nat:=(n-m+2)*3^m
theorem Dp {x y:List Int} {M:Nat} (hM:0<M) (hx:Ub x) (hy:y ≠ []) (kx:Kb (M-1) x) (ky:Kb (M-1) y) (hl:y.length≤x.length) :
  Ub (Q5 x y)∧(Q5 x y).length<y.length∧Kb (M*(x.length-y.length+2)-1) (Q5 x y):=by
 obtain⟨a,b,c⟩:=Sk hy ky x.length x (M-1) (Nat.le_refl _) hx kx
 refine⟨a,b,c.mono ?_⟩
 rw[Nat.sub_add_cancel hM,show x.length+1-y.length=x.length-y.length+1 by omega,Nat.mul_comm _ M]
 have:M*(x.length-y.length+2)=M*(x.length-y.length+1)+M:=by rw[← Nat.mul_succ]
 omega
theorem Dq {n m l M T:Nat} (hl:l<m) (h:M*phi n m≤T):M*(n-m+2)*phi m l≤T:=by
 refine Nat.le_trans ?_ h
 unfold phi
 rw[Nat.mul_assoc]
 apply Nat.mul_le_mul_left
 apply Nat.mul_le_mul_left
 exact Zb5 hl
theorem Pi {n m c:Nat} (h:m≤n) (hn:n≤c):phi n m≤2*3^c:=by
 have h1:phi n m≤2*3^n:=by
  unfold phi
  obtain⟨k,rfl⟩:∃ k,n=m+k:=⟨n-m,by omega⟩
  rw[show m+k-m+2=k+2 by omega,Nat.pow_add,Nat.mul_comm (3^m),← Nat.mul_assoc]
  apply Nat.mul_le_mul_right
  clear h hn
  induction k with
  | zero=>decide
  | succ k ih=>rw[Nat.pow_succ];omega
 exact Nat.le_trans h1 (Nat.mul_le_mul_left _ (Nat.pow_le_pow_right (by decide) hn))
def Qa (p:List Int):List Int:=Ze ((List.range (p.length-1)).map fun j=>p.getD (j+1) 0*((j+1:Nat):Int))
theorem Xh (p:List Int) (i:Nat):(Qa p).getD i 0=p.getD (i+1) 0*((i+1:Nat):Int):=by
 unfold Qa
 rw[Jg,Wa]
 split
 ·rfl
 ·rw[Qi (xs:=p) (by omega),Int.zero_mul]
end Go.Ai

namespace Go.Ai
open Go.IntKind (i64 u64 u32)
theorem Ml {a b:Int} {us bs cs:List Int} (h:∀ i,cs.getD i 0=a*us.getD i 0+b*bs.getD i 0) (x:Int):Zc cs x=a*Zc us x+b*Zc bs x:=by
 have e:Zc cs x=Zc (Hr (Zu a us) (Zu b bs)) x:=U1 (fun i=>by rw[h,Xn,Z2,Z2]) x
 rw[e,Z6,Zh,Zh]
def Uy (k:Nat) (q:List Int):List Int:=List.replicate k 0++q
theorem Qo (k:Nat) (q:List Int) (i:Nat):(Uy k q).getD i 0=if k≤i then q.getD (i-k) 0 else 0:=by
 simp only[Uy,List.getD_eq_getElem?_getD,List.getElem?_append,List.length_replicate]
 split
 ·rename_i h
  rw[if_neg (by omega),List.getElem?_replicate_of_lt h];rfl
 ·rename_i h
  rw[if_pos (by omega)]
theorem X7 (k:Nat) (q:List Int) (x:Int):Zc (Uy k q) x=x^k*Zc q x:=by
 induction k with
 | zero=>simp[Uy]
 | succ k ih =>
  have:Uy (k+1) q=0::Uy k q:=by simp[Uy,List.replicate_succ]
  rw[this]
  simp only[Zc]
  rw[ih,Int.pow_succ];grind
theorem M2 {r d:List Int} (hl:d.length≤r.length) (a b x:Int):Zc (K3 r d a b r.length) x=a*Zc r x-b*(x^(r.length-d.length)*Zc d x):=by
 rw[← X7]
 have:=Ml (a:=a) (b := -b) (us:=r) (bs:=Uy (r.length-d.length) d) (cs:=K3 r d a b r.length) (fun i=>by
  rw[Ug,Qo]
  by_cases h:i<r.length
  ·rw[if_pos h];split
   ·rw[Int.neg_mul];omega
   ·simp
  ·rw[if_neg h,Qi (show r.length≤i by omega)]
   have:d.getD (i-(r.length-d.length)) 0=0:=Qi (by omega)
   split
   ·rw[this];simp
   ·simp) x
 rw[this,Int.neg_mul];omega
theorem Jy (a:Int) (p q:List Int) (i:Nat):(Jk (a::p) q).getD i 0=a*q.getD i 0+(Uy 1 (Jk p q)).getD i 0:=by
 simp only[Jk]
 rw[Xn,Z2];rfl
theorem Nd:∀ (p q:List Int),p ≠ []→q ≠ []→(Jk p q).getD (p.length+q.length-2) 0=top p*top q∧∀ i,p.length+q.length-1≤i→(Jk p q).getD i 0=0
 | [],q,h,_=>absurd rfl h
 | [a],q,_,hq=>by
  have hq1:=List.length_pos_iff.2 hq
  refine⟨?_,fun i hi => ?_⟩
  ·rw[Jy,Qo,show [a].length+q.length-2=q.length-1 by simp;omega]
   simp[Jk,top]
  ·rw[Jy,Qo,Qi (show q.length≤i by simp at hi;omega)]
   simp[Jk]
 | a::b::p,q,_,hq=>by
  have hq1:=List.length_pos_iff.2 hq
  obtain⟨h1,h2⟩:=Nd (b::p) q (by simp) hq
  refine⟨?_,fun i hi => ?_⟩
  ·rw[Jy,Qo,if_pos (by simp;omega)]
   simp only[List.length_cons] at *
   rw[Qi (show q.length≤p.length+1+1+q.length-2 by omega),show p.length+1+1+q.length-2-1=p.length+1+q.length-2 by omega,h1]
   simp[top]
  ·rw[Jy,Qo]
   simp only[List.length_cons] at *
   rw[Qi (show q.length≤i by omega)]
   split
   ·rw[h2 _ (by omega)];simp
   ·simp
theorem Qy {p:List Int} (h:Ze p=[]) (x:Int):Zc p x=0:=by rw [← Vc,h];rfl
def W5 (r q:List Int) (l:Int) (k:Nat):List Int:=(List.range r.length).map fun i=>if k≤i then r.getD i 0-l*q.getD (i-k) 0 else r.getD i 0
theorem K2 (r q:List Int) (l:Int) (k i:Nat) (hk:k+q.length≤r.length):(W5 r q l k).getD i 0=r.getD i 0-l*(Uy k q).getD i 0:=by
 rw[W5,Wa,Qo]
 split
 ·split <;> simp
 ·rw[Qi (show r.length≤i by omega),Qi (xs:=q) (show q.length≤i-k by omega)];simp
theorem X6 (r q:List Int) (l:Int) (k:Nat):(W5 r q l k).length=r.length:=by simp [W5]
def Ao (q:List Int):Nat→List Int→List Int→List Int
 | 0,_,out=>out
 | k+1,r,out=>Ao q k (W5 (Zu (top q) r) q (r.getD (k+q.length-1) 0) k) ((Zu (top q) out).set k (r.getD (k+q.length-1) 0))
theorem Z0 (a:Int) (q:List Int):(Zu a q).length=q.length:=by simp [Zu]
theorem Zov {p q:List Int} (hq0:q ≠ []) (ht:0<top q):∀ (k:Nat) (r out:List Int) (c:Int),0<c→k≤out.length→out.length+q.length=r.length+1→(∀ i,k+q.length-1≤i→r.getD i 0=0)→(∀ i,i<k→out.getD i 0=0) →
  (∀ x,c*Zc p x=Zc q x*Zc out x+Zc r x) →
  ∃ c' r',0<c'∧(∀ i,q.length-1≤i→r'.getD i 0=0)∧(Ao q k r out).length=out.length∧∀ x,c'*Zc p x=Zc q x*Zc (Ao q k r out) x+Zc r' x:=by
 have hql:=List.length_pos_iff.2 hq0
 intro k
 induction k with
 | zero =>
  intro r out c hc _ _ hz _ he
  exact⟨c,r,hc,fun i hi=>hz i (by omega),rfl,he⟩
 | succ k ih =>
  intro r out c hc hk hl hz hz2 he
  simp only[Ao]
  generalize hlead:r.getD (k+q.length-1) 0=l at *
  have hkr:k+q.length≤(Zu (top q) r).length:=by rw[Z0];omega
  obtain⟨c',r',a1,a2,a3,a4⟩:=ih (W5 (Zu (top q) r) q l k) ((Zu (top q) out).set k l) (top q*c) (Int.mul_pos ht hc) (by rw[List.length_set,Z0];omega) (by rw[List.length_set,Z0,X6,Z0];exact hl)
   (fun i hi=>by
    rw[K2 _ _ _ _ _ hkr,Z2,Qo]
    by_cases h1:i=k+q.length-1
    ·subst h1
     rw[hlead,if_pos (by omega),show k+q.length-1-k=q.length-1 by omega]
     unfold top;grind
    ·rw[hz i (by omega),Qi (xs:=q) (show q.length≤i-k by omega)];simp)
   (fun i hi=>by rw[Qk (by omega),Z2,hz2 i (by omega),Int.mul_zero])
   (fun x=>by
    rw[Mk _ _ _ _ (by rw[Z0];omega),Z2,hz2 k (by omega),Zh]
    have e:=Ml (a:=1) (b := -l) (us:=Zu (top q) r) (bs:=Uy k q) (cs:=W5 (Zu (top q) r) q l k) (fun i=>by rw[K2 _ _ _ _ _ hkr,Int.neg_mul];omega) x
    rw[e,Zh,X7]
    have:=he x
    grind)
  exact⟨c',r',a1,a2,by rw[a3,List.length_set,Z0],a4⟩
theorem Zas {p q:List Int} (hq0:q ≠ []) (ht:0<top q) (hl:q.length≤p.length):∃ c' r',0<c'∧(∀ i,q.length-1≤i→r'.getD i 0=0)∧(Ao q (p.length-q.length+1) p (List.replicate (p.length-q.length+1) 0)).length=p.length-q.length+1 ∧
  ∀ x,c'*Zc p x=Zc q x*Zc (Ao q (p.length-q.length+1) p (List.replicate (p.length-q.length+1) 0)) x+Zc r' x:=by
 have hql:=List.length_pos_iff.2 hq0
 have h:=Zov (p:=p) hq0 ht (p.length-q.length+1) p (List.replicate (p.length-q.length+1) 0) 1 (by decide) (by simp) (by simp;omega) (fun i hi=>Qi (by omega)) (fun i _=>J7 _ _) (fun x=>by rw[Bl];omega)
 rw[List.length_replicate] at h
 exact h
theorem Zic {p q o r:List Int} {c:Int} (hc:0<c) (hp:0<top p) (hq0:q ≠ []) (ht:0<top q) (hl:q.length≤p.length) (ho:o.length=p.length-q.length+1) (h:∀ x,c*Zc p x=Zc q x*Zc o x+Zc r x) (z:∀ i,q.length-1≤i→r.getD i 0=0):0<top o:=by
 have hql:=List.length_pos_iff.2 hq0
 have ho0:o ≠ []:=by intro h0;rw[h0] at ho;simp at ho
 have h3:=(Nd q o hq0 ho0).1
 have hev:∀ x,Zc (Zu c p) x=Zc (Hr (Jk q o) r) x:=fun x=>by rw[Zh,Z6,Zq];exact h x
 have h4:=Xu hev (p.length-1)
 rw[Z2,Xn,z _ (by omega),show p.length-1=q.length+o.length-2 by omega,h3,Int.add_zero] at h4
 have h5:0<top q*top o:=by
  rw[← h4,show q.length+o.length-2=p.length-1 by omega]
  exact Int.mul_pos hc hp
 exact Int.pos_of_mul_pos_right h5 ht |> fun h=>h
theorem N6 {o:List Int} (h:0<top o):0<top (prim o):=by
 have hl:Ub o:=Nj (Or.inr (by unfold top at h;omega))
 unfold top
 rw[Qx,hl,Kl]
 have hc:0<Je o:=K7 (by rw[hl];intro h0;rw[h0] at h;simp[top] at h)
 have hd:=Do o (o.length-1)
 rw[Kl] at hd
 unfold top at h
 rw[← hd] at h
 exact Int.pos_of_mul_pos_right h (by omega)
end Go.Ai

namespace Go.Proofs.Ythnnfemologhfaa
open Go.IntKind (i64 u64 u32)
open Go.Ai
set_option maxRecDepth 100000
theorem Tm {n:Nat}:Zhd n=1↔n=1:=by
 unfold Zhd
 split
 ·omega
 ·rename_i h
  constructor
  ·intro h1
   have h2:Nat.log2 n=0:=by omega
   have:=(Nat.log2_eq_iff h).1 h2
   omega
  ·rintro rfl;decide
theorem Zen {n:Nat}:1<Zhd n↔1<n:=by
 have h1:=Tm (n:=n)
 have h0:Zhd n=0↔n=0:=by unfold Zhd;split <;> omega
 omega
theorem M9 (n:Int):(cn n).2.length=(Zb n.natAbs).length:=rfl
theorem Zeh {rs:List Rn} {n:Nat} (h:n<rs.length):(Zl rs).drop n=Zt (rs.getD n z0)::(Zl rs).drop (n+1):=by
 rw[List.drop_eq_getElem_cons (by rw[Z3];exact h)]
 congr 1
 rw[← Q8,List.getD_eq_getElem?_getD,List.getElem?_eq_getElem (by rw[Z3];exact h)];rfl
theorem Zek {K:Nat} {p:List Int} (h:∀ x∈p,Jh K x):Jh K ((Je p:Nat):Int):=by
 by_cases h0:Ze p=[]
 ·rw[Kn.2 (Xj.1 h0)];exact Wc K
 ·have hc:=K7 h0
  have:∃ i,p.getD i 0 ≠ 0:=Classical.byContradiction fun hn=>h0 (Xj.2 fun i=>Classical.byContradiction fun hi=>hn ⟨i,hi⟩)
  obtain⟨i,hi⟩:=this
  have hd:=Vt p i
  have hf:=Mt h i
  unfold Jh at *
  rw[Int.natAbs_natCast]
  have:=Nat.le_of_dvd (by omega) (Int.ofNat_dvd_left.1 hd)
  omega
theorem Zel {p:List Int} (n:Nat):Je p∣Je (p.drop n):=by
 rw[K4]
 intro i
 have:=Vt p (n+i)
 rw[List.getD_eq_getElem?_getD] at this ⊢
 rwa [List.getElem?_drop]
theorem Zpt {K:Nat} {rs:List Rn} {z:Rn} (hg:∀ r∈rs,J4 K r) (hK:K<1048576) (hN:rs.length≤1048576):∀ n,n≤rs.length →
  ∃ i',Za Yir (.loop Zun) (Zhg rs (cn (Je ((Zl rs).drop n):Nat)) ((n:Int)-1) z) (.exit 0) (Zhg rs (cn (Je (Zl rs):Nat)) i' z):=by
 intro n
 induction n with
 | zero =>
  intro _
  rw[List.drop_zero]
  exact⟨_,Za.loop_out (Yk85_3 rs _ _ z (by simp)) (by intro e;cases e)⟩
 | succ n ih =>
  intro hn
  have e0:((n+1:Nat):Int)-1=(n:Int):=by omega
  have e1:i64.wrap ((n:Int)-1)=(n:Int)-1:=w64 (by omega) (by omega)
  have hf:Jh K ((Je ((Zl rs).drop (n+1)):Nat):Int):=Zek fun x hx=>X2 hg x (List.mem_of_mem_drop hx)
  have hl:=hf.len
  have hb:=N4 (neg:=(cn (Je ((Zl rs).drop (n+1)):Nat)).1) (xs:=(cn (Je ((Zl rs).drop (n+1)):Nat)).2) (Jr _) (by rw[M9];omega)
  rw[show rv (cn (Je ((Zl rs).drop (n+1)):Nat)).1 (cn (Je ((Zl rs).drop (n+1)):Nat)).2=(Je ((Zl rs).drop (n+1)):Nat) from Qe _,Int.natAbs_natCast] at hb
  rw[e0]
  by_cases h1:Je ((Zl rs).drop (n+1))=1
  ·have hc:Je (Zl rs)=1:=by
    have:=Zel (p:=Zl rs) (n+1)
    rw[h1] at this
    exact Nat.dvd_one.1 this
   rw[h1] at hb ⊢
   rw[hc]
   exact⟨_,Za.loop_out (Yk85_2 rs _ (n:Nat) z _ (by simp) (by decide) hb) (by intro e;cases e)⟩
  ·obtain⟨g1,g2⟩:=Qb hg n
   have hgc:=R5 (na:=(cn (Je ((Zl rs).drop (n+1)):Nat)).1) (nb:=(rs.getD n z0).1) (xs:=(cn (Je ((Zl rs).drop (n+1)):Nat)).2) (ys:=(rs.getD n z0).2) (Jr _) g1 (by rw[M9];omega) (by omega)
   rw[show rv (cn (Je ((Zl rs).drop (n+1)):Nat)).1 (cn (Je ((Zl rs).drop (n+1)):Nat)).2=(Je ((Zl rs).drop (n+1)):Nat) from Qe _,show rv (rs.getD n z0).1 (rs.getD n z0).2=Zt (rs.getD n z0) from rfl] at hgc
   have hstep:(Int.gcd ((Je ((Zl rs).drop (n+1)):Nat):Int) (Zt (rs.getD n z0)))=Je ((Zl rs).drop n):=by
    rw[Zeh (n:=n) (by omega),Je,Int.gcd,Int.natAbs_natCast,Nat.gcd_comm]
   rw[hstep] at hgc
   have k1:=Yk85_1 rs (cn (Je ((Zl rs).drop (n+1)):Nat)) (n:Nat) z _ _ (by simp) (by
    rw[bne_iff_ne]
    have:=Tm (n:=Je ((Zl rs).drop (n+1)))
    omega) (by omega) hb (by rw[Int.toNat_natCast];exact hgc)
   rw[e1] at k1
   obtain⟨i',h⟩:=ih (by omega)
   exact⟨i',Za.loop k1 h⟩
theorem Lh {K:Nat} {rs:List Rn} (hg:∀ r∈rs,J4 K r) (hK:K<1048576) (hN:rs.length≤1048576):Zd Yir 85 [.sl rs.length (pc rs)] (Zp (Je (Zl rs):Nat)):=by
 obtain⟨i',h⟩:=Zpt (z:=z0) hg hK hN rs.length (Nat.le_refl _)
 rw[show (Zl rs).drop rs.length=[] by rw[← Z3,List.drop_length],show cn ((Je []:Nat):Int)=z0 from rfl] at h
 exact Yrun85 rs (cn (Je (Zl rs):Nat)) z0 i' (by rw[w64 (by omega) (by omega)];exact h)
theorem G6 {x g:Int} (hg:0<g) (h:g∣x):Int.tdiv x g=x / g:=by
 obtain⟨y,rfl⟩:=h
 rw[Int.mul_tdiv_cancel_left _ (by omega),Int.mul_ediv_cancel_left _ (by omega)]
theorem Jb {K:Nat} {rs:List Rn} (hg:∀ r∈rs,J4 K r) (hK:K<1048576) (hN:rs.length≤1048576):Zd Yir 86 [.sl rs.length (pc rs)] (.fresh 2 (prim (Zl rs)).length (pk (prim (Zl rs)))):=by
 have ht:=Ae (fun r h=>(hg r h).mono (show K≤1048576 by omega)) hN
 have hfT:∀ x∈Ze (Zl rs),Jh K x:=Nl (X2 hg)
 have gts:=Td hfT
 have hvs:=Qn (Ze (Zl rs))
 have hll:=Qw (Zl rs)
 rw[Z3] at hll
 have hpk:pk (Ze (Zl rs))=pc ((Ze (Zl rs)).map cn):=rfl
 rw[hpk,← List.length_map (f:=cn)] at ht
 have hlm:((Ze (Zl rs)).map cn).length=(Ze (Zl rs)).length:=List.length_map ..
 have hc:=Lh gts hK (by omega)
 rw[hvs,M5] at hc
 have hfc:Jh K ((Je (Zl rs):Nat):Int):=Zek (X2 hg)
 have hlc:=hfc.len
 have hb:=N4 (neg:=(cn (Je (Zl rs):Nat)).1) (xs:=(cn (Je (Zl rs):Nat)).2) (Jr _) (by rw[M9];omega)
 rw[show rv (cn (Je (Zl rs):Nat)).1 (cn (Je (Zl rs):Nat)).2=(Je (Zl rs):Nat) from Qe _,Int.natAbs_natCast] at hb
 by_cases h1:1<Je (Zl rs)
 ·have hgd:∀ t,Zt (((Ze (Zl rs)).map cn).getD t z0)=(Ze (Zl rs)).getD t 0:=fun t=>by rw[← Q8,hvs]
  have key:∀ ts:List Rn,ts.length=(Ze (Zl rs)).length→(∀ r∈ts,J4 K r)→(∀ t,Zt (ts.getD t z0)=(Ze (Zl rs)).getD t 0) →
    Za Yir (.loop Zum) (Zhf ts.length ts (cn (Je (Zl rs):Nat)) (ts.length:Nat) 0) (.exit 0) (Zhf ts.length ((prim (Zl rs)).map cn) (cn (Je (Zl rs):Nat)) (ts.length:Nat) (ts.length:Nat)):=by
   intro ts hl gt hv
   have hlp:((prim (Zl rs)).map cn).length=ts.length:=by rw[List.length_map,Qx,hl]
   have h:=Za.up (prog:=Yir) (c:=Zum) (ex := .exit 0) (fin:=Zhf ts.length ((prim (Zl rs)).map cn) (cn (Je (Zl rs):Nat)) (ts.length:Nat) (ts.length:Nat))
    (fun i=>Zhf ts.length (((prim (Zl rs)).map cn).take i++ts.drop i) (cn (Je (Zl rs):Nat)) (ts.length:Nat) (i:Nat)) ts.length (by intro e;cases e) ?_ ?_ 0 (Nat.zero_le _)
   ·exact h
   ·intro i hi
    have ei:i64.wrap ((i:Int)+1)=((i+1:Nat):Int):=by rw[w64 (by omega) (by omega)];omega
    have hlen:(((prim (Zl rs)).map cn).take i++ts.drop i).length=ts.length:=by rw[List.length_append,List.length_take,List.length_drop];omega
    have hget:(((prim (Zl rs)).map cn).take i++ts.drop i).getD i z0=ts.getD i z0:=by
     rw[List.getD_eq_getElem?_getD,List.getD_eq_getElem?_getD,List.getElem?_append_right (by rw[List.length_take];omega),List.length_take,List.getElem?_drop]
     congr 2;omega
    obtain⟨g1,g2⟩:=Qb gt i
    have hq:=Dl (na:=(ts.getD i z0).1) (nb:=(cn (Je (Zl rs):Nat)).1) (xs:=(ts.getD i z0).2) (ys:=(cn (Je (Zl rs):Nat)).2) g1 (Jr _) (by rw[show rv (cn (Je (Zl rs):Nat)).1 (cn (Je (Zl rs):Nat)).2=(Je (Zl rs):Nat) from Qe _];omega) (by omega) (by rw[M9];omega)
    rw[show rv (cn (Je (Zl rs):Nat)).1 (cn (Je (Zl rs):Nat)).2=(Je (Zl rs):Nat) from Qe _,show rv (ts.getD i z0).1 (ts.getD i z0).2=Zt (ts.getD i z0) from rfl,hv,Jg] at hq
    have k:=Yk86_1 ts.length (((prim (Zl rs)).map cn).take i++ts.drop i) (cn (Je (Zl rs):Nat)) (ts.length:Nat) (i:Nat) _ _ (by simp;omega) (by omega) hlen (by rw[Int.toNat_natCast,hget];exact hq)
    refine k.to rfl ?_
    rw[ei,Int.toNat_natCast,G6 (by omega) (Vt (Zl rs) i),← Kl]
    congr 1
    apply List.ext_getElem?
    intro t
    have hpi:((prim (Zl rs)).map cn)[i]?=some (cn ((prim (Zl rs)).getD i 0)):=by
     rw[List.getElem?_map,List.getD_eq_getElem?_getD,List.getElem?_eq_getElem (by rw[List.length_map] at hlp;omega)];rfl
    rcases Nat.lt_trichotomy t i with g | g | g
    ·rw[List.getElem?_set_ne (by omega),List.getElem?_append_left (by rw[List.length_take];omega),List.getElem?_append_left (by rw[List.length_take];omega),List.getElem?_take_of_lt g,List.getElem?_take_of_lt (by omega)]
    ·subst g
     rw[List.getElem?_set_self (by omega),List.getElem?_append_left (by rw[List.length_take];omega),List.getElem?_take_of_lt (by omega),hpi]
    ·rw[List.getElem?_set_ne (by omega),List.getElem?_append_right (by rw[List.length_take];omega),List.getElem?_append_right (by rw[List.length_take];omega),List.length_take,List.length_take,List.getElem?_drop,List.getElem?_drop]
     congr 1;omega
   ·rw[List.take_of_length_le (by omega),List.drop_length,List.append_nil]
    exact Yk86_2 ts.length _ _ (ts.length:Nat) (ts.length:Nat) (by simp)
  have hl:=key _ hlm gts hgd
  have h:=Zjt rs ((Ze (Zl rs)).map cn) _ _ _ _ _ _ _ (by rw[decide_eq_true_eq];have:=(Zen (n:=Je (Zl rs))).2 h1;omega) ht (Znb _) (F2 _) hc hb hl
  rw[hlm,← Qx] at h
  exact h
 ·have h:=Zjs rs ((Ze (Zl rs)).map cn) _ _ (by rw[decide_eq_false_iff_not];have:=(Zen (n:=Je (Zl rs))).1;omega) ht (Znb _) (F2 _) hc hb
  have hp:prim (Zl rs)=Ze (Zl rs):=by
   rcases Nat.eq_zero_or_pos (Je (Zl rs)) with g | g
   ·rw[Uf.2 (Kn.1 g),Xj.2 (Kn.1 g)]
   ·exact Nb (by omega)
  rw[hp]
  rw[hlm] at h
  exact h
theorem Zdm (rs:List Rn):Zt (rs.getD (rs.length-1) z0)=top (Zl rs):=by unfold top;rw [Q8,Z3]
theorem Nw {rs:List Rn} (hg:∀ r∈rs,J4 1048576 r) (hN:rs.length≤1048576) : 
  (top (Zl rs)<0→Zd Yir 115 [.sl rs.length (pc rs)] (.fresh 2 rs.length (pk (X4 (Zl rs)))))∧(¬ top (Zl rs)<0→Zd Yir 115 [.sl rs.length (pc rs)] (.sl rs.length (pc rs))):=by
 by_cases h0:0<rs.length
 ·have e1:i64.wrap ((rs.length:Int)-1)=((rs.length-1:Nat):Int):=by rw[w64 (by omega) (by omega)];omega
  obtain⟨g1,g2⟩:=Qb hg (rs.length-1)
  have hs:=Gc (neg:=(rs.getD (rs.length-1) z0).1) g1 g2
  rw[show rv (rs.getD (rs.length-1) z0).1 (rs.getD (rs.length-1) z0).2=Zt (rs.getD (rs.length-1) z0) from rfl,Zdm] at hs
  refine⟨fun h => ?_,fun h => ?_⟩
  ·have hn:=Ws hg hN
   have hpk:pk (X4 (Zl rs))=pc ((X4 (Zl rs)).map cn):=rfl
   have hll:((X4 (Zl rs)).map cn).length=rs.length:=by rw[List.length_map,Xc,Z3]
   rw[hpk] at hn ⊢
   rw[← hll] at hn ⊢
   have hn':Zd Yir 127 [.sl rs.length (pc rs)] (.fresh 2 ((X4 (Zl rs)).map cn).length (pc ((X4 (Zl rs)).map cn))):=by
    have:=Ws hg hN
    rw[hll];exact this
   rw[hll]
   have k:=Zfj rs ((X4 (Zl rs)).map cn) (Vp (top (Zl rs))) (by simp;omega) (by unfold Vp;rw[if_pos h];rfl) (by rw[e1];omega) (by rw[e1,Int.toNat_natCast];exact hs) hn'
   rw[hll] at k
   exact k
  ·exact Zfi rs (Vp (top (Zl rs))) (by simp;omega) (by unfold Vp;rw[if_neg h];split <;> rfl) (by rw[e1];omega) (by rw[e1,Int.toNat_natCast];exact hs)
 ·have hz:rs=[]:=List.eq_nil_of_length_eq_zero (by omega)
  subst hz
  refine⟨fun h=>absurd h (by decide),fun _=>Zfh [] (by decide)⟩
theorem F6 {K:Nat} {rs:List Rn} (hg:∀ r∈rs,J4 K r) (hK:K+2≤1048576) (hN:rs.length≤1048576):Zd Yir 75 [.sl rs.length (pc rs)] (.fresh 2 (Qa (Zl rs)).length (pk (Qa (Zl rs)))):=by
 have hd:=Fp (fun r h=>(hg r h).mono (show K≤1048576 by omega)) hN
 have hle:=We (Zl rs) rs.length
 have hl:=Za.up (prog:=Yir) (c:=Yc75) (ex := .exit 0) (fin:=Zns rs (Zv (Zl rs) rs.length-1) (pc ((List.range (Zv (Zl rs) rs.length-1)).map fun j=>cn (Zt (rs.getD (j+1) z0)*((j+1:Nat):Int)))) ((Zv (Zl rs) rs.length-1+1:Nat):Int))
  (fun i=>Zns rs i (pc ((List.range i).map fun j=>cn (Zt (rs.getD (j+1) z0)*((j+1:Nat):Int)))) ((i+1:Nat):Int)) (Zv (Zl rs) rs.length-1) (by intro e;cases e) ?_ ?_ 0 (Nat.zero_le _)
 ·have hfit:∀ r∈(List.range (Zv (Zl rs) rs.length-1)).map (fun j=>cn (Zt (rs.getD (j+1) z0)*((j+1:Nat):Int))),J4 1048576 r:=by
   intro r hr
   obtain⟨j,hj,rfl⟩:=List.mem_map.1 hr
   rw[List.mem_range] at hj
   have h2:Jh 2 ((j+1:Nat):Int):=Wo (by omega)
   exact (Jq ((Qb hg (j+1)).fits.mul h2)).mono (by omega)
  have ht:=Ae hfit (by rw[List.length_map,List.length_range];omega)
  have hlen:((List.range (Zv (Zl rs) rs.length-1)).map (fun j=>cn (Zt (rs.getD (j+1) z0)*((j+1:Nat):Int)))).length=Zv (Zl rs) rs.length-1:=by rw[List.length_map,List.length_range]
  have e:Ze (Zl ((List.range (Zv (Zl rs) rs.length-1)).map (fun j=>cn (Zt (rs.getD (j+1) z0)*((j+1:Nat):Int)))))=Qa (Zl rs):=by
   unfold Qa
   apply Kw
   intro i
   rw[A0,Wa,Qe,Q8,Z3]
   by_cases h1:i<Zv (Zl rs) rs.length-1
   ·rw[if_pos h1,if_pos (by omega)]
   ·rw[if_neg h1]
    split
    ·have:Zt (rs.getD (i+1) z0)=0:=by rw[← Q8];exact D4 (Zl rs) rs.length (i+1) (by omega) (by omega)
     rw[this,Int.zero_mul]
    ·rfl
  rw[e,hlen] at ht
  have hpk:pk (Qa (Zl rs))=pc ((Qa (Zl rs)).map cn):=rfl
  rw[hpk,← List.length_map (f:=cn)] at ht ⊢
  exact Yrun75 rs _ _ _ _ hl ht
 ·intro i hi
  have ei:i64.wrap (((i+1:Nat):Int)+1)=((i+1+1:Nat):Int):=by rw[w64 (by omega) (by omega)];omega
  obtain⟨g1,g2⟩:=Qb hg (i+1)
  have ho:=Zn5 (n:=((i+1:Nat):Int)) (by omega)
  have hfi:Jh 2 ((i+1:Nat):Int):=Wo (by omega)
  have hm:=E0 (na:=(rs.getD (i+1) z0).1) (nb:=decide (((i+1:Nat):Int)<0)) (xs:=(rs.getD (i+1) z0).2) (ys:=Zb ((i+1:Nat):Int).natAbs) g1 (Jr _) (by have:=hfi.len;omega)
  rw[Ho] at hm
  have k:=Yk75_1 rs i (pc ((List.range i).map fun j=>cn (Zt (rs.getD (j+1) z0)*((j+1:Nat):Int)))) ((i+1:Nat):Int) (((Zv (Zl rs) rs.length:Nat):Int)-1) (Zt (rs.getD (i+1) z0)*((i+1:Nat):Int)) (by simp;omega) (by omega) (by omega) hd ho (by rw[Int.toNat_natCast];exact hm)
  refine k.to rfl ?_
  rw[ei]
  congr 1
  rw[List.range_succ,List.map_append,Bo]
  rfl
 ·exact Yk75_2 rs _ _ _ _ (by rw[decide_eq_false_iff_not];omega) hd
def TRB:Js:=TRA
theorem Zo:Qt Yir TRB:=Zg0
end Go.Proofs.Ythnnfemologhfaa

namespace Go.Proofs.Ythnnfemologhfaa
open Go.IntKind (i64 u64 u32)
open Go.Ai
set_option maxRecDepth 100000
theorem Pm (g:Nat→Int) (i:Nat):pc ((List.range i).map fun j=>cn (g j))++([.bool (decide (g i<0)), .sl (Zb (g i).natAbs).length (lm (Zb (g i).natAbs))]:List AV)=pc ((List.range (i+1)).map fun j=>cn (g j)):=by
 rw[Hs (fun j=>cn (g j)),← Zcz];rfl
theorem T8 {K:Nat} {rs ss:List Rn} (hr:∀ r∈rs,J4 K r) (hs:∀ r∈ss,J4 K r) (hK:2*K+rs.length<1048576) (hM:rs.length+ss.length≤1048576) :
  Zd Yir 53 [.sl rs.length (pc rs), .sl ss.length (pc ss)] (.fresh 2 (Jk (Zl rs) (Zl ss)).length (pk (Jk (Zl rs) (Zl ss)))):=by
 have hev:=fun x=>Zb7 rs ss ss.length (rs.length+ss.length-1) x rs.length (by omega)
 have htk:∀ ts:List Rn,(Zl ts).take ts.length=Zl ts:=fun ts=>by rw[List.take_of_length_le (by rw[Z3];omega)]
 by_cases h1:rs.length=0
 ·have hz:rs=[]:=List.eq_nil_of_length_eq_zero h1
  subst hz
  exact Zj4 [] ss (by simp)
 by_cases h2:ss.length=0
 ·have hz:ss=[]:=List.eq_nil_of_length_eq_zero h2
  subst hz
  have e:Jk (Zl rs) (Zl ([]:List Rn))=[]:=W9 rfl
  rw[e]
  exact Zj3 rs [] (by rw[beq_eq_false_iff_ne];omega) (by simp)
 have hgood:=N8 (os:=List.replicate (rs.length+ss.length-1) z0) hr hs (Ei _ _) ss.length rs.length
 have hlen:=H0 rs ss (List.replicate (rs.length+ss.length-1) z0) ss.length rs.length
 rw[List.length_replicate] at hlen
 have hl:=Za.up (prog:=Yir) (c:=Yc53) (ex := .exit 0) (fin:=Zo5 rs ss (rs.length+ss.length-1) (Se rs ss (List.replicate (rs.length+ss.length-1) z0) ss.length rs.length) (rs.length:Nat))
  (fun i=>Zo5 rs ss (rs.length+ss.length-1) (Se rs ss (List.replicate (rs.length+ss.length-1) z0) ss.length i) (i:Nat)) rs.length (by intro e;cases e) ?_ ?_ 0 (Nat.zero_le _)
 ·have e3:i64.wrap ((i64.wrap ((rs.length:Int)+(ss.length:Int)))-1)=((rs.length+ss.length-1:Nat):Int):=by
   rw[w64 (n:=(rs.length:Int)+(ss.length:Int)) (by omega) (by omega),w64 (by omega) (by omega)];omega
  have ht:=Mg (fun r h=>(hgood r h).mono (show 2*K+rs.length≤1048576 by omega)) (by omega)
  have hmul:Ze (Zl (Se rs ss (List.replicate (rs.length+ss.length-1) z0) ss.length rs.length))=Jk (Zl rs) (Zl ss):=by
   rw[← V3]
   exact J5 fun x=>by rw[hev x,htk,htk,Zq]
  rw[hmul,hlen] at ht
  have hpk:pk (Jk (Zl rs) (Zl ss))=pc ((Jk (Zl rs) (Zl ss)).map cn):=rfl
  rw[hpk,← List.length_map (f:=cn)] at ht ⊢
  exact Zj2 rs ss _ _ _ _ (by rw[beq_eq_false_iff_ne];omega) (by rw[beq_eq_false_iff_ne];omega) (by rw[e3];omega) (by rw[e3,Int.toNat_natCast,E8];exact hl) ht
 ·intro i hi
  have ei:i64.wrap ((i:Int)+1)=((i+1:Nat):Int):=by rw[w64 (by omega) (by omega)];omega
  have hgo:=N8 (os:=List.replicate (rs.length+ss.length-1) z0) hr hs (Ei _ _) ss.length i
  have hlo:=H0 rs ss (List.replicate (rs.length+ss.length-1) z0) ss.length i
  rw[List.length_replicate] at hlo
  have k:=Yk53_1 rs ss (rs.length+ss.length-1) (Se rs ss (List.replicate (rs.length+ss.length-1) z0) ss.length i) (i:Nat) (Se rs ss (List.replicate (rs.length+ss.length-1) z0) ss.length (i+1)) (by simp;omega) ?_
  ·exact k.to rfl (by rw[ei])
  ·rw[Se]
   generalize Se rs ss (List.replicate (rs.length+ss.length-1) z0) ss.length i=os at *
   have hin:=Za.up (prog:=Yir) (c:=Zgo) (ex := .exit 2) (fin:=Lk rs ss (rs.length+ss.length-1) (tIn rs ss os i ss.length) i ss.length)
    (fun j=>Lk rs ss (rs.length+ss.length-1) (tIn rs ss os i j) (i:Nat) (j:Nat)) ss.length (by intro e;cases e) ?_ ?_ 0 (Nat.zero_le _)
   ·exact hin
   ·intro j hj
    have ej:i64.wrap ((j:Int)+1)=((j+1:Nat):Int):=by rw[w64 (by omega) (by omega)];omega
    have eij:i64.wrap ((i:Int)+(j:Int))=((i+j:Nat):Int):=by rw[w64 (by omega) (by omega)];omega
    have hli:=G7 rs ss os i j
    have hfar:=Zb8 rs ss os i j (i+j) (Nat.le_refl _)
    obtain⟨gr1,gr2⟩:=Qb hr i
    obtain⟨gs1,gs2⟩:=Qb hs j
    obtain⟨go1,go2⟩:=Qb hgo (i+j)
    have hp:=(Jh.mul (Qb hr i).fits (Qb hs j).fits).len
    have k:=Zp4 rs ss (rs.length+ss.length-1) (tIn rs ss os i j) (i:Nat) (j:Nat) (by simp;omega) (by rw[eij];omega) (by omega) (by omega) (by omega)
     (by simp only[Int.toNat_natCast];exact T1 gr1 gs1 (by omega))
     (by
      simp only[Int.toNat_natCast,eij,hfar]
      have:=Zcj (na:=(os.getD (i+j) z0).1) (nb:=decide (Zt (rs.getD i z0)*Zt (ss.getD j z0)<0)) go1 (Jr (Zt (rs.getD i z0)*Zt (ss.getD j z0)).natAbs) (by omega) (by omega)
      rw[Ho] at this
      exact this)
    refine k.to rfl ?_
    simp only[Int.toNat_natCast,eij,ej,tIn]
   ·exact Zp3 rs ss _ _ (i:Nat) (ss.length:Nat) (by simp)
 ·exact Yk53_2 rs ss _ _ (rs.length:Nat) (by simp)
end Go.Proofs.Ythnnfemologhfaa

namespace Go.Proofs.Ythnnfemologhfaa
open Go.IntKind (i64 u64 u32)
open Go.Ai
set_option maxRecDepth 100000
def G2 (qs:List Rn) (k:Nat) (rs:List Rn) (t:Rn) (a:Rn) (b:Rn) (at1:Int) (n:Int) (i:Int):Zk:=(dds 1 (.val (.sl qs.length (pc qs))::(dds 3 (.own 2 k (pc rs)::(.box [.bool t.1, .sl t.2.length (lm t.2)]::(dds 2 (.box [.bool a.1, .sl a.2.length (lm a.2)]::(dds 1 (.box [.bool b.1, .sl b.2.length (lm b.2)]::(dds 1 (.val (.int .i64 at1)::(dds 49 (.val (.int .i64 n)::(.val (.int .i64 i)::(dds 34 [])))))))))))))))
theorem Zpy (qs:List Rn) (k:Nat) (rs:List Rn) (t:Rn) (a:Rn) (b:Rn) (at1:Int) (n:Int) (i:Int)  (c1:(decide (i<n))=true) (c2:(decide (i≥at1))=true) (n1:0≤i∧i<(k:Int)) (n2:rs.length=k) (n3:(rs.set (Int.toNat i) (cn ((Zt (rs.getD (Int.toNat i) z0))*(Zt a)))).length=k) (n4:0≤(i64.wrap (i-at1))∧(i64.wrap (i-at1))<(qs.length:Int)) (n5:Zd Yir 113 [Z5 (rs.getD (Int.toNat i) z0),Z5 a] (Zp ((Zt (rs.getD (Int.toNat i) z0))*(Zt a)))) (n6:Zd Yir 113 [Z5 b,Z5 (qs.getD (Int.toNat (i64.wrap (i-at1))) z0)] (Zp ((Zt b)*(Zt (qs.getD (Int.toNat (i64.wrap (i-at1))) z0))))) (n7:Zd Yir 114 [Z5 ((rs.set (Int.toNat i) (cn ((Zt (rs.getD (Int.toNat i) z0))*(Zt a)))).getD (Int.toNat i) z0),Zp ((Zt b)*(Zt (qs.getD (Int.toNat (i64.wrap (i-at1))) z0)))] (Zp ((Zt ((rs.set (Int.toNat i) (cn ((Zt (rs.getD (Int.toNat i) z0))*(Zt a)))).getD (Int.toNat i) z0))-((Zt b)*(Zt (qs.getD (Int.toNat (i64.wrap (i-at1))) z0)))))):Za Yir Lx (G2 qs k rs t a b at1 n i) .norm (G2 qs k ((rs.set (Int.toNat i) (cn ((Zt (rs.getD (Int.toNat i) z0))*(Zt a)))).set (Int.toNat i) (cn ((Zt ((rs.set (Int.toNat i) (cn ((Zt (rs.getD (Int.toNat i) z0))*(Zt a)))).getD (Int.toNat i) z0))-((Zt b)*(Zt (qs.getD (Int.toNat (i64.wrap (i-at1))) z0)))))) t a b at1 n (i64.wrap (i+1))):=(Za.go Zo 400 [.b true, .v (Z5 (rs.getD (Int.toNat i) z0)), .r (Zp ((Zt (rs.getD (Int.toNat i) z0))*(Zt a))), .l (pc (rs.set (Int.toNat i) (cn ((Zt (rs.getD (Int.toNat i) z0))*(Zt a))))), .b true, .v (Z5 ((rs.set (Int.toNat i) (cn ((Zt (rs.getD (Int.toNat i) z0))*(Zt a)))).getD (Int.toNat i) z0)), .v (Z5 (qs.getD (Int.toNat (i64.wrap (i-at1))) z0)), .r (Zp ((Zt b)*(Zt (qs.getD (Int.toNat (i64.wrap (i-at1))) z0)))), .r (Zp ((Zt ((rs.set (Int.toNat i) (cn ((Zt (rs.getD (Int.toNat i) z0))*(Zt a)))).getD (Int.toNat i) z0))-((Zt b)*(Zt (qs.getD (Int.toNat (i64.wrap (i-at1))) z0))))), .l (pc ((rs.set (Int.toNat i) (cn ((Zt (rs.getD (Int.toNat i) z0))*(Zt a)))).set (Int.toNat i) (cn ((Zt ((rs.set (Int.toNat i) (cn ((Zt (rs.getD (Int.toNat i) z0))*(Zt a)))).getD (Int.toNat i) z0))-((Zt b)*(Zt (qs.getD (Int.toNat (i64.wrap (i-at1))) z0)))))))] [1,5,6,9,11,13,63,64] (ac c1 (ac n1 (ac (Vh n2 n1) (ac n5 (ac n1 (ac (Wl (r:=cn ((Zt (rs.getD (Int.toNat i) z0))*(Zt a))) n2 n1) (ac c2 (ac n1 (ac (Vh n3 n1) (ac n4 (ac (J1 n4) (ac n6 (ac n7 (ac n1 (ac (Wl (r:=cn ((Zt ((rs.set (Int.toNat i) (cn ((Zt (rs.getD (Int.toNat i) z0))*(Zt a)))).getD (Int.toNat i) z0))-((Zt b)*(Zt (qs.getD (Int.toNat (i64.wrap (i-at1))) z0))))) n3 n1) a0))))))))))))))))
theorem Zpx (qs:List Rn) (k:Nat) (rs:List Rn) (t:Rn) (a:Rn) (b:Rn) (at1:Int) (n:Int) (i:Int)  (c1:(decide (i<n))=true) (c2:(decide (i≥at1))=false) (n1:0≤i∧i<(k:Int)) (n2:rs.length=k) (n3:Zd Yir 113 [Z5 (rs.getD (Int.toNat i) z0),Z5 a] (Zp ((Zt (rs.getD (Int.toNat i) z0))*(Zt a)))):Za Yir Lx (G2 qs k rs t a b at1 n i) .norm (G2 qs k (rs.set (Int.toNat i) (cn ((Zt (rs.getD (Int.toNat i) z0))*(Zt a)))) t a b at1 n (i64.wrap (i+1))):=(Za.go Zo 400 [.b true, .v (Z5 (rs.getD (Int.toNat i) z0)), .r (Zp ((Zt (rs.getD (Int.toNat i) z0))*(Zt a))), .l (pc (rs.set (Int.toNat i) (cn ((Zt (rs.getD (Int.toNat i) z0))*(Zt a))))), .b false] [1,5,6,9,11,13,63,64] (ac c1 (ac n1 (ac (Vh n2 n1) (ac n3 (ac n1 (ac (Wl (r:=cn ((Zt (rs.getD (Int.toNat i) z0))*(Zt a))) n2 n1) (ac c2 a0))))))))
theorem Zpw (qs:List Rn) (k:Nat) (rs:List Rn) (t:Rn) (a:Rn) (b:Rn) (at1:Int) (n:Int) (i:Int)  (c1:(decide (i<n))=false):Za Yir Lx (G2 qs k rs t a b at1 n i) (.exit 2) (G2 qs k rs t a b at1 n i):=(Za.go Zo 400 [.b false] [1,5,6,9,11,13,63,64] (ac c1 a0))
def Zbu (qs:List Rn) (k:Nat) (rs:List Rn) (t:Rn):Zk:=(dds 1 (.val (.sl qs.length (pc qs))::(dds 3 (.own 2 k (pc rs)::(.box [.bool t.1, .sl t.2.length (lm t.2)]::(dds 92 []))))))
theorem Yk64_1 (qs:List Rn) (k:Nat) (rs:List Rn) (t:Rn) (os us:List Rn) (a b:Rn) (g ab x y ny r1 r2 s at1 n i:Int) (c1:(decide ((k:Int)≥(qs.length:Int)))=true) (c2:(decide (s<0))=true) (n1:0≤(i64.wrap ((k:Int)-1))∧(i64.wrap ((k:Int)-1))<(k:Int)) (n2:rs.length=k) (n3:Zd Yir 109 [Z5 t,Z5 (rs.getD (Int.toNat (i64.wrap ((k:Int)-1))) z0)] (Zp g)) (n4:Zd Yir 111 [Z5 t] (Zp ab)) (n5:Zd Yir 110 [Zp ab,Zp g] (.tup [Zp x,Zp r1])) (n6:Zd Yir 110 [Z5 (rs.getD (Int.toNat (i64.wrap ((k:Int)-1))) z0),Zp g] (.tup [Zp y,Zp r2])) (n7:Zd Yir 73 [Z5 t] (.int .i64 s)) (n8:Zd Yir 112 [Zp y] (Zp ny)) (hl9:Za Yir (.loop Lx) (G2 qs k rs t (cn x) (cn ny) (i64.wrap ((k:Int)-(qs.length:Int))) (k:Int) 0) (.exit 2) (G2 qs k os t a b at1 n i)) (n10:Zd Yir 86 [.sl k (pc os)] (.fresh 2 us.length (pc us))):Za Yir Zt8 (Zbu qs k rs t) .norm (Zbu qs us.length us t):=(Za.seq (Za.go (t:=(dds 1 (vp qs::(dds 3 (.own 2 k (pc rs)::(bR t::(dds 18 (.dup 5::(dds 73 []))))))))) Zo 400 [.b true] [1,5,6,25] (ac c1 a0)) (Za.block_norm (Za.seq (Za.go (t:=(dds 1 (vp qs::(dds 3 (.own 2 k (pc rs)::(bR t::(bR (rs.getD (Int.toNat (i64.wrap ((k:Int)-1))) z0)::(dds 17 (.dup 5::(dds 4 (.dup 5::(.dup 5::(dds 2 (.ptr 5 (Int.toNat (i64.wrap ((k:Int)-1))*2)::(dds 64 []))))))))))))))) Zo 400 [.v (Z5 (rs.getD (Int.toNat (i64.wrap ((k:Int)-1))) z0))] [1,5,6,7,25,30,31,34] (ac n1 (ac (Vh n2 n1) a0))) (Za.seq (Za.go (t:=(dds 1 (vp qs::(dds 3 (.own 2 k (pc rs)::(bR t::(bR (rs.getD (Int.toNat (i64.wrap ((k:Int)-1))) z0)::(bN g::(dds 16 (.dup 5::(dds 4 (.dup 5::(.dup 5::(dds 2 (.ptr 5 (Int.toNat (i64.wrap ((k:Int)-1))*2)::(dds 64 [])))))))))))))))) Zo 400 [.r (Zp g)] [1,5,6,7,8,25,30,31,34] (ac n3 a0)) (Za.seq (Za.go (t:=(dds 1 (vp qs::(dds 3 (.own 2 k (pc rs)::(bR t::(bR (rs.getD (Int.toNat (i64.wrap ((k:Int)-1))) z0)::(bN g::(bN x::(dds 15 (.dup 5::(dds 4 (.dup 5::(.dup 5::(dds 2 (.ptr 5 (Int.toNat (i64.wrap ((k:Int)-1))*2)::(dds 64 []))))))))))))))))) Zo 400 [.r (Zp ab), .r (.tup [Zp x,Zp r1])] [1,5,6,7,8,9,25,30,31,34] (ac n4 (ac n5 a0))) (Za.seq (Za.go (t:=(dds 1 (vp qs::(dds 3 (.own 2 k (pc rs)::(bR t::(dds 2 (bN x::(dds 1 (bN y::(dds 13 (.dup 5::(dds 4 (.dup 5::(.dup 5::(dds 2 (.ptr 5 (Int.toNat (i64.wrap ((k:Int)-1))*2)::(dds 64 [])))))))))))))))))) Zo 400 [.r (.tup [Zp y,Zp r2])] [1,5,6,9,11,25,30,31,34] (ac n6 a0)) (Za.seq (Za.go (t:=(dds 1 (vp qs::(dds 3 (.own 2 k (pc rs)::(bR t::(dds 2 (bN x::(dds 1 (bN ny::(dds 13 (.dup 5::(dds 4 (.dup 5::(.dup 5::(dds 2 (.ptr 5 (Int.toNat (i64.wrap ((k:Int)-1))*2)::(dds 64 [])))))))))))))))))) Zo 400 [.r (.int .i64 s), .b true, .r (Zp ny)] [1,5,6,9,11,25,30,31,34] (ac n7 (ac c2 (ac n8 a0)))) (Za.seq (Za.go (t:=(dds 1 (vp qs::(dds 3 (.own 2 k (pc rs)::(bR t::(dds 2 (bN x::(dds 1 (bN ny::(dds 1 (vi (i64.wrap ((k:Int)-(qs.length:Int)))::(dds 11 (.dup 5::(dds 4 (.dup 5::(.dup 5::(dds 2 (.ptr 5 (Int.toNat (i64.wrap ((k:Int)-1))*2)::(dds 22 (.dup 5::(dds 41 [])))))))))))))))))))))) Zo 400 [] [1,5,6,9,11,13,25,30,31,34,57] a0) (Za.seq (Za.seq (Za.go Zo 400 [] [1,5,6,9,11,13,63,64] a0) (Za.block hl9)) (Za.go Zo 400 [.r (.fresh 2 us.length (pc us))] [1,5,6] (ac n10 a0)))))))))))
theorem Yk64_2 (qs:List Rn) (k:Nat) (rs:List Rn) (t:Rn) (os us:List Rn) (a b:Rn) (g ab x y r1 r2 s at1 n i:Int) (c1:(decide ((k:Int)≥(qs.length:Int)))=true) (c2:(decide (s<0))=false) (n1:0≤(i64.wrap ((k:Int)-1))∧(i64.wrap ((k:Int)-1))<(k:Int)) (n2:rs.length=k) (n3:Zd Yir 109 [Z5 t,Z5 (rs.getD (Int.toNat (i64.wrap ((k:Int)-1))) z0)] (Zp g)) (n4:Zd Yir 111 [Z5 t] (Zp ab)) (n5:Zd Yir 110 [Zp ab,Zp g] (.tup [Zp x,Zp r1])) (n6:Zd Yir 110 [Z5 (rs.getD (Int.toNat (i64.wrap ((k:Int)-1))) z0),Zp g] (.tup [Zp y,Zp r2])) (n7:Zd Yir 73 [Z5 t] (.int .i64 s)) (hl8:Za Yir (.loop Lx) (G2 qs k rs t (cn x) (cn y) (i64.wrap ((k:Int)-(qs.length:Int))) (k:Int) 0) (.exit 2) (G2 qs k os t a b at1 n i)) (n9:Zd Yir 86 [.sl k (pc os)] (.fresh 2 us.length (pc us))):Za Yir Zt8 (Zbu qs k rs t) .norm (Zbu qs us.length us t):=(Za.seq (Za.go (t:=(dds 1 (vp qs::(dds 3 (.own 2 k (pc rs)::(bR t::(dds 18 (.dup 5::(dds 73 []))))))))) Zo 400 [.b true] [1,5,6,25] (ac c1 a0)) (Za.block_norm (Za.seq (Za.go (t:=(dds 1 (vp qs::(dds 3 (.own 2 k (pc rs)::(bR t::(bR (rs.getD (Int.toNat (i64.wrap ((k:Int)-1))) z0)::(dds 17 (.dup 5::(dds 4 (.dup 5::(.dup 5::(dds 2 (.ptr 5 (Int.toNat (i64.wrap ((k:Int)-1))*2)::(dds 64 []))))))))))))))) Zo 400 [.v (Z5 (rs.getD (Int.toNat (i64.wrap ((k:Int)-1))) z0))] [1,5,6,7,25,30,31,34] (ac n1 (ac (Vh n2 n1) a0))) (Za.seq (Za.go (t:=(dds 1 (vp qs::(dds 3 (.own 2 k (pc rs)::(bR t::(bR (rs.getD (Int.toNat (i64.wrap ((k:Int)-1))) z0)::(bN g::(dds 16 (.dup 5::(dds 4 (.dup 5::(.dup 5::(dds 2 (.ptr 5 (Int.toNat (i64.wrap ((k:Int)-1))*2)::(dds 64 [])))))))))))))))) Zo 400 [.r (Zp g)] [1,5,6,7,8,25,30,31,34] (ac n3 a0)) (Za.seq (Za.go (t:=(dds 1 (vp qs::(dds 3 (.own 2 k (pc rs)::(bR t::(bR (rs.getD (Int.toNat (i64.wrap ((k:Int)-1))) z0)::(bN g::(bN x::(dds 15 (.dup 5::(dds 4 (.dup 5::(.dup 5::(dds 2 (.ptr 5 (Int.toNat (i64.wrap ((k:Int)-1))*2)::(dds 64 []))))))))))))))))) Zo 400 [.r (Zp ab), .r (.tup [Zp x,Zp r1])] [1,5,6,7,8,9,25,30,31,34] (ac n4 (ac n5 a0))) (Za.seq (Za.go (t:=(dds 1 (vp qs::(dds 3 (.own 2 k (pc rs)::(bR t::(dds 2 (bN x::(dds 1 (bN y::(dds 13 (.dup 5::(dds 4 (.dup 5::(.dup 5::(dds 2 (.ptr 5 (Int.toNat (i64.wrap ((k:Int)-1))*2)::(dds 64 [])))))))))))))))))) Zo 400 [.r (.tup [Zp y,Zp r2])] [1,5,6,9,11,25,30,31,34] (ac n6 a0)) (Za.seq (Za.go (t:=(dds 1 (vp qs::(dds 3 (.own 2 k (pc rs)::(bR t::(dds 2 (bN x::(dds 1 (bN y::(dds 13 (.dup 5::(dds 4 (.dup 5::(.dup 5::(dds 2 (.ptr 5 (Int.toNat (i64.wrap ((k:Int)-1))*2)::(dds 64 [])))))))))))))))))) Zo 400 [.r (.int .i64 s), .b false] [1,5,6,9,11,25,30,31,34] (ac n7 (ac c2 a0))) (Za.seq (Za.go (t:=(dds 1 (vp qs::(dds 3 (.own 2 k (pc rs)::(bR t::(dds 2 (bN x::(dds 1 (bN y::(dds 1 (vi (i64.wrap ((k:Int)-(qs.length:Int)))::(dds 11 (.dup 5::(dds 4 (.dup 5::(.dup 5::(dds 2 (.ptr 5 (Int.toNat (i64.wrap ((k:Int)-1))*2)::(dds 22 (.dup 5::(dds 41 [])))))))))))))))))))))) Zo 400 [] [1,5,6,9,11,13,25,30,31,34,57] a0) (Za.seq (Za.seq (Za.go Zo 400 [] [1,5,6,9,11,13,63,64] a0) (Za.block hl8)) (Za.go Zo 400 [.r (.fresh 2 us.length (pc us))] [1,5,6] (ac n9 a0)))))))))))
theorem Znz (qs:List Rn) (k:Nat) (rs:List Rn) (t:Rn)  (c1:(decide ((k:Int)≥(qs.length:Int)))=false):Za Yir Zt8 (Zbu qs k rs t) (.exit 0) (Zbu qs k rs t):=(Za.seq_out (Za.go Zo 400 [.b false] [1,5,6] (ac c1 a0)) (by intro e;cases e))
theorem Yrun64 (rs ss ps qs us:List Rn) (t:Rn) (k:Nat) (n1:Zd Yir 86 [.sl rs.length (pc rs)] (.fresh 2 ps.length (pc ps))) (n2:Zd Yir 86 [.sl ss.length (pc ss)] (.fresh 2 qs.length (pc qs))) (n3:0≤(i64.wrap ((qs.length:Int)-1))∧(i64.wrap ((qs.length:Int)-1))<(qs.length:Int)) (hl4:Za Yir (.loop Zt8) (Zbu qs ps.length ps (qs.getD (Int.toNat (i64.wrap ((qs.length:Int)-1))) z0)) (.exit 0) (Zbu qs k us t)):Zd Yir 64 [.sl rs.length (pc rs), .sl ss.length (pc ss)] (.fresh 2 k (pc us)):=Zd.of_bodyW (fn:=Yi64) (s:=(dds 4 (.own 2 k (pc us)::(dds 94 [])))) (ex := .ret) rfl rfl (Za.seq (Za.go (t:=(vp rs::(vp ss::(dds 2 (.own 2 0 []::(dds 94 [])))))) Zo 400 [] [0,1,4] a0) (Za.seq (Za.go (t:=(vp rs::(vp qs::(dds 2 (.own 2 0 []::(.own 2 ps.length (pc ps)::(dds 93 []))))))) Zo 400 [.r (.fresh 2 ps.length (pc ps)), .r (.fresh 2 qs.length (pc qs))] [0,1,4,5] (ac n1 (ac n2 a0))) (Za.seq (Za.go Zo 400 [.v (Z5 (qs.getD (Int.toNat (i64.wrap ((qs.length:Int)-1))) z0))] [1,5,6] (ac n3 (ac (J1 n3) a0))) (Za.seq (Za.block hl4) (Za.go Zo 400 [] [4] a0))))) (by intro i e;cases e) rfl
def Zbt (as1:List Rn) (bs:List Rn):Zk:=(dds 5 (.val (.sl as1.length (pc as1))::(.val (.sl bs.length (pc bs))::(dds 13 []))))
theorem Zny (as1:List Rn) (bs:List Rn) (us:List Rn) (c1:(decide ((bs.length:Int)>0))=true) (n1:Zd Yir 64 [.sl as1.length (pc as1), .sl bs.length (pc bs)] (.fresh 2 us.length (pc us))):Za Yir Zt7 (Zbt as1 bs) .norm (Zbt bs us):=(Za.go Zo 400 [.b true, .r (.fresh 2 us.length (pc us))] [5,6] (ac c1 (ac n1 a0)))
theorem Znx (as1:List Rn) (bs:List Rn)  (c1:(decide ((bs.length:Int)>0))=false):Za Yir Zt7 (Zbt as1 bs) (.exit 0) (Zbt as1 bs):=(Za.go Zo 400 [.b false] [5,6] (ac c1 a0))
theorem Zjx (rs ss ps qs as1 bs ts:List Rn) (n1:Zd Yir 86 [.sl rs.length (pc rs)] (.fresh 2 ps.length (pc ps))) (n2:Zd Yir 86 [.sl ss.length (pc ss)] (.fresh 2 qs.length (pc qs))) (hl3:Za Yir (.loop Zt7) (Zbt ps qs) (.exit 0) (Zbt as1 bs)) (n4:Zd Yir 115 [.sl as1.length (pc as1)] (.fresh 2 ts.length (pc ts))):Zd Yir 65 [.sl rs.length (pc rs), .sl ss.length (pc ss)] (.fresh 2 ts.length (pc ts)):=Zd.of_bodyW (fn:=Zuj) (s:=(dds 4 (.own 2 ts.length (pc ts)::(dds 15 [])))) (ex := .ret) rfl rfl (Za.seq (Za.go (t:=(vp rs::(vp ss::(dds 2 (.own 2 0 []::(dds 15 [])))))) Zo 400 [] [0,1,4] a0) (Za.seq (Za.go Zo 400 [.r (.fresh 2 ps.length (pc ps)), .r (.fresh 2 qs.length (pc qs))] [5,6] (ac n1 (ac n2 a0))) (Za.seq (Za.block hl3) (Za.go Zo 400 [.r (.fresh 2 ts.length (pc ts))] [4] (ac n4 a0))))) (by intro i e;cases e) rfl
theorem Zjw (rs ss ps qs as1 bs:List Rn) (n1:Zd Yir 86 [.sl rs.length (pc rs)] (.fresh 2 ps.length (pc ps))) (n2:Zd Yir 86 [.sl ss.length (pc ss)] (.fresh 2 qs.length (pc qs))) (hl3:Za Yir (.loop Zt7) (Zbt ps qs) (.exit 0) (Zbt as1 bs)) (n4:Zd Yir 115 [.sl as1.length (pc as1)] (.sl as1.length (pc as1))):Zd Yir 65 [.sl rs.length (pc rs), .sl ss.length (pc ss)] (.sl as1.length (pc as1)):=Zd.of_bodyW (fn:=Zuj) (s:=(dds 4 (.val (.sl as1.length (pc as1))::(dds 15 [])))) (ex := .ret) rfl rfl (Za.seq (Za.go (t:=(vp rs::(vp ss::(dds 2 (.own 2 0 []::(dds 15 [])))))) Zo 400 [] [0,1,4] a0) (Za.seq (Za.go Zo 400 [.r (.fresh 2 ps.length (pc ps)), .r (.fresh 2 qs.length (pc qs))] [5,6] (ac n1 (ac n2 a0))) (Za.seq (Za.block hl3) (Za.go Zo 400 [.r (.sl as1.length (pc as1))] [4] (ac n4 a0))))) (by intro i e;cases e) rfl
def Hx (qs:List Rn) (k:Nat) (rs:List Rn) (t:Rn) (kq:Nat) (os:List Rn) (j:Int) (l:Rn) (n:Int) (i:Int):Zk:=(dds 1 (.val (.sl qs.length (pc qs))::(dds 3 (.own 2 k (pc rs)::(.box [.bool t.1, .sl t.2.length (lm t.2)]::(.own 2 kq (pc os)::(.val (.int .i64 j)::(.box [.bool l.1, .sl l.2.length (lm l.2)]::(dds 34 (.val (.int .i64 n)::(.val (.int .i64 i)::(dds 57 []))))))))))))
theorem Zlb (qs:List Rn) (k:Nat) (rs:List Rn) (t:Rn) (kq:Nat) (os:List Rn) (j:Int) (l:Rn) (n:Int) (i:Int)  (c1:(decide (i<n))=true) (n1:0≤i∧i<(k:Int)) (n2:rs.length=k) (n3:Zd Yir 113 [Z5 (rs.getD (Int.toNat i) z0),Z5 t] (Zp ((Zt (rs.getD (Int.toNat i) z0))*(Zt t)))):Za Yir Ez (Hx qs k rs t kq os j l n i) .norm (Hx qs k (rs.set (Int.toNat i) (cn ((Zt (rs.getD (Int.toNat i) z0))*(Zt t)))) t kq os j l n (i64.wrap (i+1))):=(Za.go Zo 400 [.b true, .v (Z5 (rs.getD (Int.toNat i) z0)), .r (Zp ((Zt (rs.getD (Int.toNat i) z0))*(Zt t))), .l (pc (rs.set (Int.toNat i) (cn ((Zt (rs.getD (Int.toNat i) z0))*(Zt t)))))] [1,5,6,7,8,9,44,45] (ac c1 (ac n1 (ac (Vh n2 n1) (ac n3 (ac n1 (ac (Wl (r:=cn ((Zt (rs.getD (Int.toNat i) z0))*(Zt t))) n2 n1) a0)))))))
theorem Zla (qs:List Rn) (k:Nat) (rs:List Rn) (t:Rn) (kq:Nat) (os:List Rn) (j:Int) (l:Rn) (n:Int) (i:Int)  (c1:(decide (i<n))=false):Za Yir Ez (Hx qs k rs t kq os j l n i) (.exit 2) (Hx qs k rs t kq os j l n i):=(Za.go Zo 400 [.b false] [1,5,6,7,8,9,44,45] (ac c1 a0))
def Hw (qs:List Rn) (k:Nat) (rs:List Rn) (t:Rn) (kq:Nat) (os:List Rn) (j:Int) (l:Rn) (n:Int) (i:Int):Zk:=(dds 1 (.val (.sl qs.length (pc qs))::(dds 3 (.own 2 k (pc rs)::(.box [.bool t.1, .sl t.2.length (lm t.2)]::(.own 2 kq (pc os)::(.val (.int .i64 j)::(.box [.bool l.1, .sl l.2.length (lm l.2)]::(dds 49 (.val (.int .i64 n)::(.val (.int .i64 i)::(dds 42 []))))))))))))
theorem Zk9 (qs:List Rn) (k:Nat) (rs:List Rn) (t:Rn) (kq:Nat) (os:List Rn) (j:Int) (l:Rn) (n:Int) (i:Int)  (c1:(decide (i<n))=true) (n1:0≤i∧i<(kq:Int)) (n2:os.length=kq) (n3:Zd Yir 113 [Z5 (os.getD (Int.toNat i) z0),Z5 t] (Zp ((Zt (os.getD (Int.toNat i) z0))*(Zt t)))):Za Yir Ey (Hw qs k rs t kq os j l n i) .norm (Hw qs k rs t kq (os.set (Int.toNat i) (cn ((Zt (os.getD (Int.toNat i) z0))*(Zt t)))) j l n (i64.wrap (i+1))):=(Za.go Zo 400 [.b true, .v (Z5 (os.getD (Int.toNat i) z0)), .r (Zp ((Zt (os.getD (Int.toNat i) z0))*(Zt t))), .l (pc (os.set (Int.toNat i) (cn ((Zt (os.getD (Int.toNat i) z0))*(Zt t)))))] [1,5,6,7,8,9,59,60] (ac c1 (ac n1 (ac (Vh n2 n1) (ac n3 (ac n1 (ac (Wl (r:=cn ((Zt (os.getD (Int.toNat i) z0))*(Zt t))) n2 n1) a0)))))))
theorem Zk8 (qs:List Rn) (k:Nat) (rs:List Rn) (t:Rn) (kq:Nat) (os:List Rn) (j:Int) (l:Rn) (n:Int) (i:Int)  (c1:(decide (i<n))=false):Za Yir Ey (Hw qs k rs t kq os j l n i) (.exit 4) (Hw qs k rs t kq os j l n i):=(Za.go Zo 400 [.b false] [1,5,6,7,8,9,59,60] (ac c1 a0))
def Hv (qs:List Rn) (k:Nat) (rs:List Rn) (t:Rn) (kq:Nat) (os:List Rn) (j:Int) (l:Rn) (n:Int) (i:Int):Zk:=(dds 1 (.val (.sl qs.length (pc qs))::(dds 3 (.own 2 k (pc rs)::(.box [.bool t.1, .sl t.2.length (lm t.2)]::(.own 2 kq (pc os)::(.val (.int .i64 j)::(.box [.bool l.1, .sl l.2.length (lm l.2)]::(dds 68 (.val (.int .i64 n)::(.val (.int .i64 i)::(dds 23 []))))))))))))
theorem Zk7 (qs:List Rn) (k:Nat) (rs:List Rn) (t:Rn) (kq:Nat) (os:List Rn) (j:Int) (l:Rn) (n:Int) (i:Int)  (c1:(decide (i<n))=true) (n1:0≤(i64.wrap (j+i))∧(i64.wrap (j+i))<(k:Int)) (n2:rs.length=k) (n3:0≤i∧i<(qs.length:Int)) (n4:Zd Yir 113 [Z5 l,Z5 (qs.getD (Int.toNat i) z0)] (Zp ((Zt l)*(Zt (qs.getD (Int.toNat i) z0))))) (n5:Zd Yir 114 [Z5 (rs.getD (Int.toNat (i64.wrap (j+i))) z0),Zp ((Zt l)*(Zt (qs.getD (Int.toNat i) z0)))] (Zp ((Zt (rs.getD (Int.toNat (i64.wrap (j+i))) z0))-((Zt l)*(Zt (qs.getD (Int.toNat i) z0)))))):Za Yir Ew (Hv qs k rs t kq os j l n i) .norm (Hv qs k (rs.set (Int.toNat (i64.wrap (j+i))) (cn ((Zt (rs.getD (Int.toNat (i64.wrap (j+i))) z0))-((Zt l)*(Zt (qs.getD (Int.toNat i) z0)))))) t kq os j l n (i64.wrap (i+1))):=(Za.go Zo 400 [.b true, .v (Z5 (rs.getD (Int.toNat (i64.wrap (j+i))) z0)), .v (Z5 (qs.getD (Int.toNat i) z0)), .r (Zp ((Zt l)*(Zt (qs.getD (Int.toNat i) z0)))), .r (Zp ((Zt (rs.getD (Int.toNat (i64.wrap (j+i))) z0))-((Zt l)*(Zt (qs.getD (Int.toNat i) z0))))), .l (pc (rs.set (Int.toNat (i64.wrap (j+i))) (cn ((Zt (rs.getD (Int.toNat (i64.wrap (j+i))) z0))-((Zt l)*(Zt (qs.getD (Int.toNat i) z0)))))))] [1,5,6,7,8,9,78,79] (ac c1 (ac n1 (ac (Vh n2 n1) (ac n3 (ac (J1 n3) (ac n4 (ac n5 (ac n1 (ac (Wl (r:=cn ((Zt (rs.getD (Int.toNat (i64.wrap (j+i))) z0))-((Zt l)*(Zt (qs.getD (Int.toNat i) z0))))) n2 n1) a0))))))))))
theorem Zk6 (qs:List Rn) (k:Nat) (rs:List Rn) (t:Rn) (kq:Nat) (os:List Rn) (j:Int) (l:Rn) (n:Int) (i:Int)  (c1:(decide (i<n))=false):Za Yir Ew (Hv qs k rs t kq os j l n i) (.exit 6) (Hv qs k rs t kq os j l n i):=(Za.go Zo 400 [.b false] [1,5,6,7,8,9,78,79] (ac c1 a0))
def Rk (qs:List Rn) (k:Nat) (rs:List Rn) (t:Rn) (kq:Nat) (os:List Rn) (j:Int):Zk:=(dds 1 (.val (.sl qs.length (pc qs))::(dds 3 (.own 2 k (pc rs)::(.box [.bool t.1, .sl t.2.length (lm t.2)]::(.own 2 kq (pc os)::(.val (.int .i64 j)::(dds 94 []))))))))
theorem Zrl (qs:List Rn) (k:Nat) (rs:List Rn) (t:Rn) (kq:Nat) (os:List Rn) (j:Int) (rs1 rs2 os1:List Rn) (m1 i1 m2 i2 m3 i3:Int) (c1:(decide (j≥0))=true) (n1:0≤(i64.wrap ((i64.wrap (j+(qs.length:Int)))-1))∧(i64.wrap ((i64.wrap (j+(qs.length:Int)))-1))<(k:Int)) (n2:rs.length=k) (hl3:Za Yir (.loop Ez) (Hx qs k rs t kq os j (rs.getD (Int.toNat (i64.wrap ((i64.wrap (j+(qs.length:Int)))-1))) z0) (k:Int) 0) (.exit 2) (Hx qs k rs1 t kq os j (rs.getD (Int.toNat (i64.wrap ((i64.wrap (j+(qs.length:Int)))-1))) z0) m1 i1)) (hl4:Za Yir (.loop Ey) (Hw qs k rs1 t kq os j (rs.getD (Int.toNat (i64.wrap ((i64.wrap (j+(qs.length:Int)))-1))) z0) (kq:Int) 0) (.exit 4) (Hw qs k rs1 t kq os1 j (rs.getD (Int.toNat (i64.wrap ((i64.wrap (j+(qs.length:Int)))-1))) z0) m2 i2)) (n5:0≤j∧j<(kq:Int)) (n6:os1.length=kq) (hl7:Za Yir (.loop Ew) (Hv qs k rs1 t kq (os1.set (Int.toNat j) (rs.getD (Int.toNat (i64.wrap ((i64.wrap (j+(qs.length:Int)))-1))) z0)) j (rs.getD (Int.toNat (i64.wrap ((i64.wrap (j+(qs.length:Int)))-1))) z0) (qs.length:Int) 0) (.exit 6) (Hv qs k rs2 t kq (os1.set (Int.toNat j) (rs.getD (Int.toNat (i64.wrap ((i64.wrap (j+(qs.length:Int)))-1))) z0)) j (rs.getD (Int.toNat (i64.wrap ((i64.wrap (j+(qs.length:Int)))-1))) z0) m3 i3)):Za Yir Zgy (Rk qs k rs t kq os j) .norm (Rk qs k rs2 t kq (os1.set (Int.toNat j) (rs.getD (Int.toNat (i64.wrap ((i64.wrap (j+(qs.length:Int)))-1))) z0)) (i64.wrap (j-1))):=(Za.seq (Za.go (t:=(dds 1 (vp qs::(dds 3 (.own 2 k (pc rs)::(bR t::(.own 2 kq (pc os)::(vi j::(dds 94 []))))))))) Zo 400 [.b true] [1,5,6,7,8] (ac c1 a0)) (Za.seq (Za.block_norm (Za.seq (Za.go (t:=(dds 1 (vp qs::(dds 3 (.own 2 k (pc rs)::(bR t::(.own 2 kq (pc os)::(vi j::(bR (rs.getD (Int.toNat (i64.wrap ((i64.wrap (j+(qs.length:Int)))-1))) z0)::(dds 93 [])))))))))) Zo 400 [.v (Z5 (rs.getD (Int.toNat (i64.wrap ((i64.wrap (j+(qs.length:Int)))-1))) z0))] [1,5,6,7,8,9] (ac n1 (ac (Vh n2 n1) a0))) (Za.seq (Za.seq (Za.go Zo 400 [] [1,5,6,7,8,9,44,45] a0) (Za.block hl3)) (Za.seq (Za.seq (Za.go Zo 400 [] [1,5,6,7,8,9,59,60] a0) (Za.block hl4)) (Za.seq (Za.go (t:=(dds 1 (vp qs::(dds 3 (.own 2 k (pc rs1)::(bR t::(.own 2 kq (pc (os1.set (Int.toNat j) (rs.getD (Int.toNat (i64.wrap ((i64.wrap (j+(qs.length:Int)))-1))) z0)))::(vi j::(bR (rs.getD (Int.toNat (i64.wrap ((i64.wrap (j+(qs.length:Int)))-1))) z0)::(dds 93 [])))))))))) Zo 400 [.l (pc (os1.set (Int.toNat j) (rs.getD (Int.toNat (i64.wrap ((i64.wrap (j+(qs.length:Int)))-1))) z0)))] [1,5,6,7,8,9] (ac n5 (ac (Wl (r:=rs.getD (Int.toNat (i64.wrap ((i64.wrap (j+(qs.length:Int)))-1))) z0) n6 n5) a0))) (Za.seq (Za.go Zo 400 [] [1,5,6,7,8,9,78,79] a0) (Za.block hl7))))))) (Za.go Zo 400 [] [1,5,6,7,8] a0)))
theorem Zrk (qs:List Rn) (k:Nat) (rs:List Rn) (t:Rn) (kq:Nat) (os:List Rn) (j:Int)  (c1:(decide (j≥0))=false):Za Yir Zgy (Rk qs k rs t kq os j) (.exit 0) (Rk qs k rs t kq os j):=(Za.seq_out (Za.go Zo 400 [.b false] [1,5,6,7,8] (ac c1 a0)) (by intro e;cases e))
theorem Zpk (rs qs ps us xs os:List Rn) (t:Rn) (k kq:Nat) (j:Int) (n1:Zd Yir 92 [.sl rs.length (pc rs)] (.fresh 2 ps.length (pc ps))) (n2:0≤(i64.wrap ((qs.length:Int)-1))∧(i64.wrap ((qs.length:Int)-1))<(qs.length:Int)) (n3:0≤(i64.wrap ((i64.wrap ((ps.length:Int)-(qs.length:Int)))+1))∧(i64.wrap ((i64.wrap ((ps.length:Int)-(qs.length:Int)))+1))≤1048576) (hl4:Za Yir (.loop Zgy) ((dds 1 (.val (.sl qs.length (pc qs))::(dds 3 (.own 2 ps.length (pc ps)::(.box [.bool ((qs.getD (Int.toNat (i64.wrap ((qs.length:Int)-1))) z0).1), .sl ((qs.getD (Int.toNat (i64.wrap ((qs.length:Int)-1))) z0).2.length) (lm (qs.getD (Int.toNat (i64.wrap ((qs.length:Int)-1))) z0).2)]::(.own 2 (Int.toNat (i64.wrap ((i64.wrap ((ps.length:Int)-(qs.length:Int)))+1))) (Qv [.bool false, .sl 0 []] (Int.toNat (i64.wrap ((i64.wrap ((ps.length:Int)-(qs.length:Int)))+1))))::(.val (.int .i64 (i64.wrap ((((Int.toNat (i64.wrap ((i64.wrap ((ps.length:Int)-(qs.length:Int)))+1))):Nat):Int)-1)))::(dds 94 []))))))))) (.exit 0) (Rk qs k xs t kq os j)) (n5:Zd Yir 86 [.sl kq (pc os)] (.fresh 2 us.length (pc us))):Zd Yir 116 [.sl rs.length (pc rs), .sl qs.length (pc qs)] (.fresh 2 us.length (pc us)):=Zd.of_bodyW (fn:=Zgh) (s:=(dds 4 (.own 2 us.length (pc us)::(dds 98 [])))) (ex := .ret) rfl rfl (Za.seq (Za.go (t:=(vp rs::(vp qs::(dds 2 (.own 2 0 []::(dds 98 [])))))) Zo 400 [] [0,1,4] a0) (Za.seq (Za.go (t:=(vp rs::(vp qs::(dds 2 (.own 2 0 []::(.own 2 ps.length (pc ps)::(dds 97 []))))))) Zo 400 [.r (.fresh 2 ps.length (pc ps))] [0,1,4,5] (ac n1 a0)) (Za.seq (Za.go (t:=(vp rs::(vp qs::(dds 2 (.own 2 0 []::(.own 2 ps.length (pc ps)::(bR (qs.getD (Int.toNat (i64.wrap ((qs.length:Int)-1))) z0)::(dds 96 [])))))))) Zo 400 [.v (Z5 (qs.getD (Int.toNat (i64.wrap ((qs.length:Int)-1))) z0))] [0,1,4,5,6] (ac n2 (ac (J1 n2) a0))) (Za.seq (Za.go (t:=(vp rs::(vp qs::(dds 2 (.own 2 0 []::(.own 2 ps.length (pc ps)::(bR (qs.getD (Int.toNat (i64.wrap ((qs.length:Int)-1))) z0)::(.own 2 (Int.toNat (i64.wrap ((i64.wrap ((ps.length:Int)-(qs.length:Int)))+1))) (Qv [.bool false, .sl 0 []] (Int.toNat (i64.wrap ((i64.wrap ((ps.length:Int)-(qs.length:Int)))+1))))::(dds 95 []))))))))) Zo 400 [] [0,1,4,5,6,7] (ac n3 a0)) (Za.seq (Za.seq (Za.go Zo 400 [] [1,5,6,7,8] a0) (Za.block hl4)) (Za.go Zo 400 [.r (.fresh 2 us.length (pc us))] [4] (ac n5 a0))))))) (by intro i e;cases e) rfl
theorem Rv (rs ps xs:List Rn) (c1:(decide ((xs.length:Int)<2))=true) (n1:Zd Yir 86 [.sl rs.length (pc rs)] (.fresh 2 ps.length (pc ps))) (n2:Zd Yir 115 [.sl ps.length (pc ps)] (.fresh 2 xs.length (pc xs))):Zd Yir 66 [.sl rs.length (pc rs)] (.sl xs.length (pc xs)):=Zd.go (fn:=Ts) Zo rfl 400 rfl [.r (.fresh 2 ps.length (pc ps)), .r (.fresh 2 xs.length (pc xs)), .b true] (ac n1 (ac n2 (ac c1 a0)))
theorem Ru (rs ps xs ds gs:List Rn) (c1:(decide ((xs.length:Int)<2))=false) (c2:(decide ((gs.length:Int)<2))=true) (n1:Zd Yir 86 [.sl rs.length (pc rs)] (.fresh 2 ps.length (pc ps))) (n2:Zd Yir 115 [.sl ps.length (pc ps)] (.fresh 2 xs.length (pc xs))) (n3:Zd Yir 75 [.sl xs.length (pc xs)] (.fresh 2 ds.length (pc ds))) (n4:Zd Yir 65 [.sl xs.length (pc xs), .sl ds.length (pc ds)] (.fresh 2 gs.length (pc gs))):Zd Yir 66 [.sl rs.length (pc rs)] (.sl xs.length (pc xs)):=Zd.go (fn:=Ts) Zo rfl 400 rfl [.r (.fresh 2 ps.length (pc ps)), .r (.fresh 2 xs.length (pc xs)), .b false, .r (.fresh 2 ds.length (pc ds)), .r (.fresh 2 gs.length (pc gs)), .b true] (ac n1 (ac n2 (ac c1 (ac n3 (ac n4 (ac c2 a0))))))
theorem Rt (rs ps xs ds gs us:List Rn) (c1:(decide ((xs.length:Int)<2))=false) (c2:(decide ((gs.length:Int)<2))=false) (n1:Zd Yir 86 [.sl rs.length (pc rs)] (.fresh 2 ps.length (pc ps))) (n2:Zd Yir 115 [.sl ps.length (pc ps)] (.fresh 2 xs.length (pc xs))) (n3:Zd Yir 75 [.sl xs.length (pc xs)] (.fresh 2 ds.length (pc ds))) (n4:Zd Yir 65 [.sl xs.length (pc xs), .sl ds.length (pc ds)] (.fresh 2 gs.length (pc gs))) (n5:Zd Yir 116 [.sl xs.length (pc xs), .sl gs.length (pc gs)] (.fresh 2 us.length (pc us))):Zd Yir 66 [.sl rs.length (pc rs)] (.fresh 2 us.length (pc us)):=Zd.go (fn:=Ts) Zo rfl 400 rfl [.r (.fresh 2 ps.length (pc ps)), .r (.fresh 2 xs.length (pc xs)), .b false, .r (.fresh 2 ds.length (pc ds)), .r (.fresh 2 gs.length (pc gs)), .b false, .r (.fresh 2 us.length (pc us))] (ac n1 (ac n2 (ac c1 (ac n3 (ac n4 (ac c2 (ac n5 a0)))))))
theorem Rs (rs ps xs ds gs:List Rn) (c1:(decide ((xs.length:Int)<2))=false) (c2:(decide ((gs.length:Int)<2))=true) (n1:Zd Yir 86 [.sl rs.length (pc rs)] (.fresh 2 ps.length (pc ps))) (n2:Zd Yir 115 [.sl ps.length (pc ps)] (.fresh 2 xs.length (pc xs))) (n3:Zd Yir 75 [.sl xs.length (pc xs)] (.fresh 2 ds.length (pc ds))) (n4:Zd Yir 65 [.sl xs.length (pc xs), .sl ds.length (pc ds)] (.sl gs.length (pc gs))):Zd Yir 66 [.sl rs.length (pc rs)] (.sl xs.length (pc xs)):=Zd.go (fn:=Ts) Zo rfl 400 rfl [.r (.fresh 2 ps.length (pc ps)), .r (.fresh 2 xs.length (pc xs)), .b false, .r (.fresh 2 ds.length (pc ds)), .r (.sl gs.length (pc gs)), .b true] (ac n1 (ac n2 (ac c1 (ac n3 (ac n4 (ac c2 a0))))))
theorem Rr (rs ps xs ds gs us:List Rn) (c1:(decide ((xs.length:Int)<2))=false) (c2:(decide ((gs.length:Int)<2))=false) (n1:Zd Yir 86 [.sl rs.length (pc rs)] (.fresh 2 ps.length (pc ps))) (n2:Zd Yir 115 [.sl ps.length (pc ps)] (.fresh 2 xs.length (pc xs))) (n3:Zd Yir 75 [.sl xs.length (pc xs)] (.fresh 2 ds.length (pc ds))) (n4:Zd Yir 65 [.sl xs.length (pc xs), .sl ds.length (pc ds)] (.sl gs.length (pc gs))) (n5:Zd Yir 116 [.sl xs.length (pc xs), .sl gs.length (pc gs)] (.fresh 2 us.length (pc us))):Zd Yir 66 [.sl rs.length (pc rs)] (.fresh 2 us.length (pc us)):=Zd.go (fn:=Ts) Zo rfl 400 rfl [.r (.fresh 2 ps.length (pc ps)), .r (.fresh 2 xs.length (pc xs)), .b false, .r (.fresh 2 ds.length (pc ds)), .r (.sl gs.length (pc gs)), .b false, .r (.fresh 2 us.length (pc us))] (ac n1 (ac n2 (ac c1 (ac n3 (ac n4 (ac c2 (ac n5 a0)))))))
theorem Rq (rs ps ds gs:List Rn) (c1:(decide ((ps.length:Int)<2))=false) (c2:(decide ((gs.length:Int)<2))=true) (n1:Zd Yir 86 [.sl rs.length (pc rs)] (.fresh 2 ps.length (pc ps))) (n2:Zd Yir 115 [.sl ps.length (pc ps)] (.sl ps.length (pc ps))) (n3:Zd Yir 75 [.sl ps.length (pc ps)] (.fresh 2 ds.length (pc ds))) (n4:Zd Yir 65 [.sl ps.length (pc ps), .sl ds.length (pc ds)] (.fresh 2 gs.length (pc gs))):Zd Yir 66 [.sl rs.length (pc rs)] (.sl ps.length (pc ps)):=Zd.go (fn:=Ts) Zo rfl 400 rfl [.r (.fresh 2 ps.length (pc ps)), .r (.sl ps.length (pc ps)), .b false, .r (.fresh 2 ds.length (pc ds)), .r (.fresh 2 gs.length (pc gs)), .b true] (ac n1 (ac n2 (ac c1 (ac n3 (ac n4 (ac c2 a0))))))
theorem Rp (rs ps ds gs us:List Rn) (c1:(decide ((ps.length:Int)<2))=false) (c2:(decide ((gs.length:Int)<2))=false) (n1:Zd Yir 86 [.sl rs.length (pc rs)] (.fresh 2 ps.length (pc ps))) (n2:Zd Yir 115 [.sl ps.length (pc ps)] (.sl ps.length (pc ps))) (n3:Zd Yir 75 [.sl ps.length (pc ps)] (.fresh 2 ds.length (pc ds))) (n4:Zd Yir 65 [.sl ps.length (pc ps), .sl ds.length (pc ds)] (.fresh 2 gs.length (pc gs))) (n5:Zd Yir 116 [.sl ps.length (pc ps), .sl gs.length (pc gs)] (.fresh 2 us.length (pc us))):Zd Yir 66 [.sl rs.length (pc rs)] (.fresh 2 us.length (pc us)):=Zd.go (fn:=Ts) Zo rfl 400 rfl [.r (.fresh 2 ps.length (pc ps)), .r (.sl ps.length (pc ps)), .b false, .r (.fresh 2 ds.length (pc ds)), .r (.fresh 2 gs.length (pc gs)), .b false, .r (.fresh 2 us.length (pc us))] (ac n1 (ac n2 (ac c1 (ac n3 (ac n4 (ac c2 (ac n5 a0)))))))
theorem Ro (rs ps:List Rn) (c1:(decide ((ps.length:Int)<2))=true) (n1:Zd Yir 86 [.sl rs.length (pc rs)] (.fresh 2 ps.length (pc ps))) (n2:Zd Yir 115 [.sl ps.length (pc ps)] (.sl ps.length (pc ps))):Zd Yir 66 [.sl rs.length (pc rs)] (.sl ps.length (pc ps)):=Zd.go (fn:=Ts) Zo rfl 400 rfl [.r (.fresh 2 ps.length (pc ps)), .r (.sl ps.length (pc ps)), .b true] (ac n1 (ac n2 (ac c1 a0)))
theorem Rm (rs ps ds gs:List Rn) (c1:(decide ((ps.length:Int)<2))=false) (c2:(decide ((gs.length:Int)<2))=true) (n1:Zd Yir 86 [.sl rs.length (pc rs)] (.fresh 2 ps.length (pc ps))) (n2:Zd Yir 115 [.sl ps.length (pc ps)] (.sl ps.length (pc ps))) (n3:Zd Yir 75 [.sl ps.length (pc ps)] (.fresh 2 ds.length (pc ds))) (n4:Zd Yir 65 [.sl ps.length (pc ps), .sl ds.length (pc ds)] (.sl gs.length (pc gs))):Zd Yir 66 [.sl rs.length (pc rs)] (.sl ps.length (pc ps)):=Zd.go (fn:=Ts) Zo rfl 400 rfl [.r (.fresh 2 ps.length (pc ps)), .r (.sl ps.length (pc ps)), .b false, .r (.fresh 2 ds.length (pc ds)), .r (.sl gs.length (pc gs)), .b true] (ac n1 (ac n2 (ac c1 (ac n3 (ac n4 (ac c2 a0))))))
theorem Rl (rs ps ds gs us:List Rn) (c1:(decide ((ps.length:Int)<2))=false) (c2:(decide ((gs.length:Int)<2))=false) (n1:Zd Yir 86 [.sl rs.length (pc rs)] (.fresh 2 ps.length (pc ps))) (n2:Zd Yir 115 [.sl ps.length (pc ps)] (.sl ps.length (pc ps))) (n3:Zd Yir 75 [.sl ps.length (pc ps)] (.fresh 2 ds.length (pc ds))) (n4:Zd Yir 65 [.sl ps.length (pc ps), .sl ds.length (pc ds)] (.sl gs.length (pc gs))) (n5:Zd Yir 116 [.sl ps.length (pc ps), .sl gs.length (pc gs)] (.fresh 2 us.length (pc us))):Zd Yir 66 [.sl rs.length (pc rs)] (.fresh 2 us.length (pc us)):=Zd.go (fn:=Ts) Zo rfl 400 rfl [.r (.fresh 2 ps.length (pc ps)), .r (.sl ps.length (pc ps)), .b false, .r (.fresh 2 ds.length (pc ds)), .r (.sl gs.length (pc gs)), .b false, .r (.fresh 2 us.length (pc us))] (ac n1 (ac n2 (ac c1 (ac n3 (ac n4 (ac c2 (ac n5 a0)))))))
def TMA:Js:=TRB
theorem Zg6:Qt Yir TMA:=Zo
end Go.Proofs.Ythnnfemologhfaa

namespace Go.Ai
open Go.IntKind (i64 u64 u32)
theorem Zdj (c:Nat) (hc:1<c):∃ p,1<p∧p∣c∧∀ d,d∣p→d=1∨d=p:=by
 have h:∀ n,∀ m,m≤n→1<m→m∣c→∃ p,1<p∧p∣c∧∀ d,d∣p→d=1∨d=p:=by
  intro n
  induction n with
  | zero=>intro m h1 h2;omega
  | succ n ih =>
   intro m h1 h2 h3
   by_cases h:∀ d,d∣m→d=1∨d=m
   ·exact⟨m,h2,h3,h⟩
   ·obtain⟨d,hd⟩:=Classical.not_forall.1 h
    obtain⟨hd1,hd2⟩:=Classical.not_imp.1 hd
    have h5:=Nat.le_of_dvd (by omega) hd1
    have h6:d ≠ 0:=by intro h0;subst h0;have:=Nat.zero_dvd.1 hd1;omega
    exact ih d (by omega) (by omega) (Nat.dvd_trans hd1 h3)
 exact h c c (Nat.le_refl _) hc (Nat.dvd_refl _)
theorem Zct {p:Nat} (hp:∀ d,d∣p→d=1∨d=p) {a b:Int} (h:(p:Int)∣a*b):(p:Int)∣a∨(p:Int)∣b:=by
 rcases hp (Nat.gcd p a.natAbs) (Nat.gcd_dvd_left _ _) with g | g
 ·right
  have h1:p∣a.natAbs*b.natAbs:=by rw[← Int.natAbs_mul];exact Int.ofNat_dvd_left.1 h
  exact Int.ofNat_dvd_left.2 (Nat.Coprime.dvd_of_dvd_mul_left g h1)
 ·left
  have:p∣a.natAbs:=by rw[← g];exact Nat.gcd_dvd_right _ _
  exact Int.ofNat_dvd_left.2 this
theorem Vf (g:List Int) (b:Int) (k:List Int) (i:Nat):(Jk g (b::k)).getD i 0=b*g.getD i 0+(Uy 1 (Jk g k)).getD i 0:=by
 have h:=Xu (p:=Jk g (b::k)) (q:=Hr (Zu b g) (Uy 1 (Jk g k))) (fun x=>by
  rw[Zq,Z6,Zh,X7,Zq]
  simp only[Zc,Int.pow_succ,Int.pow_zero]
  grind) i
 rw[h,Xn,Z2]
theorem B2 {p:Nat} (hp:∀ d,d∣p→d=1∨d=p):∀ (g k:List Int),(∀ i,(p:Int)∣(Jk g k).getD i 0)→(¬ ∀ i,(p:Int)∣g.getD i 0)→∀ i,(p:Int)∣k.getD i 0
 | [],k,_,h=>absurd (fun i=>by simp) h
 | a::g,k,h,hn=>by
  by_cases ha:(p:Int)∣a
  ·refine B2 hp g k (fun i => ?_) (fun h2=>hn fun i => ?_)
   ·have h1:=h (i+1)
    rw[Jy,Qo,if_pos (by omega)] at h1
    exact (Int.dvd_add_right (Int.dvd_trans ha (Int.dvd_mul_right _ _))).1 h1
   ·cases i with
    | zero=>simpa using ha
    | succ i=>simpa using h2 i
  ·clear hn
   induction k with
   | nil=>intro i;simp
   | cons b k ih =>
    have h0:=h 0
    rw[Jy,Qo,if_neg (by omega),Int.add_zero] at h0
    have hb:(p:Int)∣b:=by
     rcases Zct hp h0 with g1 | g1
     ·exact absurd g1 ha
     ·simpa using g1
    have h2:=ih (fun i=>by
     have h1:=h (i+1)
     rw[Vf,Qo,if_pos (by omega)] at h1
     exact (Int.dvd_add_right (Int.dvd_trans hb (Int.dvd_mul_right _ _))).1 h1)
    intro i
    cases i with
    | zero=>simpa using hb
    | succ i=>simpa using h2 i
theorem gauss {g : List Int} (hg :   Je g = 1) : ∀ (c : Nat) (k : List Int), 0 < c → (∀ i, (c : Int) ∣ (  Jk g k).getD i 0) → ∀ i, (c : Int) ∣ k.getD i 0 := by
  intro c
  induction c using Nat.strongRecOn with
  | ind c ih =>
    intro k hc h
    by_cases h1 : c = 1
    · intro i; rw [h1]; exact Int.one_dvd _
    · obtain ⟨p, p1, ⟨d, hd⟩, p3⟩ :=       Zdj c (by omega)
      have hd0 : 0 < d := by rcases Nat.eq_zero_or_pos d with g | g
                             · rw [g, Nat.mul_zero] at hd; omega
                             · exact g
      have hdc : d < c := by rw [hd]; exact (Nat.lt_mul_iff_one_lt_left hd0).2 p1
      have hpk :=          B2 p3 g k (fun i => Int.dvd_trans ⟨(d : Int), by rw [hd]; push_cast; rfl⟩ (h i)) (fun h2 => by
        have := (      K4 p g).2 h2
        rw [hg] at this
        have := Nat.le_of_dvd (by decide) this
        omega)
      have hk :    Zu (p : Int) (k.map fun x => x / (p : Int)) = k := by
        apply       K1 (by simp [   Zu])
        intro i
        rw [        Z2]
        have e : (k.map fun x => x / (p : Int)).getD i 0 = k.getD i 0 / (p : Int) := by
          simp only [List.getD_eq_getElem?_getD, List.getElem?_map]
          cases k[i]? <;> simp
        rw [e]
        exact Int.mul_ediv_cancel' (hpk i)
      generalize k.map (fun x => x / (p : Int)) = k1 at hk
      subst hk
      have h3 := ih d hdc k1 hd0 (fun i => by
        have h2 := h i
        have e : (  Jk g (   Zu (p : Int) k1)).getD i 0 = (p : Int) * (  Jk g k1).getD i 0 := by
          rw [←         Z2]
          exact         Xu (fun x => by rw [        Zq,          Zh,          Zh,         Zq]; grind) i
        rw [e, hd, Int.natCast_mul] at h2
        exact Int.dvd_of_mul_dvd_mul_left (by omega) h2)
      intro i
      rw [        Z2, hd, Int.natCast_mul]
      exact Int.mul_dvd_mul_left _ (h3 i)
def syn:List Int→Int→List Int
 | [],_=>[]
 | _::p,a=>Hr p (Zu a (syn p a))
theorem Dm:∀ (p:List Int) (a x:Int),Zc p x-Zc p a=(x-a)*Zc (syn p a) x
 | [],a,x=>by simp[syn,Zc]
 | c::p,a,x=>by
  have ih:=Dm p a x
  simp only[syn,Zc]
  rw[Z6,Zh]
  grind
theorem L8:∀ (p:List Int) (a:Int),(syn p a).length≤p.length-1
 | [],a=>by simp[syn]
 | c::p,a=>by
  have ih:=L8 p a
  have:=Zij p (Zu a (syn p a))
  rw[Z0] at this
  simp only[syn,List.length_cons]
  omega
theorem Sf (p:List Int) (a:Int) (i:Nat):p.getD i 0=(Zc p a::syn p a).getD i 0-a*(syn p a).getD i 0:=by
 have h:=Xu (p:=p) (q:=Zha (Zc p a::syn p a) (Zu a (syn p a))) (fun x=>by
  rw[X8,Zh]
  simp only[Zc]
  have:=Dm p a x
  grind) i
 rw[h,Zdx,Z2]
theorem Zck:∀ (n:Nat) (p:List Int) (l:List Int),p.length≤n→l.Nodup→(∀ x∈l,Zc p x=0)→n≤l.length→∀ i,p.getD i 0=0:=by
 intro n
 induction n with
 | zero =>
  intro p l h _ _ _ i
  rw[List.eq_nil_of_length_eq_zero (by omega:p.length=0)];simp
 | succ n ih =>
  intro p l h1 h2 h3 h4 i
  cases l with
  | nil=>simp at h4
  | cons a l =>
   have ha:=h3 a List.mem_cons_self
   have hq:=ih (syn p a) l (by have:=L8 p a;omega) (List.nodup_cons.1 h2).2 (fun x hx=>by
    have h5:=Dm p a x
    rw[ha,h3 x (List.mem_cons_of_mem _ hx)] at h5
    rcases Int.mul_eq_zero.1 (h5.symm.trans (by omega)) with g | g
    ·have hxa:x=a:=by omega
     subst hxa
     exact absurd hx (List.nodup_cons.1 h2).1
    ·exact g) (by simp at h4;omega)
   rw[Sf p a i,ha,hq i]
   cases i with
   | zero=>simp
   | succ i=>simpa using hq i
theorem Tx {R:Nat}:∀ (n:Nat) (g:List Int) (l:List Int) (M:Nat),g.length≤n+1→l.Nodup→l.length=n+1→(∀ x∈l,x.natAbs≤R∧(Zc g x).natAbs≤M)→(∀ x∈l,∀ y∈l,x ≠ y→1≤(x-y).natAbs)→∀ i,(g.getD i 0).natAbs≤M*(2*R+3)^n:=by
 intro n
 induction n with
 | zero =>
  intro g l M h1 h2 h3 h4 _ i
  cases l with
  | nil=>simp at h3
  | cons a l =>
   have ha:=h4 a List.mem_cons_self
   cases g with
   | nil=>simp
   | cons c g =>
    have:g=[]:=by simpa using h1
    subst this
    simp only[Zc,Int.mul_zero,Int.add_zero] at ha
    rw[Nat.pow_zero,Nat.mul_one]
    cases i with
    | zero=>simpa using ha.2
    | succ i=>simp
 | succ n ih =>
  intro g l M h1 h2 h3 h4 h6 i
  cases l with
  | nil=>simp at h3
  | cons a l =>
   obtain⟨ha1,ha2⟩:=h4 a List.mem_cons_self
   have hq:=ih (syn g a) l (2*M) (by have:=L8 g a;omega) (List.nodup_cons.1 h2).2 (by simpa using h3) (fun x hx=>by
    obtain⟨hx1,hx2⟩:=h4 x (List.mem_cons_of_mem _ hx)
    refine⟨hx1,?_⟩
    have h5:=congrArg Int.natAbs (Dm g a x)
    rw[Int.natAbs_mul] at h5
    have hne:x ≠ a:=by intro e;subst e;exact absurd hx (List.nodup_cons.1 h2).1
    have h7:1≤(x-a).natAbs:=by omega
    have h8:=Nat.le_mul_of_pos_left (Zc (syn g a) x).natAbs h7
    have h9:(Zc g x-Zc g a).natAbs≤2*M:=by omega
    omega) (fun x hx y hy=>h6 x (List.mem_cons_of_mem _ hx) y (List.mem_cons_of_mem _ hy))
   rw[Sf g a i]
   have hX:1≤(2*R+3)^n:=Nat.pow_pos (by omega)
   have e1:M*(2*R+3)^(n+1)=R*(2*M*(2*R+3)^n)+2*M*(2*R+3)^n+M*(2*R+3)^n:=by rw[Nat.pow_succ];grind
   have e2:M*1≤M*(2*R+3)^n:=Nat.mul_le_mul_left _ hX
   have b1:=hq i
   have b2:(a*(syn g a).getD i 0).natAbs≤R*(2*M*(2*R+3)^n):=by rw[Int.natAbs_mul];exact Nat.mul_le_mul ha1 b1
   have b3:((Zc g a::syn g a).getD i 0).natAbs≤2*M*(2*R+3)^n+M*(2*R+3)^n:=by
    cases i with
    | zero=>simp only[List.getD_cons_zero];omega
    | succ i=>have:=hq i;simp only[List.getD_cons_succ];omega
   rw[e1]
   generalize R*(2*M*(2*R+3)^n)=A at *
   generalize 2*M*(2*R+3)^n=B at *
   generalize M*(2*R+3)^n=C at *
   omega
theorem Ss {R B:Nat}:∀ (t:List Int) (x:Int),(∀ i,(t.getD i 0).natAbs≤B)→x.natAbs≤R→(Zc t x).natAbs≤B*(R+1)^t.length
 | [],x,_,_=>by simp[Zc]
 | c::t,x,h,hx=>by
  have ih:=Ss t x (fun i=>by simpa using h (i+1)) hx
  have h0:c.natAbs≤B:=by simpa using h 0
  simp only[Zc,List.length_cons]
  have h1:(x*Zc t x).natAbs≤R*(B*(R+1)^t.length):=by rw[Int.natAbs_mul];exact Nat.mul_le_mul hx ih
  have h2:B*1≤B*(R+1)^t.length:=Nat.mul_le_mul_left _ (Nat.pow_pos (by omega))
  have e:B*(R+1)^(t.length+1)=R*(B*(R+1)^t.length)+B*(R+1)^t.length:=by rw[Nat.pow_succ];grind
  rw[e]
  generalize R*(B*(R+1)^t.length)=X at *
  omega
theorem Zim {t:List Int} {n:Nat} (ht:Ze t ≠ []) (hl:t.length≤n+1):∃ l:List Int,l.Nodup∧l.length=n+1∧∀ x∈l,x.natAbs≤2*n∧Zc t x ≠ 0:=by
 have hnd:((List.range (2*n+1)).map fun i:Nat=>(i:Int)).Nodup:=by
  rw[List.nodup_iff_pairwise_ne,List.pairwise_map]
  exact (List.nodup_iff_pairwise_ne.1 List.nodup_range).imp (fun h=>by omega)
 have hmem:∀ x∈(List.range (2*n+1)).map fun i:Nat=>(i:Int),x.natAbs≤2*n:=by
  intro x hx
  obtain⟨i,hi,rfl⟩:=List.mem_map.1 hx
  have:=List.mem_range.1 hi
  omega
 have hlen:((List.range (2*n+1)).map fun i:Nat=>(i:Int)).length=2*n+1:=by simp
 generalize ((List.range (2*n+1)).map fun i:Nat=>(i:Int))=L at *
 have hsum:=List.length_eq_countP_add_countP (fun x=>decide (Zc t x=0)) (l:=L)
 rw[List.countP_eq_length_filter,List.countP_eq_length_filter] at hsum
 have hA:(L.filter fun x=>decide (Zc t x=0)).length≤n:=by
  apply Nat.le_of_not_lt
  intro h
  apply ht
  rw[Xj]
  exact Zck (n+1) t (L.filter fun x=>decide (Zc t x=0)) hl (hnd.filter _) (fun x hx=>by simpa using (List.mem_filter.1 hx).2) (by omega)
 refine⟨(L.filter fun x=>decide ¬ (decide (Zc t x=0))=true).take (n+1),(hnd.filter _).sublist (List.take_sublist _ _),?_,?_⟩
 ·rw[List.length_take];omega
 ·intro x hx
  obtain⟨h1,h2⟩:=List.mem_filter.1 (List.mem_of_mem_take hx)
  exact⟨hmem x h1,by simpa using h2⟩
theorem Np {t g k:List Int} {K:Nat} (ht:Ze t ≠ []) (hl:t.length≤9) (hg:g.length≤9) (hK:Kb K t) (h:∀ x,Zc t x=Zc g x*Zc k x):Kb (K+3) g:=by
 obtain⟨l,l1,l2,l3⟩:=Zim (n:=8) ht hl
 have hb:∀ i,(t.getD i 0).natAbs≤4294967296^K:=fun i=>Nat.le_of_lt (hK i)
 have h1:=Tx (R:=16) 8 g l (4294967296^K*17^9) hg l1 l2 (fun x hx=>by
  obtain⟨a,b⟩:=l3 x hx
  refine⟨a,?_⟩
  have h2:=Ss (R:=16) t x hb a
  have h3:=congrArg Int.natAbs (h x)
  rw[Int.natAbs_mul] at h3
  have h4:1≤(Zc k x).natAbs:=by
   rcases Nat.eq_zero_or_pos (Zc k x).natAbs with g | g
   ·rw[g,Nat.mul_zero] at h3;omega
   ·exact g
  have h5:=Nat.le_mul_of_pos_right (Zc g x).natAbs h4
  have h6:4294967296^K*17^t.length≤4294967296^K*17^9:=Nat.mul_le_mul_left _ (Nat.pow_le_pow_right (by decide) hl)
  exact Nat.le_trans (Nat.le_trans h5 (Nat.le_of_eq h3.symm)) (Nat.le_trans h2 h6)) (fun x _ y _ hne=>by omega)
 intro i
 have h2:=h1 i
 unfold Jh
 refine Nat.lt_of_le_of_lt h2 ?_
 rw[Nat.mul_assoc,Nat.pow_add]
 exact Nat.mul_lt_mul_of_pos_left (by decide) (Nat.pow_pos (by decide))
theorem Zak {t g k:List Int} {c:Int} (hc:c ≠ 0) (hg:Je g=1) (h:∀ x,c*Zc t x=Zc g x*Zc k x):∃ k',∀ x,Zc t x=Zc g x*Zc k' x:=by
 have h1:=Xu (p:=Jk g k) (q:=Zu c t) (fun x=>by rw[Zq,Zh];exact (h x).symm)
 have h2:=gauss hg c.natAbs k (by omega) (fun i=>by rw[h1,Z2];exact Int.dvd_trans (Int.natAbs_dvd.2 (Int.dvd_refl _)) (Int.dvd_mul_right _ _))
 have hk:Zu c (k.map fun x=>x / c)=k:=by
  apply K1 (by simp[Zu])
  intro i
  rw[Z2]
  have e:(k.map fun x=>x / c).getD i 0=k.getD i 0 / c:=by
   simp only[List.getD_eq_getElem?_getD,List.getElem?_map]
   cases k[i]? <;> simp
  rw[e]
  exact Int.mul_ediv_cancel' (Int.natAbs_dvd.1 (h2 i))
 refine⟨k.map fun x=>x / c,fun x => ?_⟩
 have h3:=h x
 rw[← hk,Zh] at h3
 apply Int.eq_of_mul_eq_mul_left hc
 rw[h3];grind
theorem B1 {t g k:List Int} {c:Int} {K:Nat} (hc:c ≠ 0) (hg:Je g=1) (ht:Ze t ≠ []) (hl:t.length≤9) (hgl:g.length≤9) (hK:Kb K t) (h:∀ x,c*Zc t x=Zc g x*Zc k x):Kb (K+3) g:=by
 obtain⟨k',hk⟩:=Zak hc hg h
 exact Np ht hl hgl hK hk
end Go.Ai

namespace Go.Ai
open Go.IntKind (i64 u64 u32)
def Dv (g t:List Int):Prop:=∃ (c:Int) (k:List Int),c ≠ 0∧∀ x,c*Zc t x=Zc g x*Zc k x
theorem Dv.refl (g:List Int):Dv g g:=⟨1,[1],by decide,fun x=>by simp [Zc]⟩
theorem Dv.zero (g:List Int):Dv g []:=⟨1,[],by decide,fun x=>by simp [Zc]⟩
theorem Dv.trans {a b c:List Int} (h1:Dv a b) (h2:Dv b c):Dv a c:=by
 obtain⟨m,k,hm,h⟩:=h1
 obtain⟨n,l,hn,g⟩:=h2
 refine⟨m*n,Jk k l,Int.mul_ne_zero hm hn,fun x => ?_⟩
 have h':=h x;have g':=g x
 rw[Zq,Int.mul_assoc,g']
 rw[← Int.mul_assoc,h']
 grind
theorem Dv.comb {g s t r:List Int} {m:Int} (u v:List Int) (hm:m ≠ 0) (h1:Dv g s) (h2:Dv g t) (h:∀ x,m*Zc r x=Zc u x*Zc s x+Zc v x*Zc t x):Dv g r:=by
 obtain⟨c,k,hc,hk⟩:=h1
 obtain⟨d,l,hd,hl⟩:=h2
 refine⟨c*d*m,Hr (Zu d (Jk u k)) (Zu c (Jk v l)),Int.mul_ne_zero (Int.mul_ne_zero hc hd) hm,fun x => ?_⟩
 rw[Z6,Zh,Zh,Zq,Zq]
 have a:=hk x;have b:=hl x;have e:=h x
 rw[Int.mul_assoc,e]
 generalize Zc s x=s at *
 generalize Zc t x=t at *
 generalize Zc g x=g at *
 generalize Zc k x=k at *
 generalize Zc l x=l at *
 generalize Zc u x=u at *
 generalize Zc v x=v at *
 have e1:c*d*(u*s+v*t)=d*u*(c*s)+c*v*(d*t):=by grind
 rw[e1,a,b];grind
theorem Dv.scaled {g s r:List Int} {m n:Int} (hm:m ≠ 0) (h1:Dv g s) (h:∀ x,m*Zc r x=n*Zc s x):Dv g r :=
 Dv.comb [n] [] hm h1 h1 fun x=>by rw[h x];simp[Zc]
theorem Dv.left {g f t:List Int} {m n:Int} (_:m ≠ 0) (hn:n ≠ 0) (h1:Dv g t) (h:∀ x,m*Zc f x=n*Zc g x):Dv f t:=by
 obtain⟨c,k,hc,hk⟩:=h1
 refine⟨n*c,Zu m k,Int.mul_ne_zero hn hc,fun x => ?_⟩
 have a:=hk x;have b:=h x
 rw[Zh]
 have e1:n*c*Zc t x=n*(c*Zc t x):=by grind
 rw[e1,a]
 have e2:n*(Zc g x*Zc k x)=(n*Zc g x)*Zc k x:=by grind
 rw[e2,← b];grind
theorem Dv.mul_right {g s:List Int} (t:List Int) (h:Dv g s) {r:List Int} (hr:∀ x,Zc r x=Zc s x*Zc t x):Dv g r :=
 Dv.comb (m:=1) t [] (by decide) h h fun x=>by rw[hr x];simp[Zc];grind
theorem X9 {p:List Int} (h:Ub p) (h0:p ≠ []):Ze p ≠ []:=by rw [h];exact h0
theorem Ka {p q:List Int} (hp:Ze p ≠ []) (hq:Ze q ≠ []):(Ze (Jk p q)).length=(Ze p).length+(Ze q).length-1:=by
 have e:Ze (Jk p q)=Ze (Jk (Ze p) (Ze q)):=J5 fun x=>by rw[Zq,Zq,Vc,Vc]
 rw[e]
 have lp:=Kh p
 have lq:=Kh q
 generalize Ze p=P at *
 generalize Ze q=Q at *
 have h1:=List.length_pos_iff.2 hp
 have h2:=List.length_pos_iff.2 hq
 obtain⟨t1,t2⟩:=Nd P Q hp hq
 have t3:(Jk P Q).getD (P.length+Q.length-2) 0 ≠ 0:=by rw[t1];exact Int.mul_ne_zero (Ut lp hp) (Ut lq hq)
 rw[V3]
 have a1:¬ (Jk P Q).length≤P.length+Q.length-2:=fun h=>t3 (Qi h)
 have a2:¬ P.length+Q.length-1<(Jk P Q).length:=fun h=>by
  have hne:Jk P Q ≠ []:=by intro h0;rw[h0] at h;simp at h
  exact Ut (show Ub (Jk P Q) from V3 P Q) hne (t2 _ (by omega))
 omega
theorem Ps {p q:List Int} (hp:Ze p ≠ []) (h:∀ x,Zc p x*Zc q x=0):∀ x,Zc q x=0:=by
 intro x
 by_cases hq:Ze q=[]
 ·exact Qy hq x
 ·have h1:=Ka hp hq
  have h2:Ze (Jk p q)=Ze []:=J5 fun x=>by rw[Zq,h x];rfl
  rw[h2] at h1
  have:=List.length_pos_iff.2 hp
  have:=List.length_pos_iff.2 hq
  have h0:(Ze []).length=0:=rfl
  rw[h0] at h1
  omega
theorem Ac {p:List Int} (hp:Ze p ≠ []) (q r:List Int) (h:∀ x,Zc p x*Zc q x=Zc p x*Zc r x):∀ x,Zc q x=Zc r x:=by
 intro x
 have:=Ps (q:=Zha q r) hp (fun x=>by rw[X8,Int.mul_sub,h x];omega) x
 rw[X8] at this
 omega
theorem Dv.length {g t:List Int} (h:Dv g t) (ht:Ze t ≠ []):(Ze g).length≤(Ze t).length∧Ze g ≠ []:=by
 obtain⟨c,k,hc,hk⟩:=h
 have e:Ze (Zu c t)=Ze (Jk g k):=J5 fun x=>by rw[Zh,Zq];exact hk x
 rw[Vy hc] at e
 have e2:=congrArg List.length e
 rw[Z0] at e2
 have ht1:=List.length_pos_iff.2 ht
 by_cases hg:Ze g=[]
 ·have:Ze (Jk g k)=Ze []:=J5 fun x=>by rw[Zq,Qy hg];simp[Zc]
  have h0:(Ze []).length=0:=rfl
  rw[this,h0] at e2
  omega
 ·by_cases hk0:Ze k=[]
  ·have:Ze (Jk g k)=Ze []:=J5 fun x=>by rw[Zq,Qy hk0];simp[Zc]
   have h0:(Ze []).length=0:=rfl
   rw[this,h0] at e2
   omega
  ·rw[Ka hg hk0] at e2
   have:=List.length_pos_iff.2 hk0
   exact⟨by omega,hg⟩
def IsG (g s t:List Int):Prop:=Dv g s∧Dv g t∧∃ (c:Int) (u v:List Int),c ≠ 0∧∀ x,c*Zc g x=Zc u x*Zc s x+Zc v x*Zc t x
theorem IsG.comm {g s t:List Int} (h:IsG g s t):IsG g t s:=by
 obtain⟨a,b,c,u,v,hc,h⟩:=h
 exact⟨b,a,c,v,u,hc,fun x=>by rw[h x];omega⟩
theorem IsG.dv {g s t f:List Int} (h:IsG g s t) (h1:Dv f s) (h2:Dv f t):Dv f g:=by
 obtain⟨_,_,c,u,v,hc,h⟩:=h
 exact Dv.comb u v hc h1 h2 h
theorem IsG.start (s:List Int):IsG s s []:=⟨Dv.refl s,Dv.zero s,1,[1],[],by decide,fun x=>by simp [Zc]⟩
theorem IsG.length {f g s t:List Int} (h1:IsG f s t) (h2:IsG g s t) (hf:Ze f ≠ []):(Ze f).length=(Ze g).length:=by
 have a:=(h1.dv h2.1 h2.2.1).length hf
 have b:=(h2.dv h1.1 h1.2.1).length a.2
 omega
theorem IsG.step {g r d e q:List Int} {a m:Int} (ha:a ≠ 0) (hm:m ≠ 0) (hr:∀ x,a*Zc r x=Zc q x*Zc d x+m*Zc e x) (h:IsG g d e):IsG g r d:=by
 obtain⟨h1,h2,c,u,v,hc,h⟩:=h
 refine⟨Dv.comb q [m] ha h1 h2 (fun x=>by rw[hr x];simp[Zc]),h1,c*m,Zu a v,Zha (Zu m u) (Jk v q),Int.mul_ne_zero hc hm,fun x => ?_⟩
 have e1:=hr x;have e2:=h x
 rw[Zh,X8,Zh,Zq]
 generalize Zc g x=g at *
 generalize Zc d x=d at *
 generalize Zc e x=e at *
 generalize Zc r x=r at *
 generalize Zc q x=q at *
 generalize Zc u x=u at *
 generalize Zc v x=v at *
 have e3:c*m*g=m*(c*g):=by grind
 rw[e3,e2]
 have e4:a*v*r=v*(a*r):=by grind
 rw[e4,e1];grind
theorem IsG.scaled {g s t s' t':List Int} {m n k l:Int} (hm:m ≠ 0) (hn:n ≠ 0) (hk:k ≠ 0) (hl:l ≠ 0) (h1:∀ x,m*Zc s' x=n*Zc s x) (h2:∀ x,k*Zc t' x=l*Zc t x) (h:IsG g s t):IsG g s' t':=by
 obtain⟨a,b,c,u,v,hc,h⟩:=h
 refine⟨a.scaled hm h1,b.scaled hk h2,c*(n*l),Zu (m*l) u,Zu (k*n) v,Int.mul_ne_zero hc (Int.mul_ne_zero hn hl),fun x => ?_⟩
 have e1:=h1 x;have e2:=h2 x;have e3:=h x
 rw[Zh,Zh]
 generalize Zc g x=g at *
 generalize Zc s x=s at *
 generalize Zc t x=t at *
 generalize Zc s' x=s' at *
 generalize Zc t' x=t' at *
 generalize Zc u x=u at *
 generalize Zc v x=v at *
 have e4:c*(n*l)*g=n*l*(c*g):=by grind
 rw[e4,e3]
 have e5:m*l*u*s'=l*u*(m*s'):=by grind
 have e6:k*n*v*t'=n*v*(k*t'):=by grind
 rw[e5,e6,e1,e2];grind
theorem IsG.gscaled {g g' s t:List Int} {m n:Int} (hm:m ≠ 0) (hn:n ≠ 0) (h1:∀ x,m*Zc g' x=n*Zc g x) (h:IsG g s t):IsG g' s t:=by
 obtain⟨a,b,c,u,v,hc,h⟩:=h
 refine⟨a.left hm hn h1,b.left hm hn h1,c*m,Zu n u,Zu n v,Int.mul_ne_zero hc hm,fun x => ?_⟩
 have e1:=h1 x;have e2:=h x
 rw[Zh,Zh,Int.mul_assoc,e1]
 have e3:c*(n*Zc g x)=n*(c*Zc g x):=by grind
 rw[e3,e2];grind
theorem IsG.mul {d p q:List Int} (c:List Int) {d' p' q':List Int} (hd:∀ x,Zc d' x=Zc c x*Zc d x) (hp:∀ x,Zc p' x=Zc c x*Zc p x) (hq:∀ x,Zc q' x=Zc c x*Zc q x) (h:IsG d p q):IsG d' p' q':=by
 obtain⟨⟨m,k,hm,hk⟩,⟨n,l,hn,hl⟩,e,u,v,he,h⟩:=h
 refine⟨⟨m,k,hm,fun x => ?_⟩,⟨n,l,hn,fun x => ?_⟩,e,u,v,he,fun x => ?_⟩
 ·have:=hk x;rw[hd,hp];grind
 ·have:=hl x;rw[hd,hq];grind
 ·have:=h x;rw[hd,hp,hq];grind
theorem V2 (p:List Int):∃ m:Int,m ≠ 0∧∀ x,Zc p x=m*Zc (prim p) x:=by
 by_cases h:Ze p=[]
 ·refine⟨1,by decide,fun x => ?_⟩
  rw[Qy h,Uf.2 (Xj.1 h)];rfl
 ·have:=K7 h
  refine⟨(Je p:Int),by omega,fun x => ?_⟩
  rw[← Zh,Fd,Vc]
theorem Zaa {r d:List Int} (hl:d.length≤r.length) (ht:top d ≠ 0):∃ (a m:Int) (q:List Int),a ≠ 0∧m ≠ 0∧∀ x,a*Zc r x=Zc q x*Zc d x+m*Zc (U0 r d) x:=by
 obtain⟨m,hm,h⟩:=V2 (K3 r d ((top d).natAbs:Int) (sg (top d)*top r) r.length)
 refine⟨((top d).natAbs:Int),m,Uy (r.length-d.length) [sg (top d)*top r],by omega,hm,fun x => ?_⟩
 have h1:=h x
 rw[M2 hl] at h1
 have e:Zc (U0 r d) x=Zc (prim (K3 r d ((top d).natAbs:Int) (sg (top d)*top r) r.length)) x:=rfl
 rw[e,← h1,X7]
 simp only[Zc]
 grind
theorem T5 {d:List Int} (ht:top d ≠ 0):∀ (f:Nat) (r:List Int),∃ (a m:Int) (q:List Int),a ≠ 0∧m ≠ 0∧∀ x,a*Zc r x=Zc q x*Zc d x+m*Zc (U5 f r d) x:=by
 intro f
 induction f with
 | zero=>intro r;exact⟨1,1,[],by decide,by decide,fun x=>by simp[Zc,U5]⟩
 | succ f ih =>
  intro r
  simp only[U5]
  split
  ·rename_i hl
   obtain⟨a,m,q,ha,hm,h⟩:=Zaa hl ht
   obtain⟨b,n,s,hb,hn,g⟩:=ih (U0 r d)
   refine⟨b*a,m*n,Hr (Zu b q) (Zu m s),Int.mul_ne_zero hb ha,Int.mul_ne_zero hm hn,fun x => ?_⟩
   have h':=h x;have g':=g x
   rw[Z6,Zh,Zh,Int.mul_assoc,h']
   generalize Zc (U5 f (U0 r d) d) x=z at *
   generalize Zc (U0 r d) x=y at *
   have e:b*(Zc q x*Zc d x+m*y)=b*(Zc q x*Zc d x)+m*(b*y):=by grind
   rw[e,g'];grind
  ·exact⟨1,1,[],by decide,by decide,fun x=>by simp[Zc]⟩
theorem Mm:∀ (f:Nat) (x y:List Int),y.length≤f→y.length≤x.length→Ub x→Ub y→IsG (Ff f x y) x y:=by
 intro f
 induction f with
 | zero =>
  intro x y h1 _ _ _
  have:y=[]:=List.eq_nil_of_length_eq_zero (by omega)
  subst this
  exact IsG.start x
 | succ f ih =>
  intro x y h1 h2 lx ly
  simp only[Ff]
  split
  ·rename_i h;subst h;exact IsG.start x
  ·rename_i h
   have ht:top y ≠ 0:=Ut ly h
   obtain⟨r1,r2,_⟩:=Sk h (K:=Nat.max 1 (y.map Int.natAbs).sum) (fun i=>by
    have h3:(y.getD i 0).natAbs≤(y.map Int.natAbs).sum:=by
     clear ht h h1 h2 ly ih
     induction y generalizing i with
     | nil=>simp
     | cons c y ih => 
      cases i with
      | zero=>simp
      | succ i=>have:=ih i;simp at this ⊢;omega
    unfold Jh
    have h4:(y.map Int.natAbs).sum≤Nat.max 1 (y.map Int.natAbs).sum:=Nat.le_max_right _ _
    exact Nat.lt_of_le_of_lt (Nat.le_trans h3 h4) (Nat.lt_pow_self (by decide))) x.length x (Nat.max 1 (x.map Int.natAbs).sum) (Nat.le_refl _) lx (fun i=>by
    have h3:(x.getD i 0).natAbs≤(x.map Int.natAbs).sum:=by
     clear ht h h1 h2 lx ih
     induction x generalizing i with
     | nil=>simp
     | cons c y ih => 
      cases i with
      | zero=>simp
      | succ i=>have:=ih i;simp at this ⊢;omega
    unfold Jh
    have h4:(x.map Int.natAbs).sum≤Nat.max 1 (x.map Int.natAbs).sum:=Nat.le_max_right _ _
    exact Nat.lt_of_le_of_lt (Nat.le_trans h3 h4) (Nat.lt_pow_self (by decide)))
   obtain⟨a,m,q,ha,hm,e⟩:=T5 ht x.length x
   exact IsG.step ha hm e (ih y (Q5 x y) (by unfold Q5;omega) (by unfold Q5;omega) ly r1)
def Zhb (x y:List Int):List Int:=if y.length≤x.length then Ff y.length x y else Ff x.length y x
theorem Zif {x y:List Int} (lx:Ub x) (ly:Ub y):IsG (Zhb x y) x y:=by
 unfold Zhb
 split
 ·exact Mm _ _ _ (Nat.le_refl _) (by assumption) lx ly
 ·exact (Mm _ _ _ (Nat.le_refl _) (by omega) ly lx).comm
theorem Mj (p:List Int):∃ m:Int,m ≠ 0∧∀ x,Zc (Jf p) x=m*Zc p x:=by
 unfold Jf
 split
 ·exact⟨-1,by decide,fun x=>by rw[V4];omega⟩
 ·exact⟨1,by decide,fun x=>by omega⟩
theorem H3 (p:List Int):(Jf p).length=p.length:=by
 unfold Jf;split
 ·exact Xc p
 ·rfl
def Wj (s t:List Int):List Int:=Jf (Zhb (prim s) (prim t))
theorem K0 (s t:List Int):IsG (Wj s t) s t:=by
 have h:=Zif (Jl s) (Jl t)
 obtain⟨m,hm,h1⟩:=V2 s
 obtain⟨n,hn,h2⟩:=V2 t
 obtain⟨k,hk,h3⟩:=Mj (Zhb (prim s) (prim t))
 have h4:=h.scaled (s':=s) (t':=t) (m:=1) (n:=m) (k:=1) (l:=n) (by decide) hm (by decide) hn (fun x=>by rw[h1 x];omega) (fun x=>by rw[h2 x];omega)
 exact h4.gscaled (m:=1) (n:=k) (by decide) hk (fun x=>by unfold Wj;rw[h3 x];omega)
theorem Ki {p:List Int} (h:Ub p):Ub (X4 p):=by
 have e:X4 p=Zu (-1) p:=by
  unfold X4 Zu
  apply List.map_congr_left
  intro x _;omega
 rw[e];exact Zah (by decide) h
theorem Bw {p:List Int} (h:Ub p):Ub (Jf p):=by
 unfold Jf;split
 ·exact Ki h
 ·exact h
theorem A5:∀ (f:Nat) (x y:List Int),prim x=x→prim y=y→prim (Ff f x y)=Ff f x y:=by
 intro f
 induction f with
 | zero=>intro x y h _;exact h
 | succ f ih =>
  intro x y hx hy
  simp only[Ff]
  split
  ·exact hx
  ·exact ih y _ hy (Ky _ _ _ hx)
theorem Bj {x y:List Int} (hx:prim x=x) (hy:prim y=y):prim (Zhb x y)=Zhb x y:=by
 unfold Zhb;split
 ·exact A5 _ _ _ hx hy
 ·exact A5 _ _ _ hy hx
theorem M7 (p:List Int):Je (X4 p)=Je p:=by
 have e:X4 p=Zu (-1) p:=by
  unfold X4 Zu
  apply List.map_congr_left
  intro x _;omega
 rw[e,K6];simp
theorem M6 (p:List Int):Je (Jf p)=Je p:=by
 unfold Jf;split
 ·exact M7 p
 ·rfl
theorem Kj (s t:List Int):Ub (Wj s t):=Bw (Xa (Bj (Ja s) (Ja t)))
theorem Fv {p:List Int} (h:Ub p) (hc:Je p=1):prim p=p:=by rw [Nb hc];exact h
theorem Bm {s t:List Int} (h:Ze s ≠ []):Wj s t ≠ []:=by
 have:=((K0 s t).1.length h).2
 intro h0;rw[h0] at this;exact this rfl
theorem Zej {s t:List Int} (h:Ze s ≠ []):Je (Wj s t)=1:=by
 have h1:=Bm (t:=t) h
 unfold Wj at *
 rw[M6]
 have h2:Zhb (prim s) (prim t) ≠ []:=by
  intro h0;rw[h0] at h1;exact h1 rfl
 have h3:=Bj (Ja s) (Ja t)
 rw[← h3]
 exact Ko (by rw[Xa h3];exact h2)
theorem R9 {p:List Int} (h:Ub p) (h0:p ≠ []):0<top (Jf p):=by
 have h1:=Ut h h0
 unfold Jf;split
 ·rename_i hn
  unfold top at *
  rw[Xc,Wb];omega
 ·rename_i hn
  unfold top at *;omega
theorem Sa {s t:List Int} (h:Ze s ≠ []):0<top (Wj s t):=by
 have h1:=Bm (t:=t) h
 unfold Wj at *
 refine R9 (Xa (Bj (Ja s) (Ja t))) ?_
 intro h0;rw[h0] at h1;exact h1 rfl
theorem Zok {s t:List Int} {K:Nat} (h:Ze s ≠ []) (hl:s.length≤9) (hK:Kb K s):Kb (K+3) (Wj s t)∧(Wj s t).length≤(Ze s).length:=by
 have hg:=(K0 s t).1
 have h1:=(hg.length h).1
 have hle:=Kj s t
 rw[hle] at h1
 obtain⟨c,k,hc,hk⟩:=hg
 have:=Qw s
 exact⟨B1 hc (Zej h) h hl (by omega) hK hk,h1⟩
end Go.Ai
