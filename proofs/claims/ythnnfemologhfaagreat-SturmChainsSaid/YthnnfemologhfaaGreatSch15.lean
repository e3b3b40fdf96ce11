/- Texts of the proof of SturmChains, packed by pack.py: part 15 of 19. -/
import Derived.Test.YthnnfemologhfaaGreatSch14
namespace Go.Ai
open Go.IntKind (i64 u64 u32)
theorem S0 {p q:List Int} (h:∀ x,Zg p x=Zg q x) (x:Int):Zg (Qu p) x=Zg (Qu q) x :=
 U4 (fun i=>by rw[X4,X4,Ud h]) x
theorem Ma (a:Int) (p:List Int) (x:Int):Zg (Qu (a::p)) x=Zg p x+x*Zg (Qu p) x:=by
 have h:∀ i,(Qu (a::p)).getD i 0=(Dq p (0::Qu p)).getD i 0:=by
  intro i
  rw[X5,X4,List.getD_cons_succ]
  cases i with
  | zero=>simp
  | succ i=>rw[List.getD_cons_succ,X4];push_cast;grind
 rw[U4 h x,Jh]
 simp[Zg]
theorem Zgz (p q:List Int) (x:Int):Zg (Qu (Dq p q)) x=Zg (Qu p) x+Zg (Qu q) x:=by
 rw[← Jh]
 exact U4 (fun i=>by rw[X5,X4,X4,X4,X5,Int.add_mul]) x
theorem Vv (c:Int) (p:List Int) (x:Int):Zg (Qu (Zx c p)) x=c*Zg (Qu p) x:=by
 rw[← Zq]
 exact U4 (fun i=>by rw[Z7,X4,X4,Z7,Int.mul_assoc]) x
theorem Zgy:Qu []=[]:=rfl
theorem Sy (p q:List Int) (x:Int):Zg (Qu (Uo p q)) x=Zg (Qu p) x*Zg q x+Zg p x*Zg (Qu q) x:=by
 induction p with
 | nil=>simp[Uo,Zgy,Zg]
 | cons a p ih =>
  simp only[Uo]
  rw[Zgz,Vv,Ma,Ma,ih,Qb]
  simp only[Zg]
  generalize Zg (Qu p) x=A at *
  generalize Zg (Qu q) x=B at *
  grind
theorem Bq {r p q:List Int} (h:∀ x,Zg r x=Zg p x*Zg q x) (x:Int):Zg (Qu r) x=Zg (Qu p) x*Zg q x+Zg p x*Zg (Qu q) x:=by
 rw[← Sy];exact S0 (fun x=>by rw[h x,Qb]) x
theorem Pc {p q:List Int} {c d:Int} (h:∀ x,c*Zg p x=d*Zg q x) (x:Int):c*Zg (Qu p) x=d*Zg (Qu q) x:=by
 rw[← Vv,← Vv];exact S0 (fun x=>by rw[Zq,Zq,h x]) x
theorem Sz (p:List Int):(Qu p).length≤p.length-1:=by
 unfold Qu
 have:=Qg ((List.range (p.length-1)).map fun j=>p.getD (j+1) 0*((j+1:Nat):Int))
 simpa using this
theorem Pn {K:Nat} {p:List Int} (h:Kb K p) (hl:p.length≤1048576):Kb (K+2) (Qu p):=fun i=>by
 rw[X4]
 by_cases hi:i<1048576
 ·refine ((h (i+1)).mul (k:=1) ?_).mono (by omega)
  unfold Ji;rw[Int.natAbs_natCast];omega
 ·rw[Qt (xs:=p) (by omega),Int.zero_mul];exact U8 _
def Bm (h:List Int):Nat→List Int
 | 0=>[1]
 | k+1=>Uo (Bm h k) h
theorem Sv (h:List Int):∀ (k:Nat) (x:Int),Zg (Qu (Bm h k)) x*Zg h x=(k:Int)*Zg (Bm h k) x*Zg (Qu h) x
 | 0,x=>by simp[Bm,Qu,Zg,Zd,Z1]
 | k+1,x=>by
  have ih:=Sv h k x
  simp only[Bm]
  rw[Sy,Qb]
  push_cast
  generalize Zg (Qu (Bm h k)) x=A at *
  generalize Zg (Bm h k) x=B at *
  generalize Zg (Qu h) x=C at *
  generalize Zg h x=H at *
  have:(A*H+B*C)*H=(A*H)*H+B*C*H:=by grind
  rw[this,ih];grind
theorem Hx {h:List Int} (hh:Zd h ≠ []):∀ k,Zd (Bm h k) ≠ []∧(Zd (Bm h k)).length=k*((Zd h).length-1)+1
 | 0=>by
  have e:Zd (Bm h 0)=[1]:=rfl
  rw[e];simp
 | k+1=>by
  obtain⟨a,b⟩:=Hx hh k
  have h1:=List.length_pos_iff.2 hh
  have e:=E7 a hh
  have e2:(Zd (Bm h (k+1))).length=(k+1)*((Zd h).length-1)+1:=by
   simp only[Bm]
   rw[e,b,Nat.add_mul,Nat.one_mul];omega
  refine⟨?_,e2⟩
  intro h0
  rw[h0] at e2
  simp at e2
theorem Lu {a G f h:List Int} {c:Int} (ha:Zd a ≠ []) (hG:IsG G a (Qu a)) (hc:c ≠ 0) (hf:∀ x,c*Zg a x=Zg G x*Zg f x) (h1:Dv h f) (h2:Dv h (Qu f)):(Zd h).length=1:=by
 obtain⟨g1,⟨c2,e,hc2,he⟩,c3,u,v,hc3,hb⟩:=hG
 have hG0:Zd G ≠ []:=(g1.length ha).2
 have hf0:Zd f ≠ []:=by
  intro h0
  have:Zd a=Zd []:=by
   apply Wl
   intro x
   have h3:=hf x
   rw[Js h0,Int.mul_zero] at h3
   rcases Int.mul_eq_zero.1 h3 with g | g
   ·exact absurd g hc
   ·exact g
  exact ha this
 have hh0:Zd h ≠ []:=(h1.length hf0).2
 -- f and e have no common divisor
 have hC:∀ x,c*c2*c3=c2*Zg u x*Zg f x+c*Zg v x*Zg e x:=by
  have h3:=Mx hG0 [c*c2*c3] (Dq (Zx c2 (Uo u f)) (Zx c (Uo v e))) (fun x=>by
   have a1:=hf x;have a2:=he x;have a3:=hb x
   rw[Jh,Zq,Zq,Qb,Qb]
   simp only[Zg]
   generalize Zg G x=G at *
   generalize Zg f x=f at *
   generalize Zg e x=e at *
   generalize Zg u x=u at *
   generalize Zg v x=v at *
   generalize Zg (Qu a) x=a' at *
   generalize Zg a x=a at *
   have e1:G*(c*c2*c3+x*0)=c*c2*(c3*G):=by grind
   rw[e1,a3]
   have e2:c*c2*(u*a+v*a')=c2*u*(c*a)+c*v*(c2*a'):=by grind
   rw[e2,a1,a2];grind)
  intro x
  have h4:=h3 x
  rw[Jh,Zq,Zq,Qb,Qb] at h4
  simp only[Zg,Int.mul_zero,Int.add_zero] at h4
  grind
 -- the derivative of a
 have hd:∀ x,c*(Zg G x*Zg e x)=c2*(Zg (Qu G) x*Zg f x+Zg G x*Zg (Qu f) x):=by
  intro x
  have a1:=Bq (r:=Zx c a) (p:=G) (q:=f) (fun x=>by rw[Zq];exact hf x) x
  rw[Vv] at a1
  have a2:=he x
  rw[← a1,← a2];grind
 obtain⟨c4,t,hc4,ht⟩:=h1
 obtain⟨c5,w,hc5,hw⟩:=h2
 have hft:∀ x,c4*Zg (Qu f) x=Zg (Qu h) x*Zg t x+Zg h x*Zg (Qu t) x:=by
  intro x
  have a1:=Bq (r:=Zx c4 f) (p:=h) (q:=t) (fun x=>by rw[Zq];exact ht x) x
  rw[Vv] at a1
  exact a1
 -- all powers of h divide G
 have hk:∀ k,Dv (Bm h k) G:=by
  intro k
  induction k with
  | zero=>exact⟨1,G,by decide,fun x=>by simp[Bm,Zg]⟩
  | succ k ih =>
   obtain⟨ck,s,hck,hs⟩:=ih
   obtain⟨p1,_⟩:=Hx hh0 k
   -- the derivative of G
   have hGs:∀ x,ck*Zg (Qu G) x=Zg (Qu (Bm h k)) x*Zg s x+Zg (Bm h k) x*Zg (Qu s) x:=by
    intro x
    have a1:=Bq (r:=Zx ck G) (p:=Bm h k) (q:=s) (fun x=>by rw[Zq];exact hs x) x
    rw[Vv] at a1
    exact a1
   have hes:∀ x,c4*c5*c*(Zg e x*Zg s x)=Zg h x*(c2*((k:Int)*Zg s x*(c4*Zg w x-c5*Zg (Qu t) x)+c5*(Zg (Qu s) x*Zg t x)+c4*(Zg s x*Zg w x))):=by
    have h3:=Mx (p:=Uo (Bm h k) h) (by
      intro h0
      have:=E7 p1 hh0
      rw[h0] at this
      have:=List.length_pos_iff.2 p1
      have:=List.length_pos_iff.2 hh0
      simp at *
      omega) (Zx (c4*c5*c) (Uo e s)) (Uo h (Zx c2 (Dq (Dq (Uo (Zx (k:Int) s) (Zad (Zx c4 w) (Zx c5 (Qu t)))) (Zx c5 (Uo (Qu s) t))) (Zx c4 (Uo s w))))) (fun x=>by
     have a1:=hd x;have a2:=ht x;have a3:=hw x;have a4:=hft x;have a5:=hs x;have a6:=hGs x;have a7:=Sv h k x
     simp only[Qb,Zq,Jh,Xy]
     generalize Zg (Qu (Bm h k)) x=P' at *
     generalize Zg (Qu G) x=G' at *
     generalize Zg (Qu f) x=f' at *
     generalize Zg (Qu h) x=h' at *
     generalize Zg (Qu t) x=t' at *
     generalize Zg (Qu s) x=s' at *
     generalize Zg (Bm h k) x=P at *
     generalize Zg G x=G at *
     generalize Zg f x=f at *
     generalize Zg e x=e at *
     generalize Zg h x=h at *
     generalize Zg t x=t at *
     generalize Zg w x=w at *
     generalize Zg s x=s at *
     have b1:P*h*(c4*c5*c*(e*s))=c4*c5*h*(c*((P*s)*e)):=by grind
     rw[b1,← a5]
     have b2:c4*c5*h*(c*(ck*G*e))=c4*c5*h*ck*(c*(G*e)):=by grind
     rw[b2,a1]
     have b3:c4*c5*h*ck*(c2*(G'*f+G*f'))=c5*c2*((ck*G')*h*(c4*f)+(ck*G)*h*(c4*f')):=by grind
     rw[b3,a6,a5,a2]
     have b4:(P'*s+P*s')*h*(h*t)=(P'*h)*s*h*t+P*s'*h*h*t:=by grind
     rw[b4,a7]
     have b5:(k:Int)*P*h'*s*h*t=(k:Int)*P*s*h*(h'*t):=by grind
     have b6:h'*t=c4*f'-h*t':=by omega
     rw[b5,b6]
     have b7:c5*c2*((k:Int)*P*s*h*(c4*f'-h*t')+P*s'*h*h*t+P*s*h*(c4*f'))=c2*((k:Int)*P*s*h*(c4*(c5*f')-c5*(h*t'))+c5*(P*s'*h*h*t)+P*s*h*(c4*(c5*f'))):=by grind
     rw[b7,a3];grind)
    intro x
    have h4:=h3 x
    simp only[Qb,Zq,Jh,Xy] at h4
    exact h4
   have d1:Dv h (Uo e s):=⟨c4*c5*c,Zx c2 (Dq (Dq (Uo (Zx (k:Int) s) (Zad (Zx c4 w) (Zx c5 (Qu t)))) (Zx c5 (Uo (Qu s) t))) (Zx c4 (Uo s w))),Int.mul_ne_zero (Int.mul_ne_zero hc4 hc5) hc,fun x=>by
    simp only[Qb,Zq,Jh,Xy]
    exact hes x⟩
   have d2:Dv h (Uo f s):=Dv.mul_right s ⟨c4,t,hc4,ht⟩ (fun x=>Qb _ _ x)
   have d3:Dv h s:=Dv.comb (m:=c*c2*c3) (Zx c2 u) (Zx c v) (Int.mul_ne_zero (Int.mul_ne_zero hc hc2) hc3) d2 d1 (fun x=>by
    rw[hC x]
    simp only[Qb,Zq]
    grind)
   obtain⟨c6,s2,hc6,hs2⟩:=d3
   refine⟨c6*ck,s2,Int.mul_ne_zero hc6 hck,fun x => ?_⟩
   have a1:=hs x;have a2:=hs2 x
   simp only[Bm]
   rw[Qb,Int.mul_assoc,a1]
   have b1:c6*(Zg (Bm h k) x*Zg s x)=Zg (Bm h k) x*(c6*Zg s x):=by grind
   rw[b1,a2];grind
 have hh1:=List.length_pos_iff.2 hh0
 apply Classical.byContradiction
 intro hn
 have h3:=((hk (Zd G).length).length hG0).1
 rw[(Hx hh0 _).2] at h3
 have:(Zd G).length*1≤(Zd G).length*((Zd h).length-1):=Nat.mul_le_mul_left _ (by omega)
 omega
def Qn (p:List Int):List Int :=
 if (Qv (prim p)).length<2∨(V4 (Qv (prim p)) (Qu (Qv (prim p)))).length<2 then Qv (prim p)
 else prim (Ab (V4 (Qv (prim p)) (Qu (Qv (prim p)))) ((Qv (prim p)).length-(V4 (Qv (prim p)) (Qu (Qv (prim p)))).length+1) (Qv (prim p)) (List.replicate ((Qv (prim p)).length-(V4 (Qv (prim p)) (Qu (Qv (prim p)))).length+1) 0))
theorem Zcw {g:List Int} (h:g.length=1):∃ c,g=[c]:=by
 match g,h with
 | [c],_=>exact⟨c,rfl⟩
theorem Zah {a:List Int} (la:Vl a) (h0:a ≠ []) (ca:Jb a=1) (ta:0<top a) (f:List Int)
  (hf:f=if a.length<2∨(V4 a (Qu a)).length<2 then a else prim (Ab (V4 a (Qu a)) (a.length-(V4 a (Qu a)).length+1) a (List.replicate (a.length-(V4 a (Qu a)).length+1) 0))) :
  Vl f∧Jb f=1∧0<top f∧f ≠ []∧f.length=a.length-(V4 a (Qu a)).length+1∧∃ c d:Int,c ≠ 0∧d ≠ 0∧∀ x,c*Zg a x=d*(Zg (V4 a (Qu a)) x*Zg f x):=by
 have hta:Zd a ≠ []:=Ue la h0
 have hG:=Gd a (Qu a)
 have lG:=Kx a (Qu a)
 have nG:=Fe (t:=Qu a) hta
 have tG:=R8 (t:=Qu a) hta
 have hGl:=(hG.1.length hta).1
 rw[lG,la] at hGl
 have hal:=List.length_pos_iff.2 h0
 have hgl:=List.length_pos_iff.2 nG
 generalize V4 a (Qu a)=G at *
 by_cases hs:a.length<2∨G.length<2
 ·rw[if_pos hs] at hf
  subst hf
  have hG1:G.length=1:=by omega
  obtain⟨c,rfl⟩:=Zcw hG1
  refine⟨la,ca,ta,h0,by omega,c,1,?_,by decide,fun x=>by simp[Zg]⟩
  have:top [c]=c:=rfl
  omega
 ·rw[if_neg hs] at hf
  obtain⟨c',r',c1,r1,r2,r3⟩:=Em (p:=a) (q:=G) nG tG hGl
  generalize Ab G (a.length-G.length+1) a (List.replicate (a.length-G.length+1) 0)=o at *
  have to:=Sq c1 ta nG tG hGl r2 r3 r1
  have hr0:Zd r'=[]:=by
   apply Classical.byContradiction
   intro hn
   have hd:Dv G r':=Dv.comb (m:=1) [c'] (Vc o) (by decide) hG.1 (Dv.refl G) (fun x=>by
    have:=r3 x
    rw[Hc];simp only[Zg];grind)
   have h1:=(hd.length hn).1
   rw[lG] at h1
   have hl1:=List.length_pos_iff.2 hn
   have h2:=Vi (Kw r') hn
   rw[Jg,r1 _ (by omega)] at h2
   exact h2 rfl
  have ho0:o ≠ []:=by intro h1;rw[h1] at r2;simp at r2
  have lo:Vl o:=Pj (Or.inr (by unfold top at to;omega))
  obtain⟨m,hm,hpe⟩:=Kt o
  subst hf
  refine⟨Qr o,K1 (Ue lo ho0),Fv to,?_,by rw[Qq,lo,r2],c',m,by omega,hm,fun x => ?_⟩
  ·intro h1;rw[Uz,← Xg,lo] at h1;exact ho0 h1
  ·rw[r3 x,Js hr0,hpe x];grind
theorem Pb {p:List Int} (hp:Zd p ≠ []):Vl (Qv (prim p))∧Qv (prim p) ≠ []∧Jb (Qv (prim p))=1∧0<top (Qv (prim p))∧(Qv (prim p)).length=(Zd p).length∧∃ m:Int,m ≠ 0∧∃ n:Int,n ≠ 0∧∀ x,n*Zg p x=m*Zg (Qv (prim p)) x:=by
 have h1:prim p ≠ []:=by intro h;rw[Uz,← Xg] at h;exact hp h
 obtain⟨m,hm,h2⟩:=Kt p
 obtain⟨n,hn,h3⟩:=N6 (prim p)
 refine⟨Gn (Qr p),?_,by rw[Mu];exact K1 hp,R7 (Qr p) h1,by rw[Wy,Qq],m,hm,n,hn,fun x=>by rw[h2 x,h3 x];grind⟩
 intro h
 have:=congrArg List.length h
 rw[Wy] at this
 exact h1 (List.eq_nil_of_length_eq_zero this)
theorem Sw {p:List Int} (hp:Zd p ≠ []):Vl (Qn p)∧Jb (Qn p)=1∧0<top (Qn p)∧Qn p ≠ []∧Dv (Qn p) p ∧
  (Qn p).length+(V4 (Qv (prim p)) (Qu (Qv (prim p)))).length=(Zd p).length+1∧IsG (V4 (Qv (prim p)) (Qu (Qv (prim p)))) p (Qu p)∧(V4 (Qn p) (Qu (Qn p))).length=1:=by
 obtain⟨la,h0,ca,ta,hl,m,hm,n,hn,hpe⟩:=Pb hp
 obtain⟨lf,cf,tf,f0,fl,c,d,hc,hd,hcd⟩:=Zah la h0 ca ta (Qn p) rfl
 have hta:Zd (Qv (prim p)) ≠ []:=Ue la h0
 have hG:=Gd (Qv (prim p)) (Qu (Qv (prim p)))
 have lG:=Kx (Qv (prim p)) (Qu (Qv (prim p)))
 have nG:=Fe (t:=Qu (Qv (prim p))) hta
 have hGl:=(hG.1.length hta).1
 rw[lG,la] at hGl
 have hder:∀ x,n*Zg (Qu p) x=m*Zg (Qu (Qv (prim p))) x:=Pc hpe
 generalize Qv (prim p)=a at *
 generalize V4 a (Qu a)=G at *
 generalize Qn p=f at *
 have hal:=List.length_pos_iff.2 h0
 have hgl:=List.length_pos_iff.2 nG
 refine⟨lf,cf,tf,f0,?_,by omega,?_,?_⟩
 ·have h1:Dv f a:=⟨c,Zx d G,hc,fun x=>by rw[hcd x,Zq];grind⟩
  exact h1.scaled hn hpe
 ·exact hG.scaled hn hm hn hm hpe hder
 ·have hK:=Gd f (Qu f)
  have nK:=Fe (t:=Qu f) (Ue lf f0)
  have lK:=Kx f (Qu f)
  have h1:=Lu (h:=V4 f (Qu f)) (f:=Zx d f) (c:=c) hta hG hc (fun x=>by rw[hcd x,Zq];grind)
   (hK.1.scaled (m:=1) (n:=d) (by decide) (fun x=>by rw[Zq];omega)) (hK.2.1.scaled (m:=1) (n:=d) (by decide) (fun x=>by rw[Vv];omega))
  rwa [lK] at h1
theorem Zha {p:List Int} {K:Nat} (hp:Zd p ≠ []) (hl:p.length≤9) (hK:Kb K p):Kb (K+3) (Qn p)∧(Qn p).length≤(Zd p).length:=by
 obtain⟨lf,cf,tf,f0,hd,_,_,_⟩:=Sw hp
 have h1:=(hd.length hp).1
 rw[lf] at h1
 obtain⟨c,k,hc,hk⟩:=hd
 have:=Qg p
 exact⟨B4 hc cf hp hl (by omega) hK hk,h1⟩
end Go.Ai

namespace Go.Proofs.YthnnfemologhfaaGreat
open Go.IntKind (i64 u64 u32)
open Go.Ai
set_option maxRecDepth 100000
theorem Zcy {E rs:List Rn} {m:Nat} (hl:E.length=rs.length) (h:∀ x,x<m→E.getD x z0=rs.getD x z0):Gm E rs m=rs:=by
 apply List.ext_getElem?
 intro t
 unfold Gm
 by_cases ht:t<m
 ·by_cases hm:t<E.length
  ·have:=h t ht
   rw[List.getD_eq_getElem?_getD,List.getD_eq_getElem?_getD,List.getElem?_eq_getElem hm,List.getElem?_eq_getElem (by omega)] at this
   rw[List.getElem?_append_left (by rw[List.length_take];omega),List.getElem?_take_of_lt ht,List.getElem?_eq_getElem hm,List.getElem?_eq_getElem (by omega)]
   simpa using this
  ·rw[List.getElem?_eq_none (by rw[List.length_append,List.length_take,List.length_drop];omega),List.getElem?_eq_none (by omega)]
 ·by_cases hm:m≤E.length
  ·rw[List.getElem?_append_right (by rw[List.length_take];omega),List.length_take,List.getElem?_drop]
   congr 1;omega
  ·rw[List.getElem?_eq_none (by rw[List.length_append,List.length_take,List.length_drop];omega),List.getElem?_eq_none (by omega)]
theorem Zcz {E rs:List Rn} {m:Nat} (hl:E.length=rs.length) (hm:m≤rs.length) (h:∀ x,m≤x→E.getD x z0=rs.getD x z0):Gm E rs m=E:=by
 apply List.ext_getElem?
 intro t
 unfold Gm
 by_cases ht:t<m
 ·rw[List.getElem?_append_left (by rw[List.length_take];omega),List.getElem?_take_of_lt ht]
 ·rw[List.getElem?_append_right (by rw[List.length_take];omega),List.length_take,List.getElem?_drop,show m+(t-min m E.length)=t by omega]
  by_cases hm:t<E.length
  ·have:=h t (by omega)
   rw[List.getD_eq_getElem?_getD,List.getD_eq_getElem?_getD,List.getElem?_eq_getElem hm,List.getElem?_eq_getElem (by omega)] at this
   rw[List.getElem?_eq_getElem hm,List.getElem?_eq_getElem (by omega)]
   simpa using this.symm
  ·rw[List.getElem?_eq_none (by omega),List.getElem?_eq_none (by omega)]
section
variable {p q:List Int} {J Kq:Nat}
theorem Nc {c:Int} (hp:Kb J p) (hc:Ji Kq c):Kb (J+Kq) (Zx c p):=fun i=>by
 rw[Z7,Nat.add_comm];exact hc.mul (hp i)
theorem div_a {t:Int} {l:Rn} {qs os:List Rn} {kq:Nat} {j:Int} (hp:Kb J p) (ht:Ji Kq t) (hS:J+Kq<1048576) (hN:p.length≤1048576) :
  Za Yir (.loop Zbe) (Ay qs p.length (p.map cn) (cn t) kq os j l (p.length:Nat) 0) (.exit 2) (Ay qs p.length ((Zx t p).map cn) (cn t) kq os j l (p.length:Nat) (p.length:Nat)):=by
 have hE:((Zx t p).map cn).length=(p.map cn).length:=by rw[List.length_map,List.length_map,Zw]
 have hpl:(p.map cn).length=p.length:=List.length_map ..
 have h:=Za.up (prog:=Yir) (c:=Zbe) (ex := .exit 2) (fin:=Ay qs p.length ((Zx t p).map cn) (cn t) kq os j l (p.length:Nat) (p.length:Nat))
  (fun i=>Ay qs p.length (Gm ((Zx t p).map cn) (p.map cn) i) (cn t) kq os j l (p.length:Nat) (i:Nat)) p.length (by intro e;cases e) ?_ ?_ 0 (Nat.zero_le _)
 ·rw[Gi] at h;exact h
 ·intro i hi
  have ei:i64.wrap ((i:Int)+1)=((i+1:Nat):Int):=by rw[w64 (by omega) (by omega)];omega
  have hml:=Uv hE i
  have hget:=Gk hE (i:=i) (by omega)
  have hEi:((Zx t p).map cn).getD i z0=cn ((Zx t p).getD i 0):=Xz (by rw[Zw];exact hi)
  have hset:=Gj hE (i:=i) (by omega)
  rw[hEi,Z7] at hset
  have gp:=Z9 (Z0 hp) i
  have gt:=Jj ht
  have vi:=Uw p i
  have m1:=G3 gp gt (by omega)
  generalize Gm ((Zx t p).map cn) (p.map cn) i=M at *
  have k:=Zpi qs p.length M (cn t) kq os j l (p.length:Nat) (i:Nat) (by simp;omega) (by omega) (by omega) (by rw[Int.toNat_natCast,hget];exact m1)
  refine k.to rfl ?_
  simp only[ei,Int.toNat_natCast,hget]
  rw[vi,Qc,Int.mul_comm,hset]
 ·rw[show Gm ((Zx t p).map cn) (p.map cn) p.length=(Zx t p).map cn by have h:=Gl hE;rw[hpl] at h;exact h]
  exact Zph _ _ _ _ _ _ _ _ _ _ (by simp)
theorem div_b {t:Int} {l:Rn} {qs rs:List Rn} {k:Nat} {j:Int} (hp:Kb J p) (ht:Ji Kq t) (hS:J+Kq<1048576) (hN:p.length≤1048576) :
  Za Yir (.loop Zbd) (Ax qs k rs (cn t) p.length (p.map cn) j l (p.length:Nat) 0) (.exit 4) (Ax qs k rs (cn t) p.length ((Zx t p).map cn) j l (p.length:Nat) (p.length:Nat)):=by
 have hE:((Zx t p).map cn).length=(p.map cn).length:=by rw[List.length_map,List.length_map,Zw]
 have hpl:(p.map cn).length=p.length:=List.length_map ..
 have h:=Za.up (prog:=Yir) (c:=Zbd) (ex := .exit 4) (fin:=Ax qs k rs (cn t) p.length ((Zx t p).map cn) j l (p.length:Nat) (p.length:Nat))
  (fun i=>Ax qs k rs (cn t) p.length (Gm ((Zx t p).map cn) (p.map cn) i) j l (p.length:Nat) (i:Nat)) p.length (by intro e;cases e) ?_ ?_ 0 (Nat.zero_le _)
 ·rw[Gi] at h;exact h
 ·intro i hi
  have ei:i64.wrap ((i:Int)+1)=((i+1:Nat):Int):=by rw[w64 (by omega) (by omega)];omega
  have hml:=Uv hE i
  have hget:=Gk hE (i:=i) (by omega)
  have hEi:((Zx t p).map cn).getD i z0=cn ((Zx t p).getD i 0):=Xz (by rw[Zw];exact hi)
  have hset:=Gj hE (i:=i) (by omega)
  rw[hEi,Z7] at hset
  have gp:=Z9 (Z0 hp) i
  have gt:=Jj ht
  have vi:=Uw p i
  have m1:=G3 gp gt (by omega)
  generalize Gm ((Zx t p).map cn) (p.map cn) i=M at *
  have k:=Zpg qs k rs (cn t) p.length M j l (p.length:Nat) (i:Nat) (by simp;omega) (by omega) (by omega) (by rw[Int.toNat_natCast,hget];exact m1)
  refine k.to rfl ?_
  simp only[ei,Int.toNat_natCast,hget]
  rw[vi,Qc,Int.mul_comm,hset]
 ·rw[show Gm ((Zx t p).map cn) (p.map cn) p.length=(Zx t p).map cn by have h:=Gl hE;rw[hpl] at h;exact h]
  exact Zpf _ _ _ _ _ _ _ _ _ _ (by simp)
theorem div_c {t:Rn} {l:Int} {os:List Rn} {kq j Jp:Nat} (hp:Kb Jp p) (hq:Kb Kq q) (hl:Ji J l) (hS:J+Kq<1048576) (hJp:Jp<1048576) (hN:p.length≤1048576) (hj:j+q.length≤p.length) :
  Za Yir (.loop Zbc) (Aw (q.map cn) p.length (p.map cn) t kq os (j:Nat) (cn l) (q.length:Nat) 0) (.exit 6) (Aw (q.map cn) p.length ((Kn p q l j).map cn) t kq os (j:Nat) (cn l) (q.length:Nat) (q.length:Nat)):=by
 have hE:((Kn p q l j).map cn).length=(p.map cn).length:=by rw[List.length_map,List.length_map,Ub]
 have hpl:(p.map cn).length=p.length:=List.length_map ..
 have gE:∀ x,x<p.length→((Kn p q l j).map cn).getD x z0=cn (p.getD x 0-l*(Vr j q).getD x 0):=fun x hx=>by
  rw[Xz (by rw[Ub];exact hx),Hf _ _ _ _ _ hj]
 have eout:∀ x,(x<j∨j+q.length≤x)→((Kn p q l j).map cn).getD x z0=(p.map cn).getD x z0:=by
  intro x hx
  by_cases h:x<p.length
  ·rw[gE x h,Xz h,Jn]
   rcases hx with hx | hx
   ·rw[if_neg (by omega),Int.mul_zero,Int.sub_zero]
   ·rw[if_pos (by omega),Qt (xs:=q) (show q.length≤x-j by omega),Int.mul_zero,Int.sub_zero]
  ·rw[List.getD_eq_getElem?_getD,List.getD_eq_getElem?_getD,List.getElem?_eq_none (by omega),List.getElem?_eq_none (by omega)]
 have h:=Za.up (prog:=Yir) (c:=Zbc) (ex := .exit 6) (fin:=Aw (q.map cn) p.length ((Kn p q l j).map cn) t kq os (j:Nat) (cn l) (q.length:Nat) (q.length:Nat))
  (fun i=>Aw (q.map cn) p.length (Gm ((Kn p q l j).map cn) (p.map cn) (j+i)) t kq os (j:Nat) (cn l) (q.length:Nat) (i:Nat)) q.length (by intro e;cases e) ?_ ?_ 0 (Nat.zero_le _)
 ·rw[Nat.add_zero,Zcy hE (fun x hx=>eout x (.inl hx))] at h;exact h
 ·intro i hi
  have ei:i64.wrap ((i:Int)+1)=((i+1:Nat):Int):=by rw[w64 (by omega) (by omega)];omega
  have eji:i64.wrap ((j:Int)+(i:Int))=((j+i:Nat):Int):=by rw[w64 (by omega) (by omega)];omega
  have hml:=Uv hE (j+i)
  have hget:=Gk hE (i:=j+i) (by omega)
  have hEi:=gE (j+i) (by omega)
  rw[Jn,if_pos (by omega),show j+i-j=i by omega] at hEi
  have hset:=Gj hE (i:=j+i) (by omega)
  rw[hEi] at hset
  have gp:=Z9 (Z0 hp) (j+i)
  have gq:=Z9 (Z0 hq) i
  have gl:=Jj hl
  have vi:=Uw p (j+i)
  have vq:=Uw q i
  have m1:=G3 gl gq (by omega)
  have f1:Ji (J+Kq) (Zl (cn l)*Zl ((q.map cn).getD i z0)):=Ji.mul (by rw[Qc];exact hl) gq.fits
  have m2:=Zbq gp (Jj f1) (by omega) (by omega)
  rw[Qc (Zl (cn l)*Zl ((q.map cn).getD i z0))] at m2
  generalize Gm ((Kn p q l j).map cn) (p.map cn) (j+i)=M at *
  have k:=Zpe (q.map cn) p.length M t kq os (j:Nat) (cn l) (q.length:Nat) (i:Nat) (by simp;omega) (by rw[eji];omega) (by omega) (by rw[List.length_map];omega) (by rw[Int.toNat_natCast];exact m1) (by rw[eji,Int.toNat_natCast,Int.toNat_natCast,hget];exact m2)
  refine k.to rfl ?_
  simp only[ei,eji,Int.toNat_natCast,hget]
  rw[vi,vq,Qc,hset,Nat.add_assoc]
 ·rw[Zcz hE (by omega) (fun x hx=>eout x (.inr hx))]
  exact Zpd _ _ _ _ _ _ _ _ _ _ (by simp)
theorem Zg9 {l:Int} (hp:Kb (J+Kq) p) (hq:Kb Kq q) (hl:Ji J l) (k:Nat) (hk:k+q.length≤p.length):Kb (J+Kq+1) (Kn p q l k):=fun i=>by
 rw[Hf _ _ _ _ _ hk,Jn]
 split
 ·exact (hp i).add (hl.mul (hq _)).neg
 ·rw[Int.mul_zero,Int.sub_zero];exact (hp i).mono (by omega)
theorem Zlb {l:Int} (hp:Kb J p) (hl:Ji J l) (k:Nat):Kb J (p.set k l):=fun i=>by
 by_cases h:i=k
 ·subst h
  by_cases hi:i<p.length
  ·rw[List.getD_eq_getElem?_getD,List.getElem?_set_self hi];exact hl
  ·rw[Qt (by rw[List.length_set];omega)];exact U8 _
 ·rw[Qp (by omega)];exact hp i
end
theorem Zhn {q:List Int} {Kq:Nat} (hq:Kb Kq q) (hq0:q ≠ []):∀ (k:Nat) (r out:List Int) (J:Nat),Kb J r→Kb J out→J+k*(Kq+1)<1048576→k≤out.length→out.length+q.length=r.length+1→r.length≤1048576 →
  (∃ r',Za Yir (.loop Yc63) (Znj (q.map cn) r.length (r.map cn) (cn (top q)) out.length (out.map cn) ((k:Int)-1)) (.exit 0) (Znj (q.map cn) r.length r' (cn (top q)) out.length ((Ab q k r out).map cn) (-1)))∧Kb (J+k*(Kq+1)) (Ab q k r out)∧(Ab q k r out).length=out.length:=by
 have hql:=List.length_pos_iff.2 hq0
 intro k
 induction k with
 | zero =>
  intro r out J _ ho _ _ _ _
  exact⟨⟨_,Za.loop_out (Yk63_2 _ _ _ _ _ _ _ (by simp)) (by intro e;cases e)⟩,ho.mono (by omega),rfl⟩
 | succ k ih =>
  intro r out J hr ho hS hk hl hN
  simp only[Ab]
  have hS':J+Kq+1+k*(Kq+1)<1048576:=by rw[Nat.add_mul,Nat.one_mul] at hS;omega
  have el:Ji J (r.getD (k+q.length-1) 0):=hr _
  have e1:((k+1:Nat):Int)-1=(k:Int):=by omega
  have e2:i64.wrap (i64.wrap ((k:Int)+(((q.map cn).length:Nat):Int))-1)=((k+q.length-1:Nat):Int):=by
   rw[List.length_map,w64 (n:=(k:Int)+(q.length:Nat)) (by omega) (by omega),w64 (by omega) (by omega)];omega
  have e3:(r.map cn).getD (k+q.length-1) z0=cn (r.getD (k+q.length-1) 0):=Xz (by omega)
  have e4:i64.wrap ((k:Int)-1)=(k:Int)-1:=w64 (by omega) (by omega)
  have ft:Ji Kq (top q):=hq _
  generalize hlead:r.getD (k+q.length-1) 0=l at *
  have hps:=Nc hr ft
  have hpo:=Nc ho ft
  have la:=div_a (l:=cn l) (qs:=q.map cn) (os:=out.map cn) (kq:=out.length) (j:=(k:Nat)) hr ft (by omega) hN
  have lb:=div_b (l:=cn l) (qs:=q.map cn) (rs:=(Zx (top q) r).map cn) (k:=r.length) (j:=(k:Nat)) ho ft (by omega) (by omega)
  have hlc:=div_c (t:=cn (top q)) (l:=l) (os:=((Zx (top q) out).set k l).map cn) (kq:=out.length) (j:=k) (p:=Zx (top q) r) (J:=J) hps hq el (by omega) (by omega) (by rw[Zw];exact hN) (by rw[Zw];omega)
  rw[Zw] at hlc
  obtain⟨⟨r',hr'⟩,kb,len⟩:=ih (Kn (Zx (top q) r) q l k) ((Zx (top q) out).set k l) (J+Kq+1) (Zg9 hps hq el k (by rw[Zw];omega)) (Zlb (hpo.mono (by omega)) (el.mono (by omega)) k) hS' (by rw[List.length_set,Zw];omega) (by rw[List.length_set,Zw,Ub,Zw];exact hl) (by rw[Ub,Zw];exact hN)
  rw[List.length_set,Zw,Ub,Zw] at hr'
  refine⟨⟨r',?_⟩,kb.mono (by rw[Nat.add_mul,Nat.one_mul];omega),by rw[len,List.length_set,Zw]⟩
  have hset:((Zx (top q) out).map cn).set k (cn l)=((Zx (top q) out).set k l).map cn:=by rw[List.map_set]
  have k1:=Yk63_1 (q.map cn) r.length (r.map cn) (cn (top q)) out.length (out.map cn) (k:Nat) ((Zx (top q) r).map cn) ((Kn (Zx (top q) r) q l k).map cn) ((Zx (top q) out).map cn) _ _ _ _ _ _ (by simp) (by rw[e2];omega) (List.length_map ..)
   (by rw[e2,Int.toNat_natCast,e3];exact la) (by rw[e2,Int.toNat_natCast,e3];exact lb) (by omega) (by rw[List.length_map,Zw]) (by rw[e2,Int.toNat_natCast,Int.toNat_natCast,e3,hset,List.length_map];exact hlc)
  rw[e2,Int.toNat_natCast,Int.toNat_natCast,e3,hset,e4] at k1
  rw[e1]
  exact Za.loop k1 hr'
theorem z0_cn:cn 0=z0:=rfl
theorem M1 {p q:List Int} {J K:Nat} (hp:Kb J p) (hq:Kb K q) (lp:Vl p) (hq0:q ≠ []) (hl:q.length≤p.length) (hN:p.length≤1000000) (hS:J+(p.length-q.length+1)*(K+1)<1048576) :
  Ze Yir 63 [.sl (p.map cn).length (pc (p.map cn)), .sl (q.map cn).length (pc (q.map cn))] (.fresh 2 ((prim (Ab q (p.length-q.length+1) p (List.replicate (p.length-q.length+1) 0))).map cn).length (pc ((prim (Ab q (p.length-q.length+1) p (List.replicate (p.length-q.length+1) 0))).map cn))):=by
 have hql:=List.length_pos_iff.2 hq0
 have htr:=Ad (rs:=p.map cn) (fun r h=>(Z0 hp r h).mono (show J≤1048576 by omega)) (by rw[List.length_map];omega)
 rw[Z3,lp] at htr
 have htr':Ze Yir 58 [.sl (p.map cn).length (pc (p.map cn))] (.fresh 2 (p.map cn).length (pc (p.map cn))):=by rw[List.length_map] at htr ⊢;exact htr
 obtain⟨⟨r',hlp⟩,kb,len⟩:=Zhn hq hq0 (p.length-q.length+1) p (List.replicate (p.length-q.length+1) 0) J hp (fun i=>by rw[Jm];exact U8 _) hS (by simp) (by simp;omega) (by omega)
 rw[List.length_replicate] at hlp len
 have e1:i64.wrap ((((q.map cn).length:Nat):Int)-1)=((q.length-1:Nat):Int):=by rw[List.length_map,w64 (by omega) (by omega)];omega
 have e2:i64.wrap (i64.wrap ((((p.map cn).length:Nat):Int)-(((q.map cn).length:Nat):Int))+1)=((p.length-q.length+1:Nat):Int):=by
  rw[List.length_map,List.length_map,w64 (n:=(p.length:Int)-(q.length:Nat)) (by omega) (by omega),w64 (by omega) (by omega)];omega
 have e3:i64.wrap (((p.length-q.length+1:Nat):Int)-1)=((p.length-q.length+1:Nat):Int)-1:=w64 (by omega) (by omega)
 have hz:(List.replicate (p.length-q.length+1) (0:Int)).map cn=List.replicate (p.length-q.length+1) z0:=by rw[List.map_replicate,z0_cn]
 have hpr:=Jc (rs:=(Ab q (p.length-q.length+1) p (List.replicate (p.length-q.length+1) 0)).map cn) (Z0 kb) (by omega) (by rw[List.length_map];omega)
 rw[Z3] at hpr
 have hpr':=hpr
 rw[show ∀ o:List Int,(o.map cn).length=o.length from fun o=>List.length_map ..,len] at hpr'
 have k:=Yrun63 (p.map cn) (q.map cn) (p.map cn) ((prim (Ab q (p.length-q.length+1) p (List.replicate (p.length-q.length+1) 0))).map cn) r' ((Ab q (p.length-q.length+1) p (List.replicate (p.length-q.length+1) 0)).map cn) (cn (top q)) p.length (p.length-q.length+1) (-1) htr' (by rw[e1,List.length_map];omega) (by rw[e2];omega) (by
   rw[e1,e2,Int.toNat_natCast,Int.toNat_natCast,e3,E2,← hz,Xz (show q.length-1<q.length by omega),show (p.map cn).length=p.length from List.length_map ..]
   exact hlp) (by
   have hlm:((prim (Ab q (p.length-q.length+1) p (List.replicate (p.length-q.length+1) 0))).map cn).length=(prim (Ab q (p.length-q.length+1) p (List.replicate (p.length-q.length+1) 0))).length:=List.length_map ..
   rw[hlm];exact hpr')
 exact k
theorem Zd8 {rs:List Rn} {K c:Nat} (hr:∀ r∈rs,Jw K r) (hn:rs.length≤c) (hc:c≤9) (hS:(K+3)*(2*3^c)≤500000):R0 34 [.sl rs.length (pc rs)] (Qn (Zi rs)):=by
 have h3:0<3^c:=Nat.pow_pos (by decide)
 have hK:K+3≤250000:=by
  have:(K+3)*2≤(K+3)*(2*3^c):=Nat.mul_le_mul_left _ (by omega)
  omega
 have p1:=Jc hr (by omega) (by omega)
 have p1':Ze Yir 33 [.sl rs.length (pc rs)] (.fresh 2 ((prim (Zi rs)).map cn).length (pc ((prim (Zi rs)).map cn))):=by rw[List.length_map];exact p1
 have k1:Kb K (prim (Zi rs)):=(Bz (Q8 hr)).prim
 have l1:(prim (Zi rs)).length≤rs.length:=by rw[Qq];have:=Qg (Zi rs);rwa [Zs] at this
 obtain⟨q1,q2⟩:=Ah k1 (by omega) (by omega)
 have ka:Kb K (Qv (prim (Zi rs))):=by
  unfold Qv;split
  ·intro i;rw[U6];exact (k1 i).neg
  ·exact k1
 have la:=Wy (prim (Zi rs))
 have lda:Vl (Qv (prim (Zi rs))):=Gn (Qr _)
 have hpp:(¬ top (prim (Zi rs))<0)→Qv (prim (Zi rs))=prim (Zi rs):=Do
 have hder:=F8 (rs:=(Qv (prim (Zi rs))).map cn) (Z0 ka) (by omega) (by rw[List.length_map];omega)
 rw[Z3] at hder
 have hder':Ze Yir 35 [.sl ((Qv (prim (Zi rs))).map cn).length (pc ((Qv (prim (Zi rs))).map cn))] (.fresh 2 ((Qu (Qv (prim (Zi rs)))).map cn).length (pc ((Qu (Qv (prim (Zi rs)))).map cn))):=by
  have hlm:((Qu (Qv (prim (Zi rs)))).map cn).length=(Qu (Qv (prim (Zi rs)))).length:=List.length_map ..
  rw[hlm];exact hder
 have kd:Kb (K+2) (Qu (Qv (prim (Zi rs)))):=Pn ka (by omega)
 have ld:(Qu (Qv (prim (Zi rs)))).length≤c:=by have:=Sz (Qv (prim (Zi rs)));omega
 have hcom:=P9 (rs:=(Qv (prim (Zi rs))).map cn) (ss:=(Qu (Qv (prim (Zi rs)))).map cn) (K:=K+2) (c:=c) (fun r h=>(Z0 ka r h).mono (by omega)) (Z0 kd) (by rw[List.length_map];omega) (by rw[List.length_map];exact ld) (by omega) hS
 rw[Z3,Z3] at hcom
 change R0 62 _ (V4 (Qv (prim (Zi rs))) (Qu (Qv (prim (Zi rs))))) at hcom
 have hdiv:2≤(V4 (Qv (prim (Zi rs))) (Qu (Qv (prim (Zi rs))))).length→Ze Yir 63 [.sl ((Qv (prim (Zi rs))).map cn).length (pc ((Qv (prim (Zi rs))).map cn)), .sl ((V4 (Qv (prim (Zi rs))) (Qu (Qv (prim (Zi rs))))).map cn).length (pc ((V4 (Qv (prim (Zi rs))) (Qu (Qv (prim (Zi rs))))).map cn))]
   (.fresh 2 ((prim (Ab (V4 (Qv (prim (Zi rs))) (Qu (Qv (prim (Zi rs))))) ((Qv (prim (Zi rs))).length-(V4 (Qv (prim (Zi rs))) (Qu (Qv (prim (Zi rs))))).length+1) (Qv (prim (Zi rs))) (List.replicate ((Qv (prim (Zi rs))).length-(V4 (Qv (prim (Zi rs))) (Qu (Qv (prim (Zi rs))))).length+1) 0))).map cn).length (pc ((prim (Ab (V4 (Qv (prim (Zi rs))) (Qu (Qv (prim (Zi rs))))) ((Qv (prim (Zi rs))).length-(V4 (Qv (prim (Zi rs))) (Qu (Qv (prim (Zi rs))))).length+1) (Qv (prim (Zi rs))) (List.replicate ((Qv (prim (Zi rs))).length-(V4 (Qv (prim (Zi rs))) (Qu (Qv (prim (Zi rs))))).length+1) 0))).map cn))):=by
  intro h2
  have hp0:Zd (Zi rs) ≠ []:=by
   intro h0
   have:prim (Zi rs)=[]:=Uz.2 (Xg.1 h0)
   rw[this] at h2
   exact absurd h2 (by decide)
  obtain⟨a1,a2,_,_,_,_⟩:=Pb hp0
  obtain⟨b1,b2⟩:=Zdb (t:=Qu (Qv (prim (Zi rs)))) (Ue a1 a2) (by omega) ka
  rw[a1] at b2
  exact M1 ka b1 lda (by intro h0;rw[h0] at h2;exact absurd h2 (by decide)) b2 (by omega) (by
   have h4:(Qv (prim (Zi rs))).length-(V4 (Qv (prim (Zi rs))) (Qu (Qv (prim (Zi rs))))).length+1≤10:=by omega
   have h5:=Nat.mul_le_mul_right (K+3+1) h4
   have h6:3^2≤3^c:=Nat.pow_le_pow_right (by decide) (by omega)
   have h7:(K+3)*18≤(K+3)*(2*3^c):=Nat.mul_le_mul_left _ (by omega)
   omega)
 unfold Qn
 by_cases hs:(Qv (prim (Zi rs))).length<2
 ·rw[if_pos (.inl hs)]
  by_cases ht:top (prim (Zi rs))<0
  ·exact .inr (Rw rs _ _ (by rw[decide_eq_true_eq,List.length_map];omega) p1' (q1 ht))
  ·rw[hpp ht] at hs ⊢
   exact .inr (Rp rs _ (by rw[decide_eq_true_eq,List.length_map];omega) p1' (q2 ht))
 ·by_cases hg:(V4 (Qv (prim (Zi rs))) (Qu (Qv (prim (Zi rs))))).length<2
  ·rw[if_pos (.inr hg)]
   by_cases ht:top (prim (Zi rs))<0
   ·rcases hcom with h | h
    ·exact .inr (Rv rs _ _ _ _ (by rw[decide_eq_false_iff_not,List.length_map];omega) (by rw[decide_eq_true_eq,List.length_map];omega) p1' (q1 ht) hder' h)
    ·exact .inr (Rt rs _ _ _ _ (by rw[decide_eq_false_iff_not,List.length_map];omega) (by rw[decide_eq_true_eq,List.length_map];omega) p1' (q1 ht) hder' h)
   ·rw[hpp ht] at *
    rcases hcom with h | h
    ·exact .inr (Rr rs _ _ _ (by rw[decide_eq_false_iff_not,List.length_map];omega) (by rw[decide_eq_true_eq,List.length_map];omega) p1' (q2 ht) hder' h)
    ·exact .inr (Ro rs _ _ _ (by rw[decide_eq_false_iff_not,List.length_map];omega) (by rw[decide_eq_true_eq,List.length_map];omega) p1' (q2 ht) hder' h)
  ·rw[if_neg (by omega)]
   have hdiv:=hdiv (by omega)
   by_cases ht:top (prim (Zi rs))<0
   ·rcases hcom with h | h
    ·exact .inl (Ru rs _ _ _ _ _ (by rw[decide_eq_false_iff_not,List.length_map];omega) (by rw[decide_eq_false_iff_not,List.length_map];omega) p1' (q1 ht) hder' h hdiv)
    ·exact .inl (Rs rs _ _ _ _ _ (by rw[decide_eq_false_iff_not,List.length_map];omega) (by rw[decide_eq_false_iff_not,List.length_map];omega) p1' (q1 ht) hder' h hdiv)
   ·rw[hpp ht] at *
    rcases hcom with h | h
    ·exact .inl (Rq rs _ _ _ _ (by rw[decide_eq_false_iff_not,List.length_map];omega) (by rw[decide_eq_false_iff_not,List.length_map];omega) p1' (q2 ht) hder' h hdiv)
    ·exact .inl (Rm rs _ _ _ _ (by rw[decide_eq_false_iff_not,List.length_map];omega) (by rw[decide_eq_false_iff_not,List.length_map];omega) p1' (q2 ht) hder' h hdiv)
end Go.Proofs.YthnnfemologhfaaGreat

namespace Go.Proofs.YthnnfemologhfaaGreat
open Go.IntKind (i64 u64 u32)
open Go.Ai
set_option maxRecDepth 100000
def plA (p:List Int):AV := .sl (p.map cn).length (pc (p.map cn))
def plF (p:List Int):AV := .fresh 2 (p.map cn).length (pc (p.map cn))
theorem U7 {f:Nat} {args:List AV} {X:List Int} (h:Ze Yir f args (.fresh 2 X.length (pk X))):Ze Yir f args (.fresh 2 (X.map cn).length (pc (X.map cn))):=by
 rw[List.length_map];exact h
theorem Zc1 (p:List Int):Zl ((p.map cn).getD (p.length-1) z0)=top p:=Uw p (p.length-1)
theorem Hw {p:List Int} {K:Nat} (hk:Kb K p) (hL:Vl p) (hK:K≤1048576) (hN:p.length≤1048576) :
  (top p<0→Ze Yir 71 [plA p] (plF (Qv p)))∧(¬ top p<0→Ze Yir 71 [plA p] (plA p)):=by
 have hg:∀ r∈p.map cn,Jw 1048576 r:=fun r hr=>(Z0 hk r hr).mono hK
 have hlm:(p.map cn).length=p.length:=List.length_map ..
 by_cases h0:0<p.length
 ·have e1:i64.wrap ((((p.map cn).length:Nat):Int)-1)=((p.length-1:Nat):Int):=by rw[hlm,w64 (by omega) (by omega)];omega
  obtain⟨g1,g2⟩:=Z9 hg (p.length-1)
  have hs:=Vs (neg:=((p.map cn).getD (p.length-1) z0).1) g1 g2
  have ht:Zl ((p.map cn).getD (p.length-1) z0)=top p:=Zc1 p
  rw[show rv ((p.map cn).getD (p.length-1) z0).1 ((p.map cn).getD (p.length-1) z0).2=top p from ht] at hs
  refine⟨fun h => ?_,fun h => ?_⟩
  ·have hn:=Sr hg (by omega)
   rw[Z3,Gp hL] at hn
   have e:Qv p=Vc p:=by unfold Qv;rw[if_pos h]
   unfold plA plF
   rw[e]
   exact Zif _ _ (by rw[decide_eq_true_eq];omega) (by rw[e1,Int.toNat_natCast,ht,decide_eq_true_eq];unfold X2;rw[if_pos h];decide) (by rw[e1];omega) (by rw[e1,Int.toNat_natCast,ht];exact hs) (U7 hn)
  ·exact Zie _ (by rw[decide_eq_true_eq];omega) (by rw[e1,Int.toNat_natCast,ht,decide_eq_false_iff_not];unfold X2;rw[if_neg h];split <;> decide) (by rw[e1];omega) (by rw[e1,Int.toNat_natCast,ht];exact hs)
 ·have hz:p=[]:=List.eq_nil_of_length_eq_zero (by omega)
  subst hz
  refine⟨fun h=>absurd h (by decide),fun _=>Zid [] (by decide)⟩
theorem Zb4 (n:Int):Zl (false,(cn n).2)=(n.natAbs:Int):=by
 show rv false (Zb n.natAbs)=_
 unfold rv;rw[Je];simp
theorem Zb7 {x y:Rn} {J K:Nat} (hx:Jw J x) (hy:Jw K y) (h:J+K≤1048576):Ze Yir 76 [.agg [.bool x.1, .sl x.2.length (lm x.2)],Zt y] (Zn (Zl x*Zl y)):=G6 hx.1 hy.1 (by have:=hx.2;have:=hy.2;omega)
theorem rm_cn {x y:Rn} {J K:Nat} (hx:Jw J x) (hy:Jw K y) (h:J<1048576) (h2:K<1048576):Ze Yir 78 [Zt x,Zt y] (Zn (Zl x-Zl y)):=A5 hx.1 hy.1 (by have:=hx.2;omega) (by have:=hy.2;omega)
def gst (p d:List Int) (a b:Int) (j:Nat):Int:=if p.length-d.length≤j then a*p.getD j 0-b*d.getD (j-(p.length-d.length)) 0 else a*p.getD j 0
theorem Zdf (p d:List Int) (a b:Int) (n:Nat):((List.range n).map fun j=>cn (gst p d a b j))=(Um p d a b n).map cn:=by
 unfold Um gst;rw[List.map_map];rfl
section
variable {p d:List Int} {J Kd:Nat}
theorem Bj {b:Int} (hp:Kb J p) (hd:Kb Kd d) (hb:Ji J b) (hS:J+Kd+1<1000000) (hd0:d ≠ []) (hl:d.length≤p.length) (hN:p.length≤1048576) :
  Za Yir (.loop Lc) (H4 (p.map cn) (d.map cn) (cn (top d)) (cn b) ((p.length-d.length:Nat):Int) 0 [] 0) (.exit 2)
   (H4 (p.map cn) (d.map cn) (cn (top d)) (cn b) ((p.length-d.length:Nat):Int) (p.length-1) (pc ((Um p d ((top d).natAbs:Int) b (p.length-1)).map cn)) ((p.length-1:Nat):Int)):=by
 have hdl:=List.length_pos_iff.2 hd0
 have hlm:(p.map cn).length=p.length:=List.length_map ..
 have hld:(d.map cn).length=d.length:=List.length_map ..
 have e1:i64.wrap ((((p.map cn).length:Nat):Int)-1)=((p.length-1:Nat):Int):=by rw[hlm,w64 (by omega) (by omega)];omega
 have h:=Za.up (prog:=Yir) (c:=Lc) (ex := .exit 2) (fin:=H4 (p.map cn) (d.map cn) (cn (top d)) (cn b) ((p.length-d.length:Nat):Int) (p.length-1) (pc ((Um p d ((top d).natAbs:Int) b (p.length-1)).map cn)) ((p.length-1:Nat):Int))
  (fun i=>H4 (p.map cn) (d.map cn) (cn (top d)) (cn b) ((p.length-d.length:Nat):Int) i (pc ((List.range i).map fun j=>cn (gst p d ((top d).natAbs:Int) b j))) (i:Nat)) (p.length-1) (by intro e;cases e) ?_ ?_ 0 (Nat.zero_le _)
 ·exact h
 ·intro i hi
  have ei:i64.wrap ((i:Int)+1)=((i+1:Nat):Int):=by rw[w64 (by omega) (by omega)];omega
  have gp:=Z9 (Z0 hp) i
  have ga:Jw Kd (false,(cn (top d)).2):=by
   have:=Jj (X3 hd)
   exact⟨this.1,this.2⟩
  have gb:=Jj hb
  have vi:=Uw p i
  have m1:=Zb7 ga gp (by omega)
  have va:=Zb4 (top d)
  by_cases hat:p.length-d.length≤i
  ·have ea:i64.wrap ((i:Int)-((p.length-d.length:Nat):Int))=((i-(p.length-d.length):Nat):Int):=by rw[w64 (by omega) (by omega)];omega
   have gq:=Z9 (Z0 hd) (i-(p.length-d.length))
   have vq:=Uw d (i-(p.length-d.length))
   have m2:=Zb7 gb gq (by omega)
   have f1:Ji (Kd+J) (Zl (false,(cn (top d)).2)*Zl ((p.map cn).getD i z0)):=ga.fits.mul gp.fits
   have f2:Ji (J+Kd) (Zl (cn b)*Zl ((d.map cn).getD (i-(p.length-d.length)) z0)):=gb.fits.mul gq.fits
   have m3:=rm_cn (Jj f1) (Jj f2) (by omega) (by omega)
   rw[Qc (Zl (false,(cn (top d)).2)*_),Qc (Zl (cn b)*Zl ((d.map cn).getD (i-(p.length-d.length)) z0))] at m3
   have k:=Zpl (p.map cn) (d.map cn) (cn (top d)) (cn b) ((p.length-d.length:Nat):Int) i (pc ((List.range i).map fun j=>cn (gst p d ((top d).natAbs:Int) b j))) (i:Nat) (by rw[e1,decide_eq_true_eq];omega) (by rw[decide_eq_true_eq];omega) (by omega) (by rw[ea];omega) (by omega)
    (by rw[Int.toNat_natCast];exact m1) (by rw[ea,Int.toNat_natCast];exact m2) (by rw[ea,Int.toNat_natCast,Int.toNat_natCast];exact m3)
   refine k.to rfl ?_
   rw[ea,Int.toNat_natCast,Int.toNat_natCast,ei]
   rw[← Ua (gst p d ((top d).natAbs:Int) b) i]
   unfold gst
   rw[if_pos hat,va,vi,Qc,vq]
  ·have k:=Zpk (p.map cn) (d.map cn) (cn (top d)) (cn b) ((p.length-d.length:Nat):Int) i (pc ((List.range i).map fun j=>cn (gst p d ((top d).natAbs:Int) b j))) (i:Nat) (by rw[e1,decide_eq_true_eq];omega) (by rw[decide_eq_false_iff_not];omega) (by omega) (by omega)
    (by rw[Int.toNat_natCast];exact m1)
   refine k.to rfl ?_
   rw[Int.toNat_natCast,ei]
   rw[← Ua (gst p d ((top d).natAbs:Int) b) i]
   unfold gst
   rw[if_neg hat,va,vi]
 ·show Za _ _ (H4 _ _ _ _ _ _ (pc ((List.range (p.length-1)).map fun j=>cn (gst p d ((top d).natAbs:Int) b j))) _) _ _
  rw[Zdf]
  exact Zpj _ _ _ _ _ _ _ _ (by rw[e1,decide_eq_false_iff_not];omega)
theorem T8 (hp:Kb J p) (hd:Kb Kd d) (hS:J+Kd+1<1000000) (hd0:d ≠ []) (hl:d.length≤p.length) (hN:p.length≤1048576) :
  Za Yir Zs4 (Zbm (p.map cn) (d.map cn) (cn (top d))) .norm (Zbm ((Ui p d).map cn) (d.map cn) (cn (top d))):=by
 have hdl:=List.length_pos_iff.2 hd0
 have hlm:(p.map cn).length=p.length:=List.length_map ..
 have hld:(d.map cn).length=d.length:=List.length_map ..
 have e1:i64.wrap ((((p.map cn).length:Nat):Int)-1)=((p.length-1:Nat):Int):=by rw[hlm,w64 (by omega) (by omega)];omega
 have e2:i64.wrap ((((p.map cn).length:Nat):Int)-(((d.map cn).length:Nat):Int))=((p.length-d.length:Nat):Int):=by rw[hlm,hld,w64 (by omega) (by omega)];omega
 have gt:=Jj (X3 hd)
 have gl:=Z9 (Z0 hp) (p.length-1)
 have vl:=Zc1 p
 have hs:=Vs (neg:=(cn (top d)).1) gt.1 (by have:=gt.2;omega)
 rw[show rv (cn (top d)).1 (cn (top d)).2=top d from Qc _] at hs
 have hT:∀ b,Ji J b→b=sg (top d)*top p→Ze Yir 25 [.sl (p.length-1) (pc ((Um p d ((top d).natAbs:Int) b (p.length-1)).map cn))] (.fresh 2 ((Zd (Um p d ((top d).natAbs:Int) b (p.length-1))).map cn).length (pc ((Zd (Um p d ((top d).natAbs:Int) b (p.length-1))).map cn)))
   ∧ Ze Yir 40 [.sl ((Zd (Um p d ((top d).natAbs:Int) b (p.length-1))).map cn).length (pc ((Zd (Um p d ((top d).natAbs:Int) b (p.length-1))).map cn))] (.fresh 2 ((Ui p d).map cn).length (pc ((Ui p d).map cn))):=by
  intro b fb hb
  have kE:Kb (J+Kd+1) (Um p d ((top d).natAbs:Int) b (p.length-1)):=Nd hp hd (Dw (X3 hd)) fb _
  have hlE:=J9 p d ((top d).natAbs:Int) b (p.length-1)
  have htl:=Qg (Um p d ((top d).natAbs:Int) b (p.length-1))
  refine⟨?_,?_⟩
  ·have h:=Xl (rs:=(Um p d ((top d).natAbs:Int) b (p.length-1)).map cn) (fun r hr=>(Z0 kE r hr).mono (by omega)) (by rw[List.length_map];omega)
   rw[Z3,List.length_map,hlE] at h
   exact U7 h
  ·have h:=Vt (rs:=(Zd (Um p d ((top d).natAbs:Int) b (p.length-1))).map cn) (Z0 kE.trim) (by omega) (by rw[List.length_map];omega)
   rw[Z3] at h
   have e:prim (Zd (Um p d ((top d).natAbs:Int) b (p.length-1)))=Ui p d:=by
    rw[N4 hd0 hl,← hb]
    exact Gc (Jg _)
   rw[e] at h
   exact U7 h
 by_cases hneg:top d<0
 ·have hng:=E1 (neg:=((p.map cn).getD (p.length-1) z0).1) gl.1 (by have:=gl.2;omega)
  rw[show rv ((p.map cn).getD (p.length-1) z0).1 ((p.map cn).getD (p.length-1) z0).2=top p from vl] at hng
  have hb : -(top p)=sg (top d)*top p:=by unfold sg;rw[if_pos hneg];omega
  obtain⟨t1,t2⟩:=hT _ (X3 hp).neg hb
  exact Yk43_1 (p.map cn) (d.map cn) (cn (top d)) ((Um p d ((top d).natAbs:Int) (-(top p)) (p.length-1)).map cn) _ _ (p.length-1) ((p.length-1:Nat):Int) (by rw[decide_eq_true_eq];omega) (by rw[Qc,decide_eq_true_eq];unfold X2;rw[if_pos hneg];decide) (by rw[e1];omega) (by rw[Qc];exact hs) (by rw[e1,Int.toNat_natCast,vl];exact hng)
   (by rw[e1,e2,Int.toNat_natCast,vl];exact Bj hp hd (X3 hp).neg hS hd0 hl hN) t1 t2
 ·have hb:top p=sg (top d)*top p:=by unfold sg;rw[if_neg hneg];omega
  obtain⟨t1,t2⟩:=hT _ (X3 hp) hb
  have hu:(p.map cn).getD (p.length-1) z0=cn (top p):=Xz (by omega)
  exact Yk43_2 (p.map cn) (d.map cn) (cn (top d)) ((Um p d ((top d).natAbs:Int) (top p) (p.length-1)).map cn) _ _ (p.length-1) ((p.length-1:Nat):Int) (by rw[decide_eq_true_eq];omega) (by rw[Qc,decide_eq_false_iff_not];unfold X2;rw[if_neg hneg];split <;> decide) (by rw[e1];omega) (by rw[Qc];exact hs)
   (by rw[e1,e2,Int.toNat_natCast,hu];exact Bj hp hd (X3 hp) hS hd0 hl hN) t1 t2
end
theorem T9 {d:List Int} {Kd:Nat} (hd:Kb Kd d) (hd0:d ≠ []):∀ (f:Nat) (p:List Int) (J:Nat),p.length≤f→Kb J p→J+(p.length+1-d.length)*(Kd+1)<1000000→p.length≤1048576 →
  Za Yir (.loop Zs4) (Zbm (p.map cn) (d.map cn) (cn (top d))) (.exit 0) (Zbm ((Vh f p d).map cn) (d.map cn) (cn (top d))):=by
 have hdl:=List.length_pos_iff.2 hd0
 intro f
 induction f with
 | zero =>
  intro p J hf _ _ _
  exact Za.loop_out (Zl9 (p.map cn) (d.map cn) (cn (top d)) (by rw[decide_eq_false_iff_not,List.length_map,List.length_map];omega)) (by intro e;cases e)
 | succ f ih =>
  intro p J hf hJ hS hN
  simp only[Vh]
  split
  ·rename_i hl
   have hplen:=Kr hd0 hl
   have e:((Ui p d).length+1-d.length)+1≤p.length+1-d.length:=by omega
   have:=Nat.mul_le_mul_right (Kd+1) e
   rw[Nat.add_mul,Nat.one_mul] at this
   have h1:=T8 hJ hd (by
    have h2:1*(Kd+1)≤(p.length+1-d.length)*(Kd+1):=Nat.mul_le_mul_right _ (by omega)
    omega) hd0 hl hN
   exact Za.loop h1 (ih (Ui p d) (J+Kd+1) (by omega) (Nb hJ hd) (by omega) (by omega))
  ·rename_i hl
   exact Za.loop_out (Zl9 (p.map cn) (d.map cn) (cn (top d)) (by rw[decide_eq_false_iff_not,List.length_map,List.length_map];omega)) (by intro e;cases e)
theorem Pa {x y:List Int} (hy:Zd y ≠ []):J3 x (Zd y)=J3 x (prim y):=by
 unfold J3
 rw[← K8 y,L1 (by have:=Hj hy;omega)]
theorem Bi {rs ss:List Rn} {J K:Nat} (hr:∀ r∈rs,Jw J r) (hs:∀ r∈ss,Jw K r) (hJ:J<1000000) (hK:K<1000000) (hn:rs.length≤1048576) (hm:ss.length≤1048576) (h0:Zd (Zi ss) ≠ []) (hS:J+((Zd (Zi rs)).length+1-(Zd (Zi ss)).length)*(K+1)<1000000) :
  Ze Yir 43 [.sl rs.length (pc rs), .sl ss.length (pc ss)] (plA (J3 (prim (Zi rs)) (prim (Zi ss)))):=by
 have p1:=Vt hr hJ hn
 have p2:=Xl (fun r h=>(hs r h).mono (show K≤1048576 by omega)) hm
 have k1:Kb J (prim (Zi rs)):=(Bz (Q8 hr)).prim
 have k2:Kb K (Zd (Zi ss)):=(Bz (Q8 hs)).trim
 have l1:(prim (Zi rs)).length≤rs.length:=by rw[Qq];have:=Qg (Zi rs);rwa [Zs] at this
 have l2:(Zd (Zi ss)).length≤ss.length:=by have:=Qg (Zi ss);rwa [Zs] at this
 have hl:=List.length_pos_iff.2 h0
 have hlp:=T9 k2 h0 (prim (Zi rs)).length (prim (Zi rs)) J (Nat.le_refl _) k1 (by rw[Qq];exact hS) (by omega)
 have e1:i64.wrap (((((Zd (Zi ss)).map cn).length:Nat):Int)-1)=(((Zd (Zi ss)).length-1:Nat):Int):=by rw[List.length_map,w64 (by omega) (by omega)];omega
 rw[← Pa h0]
 exact Yrun43 rs ss _ _ ((J3 (prim (Zi rs)) (Zd (Zi ss))).map cn) (cn (top (Zd (Zi ss)))) (U7 p1) (U7 p2) (by rw[e1,List.length_map];omega) (by
  rw[e1,Int.toNat_natCast,Xz (show (Zd (Zi ss)).length-1<(Zd (Zi ss)).length by omega)]
  exact hlp)
theorem N3:∀ (f:Nat) (x y:List Int) (M:Nat),0<M→y.length≤f→y.length≤x.length→x.length≤1048576→prim x=x→prim y=y→Kb (M-1) x→Kb (M-1) y→M*phi x.length y.length≤500000 →
  ∃ bs,Za Yir (.loop Rx) (Dg (x.map cn) (y.map cn)) (.exit 0) (Dg ((Hz f x y).map cn) bs):=by
 intro f
 induction f with
 | zero =>
  intro x y M _ h1 _ _ _ _ _ _ _
  have:y=[]:=List.eq_nil_of_length_eq_zero (by omega)
  subst this
  exact⟨_,Za.loop_out (Ze6 _ _ (by simp)) (by intro e;cases e)⟩
 | succ f ih =>
  intro x y M hM h1 h2 h3 px py kx ky hphi
  simp only[Hz]
  split
  ·rename_i h
   subst h
   exact⟨_,Za.loop_out (Ze6 _ _ (by simp)) (by intro e;cases e)⟩
  ·rename_i h
   have hyl:=List.length_pos_iff.2 h
   obtain⟨r1,r2,r3⟩:=Ha hM (Ql px) h kx ky h2
   have hM':0<M*(x.length-y.length+2):=Nat.mul_pos hM (by omega)
   have hMle:M≤M*(x.length-y.length+2):=Nat.le_mul_of_pos_right M (by omega)
   have hbig:M*(x.length-y.length+2)≤500000:=by
    refine Nat.le_trans (Nat.mul_le_mul_left _ ?_) hphi
    unfold phi
    exact Nat.le_mul_of_pos_right _ (Nat.pow_pos (by decide))
   have hrem:=Bi (rs:=x.map cn) (ss:=y.map cn) (Z0 kx) (Z0 ky) (by omega) (by omega) (by rw[List.length_map];exact h3) (by rw[List.length_map];omega) (by rw[Z3,Ql py];exact h) (by
    rw[Z3,Z3,Ql px,Ql py,Nat.sub_add_cancel hM,show x.length+1-y.length=x.length-y.length+1 by omega,Nat.mul_comm _ M]
    have:M*(x.length-y.length+2)=M*(x.length-y.length+1)+M:=by rw[← Nat.mul_succ]
    omega)
   rw[Z3,Z3,px,py] at hrem
   have k:=Ze7 (x.map cn) (y.map cn) _ (by simp;omega) hrem
   obtain⟨bs,hb⟩:=ih y (J3 x y) (M*(x.length-y.length+2)) hM' (by omega) (by omega) (by omega) py (Vm _ _ _ px) (ky.mono (by omega)) r3 (Hb r2 hphi)
   exact⟨bs,Za.loop k hb⟩
theorem Fy {rs ss:List Rn} {g:List Int} {bs:List Rn} {K:Nat} (hr:∀ r∈rs,Jw K r) (hs:∀ r∈ss,Jw K r) (hK:K<1000000) (hn:rs.length≤1048576) (hm:ss.length≤1048576) {Kg:Nat} (hg:Kb Kg g) (hgL:Vl g) (hKg:Kg≤1048576) (hgl:g.length≤1048576)
  (hl:Za Yir (.loop Rx) (Dg ((prim (Zi rs)).map cn) ((prim (Zi ss)).map cn)) (.exit 0) (Dg (g.map cn) bs)) :
  R0 72 [.sl rs.length (pc rs), .sl ss.length (pc ss)] (Qv g):=by
 have p1:=Vt hr hK hn
 have p2:=Vt hs hK hm
 obtain⟨q1,q2⟩:=Hw hg hgL hKg hgl
 by_cases h:top g<0
 ·exact .inl (Zic rs ss _ _ (g.map cn) bs _ (U7 p1) (U7 p2) hl (q1 h))
 ·rw[Do h]
  exact .inr (Zib rs ss _ _ (g.map cn) bs (U7 p1) (U7 p2) hl (q2 h))
theorem L5 {rs ss:List Rn} {K c:Nat} (hr:∀ r∈rs,Jw K r) (hs:∀ r∈ss,Jw K r) (hn:rs.length≤c) (hm:ss.length≤c) (hc:c≤1048576) (hS:(K+1)*(2*3^c)≤500000) :
  R0 72 [.sl rs.length (pc rs), .sl ss.length (pc ss)] (Qv (Zbh (prim (Zi rs)) (prim (Zi ss)))):=by
 have h3:0<3^c:=Nat.pow_pos (by decide)
 have hK:K+1≤500000:=by
  have:(K+1)*1≤(K+1)*(2*3^c):=Nat.mul_le_mul_left _ (by omega)
  omega
 have k1:Kb K (prim (Zi rs)):=(Bz (Q8 hr)).prim
 have k2:Kb K (prim (Zi ss)):=(Bz (Q8 hs)).prim
 have l1:(prim (Zi rs)).length≤rs.length:=by rw[Qq];have:=Qg (Zi rs);rwa [Zs] at this
 have l2:(prim (Zi ss)).length≤ss.length:=by rw[Qq];have:=Qg (Zi ss);rwa [Zs] at this
 unfold Zbh
 split
 ·rename_i hl
  have hphi:(K+1)*phi (prim (Zi rs)).length (prim (Zi ss)).length≤500000:=Nat.le_trans (Nat.mul_le_mul_left _ (Bo hl (by omega))) hS
  obtain⟨bs,hb⟩:=N3 (prim (Zi ss)).length (prim (Zi rs)) (prim (Zi ss)) (K+1) (by omega) (Nat.le_refl _) hl (by omega) (Qi _) (Qi _) k1 k2 hphi
  obtain⟨s1,s2⟩:=Hd (prim (Zi ss)).length (prim (Zi rs)) (prim (Zi ss)) (K+1) (by omega) (Nat.le_refl _) hl (Qr _) (Qr _) k1 k2
  exact Fy hr hs (by omega) (by omega) (by omega) s1 (Ql (K9 _ _ _ (Qi _) (Qi _))) (by omega) (by omega) hb
 ·rename_i hl
  have hphi:(K+1)*phi (prim (Zi ss)).length (prim (Zi rs)).length≤500000:=Nat.le_trans (Nat.mul_le_mul_left _ (Bo (by omega) (by omega))) hS
  obtain⟨bs,hb⟩:=N3 (prim (Zi rs)).length (prim (Zi ss)) (prim (Zi rs)) (K+1) (by omega) (Nat.le_refl _) (by omega) (by omega) (Qi _) (Qi _) k2 k1 hphi
  obtain⟨s1,s2⟩:=Hd (prim (Zi rs)).length (prim (Zi ss)) (prim (Zi rs)) (K+1) (by omega) (Nat.le_refl _) (by omega) (Qr _) (Qr _) k2 k1
  have hy0:prim (Zi ss) ≠ []:=by intro h;rw[h] at hl;simp at hl
  have hsw:J3 (prim (Zi rs)) (prim (Zi ss))=prim (Zi rs):=by
   unfold J3
   cases hx:(prim (Zi rs)).length with
   | zero=>rfl
   | succ n=>simp only[Vh];rw[if_neg hl]
  have hrem:=Bi (rs:=(prim (Zi rs)).map cn) (ss:=(prim (Zi ss)).map cn) (Z0 k1) (Z0 k2) (by omega) (by omega) (by rw[List.length_map];omega) (by rw[List.length_map];omega) (by rw[Z3,Qr];exact hy0) (by
   rw[Z3,Z3,Qr,Qr,show (prim (Zi rs)).length+1-(prim (Zi ss)).length=0 by omega,Nat.zero_mul];omega)
  rw[Z3,Z3,Qi,Qi,hsw] at hrem
  have k:=Ze7 ((prim (Zi rs)).map cn) ((prim (Zi ss)).map cn) _ (by rw[decide_eq_true_eq,List.length_map];omega) hrem
  exact Fy hr hs (by omega) (by omega) (by omega) s1 (Ql (K9 _ _ _ (Qi _) (Qi _))) (by omega) (by omega) (Za.loop k hb)
end Go.Proofs.YthnnfemologhfaaGreat

namespace Go.Proofs.YthnnfemologhfaaGreat
open Go.IntKind (i64 u64 u32)
open Go.Ai
set_option maxRecDepth 100000
section
variable {p d:List Int} {J Kd:Nat}
theorem Zmw {t:Int} {l:Rn} {rs ds:List Rn} {q:Int} (hp:Kb J p) (ht:Ji Kd t) (hS:J+Kd<1000000) (hN:p.length≤1048576) :
  Za Yir (.loop Zbb) (Av rs ds (cn t) p.length (p.map cn) l q 0) (.exit 2) (Av rs ds (cn t) p.length ((Zx t p).map cn) l q (p.length:Nat)):=by
 have hE:((Zx t p).map cn).length=(p.map cn).length:=by rw[List.length_map,List.length_map,Zw]
 have hpl:(p.map cn).length=p.length:=List.length_map ..
 have h:=Za.up (prog:=Yir) (c:=Zbb) (ex := .exit 2) (fin:=Av rs ds (cn t) p.length ((Zx t p).map cn) l q (p.length:Nat))
  (fun i=>Av rs ds (cn t) p.length (Gm ((Zx t p).map cn) (p.map cn) i) l q (i:Nat)) p.length (by intro e;cases e) ?_ ?_ 0 (Nat.zero_le _)
 ·rw[Gi] at h;exact h
 ·intro i hi
  have ei:i64.wrap ((i:Int)+1)=((i+1:Nat):Int):=by rw[w64 (by omega) (by omega)];omega
  have hml:=Uv hE i
  have hget:=Gk hE (i:=i) (by omega)
  have hEi:((Zx t p).map cn).getD i z0=cn ((Zx t p).getD i 0):=Xz (by rw[Zw];exact hi)
  have hset:=Gj hE (i:=i) (by omega)
  rw[hEi,Z7] at hset
  have gp:=Z9 (Z0 hp) i
  have gt:=Jj ht
  have vi:=Uw p i
  have m1:=Zb7 gp gt (by omega)
  generalize Gm ((Zx t p).map cn) (p.map cn) i=M at *
  have k:=Zpa rs ds (cn t) p.length M l q (i:Nat) (by simp;omega) (by omega) (by omega) (by rw[Int.toNat_natCast,hget];exact m1)
  refine k.to rfl ?_
  simp only[ei,Int.toNat_natCast,hget]
  rw[vi,Qc,Int.mul_comm,hset]
 ·rw[show Gm ((Zx t p).map cn) (p.map cn) p.length=(Zx t p).map cn by have h:=Gl hE;rw[hpl] at h;exact h]
  exact Zo9 _ _ _ _ _ _ _ _ (by simp)
theorem Zmv {b:Int} {k:Nat} {os:List Rn} (hp:Kb J p) (hd:Kb Kd d) (hb:Ji J b) (hS:J+Kd+1<1000000) (hd0:d ≠ []) (hl:d.length≤p.length) (hN:p.length≤1048576) :
  Za Yir (.loop Rz) (Fs (p.map cn) (d.map cn) (cn (top d)) k os (cn b) ((p.length-d.length:Nat):Int) 0 [] 0) (.exit 4)
   (Fs (p.map cn) (d.map cn) (cn (top d)) k os (cn b) ((p.length-d.length:Nat):Int) (p.length-1) (pc ((Um p d (top d) b (p.length-1)).map cn)) ((p.length-1:Nat):Int)):=by
 have hdl:=List.length_pos_iff.2 hd0
 have hlm:(p.map cn).length=p.length:=List.length_map ..
 have hld:(d.map cn).length=d.length:=List.length_map ..
 have e1:i64.wrap ((((p.map cn).length:Nat):Int)-1)=((p.length-1:Nat):Int):=by rw[hlm,w64 (by omega) (by omega)];omega
 have h:=Za.up (prog:=Yir) (c:=Rz) (ex := .exit 4) (fin:=Fs (p.map cn) (d.map cn) (cn (top d)) k os (cn b) ((p.length-d.length:Nat):Int) (p.length-1) (pc ((Um p d (top d) b (p.length-1)).map cn)) ((p.length-1:Nat):Int))
  (fun i=>Fs (p.map cn) (d.map cn) (cn (top d)) k os (cn b) ((p.length-d.length:Nat):Int) i (pc ((List.range i).map fun j=>cn (gst p d (top d) b j))) (i:Nat)) (p.length-1) (by intro e;cases e) ?_ ?_ 0 (Nat.zero_le _)
 ·exact h
 ·intro i hi
  have ei:i64.wrap ((i:Int)+1)=((i+1:Nat):Int):=by rw[w64 (by omega) (by omega)];omega
  have gp:=Z9 (Z0 hp) i
  have ga:=Jj (X3 hd)
  have gb:=Jj hb
  have vi:=Uw p i
  have m1:=Zb7 ga gp (by omega)
  have va:=Qc (top d)
  by_cases hat:p.length-d.length≤i
  ·have ea:i64.wrap ((i:Int)-((p.length-d.length:Nat):Int))=((i-(p.length-d.length):Nat):Int):=by rw[w64 (by omega) (by omega)];omega
   have gq:=Z9 (Z0 hd) (i-(p.length-d.length))
   have vq:=Uw d (i-(p.length-d.length))
   have m2:=Zb7 gb gq (by omega)
   have f1:Ji (Kd+J) (Zl (cn (top d))*Zl ((p.map cn).getD i z0)):=ga.fits.mul gp.fits
   have f2:Ji (J+Kd) (Zl (cn b)*Zl ((d.map cn).getD (i-(p.length-d.length)) z0)):=gb.fits.mul gq.fits
   have m3:=rm_cn (Jj f1) (Jj f2) (by omega) (by omega)
   rw[Qc (Zl (cn (top d))*_),Qc (Zl (cn b)*Zl ((d.map cn).getD (i-(p.length-d.length)) z0))] at m3
   have k:=Zo8 (p.map cn) (d.map cn) (cn (top d)) k os (cn b) ((p.length-d.length:Nat):Int) i (pc ((List.range i).map fun j=>cn (gst p d (top d) b j))) (i:Nat) (by rw[e1,decide_eq_true_eq];omega) (by rw[decide_eq_true_eq];omega) (by omega) (by rw[ea];omega) (by omega)
    (by rw[Int.toNat_natCast];exact m1) (by rw[ea,Int.toNat_natCast];exact m2) (by rw[ea,Int.toNat_natCast,Int.toNat_natCast];exact m3)
   refine k.to rfl ?_
   rw[ea,Int.toNat_natCast,Int.toNat_natCast,ei]
   rw[← Ua (gst p d (top d) b) i]
   unfold gst
   rw[if_pos hat,va,vi,Qc,vq]
  ·have k:=Zo7 (p.map cn) (d.map cn) (cn (top d)) k os (cn b) ((p.length-d.length:Nat):Int) i (pc ((List.range i).map fun j=>cn (gst p d (top d) b j))) (i:Nat) (by rw[e1,decide_eq_true_eq];omega) (by rw[decide_eq_false_iff_not];omega) (by omega) (by omega)
    (by rw[Int.toNat_natCast];exact m1)
   refine k.to rfl ?_
   rw[Int.toNat_natCast,ei]
   rw[← Ua (gst p d (top d) b) i]
   unfold gst
   rw[if_neg hat,va,vi]
 ·show Za _ _ (Fs _ _ _ _ _ _ _ _ (pc ((List.range (p.length-1)).map fun j=>cn (gst p d (top d) b j))) _) _ _
  rw[Zdf]
  exact Zo6 _ _ _ _ _ _ _ _ _ _ (by rw[e1,decide_eq_false_iff_not];omega)
end
theorem Zaa {d:List Int} {Kd:Nat} (hd:Kb Kd d) (hd0:d ≠ []):∀ (f:Nat) (r out:List Int) (J:Nat),r.length≤f→Kb J r→Kb J out→J+(r.length+1-d.length)*(Kd+1)<1000000→r.length+1≤out.length+d.length→out.length≤1048576→r.length≤1048576 →
  (∃ r',Za Yir (.loop Yc73) (Zni (r.map cn) (d.map cn) (cn (top d)) out.length (out.map cn)) (.exit 0) (Zni r' (d.map cn) (cn (top d)) out.length ((Pf d f r out).map cn)))∧Kb (J+(r.length+1-d.length)*(Kd+1)) (Pf d f r out)∧(Pf d f r out).length=out.length:=by
 have hdl:=List.length_pos_iff.2 hd0
 have hld:(d.map cn).length=d.length:=List.length_map ..
 intro f
 induction f with
 | zero =>
  intro r out J hf _ ho _ _ _ _
  exact⟨⟨_,Za.loop_out (Zl4 (r.map cn) (d.map cn) (cn (top d)) out.length (out.map cn) (by rw[decide_eq_false_iff_not,List.length_map,List.length_map];omega)) (by intro e;cases e)⟩,ho.mono (Nat.le_add_right _ _),rfl⟩
 | succ f ih =>
  intro r out J hf hJ ho hS hlo hN1 hN
  have hlm:(r.map cn).length=r.length:=List.length_map ..
  simp only[Pf]
  split
  ·rename_i hl
   have e1:i64.wrap ((((r.map cn).length:Nat):Int)-1)=((r.length-1:Nat):Int):=by rw[hlm,w64 (by omega) (by omega)];omega
   have e2:i64.wrap ((((r.map cn).length:Nat):Int)-(((d.map cn).length:Nat):Int))=((r.length-d.length:Nat):Int):=by rw[hlm,hld,w64 (by omega) (by omega)];omega
   have hlen:=Kv hd0 hl
   have e:((Zd (Um r d (top d) (top r) (r.length-1))).length+1-d.length)+1≤r.length+1-d.length:=by omega
   have hmul:=Nat.mul_le_mul_right (Kd+1) e
   rw[Nat.add_mul,Nat.one_mul] at hmul
   have hsz:J+Kd+1<1000000:=by omega
   have kE:Kb (J+Kd+1) (Um r d (top d) (top r) (r.length-1)):=Nd hJ hd (X3 hd) (X3 hJ) _
   have hlE:=J9 r d (top d) (top r) (r.length-1)
   have hps:=Nc ho (X3 hd)
   have ht:=Xl (rs:=(Um r d (top d) (top r) (r.length-1)).map cn) (fun x hx=>(Z0 kE x hx).mono (by omega)) (by rw[List.length_map];omega)
   rw[Z3,List.length_map,hlE] at ht
   have hu:(r.map cn).getD (r.length-1) z0=cn (top r):=Xz (by omega)
   have hset:((Zx (top d) out).map cn).set (r.length-d.length) (cn (top r))=((Zx (top d) out).set (r.length-d.length) (top r)).map cn:=by rw[List.map_set]
   obtain⟨⟨r',hr'⟩,kb,len⟩:=ih (Zd (Um r d (top d) (top r) (r.length-1))) ((Zx (top d) out).set (r.length-d.length) (top r)) (J+Kd+1) (by omega) kE.trim (Zlb (hps.mono (by omega)) ((X3 hJ).mono (by omega)) _) (by omega) (by rw[List.length_set,Zw];omega) (by rw[List.length_set,Zw];exact hN1) (by omega)
   rw[List.length_set,Zw] at hr' len
   refine⟨⟨r',Za.loop ?_ hr'⟩,kb.mono (by omega),len⟩
   have k:=Yk73_1 (r.map cn) (d.map cn) (cn (top d)) out.length (out.map cn) ((Zx (top d) out).map cn) ((Um r d (top d) (top r) (r.length-1)).map cn) _ (r.length-1) (out.length:Nat) ((r.length-1:Nat):Int) (by rw[decide_eq_true_eq];omega) (by rw[e1];omega)
    (by rw[e1,e2,Int.toNat_natCast,hu];exact Zmw ho (X3 hd) (by omega) hN1) (by rw[e2];omega) (by rw[List.length_map,Zw])
    (by rw[e1,e2,Int.toNat_natCast,Int.toNat_natCast,hu];exact Zmv hJ hd (X3 hJ) hsz hd0 hl hN) (U7 ht)
   rw[e1,e2,Int.toNat_natCast,Int.toNat_natCast,hu,hset] at k
   exact k
  ·rename_i hl
   exact⟨⟨_,Za.loop_out (Zl4 (r.map cn) (d.map cn) (cn (top d)) out.length (out.map cn) (by rw[decide_eq_false_iff_not,List.length_map,List.length_map];omega)) (by intro e;cases e)⟩,ho.mono (Nat.le_add_right _ _),rfl⟩
theorem Zci {p q:List Int} {J K:Nat} (hp:Kb J p) (hq:Kb K q) (lp:Vl p) (lq:Vl q) (hq0:q ≠ []) (tq:0<top q) (tp:0<top p) (hl:q.length≤p.length) (hN:p.length≤1000000) (hS:J+(p.length+1-q.length)*(K+1)<1000000) :
  Ze Yir 73 [.sl (p.map cn).length (pc (p.map cn)), .sl (q.map cn).length (pc (q.map cn))] (plA (prim (Pf q p.length p (List.replicate (p.length-q.length+1) 0)))):=by
 have hql:=List.length_pos_iff.2 hq0
 have hlp:(p.map cn).length=p.length:=List.length_map ..
 have hlq:(q.map cn).length=q.length:=List.length_map ..
 have h1:1*(K+1)≤(p.length+1-q.length)*(K+1):=Nat.mul_le_mul_right _ (by omega)
 have t1:=Xl (rs:=p.map cn) (fun r h=>(Z0 hp r h).mono (show J≤1048576 by omega)) (by omega)
 have t2:=Xl (rs:=q.map cn) (fun r h=>(Z0 hq r h).mono (show K≤1048576 by omega)) (by omega)
 rw[Z3,lp] at t1
 rw[Z3,lq] at t2
 have hz:(List.replicate (p.length-q.length+1) (0:Int)).map cn=List.replicate (p.length-q.length+1) z0:=by rw[List.map_replicate,z0_cn]
 obtain⟨⟨r',hlp2⟩,kb,len⟩:=Zaa hq hq0 p.length p (List.replicate (p.length-q.length+1) 0) J (Nat.le_refl _) hp (fun i=>by rw[Jm];exact U8 _) hS (by simp;omega) (by simp;omega) (by omega)
 rw[List.length_replicate] at hlp2 len
 obtain⟨c',r1,a1,a2,_,a4⟩:=Fh (p:=p) hq0 tq hl
 have tO:=Sq a1 tp hq0 tq hl len a4 a2
 generalize Pf q p.length p (List.replicate (p.length-q.length+1) 0)=o at *
 have e1:i64.wrap ((((q.map cn).length:Nat):Int)-1)=((q.length-1:Nat):Int):=by rw[hlq,w64 (by omega) (by omega)];omega
 have e2:i64.wrap (i64.wrap ((((p.map cn).length:Nat):Int)-(((q.map cn).length:Nat):Int))+1)=((p.length-q.length+1:Nat):Int):=by
  rw[hlp,hlq,w64 (n:=(p.length:Int)-(q.length:Nat)) (by omega) (by omega),w64 (by omega) (by omega)];omega
 have t3:=Xl (rs:=o.map cn) (fun r h=>(Z0 kb r h).mono (by omega)) (by rw[List.length_map];omega)
 rw[Z3,List.length_map,len] at t3
 have htl:=Qg o
 have p3:=Vt (rs:=(Zd o).map cn) (Z0 kb.trim) (by omega) (by rw[List.length_map];omega)
 rw[Z3,Gc (Jg o)] at p3
 have hpl:(prim o).length≤o.length:=by rw[Qq];exact htl
 have hps:=(Hw (p:=prim o) kb.prim (Qr o) (by omega) (by omega)).2 (by have:=Fv tO;omega)
 exact Yrun73 (p.map cn) (q.map cn) (p.map cn) (q.map cn) r' (o.map cn) _ _ (cn (top q)) (p.length-q.length+1) (U7 t1) (U7 t2) (by rw[e1,hlq];omega) (by rw[e2];omega)
  (by rw[e1,e2,Int.toNat_natCast,Int.toNat_natCast,E2,← hz,Xz (show q.length-1<q.length by omega)];exact hlp2) (U7 t3) (U7 p3) hps
theorem Zg1 {p:List Int} {c:Int} (hc:0<c) (hp:prim p=p) (hl:1≤p.length):prim (Pf [c] p.length p (List.replicate (p.length-1+1) 0))=p:=by
 obtain⟨c',r',a1,a2,_,a4⟩:=Fh (p:=p) (d:=[c]) (by simp) (show 0<top [c] from hc) hl
 have lq:Vl [c]:=Pj (.inr (by show c ≠ 0;omega))
 have h:=Bk a1 hc (Bh (o2:=p) (r2:=[]) (c2:=c) lq (by simp) a4 (fun x=>by simp[Zg]) a2 (fun i _=>rfl))
 rw[hp] at h
 exact h
theorem L4 {rs:List Rn} {K c:Nat} (hr:∀ r∈rs,Jw K r) (hn:rs.length≤c) (hc:c≤9) (hS:(K+3)*(2*3^c)≤500000):Ze Yir 39 [.sl rs.length (pc rs)] (plA (Qn (Zi rs))):=by
 have h3:0<3^c:=Nat.pow_pos (by decide)
 have hK:K+3≤250000:=by
  have:(K+3)*2≤(K+3)*(2*3^c):=Nat.mul_le_mul_left _ (by omega)
  omega
 have p1:=U7 (Vt hr (by omega) (by omega))
 have k1:Kb K (prim (Zi rs)):=(Bz (Q8 hr)).prim
 have l1:(prim (Zi rs)).length≤rs.length:=by rw[Qq];have:=Qg (Zi rs);rwa [Zs] at this
 obtain⟨q1,q2⟩:=Hw k1 (Qr _) (by omega) (by omega)
 have ka:Kb K (Qv (prim (Zi rs))):=by
  unfold Qv;split
  ·intro i;rw[U6];exact (k1 i).neg
  ·exact k1
 have la:=Wy (prim (Zi rs))
 have lda:Vl (Qv (prim (Zi rs))):=Gn (Qr _)
 have hpp:(¬ top (prim (Zi rs))<0)→Qv (prim (Zi rs))=prim (Zi rs):=Do
 have hder:=Ss (rs:=(Qv (prim (Zi rs))).map cn) (Z0 ka) (by omega) (by rw[List.length_map];omega)
 rw[Z3] at hder
 have hder':=U7 hder
 have kd:Kb (K+2) (Qu (Qv (prim (Zi rs)))):=Pn ka (by omega)
 have ld:(Qu (Qv (prim (Zi rs)))).length≤c:=by have:=Sz (Qv (prim (Zi rs)));omega
 have hcom:=L5 (rs:=(Qv (prim (Zi rs))).map cn) (ss:=(Qu (Qv (prim (Zi rs)))).map cn) (K:=K+2) (c:=c) (fun r h=>(Z0 ka r h).mono (by omega)) (Z0 kd) (by rw[List.length_map];omega) (by rw[List.length_map];exact ld) (by omega) hS
 rw[Z3,Z3] at hcom
 change R0 72 _ (V4 (Qv (prim (Zi rs))) (Qu (Qv (prim (Zi rs))))) at hcom
 have hover:2≤(Qv (prim (Zi rs))).length→Ze Yir 73 [.sl ((Qv (prim (Zi rs))).map cn).length (pc ((Qv (prim (Zi rs))).map cn)), .sl ((V4 (Qv (prim (Zi rs))) (Qu (Qv (prim (Zi rs))))).map cn).length (pc ((V4 (Qv (prim (Zi rs))) (Qu (Qv (prim (Zi rs))))).map cn))] (plA (Qn (Zi rs))):=by
  intro h2
  have hp0:Zd (Zi rs) ≠ []:=by
   intro h0
   have:prim (Zi rs)=[]:=Uz.2 (Xg.1 h0)
   rw[this] at h2
   exact absurd h2 (by decide)
  obtain⟨a1,a2,a3,a4,_,_⟩:=Pb hp0
  have hta:Zd (Qv (prim (Zi rs))) ≠ []:=Ue a1 a2
  obtain⟨b1,b2⟩:=Zdb (t:=Qu (Qv (prim (Zi rs)))) hta (by omega) ka
  rw[a1] at b2
  have nG:=Fe (t:=Qu (Qv (prim (Zi rs)))) hta
  have lG:=Kx (Qv (prim (Zi rs))) (Qu (Qv (prim (Zi rs))))
  have tG:=R8 (t:=Qu (Qv (prim (Zi rs)))) hta
  have h:=Zci ka b1 lda lG nG tG a4 b2 (by omega) (by
   have h4:(Qv (prim (Zi rs))).length+1-(V4 (Qv (prim (Zi rs))) (Qu (Qv (prim (Zi rs))))).length≤10:=by omega
   have h5:=Nat.mul_le_mul_right (K+3+1) h4
   have h6:3^2≤3^c:=Nat.pow_le_pow_right (by decide) (by omega)
   have h7:(K+3)*18≤(K+3)*(2*3^c):=Nat.mul_le_mul_left _ (by omega)
   omega)
  have e:prim (Pf (V4 (Qv (prim (Zi rs))) (Qu (Qv (prim (Zi rs))))) (Qv (prim (Zi rs))).length (Qv (prim (Zi rs))) (List.replicate ((Qv (prim (Zi rs))).length-(V4 (Qv (prim (Zi rs))) (Qu (Qv (prim (Zi rs))))).length+1) 0))=Qn (Zi rs):=by
   unfold Qn
   by_cases hg:(V4 (Qv (prim (Zi rs))) (Qu (Qv (prim (Zi rs))))).length<2
   ·rw[if_pos (.inr hg)]
    have hgl:=List.length_pos_iff.2 nG
    obtain⟨c,hc⟩:=Zcw (show (V4 (Qv (prim (Zi rs))) (Qu (Qv (prim (Zi rs))))).length=1 by omega)
    rw[hc] at tG ⊢
    exact Zg1 tG (Ks a1 a3) (by omega)
   ·rw[if_neg (by omega)]
    exact (Zm9 lG nG tG b2).symm
  rw[e] at h
  exact h
 by_cases hs:(Qv (prim (Zi rs))).length<2
 ·have e:Qn (Zi rs)=Qv (prim (Zi rs)):=by unfold Qn;rw[if_pos (.inl hs)]
  rw[e]
  by_cases ht:top (prim (Zi rs))<0
  ·exact Rl rs _ _ (by rw[decide_eq_true_eq,List.length_map];omega) p1 (q1 ht)
  ·rw[hpp ht] at hs ⊢
   exact Rh rs _ (by rw[decide_eq_true_eq,List.length_map];omega) p1 (q2 ht)
 ·have hover:=hover (by omega)
  by_cases ht:top (prim (Zi rs))<0
  ·rcases hcom with h | h
   ·exact Rk rs _ _ _ _ _ (by rw[decide_eq_false_iff_not,List.length_map];omega) p1 (q1 ht) hder' h hover
   ·exact Rj rs _ _ _ _ _ (by rw[decide_eq_false_iff_not,List.length_map];omega) p1 (q1 ht) hder' h hover
  ·rw[hpp ht] at *
   rcases hcom with h | h
   ·exact Ri rs _ _ _ _ (by rw[decide_eq_false_iff_not,List.length_map];omega) p1 (q2 ht) hder' h hover
   ·exact Rg rs _ _ _ _ (by rw[decide_eq_false_iff_not,List.length_map];omega) p1 (q2 ht) hder' h hover
end Go.Proofs.YthnnfemologhfaaGreat

namespace Go.Proofs.YthnnfemologhfaaGreat
open Go.IntKind (i64 u64 u32)
open Go.Ai
set_option maxRecDepth 100000
def Xo:Nat→List Int→List Int→List (List Int)
 | 0,_,_=>[]
 | f+1,a,b=>if b=[] then [] else b::Xo f b (Vc (J3 a b))
def Un (p:List Int):List (List Int):=if Qn p=[] then [] else Qn p::Xo (Qn p).length (Qn p) (prim (Qu (Qn p)))
theorem Wf {p:List Int} (h:prim p=p):prim (Vc p)=Vc p:=by
 by_cases h0:p=[]
 ·subst h0;rfl
 ·have hl:Vl p:=Ql h
  have h1:=K1 (xs:=p) (by rw[hl];exact h0)
  rw[h] at h1
  exact Ks (Gp hl) (by rw[Mv];exact h1)
theorem Pm {K:Nat} {p:List Int} (h:Kb K p):Kb K (Vc p):=fun i=>by rw [U6];exact (h i).neg
def pps (l:List (List Int)):List (List Rn):=l.map fun p=>p.map cn
theorem Zcm (ls:List (List Rn)) (rs:List Rn):pp ls++([.sl rs.length (pc rs)]:List AV)=pp (ls++[rs]):=by simp [pp]
def Zkw (p:List Int):Prop:=Kb 500000 p∧p.length≤9∧Vl p
theorem P5:∀ (f:Nat) (x y:List Int) (M:Nat),0<M→y.length≤x.length→x.length≤9→prim x=x→prim y=y→Kb (M-1) x→Kb (M-1) y→M*phi x.length y.length≤500000 →
  ∀ p∈Xo f x y,Zkw p:=by
 intro f
 induction f with
 | zero=>intro x y M _ _ _ _ _ _ _ _ p hp;cases hp
 | succ f ih =>
  intro x y M hM h2 h3 px py kx ky hphi p hp
  simp only[Xo] at hp
  split at hp
  ·cases hp
  ·rename_i h
   obtain⟨r1,r2,r3⟩:=Ha hM (Ql px) h kx ky h2
   have hM':0<M*(x.length-y.length+2):=Nat.mul_pos hM (by omega)
   have hMle:M≤M*(x.length-y.length+2):=Nat.le_mul_of_pos_right M (by omega)
   have hb:M*1≤M*phi x.length y.length:=Nat.mul_le_mul_left _ (by unfold phi;exact Nat.mul_pos (by omega) (Nat.pow_pos (by decide)))
   rcases List.mem_cons.1 hp with rfl | hp
   ·exact⟨ky.mono (by omega),by omega,Ql py⟩
   ·exact ih y (Vc (J3 x y)) (M*(x.length-y.length+2)) hM' (by rw[Xx];omega) (by omega) py (Wf (Vm _ _ _ px)) (ky.mono (by omega)) (Pm r3) (by rw[Xx];exact Hb r2 hphi) p hp
theorem Er:∀ (f:Nat) (x y:List Int),(Xo f x y).length≤f
 | 0,_,_=>Nat.le_refl _
 | f+1,x,y=>by
  simp only[Xo]
  split
  ·simp
  ·have:=Er f y (Vc (J3 x y));simp;omega
theorem Zau:∀ (f:Nat) (x y:List Int) (M:Nat) (ls:List (List Rn)),0<M→y.length≤f→y.length≤x.length→x.length≤9→prim x=x→prim y=y→Kb (M-1) x→Kb (M-1) y→M*phi x.length y.length≤500000→ls.length+f≤1000 →
  ∃ as' bs',Za Yir (.loop Ztx) (Zf7 (x.map cn) ls.length (pp ls) (y.map cn)) (.exit 0) (Zf7 as' (ls++pps (Xo f x y)).length (pp (ls++pps (Xo f x y))) bs'):=by
 intro f
 induction f with
 | zero =>
  intro x y M ls _ h1 _ _ _ _ _ _ _ _
  have:y=[]:=List.eq_nil_of_length_eq_zero (by omega)
  subst this
  have e:ls++pps (Xo 0 x [])=ls:=by simp[pps,Xo]
  rw[e]
  exact⟨_,_,Za.loop_out (Zmd _ _ _ _ (by simp)) (by intro e;cases e)⟩
 | succ f ih =>
  intro x y M ls hM h1 h2 h3 px py kx ky hphi hls
  simp only[Xo]
  split
  ·rename_i h
   subst h
   have e:ls++pps []=ls:=by simp[pps]
   rw[e]
   exact⟨_,_,Za.loop_out (Zmd _ _ _ _ (by simp)) (by intro e;cases e)⟩
  ·rename_i h
   have hyl:=List.length_pos_iff.2 h
   obtain⟨r1,r2,r3⟩:=Ha hM (Ql px) h kx ky h2
   have hM':0<M*(x.length-y.length+2):=Nat.mul_pos hM (by omega)
   have hMle:M≤M*(x.length-y.length+2):=Nat.le_mul_of_pos_right M (by omega)
   have hbig:M*(x.length-y.length+2)≤500000:=by
    refine Nat.le_trans (Nat.mul_le_mul_left _ ?_) hphi
    unfold phi
    exact Nat.le_mul_of_pos_right _ (Nat.pow_pos (by decide))
   have hrem:=Wi (rs:=x.map cn) (ss:=y.map cn) (Z0 kx) (Z0 ky) (by omega) (by omega) (by rw[List.length_map];omega) (by rw[List.length_map];omega) (by rw[Z3,py];exact h) (by
    rw[Z3,Z3,px,py,Nat.sub_add_cancel hM,show x.length+1-y.length=x.length-y.length+1 by omega,Nat.mul_comm _ M]
    have:M*(x.length-y.length+2)=M*(x.length-y.length+1)+M:=by rw[← Nat.mul_succ]
    omega)
   rw[Z3,Z3,px,py] at hrem
   have hneg:=W8 (rs:=(J3 x y).map cn) (fun r hr=>(Z0 r3 r hr).mono (by omega)) (by rw[List.length_map];omega)
   rw[Z3] at hneg
   have hneg':Ze Yir 36 [.sl ((J3 x y).map cn).length (pc ((J3 x y).map cn))] (.fresh 2 ((Vc (J3 x y)).map cn).length (pc ((Vc (J3 x y)).map cn))):=by
    have e:((Vc (J3 x y)).map cn).length=((J3 x y).map cn).length:=by rw[List.length_map,List.length_map,Xx]
    rw[e];exact hneg
   have k:=Yk19_1 (x.map cn) ls.length (pp ls) (y.map cn) _ _ (by simp;omega) (by omega) (U7 hrem) hneg'
   rw[Zcm] at k
   obtain⟨as',bs',hb⟩:=ih y (Vc (J3 x y)) (M*(x.length-y.length+2)) (ls++[y.map cn]) hM' (by rw[Xx];omega) (by rw[Xx];omega) (by omega) py (Wf (Vm _ _ _ px)) (ky.mono (by omega)) (Pm r3) (by rw[Xx];exact Hb r2 hphi) (by rw[List.length_append];simp;omega)
   have e:ls++[y.map cn]++pps (Xo f y (Vc (J3 x y)))=ls++pps (y::Xo f y (Vc (J3 x y))):=by simp[pps]
   rw[e] at hb
   have el:(ls++[y.map cn]).length=ls.length+1:=by simp
   rw[el] at hb
   exact⟨as',bs',Za.loop k hb⟩
theorem W5 {rs:List Rn} (hr:∀ r∈rs,Jw 4 r) (hn:rs.length≤9) (h0:Qn (Zi rs) ≠ []) :
  prim (Qn (Zi rs))=Qn (Zi rs)∧Kb 9 (Qn (Zi rs))∧Kb 9 (Qu (Qn (Zi rs)))∧(Qn (Zi rs)).length≤9∧(Qu (Qn (Zi rs))).length≤(Qn (Zi rs)).length-1∧(prim (Qu (Qn (Zi rs)))).length≤(Qu (Qn (Zi rs))).length ∧
  10*phi (Qn (Zi rs)).length (prim (Qu (Qn (Zi rs)))).length≤500000∧Vl (Qn (Zi rs)):=by
 have ht:Zd (Zi rs) ≠ []:=by
  intro h
  have hz:prim (Zi rs)=[]:=by rw[Uz,← Xg];exact h
  apply h0
  unfold Qn;rw[hz];rfl
 obtain⟨lf,cf,_,_,_,_,_,_⟩:=Sw ht
 obtain⟨k1,k2⟩:=Zha ht (by rw[Zs];exact hn) (Bz (Q8 hr))
 have t1:=Qg (Zi rs)
 rw[Zs] at t1
 have k3:=Pn k1 (by omega)
 have d1:(Qu (Qn (Zi rs))).length≤(Qn (Zi rs)).length-1:=by
  unfold Qu
  have:=Qg ((List.range ((Qn (Zi rs)).length-1)).map fun j=>(Qn (Zi rs)).getD (j+1) 0*((j+1:Nat):Int))
  rwa [List.length_map,List.length_range] at this
 have d2:(prim (Qu (Qn (Zi rs)))).length≤(Qu (Qn (Zi rs))).length:=by rw[Qq];exact Qg _
 refine⟨Ks lf cf,k1.mono (by omega),k3.mono (by omega),by omega,d1,d2,?_,lf⟩
 have:=Bo (n:=(Qn (Zi rs)).length) (m:=(prim (Qu (Qn (Zi rs)))).length) (c:=9) (by omega) (by omega)
 have h3:2*3^9=39366:=by decide
 omega
theorem P4 {rs:List Rn} (hr:∀ r∈rs,Jw 4 r) (hn:rs.length≤9):∀ p∈Un (Zi rs),Zkw p:=by
 intro p hp
 unfold Un at hp
 split at hp
 ·cases hp
 ·rename_i h0
  obtain⟨p1,k1,k2,l1,l2,l3,hphi,lf⟩:=W5 hr hn h0
  rcases List.mem_cons.1 hp with rfl | hp
  ·exact⟨k1.mono (by omega),l1,lf⟩
  ·exact P5 _ _ _ 10 (by decide) (by omega) l1 p1 (Qi _) k1 k2.prim hphi p hp
theorem Zav {rs:List Rn} (hr:∀ r∈rs,Jw 4 r) (hn:rs.length≤9):(Un (Zi rs)).length≤10:=by
 unfold Un
 split
 ·simp
 ·rename_i h0
  obtain⟨_,_,_,l1,_⟩:=W5 hr hn h0
  have:=Er (Qn (Zi rs)).length (Qn (Zi rs)) (prim (Qu (Qn (Zi rs))))
  simp;omega
theorem Za0 {rs:List Rn} (hr:∀ r∈rs,Jw 4 r) (hn:rs.length≤9):Ze Yir 19 [.sl rs.length (pc rs)] (.fresh 1 (pps (Un (Zi rs))).length (pp (pps (Un (Zi rs))))):=by
 have hf:=Zd8 hr hn (by omega) (by decide)
 by_cases h0:Qn (Zi rs)=[]
 ·have e:Un (Zi rs)=[]:=by unfold Un;rw[if_pos h0]
  rw[e]
  rw[h0] at hf
  rcases hf with h | h
  ·exact Za8 rs [] (by decide) h
  ·exact Za6 rs [] (by decide) h
 ·obtain⟨p1,k1,k2,l1,l2,l3,hphi,lf⟩:=W5 hr hn h0
  have e:Un (Zi rs)=Qn (Zi rs)::Xo (Qn (Zi rs)).length (Qn (Zi rs)) (prim (Qu (Qn (Zi rs)))):=by unfold Un;rw[if_neg h0]
  have hd:=F8 (rs:=(Qn (Zi rs)).map cn) (Z0 k1) (by omega) (by rw[List.length_map];omega)
  rw[Z3] at hd
  have hp:=Jc (rs:=(Qu (Qn (Zi rs))).map cn) (Z0 k2) (by omega) (by rw[List.length_map];omega)
  rw[Z3] at hp
  obtain⟨as',bs',hl⟩:=Zau (Qn (Zi rs)).length (Qn (Zi rs)) (prim (Qu (Qn (Zi rs)))) 10 [(Qn (Zi rs)).map cn] (by decide) (by omega) (by omega) l1 p1 (Qi _) k1 k2.prim hphi (by simp;omega)
  have e2:[(Qn (Zi rs)).map cn]++pps (Xo (Qn (Zi rs)).length (Qn (Zi rs)) (prim (Qu (Qn (Zi rs)))))=pps (Un (Zi rs)):=by rw[e];simp[pps]
  rw[e2] at hl
  have c1:(((((Qn (Zi rs)).map cn).length:Nat):Int)==0)=false:=by
   rw[beq_eq_false_iff_ne,List.length_map]
   have:=List.length_pos_iff.2 h0
   omega
  rcases hf with h | h
  ·exact Za7 rs _ _ _ as' bs' _ c1 h (U7 hd) (U7 hp) hl
  ·exact Za5 rs _ _ _ as' bs' _ c1 h (U7 hd) (U7 hp) hl
theorem Zct (ls:List (List Rn)) (us bs:List Rn) {n:Nat} (hn:n=ls.length+2) (hN:n≤1048576):Z4 (pp (ls++[us])++([.sl bs.length (pc bs)]:List AV)) (Int.toNat (i64.wrap ((n:Int)-2))*1) 1 true=some (.sl us.length (pc us)):=by
 have e:Int.toNat (i64.wrap ((n:Int)-2))*1=ls.length:=by rw[w64 (by omega) (by omega)];omega
 rw[e]
 simp only[Z4,if_true]
 rw[List.getElem?_append_left (by simp[pp])]
 simp[pp]
theorem L6:∀ (f:Nat) (x y:List Int) (M:Nat) (ls:List (List Rn)),0<M→y.length≤f→y.length≤x.length→x.length≤9→prim x=x→prim y=y→Kb (M-1) x→Kb (M-1) y→M*phi x.length y.length≤500000→ls.length+f≤1000 →
  ∃ bs',Za Yir (.loop Yc21) (Zl0 (ls.length+1) (pp (ls++[x.map cn])) (y.map cn)) (.exit 0) (Zl0 (ls++[x.map cn]++pps (Xo f x y)).length (pp (ls++[x.map cn]++pps (Xo f x y))) bs'):=by
 intro f
 induction f with
 | zero =>
  intro x y M ls _ h1 _ _ _ _ _ _ _ _
  have:y=[]:=List.eq_nil_of_length_eq_zero (by omega)
  subst this
  have e:ls++[x.map cn]++pps (Xo 0 x [])=ls++[x.map cn]:=by simp[pps,Xo]
  rw[e,List.length_append]
  exact⟨_,Za.loop_out (Zmc _ _ _ (by simp)) (by intro e;cases e)⟩
 | succ f ih =>
  intro x y M ls hM h1 h2 h3 px py kx ky hphi hls
  simp only[Xo]
  split
  ·rename_i h
   subst h
   have e:ls++[x.map cn]++pps []=ls++[x.map cn]:=by simp[pps]
   rw[e,List.length_append]
   exact⟨_,Za.loop_out (Zmc _ _ _ (by simp)) (by intro e;cases e)⟩
  ·rename_i h
   have hyl:=List.length_pos_iff.2 h
   obtain⟨r1,r2,r3⟩:=Ha hM (Ql px) h kx ky h2
   have hM':0<M*(x.length-y.length+2):=Nat.mul_pos hM (by omega)
   have hMle:M≤M*(x.length-y.length+2):=Nat.le_mul_of_pos_right M (by omega)
   have hbig:M*(x.length-y.length+2)≤500000:=by
    refine Nat.le_trans (Nat.mul_le_mul_left _ ?_) hphi
    unfold phi
    exact Nat.le_mul_of_pos_right _ (Nat.pow_pos (by decide))
   have hrem:=Bi (rs:=x.map cn) (ss:=y.map cn) (Z0 kx) (Z0 ky) (by omega) (by omega) (by rw[List.length_map];omega) (by rw[List.length_map];omega) (by rw[Z3,Ql py];exact h) (by
    rw[Z3,Z3,Ql px,Ql py,Nat.sub_add_cancel hM,show x.length+1-y.length=x.length-y.length+1 by omega,Nat.mul_comm _ M]
    have:M*(x.length-y.length+2)=M*(x.length-y.length+1)+M:=by rw[← Nat.mul_succ]
    omega)
   rw[Z3,Z3,px,py] at hrem
   have hneg:=Sr (rs:=(J3 x y).map cn) (fun r hr=>(Z0 r3 r hr).mono (by omega)) (by rw[List.length_map];omega)
   rw[Z3,Gp r1] at hneg
   have hls1:(ls++[x.map cn]).length=ls.length+1:=by simp
   have e2:i64.wrap ((((ls.length+1+1):Nat):Int)-2)=(ls.length:Int):=by rw[w64 (by omega) (by omega)];omega
   have k:=Yk21_1 (ls.length+1) (pp (ls++[x.map cn])) (y.map cn) (x.map cn) ((J3 x y).map cn) _ (by simp;omega) (by omega) (by rw[e2];omega) (Zct ls (x.map cn) (y.map cn) (by omega) (by omega)) hrem (U7 hneg)
   rw[Zcm] at k
   obtain⟨bs',hb⟩:=ih y (Vc (J3 x y)) (M*(x.length-y.length+2)) (ls++[x.map cn]) hM' (by rw[Xx];omega) (by rw[Xx];omega) (by omega) py (Wf (Vm _ _ _ px)) (ky.mono (by omega)) (Pm r3) (by rw[Xx];exact Hb r2 hphi) (by rw[hls1];omega)
   have e:ls++[x.map cn]++[y.map cn]++pps (Xo f y (Vc (J3 x y)))=ls++[x.map cn]++pps (y::Xo f y (Vc (J3 x y))):=by simp[pps]
   rw[e,hls1] at hb
   exact⟨bs',Za.loop k hb⟩
theorem Zac {rs:List Rn} (hr:∀ r∈rs,Jw 4 r) (hn:rs.length≤9):Ze Yir 21 [.sl rs.length (pc rs)] (.fresh 1 (pps (Un (Zi rs))).length (pp (pps (Un (Zi rs))))):=by
 have hf:=L4 hr hn (by omega) (by decide)
 by_cases h0:Qn (Zi rs)=[]
 ·have e:Un (Zi rs)=[]:=by unfold Un;rw[if_pos h0]
  rw[e]
  rw[h0] at hf
  exact Zjl rs [] (by decide) hf
 ·obtain⟨p1,k1,k2,l1,l2,l3,hphi,lf⟩:=W5 hr hn h0
  have e:Un (Zi rs)=Qn (Zi rs)::Xo (Qn (Zi rs)).length (Qn (Zi rs)) (prim (Qu (Qn (Zi rs)))):=by unfold Un;rw[if_neg h0]
  have hd:=Ss (rs:=(Qn (Zi rs)).map cn) (Z0 k1) (by omega) (by rw[List.length_map];omega)
  rw[Z3] at hd
  have hp:=Vt (rs:=(Qu (Qn (Zi rs))).map cn) (Z0 k2) (by omega) (by rw[List.length_map];omega)
  rw[Z3] at hp
  obtain⟨bs',hl⟩:=L6 (Qn (Zi rs)).length (Qn (Zi rs)) (prim (Qu (Qn (Zi rs)))) 10 [] (by decide) (by omega) (by omega) l1 p1 (Qi _) k1 k2.prim hphi (by simp;omega)
  have e2:[]++[(Qn (Zi rs)).map cn]++pps (Xo (Qn (Zi rs)).length (Qn (Zi rs)) (prim (Qu (Qn (Zi rs)))))=pps (Un (Zi rs)):=by rw[e];simp[pps]
  rw[e2] at hl
  have c1:(((((Qn (Zi rs)).map cn).length:Nat):Int)==0)=false:=by
   rw[beq_eq_false_iff_ne,List.length_map]
   have:=List.length_pos_iff.2 h0
   omega
  exact Zjk rs _ _ _ bs' _ c1 hf (U7 hd) (U7 hp) hl
def Lp (x:Int × Int) (s:Int):Int × Int:=(if s ≠ 0∧x.2 ≠ 0∧s ≠ x.2 then x.1+1 else x.1,if s ≠ 0 then s else x.2)
def Zk0 (l:List (List Int)) (N:Int) (e:Nat) (i:Nat):Int:=X2 (hv (l.getD i []) N (2^e))
def Vb (l:List (List Int)) (N:Int) (e:Nat):Nat→Int × Int
 | 0=>(0,0)
 | i+1=>Lp (Vb l N e i) (Zk0 l N e i)
theorem R6 (l:List (List Int)) (N:Int) (e:Nat):∀ i:Nat,0≤(Vb l N e i).1∧(Vb l N e i).1≤(i:Int)
 | 0=>by simp[Vb]
 | i+1=>by
  have:=R6 l N e i
  simp only[Vb,Lp]
  split <;> omega
theorem Wb {l:List (List Int)} {i:Nat} (h:i<l.length):(pps l).getD i []=(l.getD i []).map cn:=by
 unfold pps
 rw[List.getD_eq_getElem?_getD,List.getElem?_map,List.getD_eq_getElem?_getD,List.getElem?_eq_getElem h];rfl
theorem E6 (l:List (List Int)):(pps l).length=l.length:=List.length_map ..
section
variable {l:List (List Int)} {r:Rn} (hl:∀ p∈l,Zkw p) (hr:Jw 8 r) (hN:l.length≤100) (e:Nat) (he:e≤300)
include hl hr he
theorem Zgw {i:Nat} (hi:i<l.length):∃ w:Int,Ze Yir 51 [.sl ((pps l).getD i []).length (pc ((pps l).getD i [])), .agg [.bool r.1, .sl r.2.length (lm r.2)], .int .i64 (e:Nat)] (Zn w)∧Ze Yir 50 [Zn w] (.int .i64 (Zk0 l (Zl r) e i)):=by
 rw[Wb hi]
 have hm:l.getD i []∈l:=by rw[List.getD_eq_getElem?_getD,List.getElem?_eq_getElem hi];exact List.getElem_mem hi
 obtain⟨h1,h2,h3⟩:=hl _ hm
 have hS:500000+2+(((l.getD i []).map cn).length+1)*(8+(e / 32+1)+1)≤1048576:=by
  rw[List.length_map]
  have h4:((l.getD i []).length+1)*(8+(e / 32+1)+1)≤10*20:=Nat.mul_le_mul (by omega) (by omega)
  omega
 have h:=A9 (rs:=(l.getD i []).map cn) (Z0 h1) hr e hS (by omega)
 rw[Z3,h3] at h
 have hf:=Pq (K:=500000) hr.fits e (ts:=l.getD i []) h1.mem
 have hlen:(l.getD i []).length*(8+(e / 32+1)+1)≤9*20:=Nat.mul_le_mul (by omega) (by omega)
 exact⟨_,h,Sg (n:=hv (l.getD i []) (Zl r) (2^e)) (by have:=hf.len;omega)⟩
theorem Zge (hN:l.length≤100):Ze Yir 24 [.sl (pps l).length (pp (pps l)), .agg [.bool r.1, .sl r.2.length (lm r.2), .int .i64 (e:Nat)]] (.int .i64 (Vb l (Zl r) e l.length).1):=by
 have hpl:=E6 l
 have h:=Za.up (prog:=Yir) (c:=Zmh) (ex := .exit 0) (fin:=Tp (pps l) r (e:Nat) (Vb l (Zl r) e l.length).1 (Vb l (Zl r) e l.length).2 (l.length:Nat))
  (fun i=>Tp (pps l) r (e:Nat) (Vb l (Zl r) e i).1 (Vb l (Zl r) e i).2 (i:Nat)) l.length (by intro e;cases e) ?_ ?_ 0 (Nat.zero_le _)
 ·exact Zl1 (pps l) r (e:Nat) _ _ _ h
 ·intro i hi
  have ei:i64.wrap ((i:Int)+1)=((i+1:Nat):Int):=by rw[w64 (by omega) (by omega)];omega
  obtain⟨w,hs,hs2⟩:=Zgw hl hr e he hi
  have hb:=R6 l (Zl r) e i
  have w1:i64.wrap ((Vb l (Zl r) e i).1+1)=(Vb l (Zl r) e i).1+1:=w64 (by omega) (by omega)
  have c1:decide ((i:Int)<(((pps l).length:Nat):Int))=true:=by rw[decide_eq_true_eq];omega
  simp only[Vb,Lp]
  by_cases g1:Zk0 l (Zl r) e i=0
  ·rw[if_neg (fun h=>h.1 g1),if_neg (fun h=>h g1)]
   have k:=Yk24_4 (pps l) r (e:Nat) (Vb l (Zl r) e i).1 (Vb l (Zl r) e i).2 (i:Nat) w (Zk0 l (Zl r) e i) c1 (by rw[bne_eq_false_iff_eq];exact g1) (by omega) (by rw[Int.toNat_natCast];exact hs) hs2
   rwa [ei] at k
  ·by_cases g2:(Vb l (Zl r) e i).2=0
   ·rw[if_neg (fun h=>h.2.1 g2),if_pos g1]
    have k:=Yk24_3 (pps l) r (e:Nat) (Vb l (Zl r) e i).1 (Vb l (Zl r) e i).2 (i:Nat) w (Zk0 l (Zl r) e i) c1 (by rw[bne_iff_ne];exact g1) (by rw[bne_eq_false_iff_eq];exact g2) (by omega) (by rw[Int.toNat_natCast];exact hs) hs2
    rwa [ei] at k
   ·by_cases g3:Zk0 l (Zl r) e i=(Vb l (Zl r) e i).2
    ·rw[if_neg (fun h=>h.2.2 g3),if_pos g1]
     have k:=Yk24_2 (pps l) r (e:Nat) (Vb l (Zl r) e i).1 (Vb l (Zl r) e i).2 (i:Nat) w (Zk0 l (Zl r) e i) c1 (by rw[bne_iff_ne];exact g1) (by rw[bne_iff_ne];exact g2) (by rw[bne_eq_false_iff_eq];exact g3) (by omega) (by rw[Int.toNat_natCast];exact hs) hs2
     rwa [ei] at k
    ·rw[if_pos ⟨g1,g2,g3⟩,if_pos g1]
     have k:=Yk24_1 (pps l) r (e:Nat) (Vb l (Zl r) e i).1 (Vb l (Zl r) e i).2 (i:Nat) w (Zk0 l (Zl r) e i) c1 (by rw[bne_iff_ne];exact g1) (by rw[bne_iff_ne];exact g2) (by rw[bne_iff_ne];exact g3) (by omega) (by rw[Int.toNat_natCast];exact hs) hs2
     rwa [ei,w1] at k
 ·exact Zmb (pps l) r _ _ _ _ (by rw[decide_eq_false_iff_not];omega)
end
end Go.Proofs.YthnnfemologhfaaGreat

namespace Go.Proofs.YthnnfemologhfaaGreat
open Go.IntKind (i64 u64 u32)
open Go.Ai
set_option maxRecDepth 100000
def Kj (o:Bool) (ps:List (List Rn)) (n:Int) (k:Int) (rs:List Rn) (d:Int) (i:Int):Zk:=(dds 2 (.val (.bool o)::(dds 1 (.val (.sl rs.length (pc rs))::(.val (.int .i64 d)::(.val (.int .i64 i)::(.val (.sl ps.length (pp ps))::(.val (.int .i64 n)::(.val (.int .i64 k)::(dds 19 []))))))))))
theorem Zps (o:Bool) (ps:List (List Rn)) (n:Int) (k:Int) (rs:List Rn) (d:Int) (i:Int) (z:Int) (c1:(decide (i≤d))=true) (c2:(decide (z>256))=true) (n1:0≤i∧i<(rs.length:Int)) (n2:Ze Yir 45 [Zt (rs.getD (Int.toNat i) z0)] (.int .i64 z)):Za Yir Al (Kj o ps n k rs d i) .ret (Kj true ps n k rs d i):=(Za.go Qk 400 [.b true, .v (Zt (rs.getD (Int.toNat i) z0)), .r (.int .i64 z), .b true] [2,4,5,6,7,8,9] (ac c1 (ac n1 (ac (Qh n1) (ac n2 (ac c2 a0))))))
theorem Zpr (o:Bool) (ps:List (List Rn)) (n:Int) (k:Int) (rs:List Rn) (d:Int) (i:Int) (z:Int) (c1:(decide (i≤d))=true) (c2:(decide (z>256))=false) (n1:0≤i∧i<(rs.length:Int)) (n2:Ze Yir 45 [Zt (rs.getD (Int.toNat i) z0)] (.int .i64 z)):Za Yir Al (Kj o ps n k rs d i) .norm (Kj o ps n k rs d (i64.wrap (i+1))):=(Za.go Qk 400 [.b true, .v (Zt (rs.getD (Int.toNat i) z0)), .r (.int .i64 z), .b false] [2,4,5,6,7,8,9] (ac c1 (ac n1 (ac (Qh n1) (ac n2 (ac c2 a0))))))
theorem Zpq (o:Bool) (ps:List (List Rn)) (n:Int) (k:Int) (rs:List Rn) (d:Int) (i:Int)  (c1:(decide (i≤d))=false):Za Yir Al (Kj o ps n k rs d i) (.exit 2) (Kj o ps n k rs d i):=(Za.go Qk 400 [.b false] [2,4,5,6,7,8,9] (ac c1 a0))
def Zks:ICode := .seq (rg [oB 10 .lss 9 8]) (.seq (.cond (.t 10) (.skip) (.exit 0)) (.seq (.block 1 (.seq (rg [o1 11 (.ixa 7 (.t 9) 1),o1 12 (.ld 11 11 1 true),oM 4 12]) (.seq (rg [oM 13 4,oC 14 44 [13],oM 5 14]) (.seq (.seq (rg [oM 15 5,o1 16 (.bin .gtr (.t 15) (ci 16))]) (.cond (.t 16) (.seq (rg [o1 2 (.mov (.c (.bool true)))]) (.ret)) (.skip))) (.seq (rg [o1 6 (.mov (ci 0))]) (.block 2 (.loop (.seq (.seq (rg [oM 17 6,oM 18 5,oB 19 .leq 17 18]) (.cond (.t 19) (.skip) (.exit 2))) (.seq (.block 3 (.seq (rg [oM 22 4,oM 23 6,o1 24 (.ixa 22 (.t 23) 2),o1 25 (.ld 24 24 2 false),oC 26 45 [25],o1 27 (.bin .gtr (.t 26) (ci 256))]) (.cond (.t 27) (.seq (rg [o1 2 (.mov (.c (.bool true)))]) (.ret)) (.skip)))) (rg [oM 20 6,o1 21 (.bin .add (.t 20) (ci 1)),oM 6 21])))))))))) (rg [o1 28 (.bin .add (.t 9) (ci 1)),oM 9 28])))
def Ll (o:Bool) (ps:List (List Rn)) (n:Int) (k:Int):Zk:=(dds 2 (.val (.bool o)::(dds 4 (.val (.sl ps.length (pp ps))::(.val (.int .i64 n)::(.val (.int .i64 k)::(dds 19 [])))))))
theorem Yk32_1 (o:Bool) (ps:List (List Rn)) (n:Int) (k:Int) (d:Int) (c1:(decide (k<n))=true) (c2:(decide (d>16))=true) (n1:0≤k∧k<(ps.length:Int)) (n2:Ze Yir 44 [.sl ((ps.getD (Int.toNat k) []).length) (pc (ps.getD (Int.toNat k) []))] (.int .i64 d)):Za Yir Zks (Ll o ps n k) .ret (Ll true ps n k):=(Za.seq (Za.go (t:=(dds 2 (.val (.bool o)::(dds 4 (.val (.sl ps.length (pp ps))::(vi n::(vi k::(.val (.bool (decide (k<n)))::(dds 18 []))))))))) Qk 400 [] [2,7,8,9,10] a0) (Za.seq (Za.go (t:=(dds 2 (.val (.bool o)::(dds 4 (.val (.sl ps.length (pp ps))::(vi n::(vi k::(dds 19 [])))))))) Qk 400 [.b true] [2,7,8,9] (ac c1 a0)) (Za.seq_out (Za.block_ret (Za.seq (Za.go (t:=(dds 2 (.val (.bool o)::(dds 1 (.val (.sl ((ps.getD (Int.toNat k) []).length) (pc (ps.getD (Int.toNat k) [])))::(dds 2 (.val (.sl ps.length (pp ps))::(vi n::(vi k::(dds 19 [])))))))))) Qk 400 [.v (.sl ((ps.getD (Int.toNat k) []).length) (pc (ps.getD (Int.toNat k) [])))] [2,4,7,8,9] (ac n1 (ac (Ju n1) a0))) (Za.seq (Za.go (t:=(dds 2 (.val (.bool o)::(dds 1 (.val (.sl ((ps.getD (Int.toNat k) []).length) (pc (ps.getD (Int.toNat k) [])))::(vi d::(dds 1 (.val (.sl ps.length (pp ps))::(vi n::(vi k::(dds 19 []))))))))))) Qk 400 [.r (.int .i64 d)] [2,4,5,7,8,9] (ac n2 a0)) (Za.seq_out (Za.go Qk 400 [.b true] [2,7,8,9] (ac c2 a0)) (by intro e;cases e))))) (by intro e;cases e))))
theorem Yk32_2 (o:Bool) (ps:List (List Rn)) (n:Int) (k:Int) (d i:Int) (c1:(decide (k<n))=true) (c2:(decide (d>16))=false) (n1:0≤k∧k<(ps.length:Int)) (n2:Ze Yir 44 [.sl ((ps.getD (Int.toNat k) []).length) (pc (ps.getD (Int.toNat k) []))] (.int .i64 d)) (hl3:Za Yir (.loop Al) (Kj o ps n k (ps.getD (Int.toNat k) []) d 0) (.exit 2) (Kj o ps n k (ps.getD (Int.toNat k) []) d i)):Za Yir Zks (Ll o ps n k) .norm (Ll o ps n (i64.wrap (k+1))):=(Za.seq (Za.go (t:=(dds 2 (.val (.bool o)::(dds 4 (.val (.sl ps.length (pp ps))::(vi n::(vi k::(.val (.bool (decide (k<n)))::(dds 18 []))))))))) Qk 400 [] [2,7,8,9,10] a0) (Za.seq (Za.go (t:=(dds 2 (.val (.bool o)::(dds 4 (.val (.sl ps.length (pp ps))::(vi n::(vi k::(dds 19 [])))))))) Qk 400 [.b true] [2,7,8,9] (ac c1 a0)) (Za.seq (Za.block_norm (Za.seq (Za.go (t:=(dds 2 (.val (.bool o)::(dds 1 (.val (.sl ((ps.getD (Int.toNat k) []).length) (pc (ps.getD (Int.toNat k) [])))::(dds 2 (.val (.sl ps.length (pp ps))::(vi n::(vi k::(dds 19 [])))))))))) Qk 400 [.v (.sl ((ps.getD (Int.toNat k) []).length) (pc (ps.getD (Int.toNat k) [])))] [2,4,7,8,9] (ac n1 (ac (Ju n1) a0))) (Za.seq (Za.go (t:=(dds 2 (.val (.bool o)::(dds 1 (.val (.sl ((ps.getD (Int.toNat k) []).length) (pc (ps.getD (Int.toNat k) [])))::(vi d::(dds 1 (.val (.sl ps.length (pp ps))::(vi n::(vi k::(dds 19 []))))))))))) Qk 400 [.r (.int .i64 d)] [2,4,5,7,8,9] (ac n2 a0)) (Za.seq (Za.go (t:=(dds 2 (.val (.bool o)::(dds 1 (.val (.sl ((ps.getD (Int.toNat k) []).length) (pc (ps.getD (Int.toNat k) [])))::(vi d::(dds 1 (.val (.sl ps.length (pp ps))::(vi n::(vi k::(dds 19 []))))))))))) Qk 400 [.b false] [2,4,5,7,8,9] (ac c2 a0)) (Za.seq (Za.go Qk 400 [] [2,4,5,6,7,8,9] a0) (Za.block hl3)))))) (Za.go Qk 400 [] [2,7,8,9] a0))))
theorem Yk32_3 (o:Bool) (ps:List (List Rn)) (n:Int) (k:Int)  (c1:(decide (k<n))=false):Za Yir Zks (Ll o ps n k) (.exit 0) (Ll o ps n k):=(Za.seq (Za.go (t:=(dds 2 (.val (.bool o)::(dds 4 (.val (.sl ps.length (pp ps))::(vi n::(vi k::(.val (.bool (decide (k<n)))::(dds 18 []))))))))) Qk 400 [] [2,7,8,9,10] a0) (Za.seq_out (Za.go Qk 400 [.b false] [2,7,8,9] (ac c1 a0)) (by intro e;cases e)))
def Ys32y (o:Bool) (ps:List (List Rn)) (n:Int) (k:Int):Zk:=(dds 2 (.val (.bool o)::(dds 4 (.val (.sl ps.length (pp ps))::(.val (.int .i64 n)::(.val (.int .i64 k)::(dds 19 [])))))))
theorem Zpp (o:Bool) (ps:List (List Rn)) (n:Int) (k:Int) (d i:Int) (c1:(decide (k<n))=true) (c2:(decide (d>16))=false) (n1:0≤k∧k<(ps.length:Int)) (n2:Ze Yir 44 [.sl ((ps.getD (Int.toNat k) []).length) (pc (ps.getD (Int.toNat k) []))] (.int .i64 d)) (hl3:Za Yir (.loop Al) (Kj o ps n k (ps.getD (Int.toNat k) []) d 0) .ret (Kj true ps n k (ps.getD (Int.toNat k) []) d i)):Za Yir Yc32y (Ys32y o ps n k) .ret (Ys32y true ps n k):=(Za.seq (Za.go (t:=(dds 2 (.val (.bool o)::(dds 4 (.val (.sl ps.length (pp ps))::(vi n::(vi k::(.val (.bool (decide (k<n)))::(dds 18 []))))))))) Qk 400 [] [2,7,8,9,10] a0) (Za.seq (Za.go (t:=(dds 2 (.val (.bool o)::(dds 4 (.val (.sl ps.length (pp ps))::(vi n::(vi k::(dds 19 [])))))))) Qk 400 [.b true] [2,7,8,9] (ac c1 a0)) (Za.seq_out (Za.block_ret (Za.seq (Za.go (t:=(dds 2 (.val (.bool o)::(dds 1 (.val (.sl ((ps.getD (Int.toNat k) []).length) (pc (ps.getD (Int.toNat k) [])))::(dds 2 (.val (.sl ps.length (pp ps))::(vi n::(vi k::(dds 19 [])))))))))) Qk 400 [.v (.sl ((ps.getD (Int.toNat k) []).length) (pc (ps.getD (Int.toNat k) [])))] [2,4,7,8,9] (ac n1 (ac (Ju n1) a0))) (Za.seq (Za.go (t:=(dds 2 (.val (.bool o)::(dds 1 (.val (.sl ((ps.getD (Int.toNat k) []).length) (pc (ps.getD (Int.toNat k) [])))::(vi d::(dds 1 (.val (.sl ps.length (pp ps))::(vi n::(vi k::(dds 19 []))))))))))) Qk 400 [.r (.int .i64 d)] [2,4,5,7,8,9] (ac n2 a0)) (Za.seq (Za.go (t:=(dds 2 (.val (.bool o)::(dds 1 (.val (.sl ((ps.getD (Int.toNat k) []).length) (pc (ps.getD (Int.toNat k) [])))::(vi d::(dds 1 (.val (.sl ps.length (pp ps))::(vi n::(vi k::(dds 19 []))))))))))) Qk 400 [.b false] [2,4,5,7,8,9] (ac c2 a0)) (Za.seq (Za.go Qk 400 [] [2,4,5,6,7,8,9] a0) (Za.block_ret (Za.keep (t':=(dds 2 (.val (.bool true)::(dds 4 (.val (.sl ps.length (pp ps))::(.val (.int .i64 n)::(.val (.int .i64 k)::(dds 19 [])))))))) [2,7,8,9] hl3 (by kernel_rfl)))))))) (by intro e;cases e))))
theorem Zi5 (ps:List (List Rn)) (n k:Int) (hl1:Za Yir (.loop Zks) (Ll false ps (ps.length:Int) 0) (.exit 0) (Ll false ps n k)):Ze Yir 32 [.sl ps.length (pp ps)] (.bool false):=Ze.of_bodyW (fn:=Ztp) (s:=(dds 2 (.val (.bool false)::(dds 26 [])))) (ex := .ret) rfl rfl (Za.seq (Za.go (t:=(.val (.sl ps.length (pp ps))::(dds 1 (.val (.bool false)::(dds 26 []))))) Qk 400 [] [0,2] a0) (Za.seq (Za.seq (Za.go Qk 400 [] [2,7,8,9] a0) (Za.block hl1)) (Za.go Qk 400 [] [2] a0))) (by intro i e;cases e) rfl
theorem Zi4 (ps:List (List Rn)) (n k:Int) (hl1:Za Yir (.loop Zks) (Ll false ps (ps.length:Int) 0) .ret (Ll true ps n k)):Ze Yir 32 [.sl ps.length (pp ps)] (.bool true):=Ze.of_bodyW (fn:=Ztp) (s:=(dds 2 (.val (.bool true)::(dds 4 (.val (.sl ps.length (pp ps))::(.val (.int .i64 n)::(.val (.int .i64 k)::(dds 19 [])))))))) (ex := .ret) rfl rfl (Za.seq (Za.go (t:=(.val (.sl ps.length (pp ps))::(dds 1 (.val (.bool false)::(dds 26 []))))) Qk 400 [] [0,2] a0) (Za.seq_out (Za.seq (Za.go Qk 400 [] [2,7,8,9] a0) (Za.block_ret hl1)) (by intro e;cases e))) (by intro i e;cases e) rfl
end Go.Proofs.YthnnfemologhfaaGreat

namespace Go.Proofs.YthnnfemologhfaaGreat
open Go.IntKind (i64 u64 u32)
open Go.Ai
set_option maxRecDepth 100000
theorem S3 (rs:List Rn) (h:Nat):List.take ((h-0)*2) (List.drop (0*2) (pc rs))=pc (rs.take h):=by
 rw[Nat.zero_mul,List.drop_zero,Nat.sub_zero,Pd]
theorem Zbs (rs:List Rn) (h:Nat):Zi (rs.take h)=(Zi rs).take h:=by simp [Zi,List.map_take]
theorem Zbt (rs:List Rn):Zi (rs.take (Z1 (Zi rs) rs.length))=Zd (Zi rs):=by rw [Zbs,Zd,Zs]
def Lg (x:Int):Bool:=decide (256<(Zb x.natAbs).length)
def Jy (p:List Int):Bool:=decide (17<(Zd p).length) || (Zd p).any Lg
theorem Zd7 {p:List Int} {f:Int→Bool} (h:p.any f=false) (i:Nat) (hi:i<p.length):f (p.getD i 0)=false:=by
 rw[List.any_eq_false] at h
 rw[List.getD_eq_getElem?_getD,List.getElem?_eq_getElem hi]
 simpa using h _ (List.getElem_mem hi)
theorem Zht {p:List Int} {f:Int→Bool} (h:p.any f=true):∃ i,i<p.length∧f (p.getD i 0)=true:=by
 obtain⟨x,hx,hf⟩:=List.any_eq_true.1 h
 obtain⟨i,hi,rfl⟩:=List.mem_iff_getElem.1 hx
 refine⟨i,hi,?_⟩
 rw[List.getD_eq_getElem?_getD,List.getElem?_eq_getElem hi]
 simpa using hf
section
variable {rs:List Rn} {ps:List (List Rn)} {n k:Int}
theorem Tu (hg:∀ r∈rs,Jw 1048576 r) (hN:rs.length≤1048576) :
  (Jy (Zi rs)=false→(Zd (Zi rs)).length≤17→Za Yir (.loop Al) (Kj false ps n k rs (((Z1 (Zi rs) rs.length:Nat):Int)-1) 0) (.exit 2) (Kj false ps n k rs (((Z1 (Zi rs) rs.length:Nat):Int)-1) (Z1 (Zi rs) rs.length:Nat))) ∧
  (Jy (Zi rs)=true→(Zd (Zi rs)).length≤17→∃ j:Nat,Za Yir (.loop Al) (Kj false ps n k rs (((Z1 (Zi rs) rs.length:Nat):Int)-1) 0) .ret (Kj true ps n k rs (((Z1 (Zi rs) rs.length:Nat):Int)-1) (j:Nat))):=by
 have hle:=Wd (Zi rs) rs.length
 have hlen:(Zd (Zi rs)).length=Z1 (Zi rs) rs.length:=by rw[X9,Zs]
 have step:∀ t:Nat,t<Z1 (Zi rs) rs.length→Lg (Zl (rs.getD t z0))=false→Za Yir Al (Kj false ps n k rs (((Z1 (Zi rs) rs.length:Nat):Int)-1) (t:Nat)) .norm (Kj false ps n k rs (((Z1 (Zi rs) rs.length:Nat):Int)-1) ((t+1:Nat):Int)):=by
  intro t ht hb
  have ei:i64.wrap ((t:Int)+1)=((t+1:Nat):Int):=by rw[w64 (by omega) (by omega)];omega
  obtain⟨g1,g2⟩:=Z9 hg t
  have k2:=Zpr false ps n k rs (((Z1 (Zi rs) rs.length:Nat):Int)-1) (t:Nat) (((Zb (Zl (rs.getD t z0)).natAbs).length:Nat):Int) (by simp;omega) (by unfold Lg at hb;simp only[decide_eq_false_iff_not] at hb ⊢;omega) (by omega) (by rw[Int.toNat_natCast];exact D1 g1 g2)
  rwa [ei] at k2
 refine⟨fun hl _ => ?_,fun hl h17 => ?_⟩
 ·unfold Jy at hl
  rw[Bool.or_eq_false_iff] at hl
  have h:=Za.upTo (prog:=Yir) (c:=Al) (ex := .exit 2) (fun t=>Kj false ps n k rs (((Z1 (Zi rs) rs.length:Nat):Int)-1) (t:Nat)) (Z1 (Zi rs) rs.length) (by intro e;cases e) (Zpq false ps n k rs _ _ (by simp;omega)) 0 (Nat.zero_le _) (fun t _ h2=>step t h2 (by
   have:=Zd7 hl.2 t (by omega)
   rwa [Jg,Q1] at this))
  exact h
 ·unfold Jy at hl
  rw[decide_eq_false (by omega),Bool.false_or] at hl
  obtain⟨i,hi,hf⟩:=Zht hl
  rcases Vo (fun j=>Lg (Zl (rs.getD j z0))) (Z1 (Zi rs) rs.length) _ 0 (by rw[Nat.zero_add]) with h | ⟨j,_,h2,h3,h4⟩
  ·have:=h i (by omega) (by omega)
   rw[Jg,Q1] at hf
   rw[hf] at this
   cases this
  ·obtain⟨g1,g2⟩:=Z9 hg j
   have k1:=Zps false ps n k rs (((Z1 (Zi rs) rs.length:Nat):Int)-1) (j:Nat) (((Zb (Zl (rs.getD j z0)).natAbs).length:Nat):Int) (by simp;omega) (by unfold Lg at h3;simp only[decide_eq_true_eq] at h3 ⊢;omega) (by omega) (by rw[Int.toNat_natCast];exact D1 g1 g2)
   exact⟨j,Za.upTo (prog:=Yir) (c:=Al) (ex := .ret) (fun t=>Kj false ps n k rs (((Z1 (Zi rs) rs.length:Nat):Int)-1) (t:Nat)) j (by intro e;cases e) k1 0 (Nat.zero_le _) (fun t _ h6=>step t (by omega) (h4 t (by omega) h6))⟩
end
theorem Gr {α:Type} {l:List (List α)} {i:Nat} (h:i<l.length):l.getD i []∈l:=by
 rw[List.getD_eq_getElem?_getD,List.getElem?_eq_getElem h];exact List.getElem_mem h
theorem Zag {ps:List (List Rn)} (hg:∀ p∈ps,(∀ r∈p,Jw 1048576 r)∧p.length≤1048576) (hN:ps.length≤1048576):Ze Yir 32 [.sl ps.length (pp ps)] (.bool (ps.any fun p=>Jy (Zi p))):=by
 have hdeg:∀ t,t<ps.length→Ze Yir 44 [.sl (ps.getD t []).length (pc (ps.getD t []))] (.int .i64 (((Z1 (Zi (ps.getD t [])) (ps.getD t []).length:Nat):Int)-1)):=fun t ht=>Hh (hg _ (Gr ht)).1 (hg _ (Gr ht)).2
 have step:∀ t:Nat,t<ps.length→Jy (Zi (ps.getD t []))=false→Za Yir Zks (Ll false ps (ps.length:Nat) (t:Nat)) .norm (Ll false ps (ps.length:Nat) ((t+1:Nat):Int)):=by
  intro t ht hl
  have ei:i64.wrap ((t:Int)+1)=((t+1:Nat):Int):=by rw[w64 (by omega) (by omega)];omega
  obtain⟨g1,g2⟩:=hg _ (Gr ht)
  have hlen:(Zd (Zi (ps.getD t []))).length=Z1 (Zi (ps.getD t [])) (ps.getD t []).length:=by rw[X9,Zs]
  have h17:(Zd (Zi (ps.getD t []))).length≤17:=by
   unfold Jy at hl
   rw[Bool.or_eq_false_iff,decide_eq_false_iff_not] at hl
   omega
  have k2:=Yk32_2 false ps (ps.length:Nat) (t:Nat) (((Z1 (Zi (ps.getD t [])) (ps.getD t []).length:Nat):Int)-1) _ (by simp;omega) (by rw[decide_eq_false_iff_not];omega) (by omega) (by rw[Int.toNat_natCast];exact hdeg t ht) (by rw[Int.toNat_natCast];exact (Tu g1 g2).1 hl h17)
  rwa [ei] at k2
 rcases Vo (fun j=>Jy (Zi (ps.getD j []))) ps.length _ 0 (by rw[Nat.zero_add]) with h | ⟨j,_,h2,h3,h4⟩
 ·have hany:(ps.any fun p=>Jy (Zi p))=false:=by
   rw[List.any_eq_false]
   intro p hp
   obtain⟨i,hi,rfl⟩:=List.mem_iff_getElem.1 hp
   have:=h i (by omega) hi
   rw[List.getD_eq_getElem?_getD,List.getElem?_eq_getElem hi] at this
   simpa using this
  rw[hany]
  exact Zi5 ps _ _ (Za.upTo (prog:=Yir) (c:=Zks) (ex := .exit 0) (fun t=>Ll false ps (ps.length:Nat) (t:Nat)) ps.length (by intro e;cases e) (Yk32_3 false ps _ _ (by simp)) 0 (Nat.zero_le _) (fun t _ h6=>step t h6 (h t (by omega) h6)))
 ·have hany:(ps.any fun p=>Jy (Zi p))=true:=by
   rw[List.any_eq_true]
   exact⟨_,Gr h2,h3⟩
  rw[hany]
  obtain⟨g1,g2⟩:=hg _ (Gr h2)
  have hlen:(Zd (Zi (ps.getD j []))).length=Z1 (Zi (ps.getD j [])) (ps.getD j []).length:=by rw[X9,Zs]
  have out:Za Yir Zks (Ll false ps (ps.length:Nat) (j:Nat)) .ret (Ll true ps (ps.length:Nat) (j:Nat)):=by
   by_cases h17:(Zd (Zi (ps.getD j []))).length≤17
   ·obtain⟨i,hi⟩:=(Tu (ps:=ps) (n:=(ps.length:Nat)) (k:=(j:Nat)) g1 g2).2 h3 h17
    exact Zpp false ps (ps.length:Nat) (j:Nat) (((Z1 (Zi (ps.getD j [])) (ps.getD j []).length:Nat):Int)-1) _ (by simp;omega) (by rw[decide_eq_false_iff_not];omega) (by omega) (by rw[Int.toNat_natCast];exact hdeg j h2) (by rw[Int.toNat_natCast];exact hi)
   ·exact Yk32_1 false ps (ps.length:Nat) (j:Nat) (((Z1 (Zi (ps.getD j [])) (ps.getD j []).length:Nat):Int)-1) (by simp;omega) (by rw[decide_eq_true_eq];omega) (by omega) (by rw[Int.toNat_natCast];exact hdeg j h2)
  exact Zi4 ps _ _ (Za.upTo (prog:=Yir) (c:=Zks) (ex := .ret) (fun t=>Ll false ps (ps.length:Nat) (t:Nat)) j (by intro e;cases e) out 0 (Nat.zero_le _) (fun t _ h6=>step t (by omega) (h4 t (by omega) h6)))
theorem Hy {rs:List Rn} (hg:∀ r∈rs,Jw 1048576 r) (hN:rs.length≤1048576):Ze Yir 32 [.sl 1 [.sl rs.length (pc rs)]] (.bool (Jy (Zi rs))):=by
 have h:=Zag (ps:=[rs]) (fun p hp=>by rw[List.mem_singleton.1 hp];exact⟨hg,hN⟩) (by simp)
 simpa [pp] using h
end Go.Proofs.YthnnfemologhfaaGreat
