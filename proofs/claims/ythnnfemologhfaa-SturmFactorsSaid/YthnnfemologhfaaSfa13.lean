/- Texts of the proof of SturmFactors, packed by pack.py: part 13 of 17. -/
import Derived.KernelRfl
import Derived.Test.YthnnfemologhfaaSfa12
namespace Go.Proofs.Ythnnfemologhfaa
open Go.IntKind (i64 u64 u32)
open Go.Ai
set_option maxRecDepth 100000
def Fx (E rs:List Rn) (i:Nat):List Rn:=E.take i++rs.drop i
theorem Br (E rs:List Rn):Fx E rs 0=rs:=by simp [Fx]
theorem Bs {E rs:List Rn} (h:E.length=rs.length):Fx E rs rs.length=E:=by
 unfold Fx;rw[List.drop_length,List.append_nil,List.take_of_length_le (by omega)]
theorem Vi {E rs:List Rn} (h:E.length=rs.length) (i:Nat):(Fx E rs i).length=rs.length:=by
 unfold Fx;rw[List.length_append,List.length_take,List.length_drop];omega
theorem Dt {E rs:List Rn} (h:E.length=rs.length) {i:Nat} (hi:i<rs.length):(Fx E rs i).getD i z0=rs.getD i z0:=by
 unfold Fx
 rw[List.getD_eq_getElem?_getD,List.getD_eq_getElem?_getD,List.getElem?_append_right (by rw[List.length_take];omega),List.length_take,List.getElem?_drop]
 congr 2;omega
theorem Ds {E rs:List Rn} (h:E.length=rs.length) {i:Nat} (hi:i<rs.length):(Fx E rs i).set i (E.getD i z0)=Fx E rs (i+1):=by
 have hpi:E[i]?=some (E.getD i z0):=by rw[List.getD_eq_getElem?_getD,List.getElem?_eq_getElem (by omega)];rfl
 apply List.ext_getElem?
 intro t
 have hl:=Vi h i
 unfold Fx at *
 rcases Nat.lt_trichotomy t i with g | g | g
 ·rw[List.getElem?_set_ne (by omega),List.getElem?_append_left (by rw[List.length_take];omega),List.getElem?_append_left (by rw[List.length_take];omega),List.getElem?_take_of_lt g,List.getElem?_take_of_lt (by omega)]
 ·subst g
  rw[List.getElem?_set_self (by omega),List.getElem?_append_left (by rw[List.length_take];omega),List.getElem?_take_of_lt (by omega),hpi]
 ·rw[List.getElem?_set_ne (by omega),List.getElem?_append_right (by rw[List.length_take];omega),List.getElem?_append_right (by rw[List.length_take];omega),List.length_take,List.length_take,List.getElem?_drop,List.getElem?_drop]
  congr 1;omega
theorem H6 (p:List Int) (i:Nat):Zt ((p.map cn).getD i z0)=p.getD i 0:=by rw [← Q8,Qn]
theorem Vr {p:List Int} {i:Nat} (h:i<p.length):(p.map cn).getD i z0=cn (p.getD i 0):=by
 rw[List.getD_eq_getElem?_getD,List.getElem?_map,List.getD_eq_getElem?_getD,List.getElem?_eq_getElem h];rfl
theorem Qj {K:Nat} {p:List Int} (h:Kb K p):∀ r∈p.map cn,J4 K r:=Td h.mem
theorem Si {rs:List Rn} {i:Nat} {r:Rn} (h:i<rs.length):(rs.set i r).getD i z0=r:=by
 simp[List.getD_eq_getElem?_getD,h]
theorem G5 {x y:Rn} {J K:Nat} (hx:J4 J x) (hy:J4 K y) (h:J+K≤1048576):Zd Yir 113 [Z5 x,Z5 y] (Zp (Zt x*Zt y)):=E0 hx.1 hy.1 (by have:=hx.2;have:=hy.2;omega)
theorem Zby {x y:Rn} {J K:Nat} (hx:J4 J x) (hy:J4 K y) (h:J<1048576) (h2:K<1048576):Zd Yir 114 [Z5 x,Z5 y] (Zp (Zt x-Zt y)):=Zhi hx.1 hy.1 (by have:=hx.2;omega) (by have:=hy.2;omega)
section
variable {p d:List Int} {J Kd:Nat}
theorem Md {a b:Int} {t:Rn} (hp:Kb J p) (hd:Kb Kd d) (ha:Jh Kd a) (hb:Jh J b) (hS:J+Kd+1<1048576) (hl:d.length≤p.length) (hN:p.length≤1048576) :
  Za Yir (.loop Lx) (G2 (d.map cn) p.length (p.map cn) t (cn a) (cn b) ((p.length-d.length:Nat):Int) (p.length:Nat) 0) (.exit 2)
   (G2 (d.map cn) p.length ((K3 p d a b p.length).map cn) t (cn a) (cn b) ((p.length-d.length:Nat):Int) (p.length:Nat) (p.length:Nat)):=by
 have hE:((K3 p d a b p.length).map cn).length=(p.map cn).length:=by rw[List.length_map,List.length_map,X5]
 have hpl:(p.map cn).length=p.length:=List.length_map ..
 have h:=Za.up (prog:=Yir) (c:=Lx) (ex := .exit 2) (fin:=G2 (d.map cn) p.length ((K3 p d a b p.length).map cn) t (cn a) (cn b) ((p.length-d.length:Nat):Int) (p.length:Nat) (p.length:Nat))
  (fun i=>G2 (d.map cn) p.length (Fx ((K3 p d a b p.length).map cn) (p.map cn) i) t (cn a) (cn b) ((p.length-d.length:Nat):Int) (p.length:Nat) (i:Nat)) p.length (by intro e;cases e) ?_ ?_ 0 (Nat.zero_le _)
 ·rw[Br] at h;exact h
 ·intro i hi
  have ei:i64.wrap ((i:Int)+1)=((i+1:Nat):Int):=by rw[w64 (by omega) (by omega)];omega
  have hml:=Vi hE i
  have hget:=Dt hE (i:=i) (by omega)
  have hEi:((K3 p d a b p.length).map cn).getD i z0=cn ((K3 p d a b p.length).getD i 0):=Vr (by rw[X5];exact hi)
  have hest:=Ug p d a b p.length i
  rw[if_pos hi] at hest
  have hset:=Ds hE (i:=i) (by omega)
  rw[hEi] at hset
  have gp:=Qb (Qj hp) i
  have ga:=Jq ha
  have gb:=Jq hb
  have vi:=H6 p i
  generalize Fx ((K3 p d a b p.length).map cn) (p.map cn) i=M at *
  by_cases hat:p.length-d.length≤i
  ·rw[if_pos hat] at hest
   have ea:i64.wrap ((i:Int)-((p.length-d.length:Nat):Int))=((i-(p.length-d.length):Nat):Int):=by rw[w64 (by omega) (by omega)];omega
   have gq:=Qb (Qj hd) (i-(p.length-d.length))
   have vq:=H6 d (i-(p.length-d.length))
   have m1:=G5 gp ga (by omega)
   have m2:=G5 gb gq (by omega)
   have f1:Jh (J+Kd) (Zt ((p.map cn).getD i z0)*Zt (cn a)):=gp.fits.mul (by rw[Qe];exact ha)
   have f2:Jh (J+Kd) (Zt (cn b)*Zt ((d.map cn).getD (i-(p.length-d.length)) z0)):=Jh.mul (by rw[Qe];exact hb) gq.fits
   have m3:=Zby (Jq f1) (Jq f2) (by omega) (by omega)
   rw[Qe (Zt (cn b)*Zt ((d.map cn).getD (i-(p.length-d.length)) z0))] at m3
   have k:=Zpy (d.map cn) p.length M t (cn a) (cn b) ((p.length-d.length:Nat):Int) (p.length:Nat) (i:Nat) (by simp;omega) (by rw[decide_eq_true_eq];omega) (by omega) (by omega) (by rw[List.length_set];omega) (by rw[ea,List.length_map];omega)
    (by rw[Int.toNat_natCast,hget];exact m1) (by rw[ea,Int.toNat_natCast];exact m2) (by
     simp only[ea,Int.toNat_natCast,hget]
     rw[Si (by omega)]
     exact m3)
   refine k.to rfl ?_
   simp only[ea,ei,Int.toNat_natCast,hget]
   rw[Si (by omega),List.set_set,Qe (Zt ((p.map cn).getD i z0)*Zt (cn a)),vi,vq,Qe,Qe,Int.mul_comm (p.getD i 0) a,← hest]
   rw[hset]
  ·rw[if_neg hat] at hest
   have m1:=G5 gp ga (by omega)
   have k:=Zpx (d.map cn) p.length M t (cn a) (cn b) ((p.length-d.length:Nat):Int) (p.length:Nat) (i:Nat) (by simp;omega) (by rw[decide_eq_false_iff_not];omega) (by omega) (by omega) (by rw[Int.toNat_natCast,hget];exact m1)
   refine k.to rfl ?_
   simp only[ei,Int.toNat_natCast,hget]
   rw[vi,Qe,Int.mul_comm (p.getD i 0) a,← hest,hset]
 ·rw[show Fx ((K3 p d a b p.length).map cn) (p.map cn) p.length=(K3 p d a b p.length).map cn by have h:=Bs hE;rw[hpl] at h;exact h]
  exact Zpw (d.map cn) p.length _ t _ _ _ _ _ (by simp)
theorem gcd_ne {a b:Int} (h:a ≠ 0):0<Int.gcd a b:=by
 rw[Int.gcd];exact Nat.gcd_pos_of_pos_left _ (by omega)
theorem Zh6 (hp:Kb J p) (hd:Kb Kd d) (hS:J+Kd+1<1048576) (hd0:d ≠ []) (ht:top d ≠ 0) (hl:d.length≤p.length) (hN:p.length≤1048576) :
  Za Yir Zt8 (Zbu (d.map cn) p.length (p.map cn) (cn (top d))) .norm (Zbu (d.map cn) (U0 p d).length ((U0 p d).map cn) (cn (top d))):=by
 have hdl:=List.length_pos_iff.2 hd0
 have e1:i64.wrap ((p.length:Int)-1)=((p.length-1:Nat):Int):=by rw[w64 (by omega) (by omega)];omega
 have e2:i64.wrap ((p.length:Int)-(((d.map cn).length:Nat):Int))=((p.length-d.length:Nat):Int):=by rw[List.length_map,w64 (by omega) (by omega)];omega
 have gt:=Jq (Bx hd)
 have gl:=Qb (Qj hp) (p.length-1)
 have vl:Zt ((p.map cn).getD (p.length-1) z0)=top p:=H6 p (p.length-1)
 have hgp:=gcd_ne (a:=top d) (b:=top p) ht
 have hgcd:=R5 (na:=(cn (top d)).1) (nb:=((p.map cn).getD (p.length-1) z0).1) gt.1 gl.1 (by have:=gt.2;omega) (by have:=gl.2;omega)
 rw[show rv (cn (top d)).1 (cn (top d)).2=top d from Qe _,show rv ((p.map cn).getD (p.length-1) z0).1 ((p.map cn).getD (p.length-1) z0).2=top p from vl] at hgcd
 have hd1:((Int.gcd (top d) (top p):Nat):Int)∣top d:=Int.gcd_dvd_left ..
 have hd2:((Int.gcd (top d) (top p):Nat):Int)∣top p:=Int.gcd_dvd_right ..
 have hd3:((Int.gcd (top d) (top p):Nat):Int)∣(((top d).natAbs:Nat):Int):=Int.dvd_natAbs.2 hd1
 have hgle:Jh Kd ((Int.gcd (top d) (top p):Nat):Int):=by
  have:=Bx hd
  unfold Jh at *
  rw[Int.natAbs_natCast]
  have:=Nat.le_of_dvd (by omega) (Int.ofNat_dvd_left.1 hd1)
  omega
 have gg:=Jq hgle
 have habs:=E1 (neg:=(cn (top d)).1) gt.1 (by have:=gt.2;omega)
 rw[show rv (cn (top d)).1 (cn (top d)).2=top d from Qe _] at habs
 have gab:=Jq (Nn (Bx hd))
 have q1:=Dl (na:=(cn (((top d).natAbs:Nat):Int)).1) (nb:=(cn ((Int.gcd (top d) (top p):Nat):Int)).1) gab.1 gg.1 (by rw[show rv (cn ((Int.gcd (top d) (top p):Nat):Int)).1 (cn ((Int.gcd (top d) (top p):Nat):Int)).2=(Int.gcd (top d) (top p):Nat) from Qe _];omega) (by have:=gab.2;omega) (by have:=gg.2;omega)
 rw[show rv (cn ((Int.gcd (top d) (top p):Nat):Int)).1 (cn ((Int.gcd (top d) (top p):Nat):Int)).2=(Int.gcd (top d) (top p):Nat) from Qe _,show rv (cn (((top d).natAbs:Nat):Int)).1 (cn (((top d).natAbs:Nat):Int)).2=((top d).natAbs:Nat) from Qe _] at q1
 have q2:=Dl (na:=((p.map cn).getD (p.length-1) z0).1) (nb:=(cn ((Int.gcd (top d) (top p):Nat):Int)).1) gl.1 gg.1 (by rw[show rv (cn ((Int.gcd (top d) (top p):Nat):Int)).1 (cn ((Int.gcd (top d) (top p):Nat):Int)).2=(Int.gcd (top d) (top p):Nat) from Qe _];omega) (by have:=gl.2;omega) (by have:=gg.2;omega)
 rw[show rv (cn ((Int.gcd (top d) (top p):Nat):Int)).1 (cn ((Int.gcd (top d) (top p):Nat):Int)).2=(Int.gcd (top d) (top p):Nat) from Qe _,show rv ((p.map cn).getD (p.length-1) z0).1 ((p.map cn).getD (p.length-1) z0).2=top p from vl] at q2
 have hG:(0:Int)<((Int.gcd (top d) (top p):Nat):Int):=by omega
 have x1:=Int.mul_ediv_cancel' hd3
 have x2:=Int.mul_ediv_cancel' hd2
 rw[G6 hG hd3] at q1
 rw[G6 hG hd2] at q2
 have hsg:=Gc (neg:=(cn (top d)).1) gt.1 (by have:=gt.2;omega)
 rw[show rv (cn (top d)).1 (cn (top d)).2=top d from Qe _] at hsg
 -- sizes of the factors
 have fa:Jh Kd ((((top d).natAbs:Nat):Int) / ((Int.gcd (top d) (top p):Nat):Int)):=by
  rcases Nm (Nn (Bx hd)) (Int.gcd (top d) (top p)) with g | g
  ·exact g
  ·exact absurd hd3 g
 have fb:Jh J (top p / ((Int.gcd (top d) (top p):Nat):Int)):=by
  rcases Nm (Bx hp) (Int.gcd (top d) (top p)) with g | g
  ·exact g
  ·exact absurd hd2 g
 generalize hGd:((Int.gcd (top d) (top p):Nat):Int)=G at *
 generalize hx:(((top d).natAbs:Nat):Int) / G=x at *
 generalize hy:top p / G=y at *
 have pst:∀ b:Int,G*b=sg (top d)*top p→U0 p d=prim (K3 p d x b p.length):=by
  intro b hb
  have h:=T9 (r:=p) (d:=d) (c:=1) (g:=G) (a:=x) (b:=b) (by decide) hG x1 hb
  rwa [show Zu 1 d=d by unfold Zu;simp] at h
 have fin:∀ b:Int,G*b=sg (top d)*top p→Jh J b→Zd Yir 86 [.sl p.length (pc ((K3 p d x b p.length).map cn))] (.fresh 2 ((U0 p d).map cn).length (pc ((U0 p d).map cn))):=by
  intro b hb fb'
  have hK:=Zdq hp hd fa fb' p.length
  have h:=Jb (rs:=(K3 p d x b p.length).map cn) (Qj hK) (by omega) (by rw[List.length_map,X5];exact hN)
  rw[Qn,← pst b hb,List.length_map,X5] at h
  rw[List.length_map]
  exact h
 by_cases hneg:top d<0
 ·have hng:=R4 (neg:=(cn y).1) (xs:=(cn y).2) (Jr _) (by have:=fb.len;rw[M9];omega)
  rw[show rv (cn y).1 (cn y).2=y from Qe _] at hng
  have hb:G * -y=sg (top d)*top p:=by unfold sg;rw[if_pos hneg,Int.mul_neg,x2];omega
  have hin:=Md (t:=cn (top d)) hp hd fa fb.neg hS hl hN
  have k:=Yk64_1 (d.map cn) p.length (p.map cn) (cn (top d)) _ _ _ _ G _ x y (-y) _ _ (Vp (top d)) _ _ _ (by rw[decide_eq_true_eq,List.length_map];omega) (by unfold Vp;rw[if_pos hneg];rfl) (by rw[e1];omega) (by rw[List.length_map]) (by rw[e1,Int.toNat_natCast];exact hgcd) habs q1 (by rw[e1,Int.toNat_natCast];exact q2) hsg hng (by rw[e2];exact hin) (fin (-y) hb fb.neg)
  rw[List.length_map] at k
  exact k
 ·have hb:G*y=sg (top d)*top p:=by unfold sg;rw[if_neg hneg,x2];omega
  have hin:=Md (t:=cn (top d)) hp hd fa fb hS hl hN
  have k:=Yk64_2 (d.map cn) p.length (p.map cn) (cn (top d)) _ _ _ _ G _ x y _ _ (Vp (top d)) _ _ _ (by rw[decide_eq_true_eq,List.length_map];omega) (by unfold Vp;rw[if_neg hneg];split <;> rfl) (by rw[e1];omega) (by rw[List.length_map]) (by rw[e1,Int.toNat_natCast];exact hgcd) habs q1 (by rw[e1,Int.toNat_natCast];exact q2) hsg (by rw[e2];exact hin) (fin y hb fb)
  rw[List.length_map] at k
  exact k
end
theorem Zh7 {d:List Int} {Kd:Nat} (hd:Kb Kd d) (hd0:d ≠ []) (ht:top d ≠ 0):∀ (f:Nat) (p:List Int) (J:Nat),p.length≤f→Kb J p→J+(p.length+1-d.length)*(Kd+1)<1048576→p.length≤1048576 →
  Za Yir (.loop Zt8) (Zbu (d.map cn) p.length (p.map cn) (cn (top d))) (.exit 0) (Zbu (d.map cn) (U5 f p d).length ((U5 f p d).map cn) (cn (top d))):=by
 have hdl:=List.length_pos_iff.2 hd0
 intro f
 induction f with
 | zero =>
  intro p J hf _ _ _
  exact Za.loop_out (Znz (d.map cn) p.length (p.map cn) (cn (top d)) (by rw[decide_eq_false_iff_not,List.length_map];omega)) (by intro e;cases e)
 | succ f ih =>
  intro p J hf hJ hS hN
  simp only[U5]
  split
  ·rename_i hl
   have hplen:=W8 hd0 hl
   have e:((U0 p d).length+1-d.length)+1≤p.length+1-d.length:=by omega
   have:=Nat.mul_le_mul_right (Kd+1) e
   rw[Nat.add_mul,Nat.one_mul] at this
   have h1:=Zh6 hJ hd (by
    have h2:1*(Kd+1)≤(p.length+1-d.length)*(Kd+1):=Nat.mul_le_mul_right _ (by omega)
    omega) hd0 ht hl hN
   exact Za.loop h1 (ih (U0 p d) (J+Kd+1) (by omega) (S7 hJ hd) (by omega) (by omega))
  ·rename_i hl
   exact Za.loop_out (Znz (d.map cn) p.length (p.map cn) (cn (top d)) (by rw[decide_eq_false_iff_not,List.length_map];omega)) (by intro e;cases e)
theorem Vx {rs ss:List Rn} {J K:Nat} (hr:∀ r∈rs,J4 J r) (hs:∀ r∈ss,J4 K r) (hJ:J<1048576) (hK:K<1048576) (hn:rs.length≤1048576) (hm:ss.length≤1048576) (h0:prim (Zl ss) ≠ []) (hS:J+((prim (Zl rs)).length+1-(prim (Zl ss)).length)*(K+1)<1048576) :
  Zd Yir 64 [.sl rs.length (pc rs), .sl ss.length (pc ss)] (.fresh 2 (Q5 (prim (Zl rs)) (prim (Zl ss))).length (pk (Q5 (prim (Zl rs)) (prim (Zl ss))))):=by
 have p1:=Jb hr hJ hn
 have p2:=Jb hs hK hm
 have k1:Kb J (prim (Zl rs)):=(Mq (X2 hr)).prim
 have k2:Kb K (prim (Zl ss)):=(Mq (X2 hs)).prim
 have l1:(prim (Zl rs)).length≤rs.length:=by rw[Qx];have:=Qw (Zl rs);rwa [Z3] at this
 have l2:(prim (Zl ss)).length≤ss.length:=by rw[Qx];have:=Qw (Zl ss);rwa [Z3] at this
 have hl:=List.length_pos_iff.2 h0
 have ht:top (prim (Zl ss)) ≠ 0:=Ut (Jl _) h0
 have hlp:=Zh7 k2 h0 ht (prim (Zl rs)).length (prim (Zl rs)) J (Nat.le_refl _) k1 hS (by omega)
 have e1:i64.wrap (((((prim (Zl ss)).map cn).length:Nat):Int)-1)=(((prim (Zl ss)).length-1:Nat):Int):=by rw[List.length_map,w64 (by omega) (by omega)];omega
 have p1':Zd Yir 86 [.sl rs.length (pc rs)] (.fresh 2 ((prim (Zl rs)).map cn).length (pc ((prim (Zl rs)).map cn))):=by rw[List.length_map];exact p1
 have p2':Zd Yir 86 [.sl ss.length (pc ss)] (.fresh 2 ((prim (Zl ss)).map cn).length (pc ((prim (Zl ss)).map cn))):=by rw[List.length_map];exact p2
 have k:=Yrun64 rs ss _ _ ((Q5 (prim (Zl rs)) (prim (Zl ss))).map cn) (cn (top (prim (Zl ss)))) (Q5 (prim (Zl rs)) (prim (Zl ss))).length p1' p2' (by rw[e1,List.length_map];omega) (by
  rw[e1,Int.toNat_natCast,Vr (show (prim (Zl ss)).length-1<(prim (Zl ss)).length by omega),List.length_map]
  exact hlp)
 exact k
theorem Th:∀ (f:Nat) (x y:List Int) (M:Nat),0<M→y.length≤f→y.length≤x.length→x.length≤1048576→prim x=x→prim y=y→Kb (M-1) x→Kb (M-1) y→M*phi x.length y.length≤500000 →
  ∃ bs,Za Yir (.loop Zt7) (Zbt (x.map cn) (y.map cn)) (.exit 0) (Zbt ((Ff f x y).map cn) bs):=by
 intro f
 induction f with
 | zero =>
  intro x y M _ h1 _ _ _ _ _ _ _
  have:y=[]:=List.eq_nil_of_length_eq_zero (by omega)
  subst this
  exact⟨_,Za.loop_out (Znx _ _ (by simp)) (by intro e;cases e)⟩
 | succ f ih =>
  intro x y M hM h1 h2 h3 px py kx ky hphi
  simp only[Ff]
  split
  ·rename_i h
   subst h
   exact⟨_,Za.loop_out (Znx _ _ (by simp)) (by intro e;cases e)⟩
  ·rename_i h
   have hyl:=List.length_pos_iff.2 h
   obtain⟨r1,r2,r3⟩:=Dp hM (Xa px) h kx ky h2
   have hM':0<M*(x.length-y.length+2):=Nat.mul_pos hM (by omega)
   have hMle:M≤M*(x.length-y.length+2):=Nat.le_mul_of_pos_right M (by omega)
   have hbig:M*(x.length-y.length+2)≤500000:=by
    refine Nat.le_trans (Nat.mul_le_mul_left _ ?_) hphi
    unfold phi
    exact Nat.le_mul_of_pos_right _ (Nat.pow_pos (by decide))
   have hrem:=Vx (rs:=x.map cn) (ss:=y.map cn) (Qj kx) (Qj ky) (by omega) (by omega) (by rw[List.length_map];exact h3) (by rw[List.length_map];omega) (by rw[Qn,py];exact h) (by
    rw[Qn,Qn,px,py,Nat.sub_add_cancel hM,show x.length+1-y.length=x.length-y.length+1 by omega,Nat.mul_comm _ M]
    have:M*(x.length-y.length+2)=M*(x.length-y.length+1)+M:=by rw[← Nat.mul_succ]
    omega)
   rw[Qn,Qn,px,py] at hrem
   have hrem':Zd Yir 64 [.sl (x.map cn).length (pc (x.map cn)), .sl (y.map cn).length (pc (y.map cn))] (.fresh 2 ((Q5 x y).map cn).length (pc ((Q5 x y).map cn))):=by
    have hlm:((Q5 x y).map cn).length=(Q5 x y).length:=List.length_map ..
    rw[hlm];exact hrem
   have k:=Zny (x.map cn) (y.map cn) _ (by simp;omega) hrem'
   obtain⟨bs,hb⟩:=ih y (Q5 x y) (M*(x.length-y.length+2)) hM' (by omega) (by omega) (by omega) py (Ky _ _ _ px) (ky.mono (by omega)) r3 (Dq r2 hphi)
   exact⟨bs,Za.loop k hb⟩
def Zm0 (f:Nat) (args:List AV) (p:List Int):Prop:=Zd Yir f args (.fresh 2 (p.map cn).length (pc (p.map cn)))∨Zd Yir f args (.sl (p.map cn).length (pc (p.map cn)))
theorem Aj {p:List Int} {K:Nat} (hk:Kb K p) (hK:K≤1048576) (hN:p.length≤1048576) :
  (top p<0→Zd Yir 115 [.sl (p.map cn).length (pc (p.map cn))] (.fresh 2 ((Jf p).map cn).length (pc ((Jf p).map cn))))∧(¬ top p<0→Zd Yir 115 [.sl (p.map cn).length (pc (p.map cn))] (.sl (p.map cn).length (pc (p.map cn)))):=by
 have h:=Nw (rs:=p.map cn) (fun r hr=>(Qj hk r hr).mono hK) (by rw[List.length_map];exact hN)
 rw[Qn] at h
 refine⟨fun hn => ?_,h.2⟩
 have h1:=h.1 hn
 have e:Jf p=X4 p:=by unfold Jf;rw[if_pos hn]
 have hl:((X4 p).map cn).length=(p.map cn).length:=by rw[List.length_map,List.length_map,Xc]
 rw[e,hl]
 exact h1
theorem Sq {p:List Int} (h:¬ top p<0):Jf p=p:=by unfold Jf;rw [if_neg h]
theorem Ea:∀ (f:Nat) (x y:List Int) (M:Nat),0<M→y.length≤f→y.length≤x.length→Ub x→Ub y→Kb (M-1) x→Kb (M-1) y→Kb (M*phi x.length y.length-1) (Ff f x y)∧(Ff f x y).length≤x.length:=by
 intro f
 induction f with
 | zero =>
  intro x y M hM _ h2 _ _ kx _
  refine⟨kx.mono ?_,Nat.le_refl _⟩
  have:M*1≤M*phi x.length y.length:=Nat.mul_le_mul_left _ (by unfold phi;exact Nat.mul_pos (by omega) (Nat.pow_pos (by decide)))
  omega
 | succ f ih =>
  intro x y M hM h1 h2 lx ly kx ky
  simp only[Ff]
  split
  ·refine⟨kx.mono ?_,Nat.le_refl _⟩
   have:M*1≤M*phi x.length y.length:=Nat.mul_le_mul_left _ (by unfold phi;exact Nat.mul_pos (by omega) (Nat.pow_pos (by decide)))
   omega
  ·rename_i h
   have hyl:=List.length_pos_iff.2 h
   obtain⟨r1,r2,r3⟩:=Dp hM lx h kx ky h2
   have hM':0<M*(x.length-y.length+2):=Nat.mul_pos hM (by omega)
   have hMle:M≤M*(x.length-y.length+2):=Nat.le_mul_of_pos_right M (by omega)
   obtain⟨a,b⟩:=ih y (Q5 x y) (M*(x.length-y.length+2)) hM' (by omega) (by omega) ly r1 (ky.mono (by omega)) r3
   exact⟨a.mono (Nat.sub_le_sub_right (Dq r2 (Nat.le_refl _)) 1),by omega⟩
theorem F8 {rs ss:List Rn} {g:List Int} {bs:List Rn} {K:Nat} (hr:∀ r∈rs,J4 K r) (hs:∀ r∈ss,J4 K r) (hK:K<1048576) (hn:rs.length≤1048576) (hm:ss.length≤1048576) {Kg:Nat} (hg:Kb Kg g) (hKg:Kg≤1048576) (hgl:g.length≤1048576)
  (hl:Za Yir (.loop Zt7) (Zbt ((prim (Zl rs)).map cn) ((prim (Zl ss)).map cn)) (.exit 0) (Zbt (g.map cn) bs)) :
  Zm0 65 [.sl rs.length (pc rs), .sl ss.length (pc ss)] (Jf g):=by
 have p1:=Jb hr hK hn
 have p2:=Jb hs hK hm
 have p1':Zd Yir 86 [.sl rs.length (pc rs)] (.fresh 2 ((prim (Zl rs)).map cn).length (pc ((prim (Zl rs)).map cn))):=by rw[List.length_map];exact p1
 have p2':Zd Yir 86 [.sl ss.length (pc ss)] (.fresh 2 ((prim (Zl ss)).map cn).length (pc ((prim (Zl ss)).map cn))):=by rw[List.length_map];exact p2
 obtain⟨q1,q2⟩:=Aj hg hKg hgl
 by_cases h:top g<0
 ·exact .inl (Zjx rs ss _ _ (g.map cn) bs _ p1' p2' hl (q1 h))
 ·rw[Sq h]
  exact .inr (Zjw rs ss _ _ (g.map cn) bs p1' p2' hl (q2 h))
theorem Rg {rs ss:List Rn} {K c:Nat} (hr:∀ r∈rs,J4 K r) (hs:∀ r∈ss,J4 K r) (hn:rs.length≤c) (hm:ss.length≤c) (hc:c≤1048576) (hS:(K+1)*(2*3^c)≤500000) :
  Zm0 65 [.sl rs.length (pc rs), .sl ss.length (pc ss)] (Jf (Zhb (prim (Zl rs)) (prim (Zl ss)))):=by
 have h3:0<3^c:=Nat.pow_pos (by decide)
 have hK:K+1≤500000:=by
  have:(K+1)*1≤(K+1)*(2*3^c):=Nat.mul_le_mul_left _ (by omega)
  omega
 have k1:Kb K (prim (Zl rs)):=(Mq (X2 hr)).prim
 have k2:Kb K (prim (Zl ss)):=(Mq (X2 hs)).prim
 have l1:(prim (Zl rs)).length≤rs.length:=by rw[Qx];have:=Qw (Zl rs);rwa [Z3] at this
 have l2:(prim (Zl ss)).length≤ss.length:=by rw[Qx];have:=Qw (Zl ss);rwa [Z3] at this
 unfold Zhb
 split
 ·rename_i hl
  have hphi:(K+1)*phi (prim (Zl rs)).length (prim (Zl ss)).length≤500000:=Nat.le_trans (Nat.mul_le_mul_left _ (Pi hl (by omega))) hS
  obtain⟨bs,hb⟩:=Th (prim (Zl ss)).length (prim (Zl rs)) (prim (Zl ss)) (K+1) (by omega) (Nat.le_refl _) hl (by omega) (Ja _) (Ja _) k1 k2 hphi
  obtain⟨s1,s2⟩:=Ea (prim (Zl ss)).length (prim (Zl rs)) (prim (Zl ss)) (K+1) (by omega) (Nat.le_refl _) hl (Jl _) (Jl _) k1 k2
  exact F8 hr hs (by omega) (by omega) (by omega) s1 (by omega) (by omega) hb
 ·rename_i hl
  have hphi:(K+1)*phi (prim (Zl ss)).length (prim (Zl rs)).length≤500000:=Nat.le_trans (Nat.mul_le_mul_left _ (Pi (by omega) (by omega))) hS
  obtain⟨bs,hb⟩:=Th (prim (Zl rs)).length (prim (Zl ss)) (prim (Zl rs)) (K+1) (by omega) (Nat.le_refl _) (by omega) (by omega) (Ja _) (Ja _) k2 k1 hphi
  obtain⟨s1,s2⟩:=Ea (prim (Zl rs)).length (prim (Zl ss)) (prim (Zl rs)) (K+1) (by omega) (Nat.le_refl _) (by omega) (Jl _) (Jl _) k2 k1
  -- one step that changes their places
  have hy0:prim (Zl ss) ≠ []:=by intro h;rw[h] at hl;simp at hl
  have hsw:Q5 (prim (Zl rs)) (prim (Zl ss))=prim (Zl rs):=by
   unfold Q5
   cases hx:(prim (Zl rs)).length with
   | zero=>rfl
   | succ n=>simp only[U5];rw[if_neg hl]
  have hrem:=Vx (rs:=(prim (Zl rs)).map cn) (ss:=(prim (Zl ss)).map cn) (Qj k1) (Qj k2) (by omega) (by omega) (by rw[List.length_map];omega) (by rw[List.length_map];omega) (by rw[Qn,Ja];exact hy0) (by
   rw[Qn,Qn,Ja,Ja,show (prim (Zl rs)).length+1-(prim (Zl ss)).length=0 by omega,Nat.zero_mul];omega)
  rw[Qn,Qn,Ja,Ja,hsw] at hrem
  have hrem':Zd Yir 64 [.sl ((prim (Zl rs)).map cn).length (pc ((prim (Zl rs)).map cn)), .sl ((prim (Zl ss)).map cn).length (pc ((prim (Zl ss)).map cn))] (.fresh 2 ((prim (Zl rs)).map cn).length (pc ((prim (Zl rs)).map cn))):=by
   have hlm:((prim (Zl rs)).map cn).length=(prim (Zl rs)).length:=List.length_map ..
   rw[hlm] at hrem ⊢;exact hrem
  have k:=Zny ((prim (Zl rs)).map cn) ((prim (Zl ss)).map cn) _ (by rw[decide_eq_true_eq,List.length_map];omega) hrem'
  exact F8 hr hs (by omega) (by omega) (by omega) s1 (by omega) (by omega) (Za.loop k hb)
def TMB:Js:=TMA
theorem Zg5:Qt Yir TMB:=Zg6
end Go.Proofs.Ythnnfemologhfaa

namespace Go.Ai
open Go.IntKind (i64 u64 u32)
theorem Sv {p q:List Int} (h:∀ x,Zc p x=Zc q x) (x:Int):Zc (Qa p) x=Zc (Qa q) x :=
 U1 (fun i=>by rw[Xh,Xh,Xu h]) x
theorem Gm (a:Int) (p:List Int) (x:Int):Zc (Qa (a::p)) x=Zc p x+x*Zc (Qa p) x:=by
 have h:∀ i,(Qa (a::p)).getD i 0=(Hr p (0::Qa p)).getD i 0:=by
  intro i
  rw[Xn,Xh,List.getD_cons_succ]
  cases i with
  | zero=>simp
  | succ i=>rw[List.getD_cons_succ,Xh];push_cast;grind
 rw[U1 h x,Z6]
 simp[Zc]
theorem Zii (p q:List Int) (x:Int):Zc (Qa (Hr p q)) x=Zc (Qa p) x+Zc (Qa q) x:=by
 rw[← Z6]
 exact U1 (fun i=>by rw[Xn,Xh,Xh,Xh,Xn,Int.add_mul]) x
theorem Vg (c:Int) (p:List Int) (x:Int):Zc (Qa (Zu c p)) x=c*Zc (Qa p) x:=by
 rw[← Zh]
 exact U1 (fun i=>by rw[Z2,Xh,Xh,Z2,Int.mul_assoc]) x
theorem St:Qa []=[]:=rfl
theorem Su (p q:List Int) (x:Int):Zc (Qa (Jk p q)) x=Zc (Qa p) x*Zc q x+Zc p x*Zc (Qa q) x:=by
 induction p with
 | nil=>simp[Jk,St,Zc]
 | cons a p ih =>
  simp only[Jk]
  rw[Zii,Vg,Gm,Gm,ih,Zq]
  simp only[Zc]
  generalize Zc (Qa p) x=A at *
  generalize Zc (Qa q) x=B at *
  grind
theorem Gl {r p q:List Int} (h:∀ x,Zc r x=Zc p x*Zc q x) (x:Int):Zc (Qa r) x=Zc (Qa p) x*Zc q x+Zc p x*Zc (Qa q) x:=by
 rw[← Su];exact Sv (fun x=>by rw[h x,Zq]) x
theorem Pj {p q:List Int} {c d:Int} (h:∀ x,c*Zc p x=d*Zc q x) (x:Int):c*Zc (Qa p) x=d*Zc (Qa q) x:=by
 rw[← Vg,← Vg];exact Sv (fun x=>by rw[Zh,Zh,h x]) x
theorem Zih (p:List Int):(Qa p).length≤p.length-1:=by
 unfold Qa
 have:=Qw ((List.range (p.length-1)).map fun j=>p.getD (j+1) 0*((j+1:Nat):Int))
 simpa using this
theorem Zdp {K:Nat} {p:List Int} (h:Kb K p) (hl:p.length≤1048576):Kb (K+2) (Qa p):=fun i=>by
 rw[Xh]
 by_cases hi:i<1048576
 ·refine ((h (i+1)).mul (k:=1) ?_).mono (by omega)
  unfold Jh;rw[Int.natAbs_natCast];omega
 ·rw[Qi (xs:=p) (by omega),Int.zero_mul];exact Wc _
def Bk (h:List Int):Nat→List Int
 | 0=>[1]
 | k+1=>Jk (Bk h k) h
theorem Sp (h:List Int):∀ (k:Nat) (x:Int),Zc (Qa (Bk h k)) x*Zc h x=(k:Int)*Zc (Bk h k) x*Zc (Qa h) x
 | 0,x=>by simp[Bk,Qa,Zc,Ze,Zv]
 | k+1,x=>by
  have ih:=Sp h k x
  simp only[Bk]
  rw[Su,Zq]
  push_cast
  generalize Zc (Qa (Bk h k)) x=A at *
  generalize Zc (Bk h k) x=B at *
  generalize Zc (Qa h) x=C at *
  generalize Zc h x=H at *
  have:(A*H+B*C)*H=(A*H)*H+B*C*H:=by grind
  rw[this,ih];grind
theorem H2 {h:List Int} (hh:Ze h ≠ []):∀ k,Ze (Bk h k) ≠ []∧(Ze (Bk h k)).length=k*((Ze h).length-1)+1
 | 0=>by
  have e:Ze (Bk h 0)=[1]:=rfl
  rw[e];simp
 | k+1=>by
  obtain⟨a,b⟩:=H2 hh k
  have h1:=List.length_pos_iff.2 hh
  have e:=Ka a hh
  have e2:(Ze (Bk h (k+1))).length=(k+1)*((Ze h).length-1)+1:=by
   simp only[Bk]
   rw[e,b,Nat.add_mul,Nat.one_mul];omega
  refine⟨?_,e2⟩
  intro h0
  rw[h0] at e2
  simp at e2
theorem L9 {a G f h:List Int} {c:Int} (ha:Ze a ≠ []) (hG:IsG G a (Qa a)) (hc:c ≠ 0) (hf:∀ x,c*Zc a x=Zc G x*Zc f x) (h1:Dv h f) (h2:Dv h (Qa f)):(Ze h).length=1:=by
 obtain⟨g1,⟨c2,e,hc2,he⟩,c3,u,v,hc3,hb⟩:=hG
 have hG0:Ze G ≠ []:=(g1.length ha).2
 have hf0:Ze f ≠ []:=by
  intro h0
  have:Ze a=Ze []:=by
   apply J5
   intro x
   have h3:=hf x
   rw[Qy h0,Int.mul_zero] at h3
   rcases Int.mul_eq_zero.1 h3 with g | g
   ·exact absurd g hc
   ·exact g
  exact ha this
 have hh0:Ze h ≠ []:=(h1.length hf0).2
 -- f and e have no common divisor
 have hC:∀ x,c*c2*c3=c2*Zc u x*Zc f x+c*Zc v x*Zc e x:=by
  have h3:=Ac hG0 [c*c2*c3] (Hr (Zu c2 (Jk u f)) (Zu c (Jk v e))) (fun x=>by
   have a1:=hf x;have a2:=he x;have a3:=hb x
   rw[Z6,Zh,Zh,Zq,Zq]
   simp only[Zc]
   generalize Zc G x=G at *
   generalize Zc f x=f at *
   generalize Zc e x=e at *
   generalize Zc u x=u at *
   generalize Zc v x=v at *
   generalize Zc (Qa a) x=a' at *
   generalize Zc a x=a at *
   have e1:G*(c*c2*c3+x*0)=c*c2*(c3*G):=by grind
   rw[e1,a3]
   have e2:c*c2*(u*a+v*a')=c2*u*(c*a)+c*v*(c2*a'):=by grind
   rw[e2,a1,a2];grind)
  intro x
  have h4:=h3 x
  rw[Z6,Zh,Zh,Zq,Zq] at h4
  simp only[Zc,Int.mul_zero,Int.add_zero] at h4
  grind
 -- the derivative of a
 have hd:∀ x,c*(Zc G x*Zc e x)=c2*(Zc (Qa G) x*Zc f x+Zc G x*Zc (Qa f) x):=by
  intro x
  have a1:=Gl (r:=Zu c a) (p:=G) (q:=f) (fun x=>by rw[Zh];exact hf x) x
  rw[Vg] at a1
  have a2:=he x
  rw[← a1,← a2];grind
 obtain⟨c4,t,hc4,ht⟩:=h1
 obtain⟨c5,w,hc5,hw⟩:=h2
 have hft:∀ x,c4*Zc (Qa f) x=Zc (Qa h) x*Zc t x+Zc h x*Zc (Qa t) x:=by
  intro x
  have a1:=Gl (r:=Zu c4 f) (p:=h) (q:=t) (fun x=>by rw[Zh];exact ht x) x
  rw[Vg] at a1
  exact a1
 -- all powers of h divide G
 have hk:∀ k,Dv (Bk h k) G:=by
  intro k
  induction k with
  | zero=>exact⟨1,G,by decide,fun x=>by simp[Bk,Zc]⟩
  | succ k ih =>
   obtain⟨ck,s,hck,hs⟩:=ih
   obtain⟨p1,_⟩:=H2 hh0 k
   -- the derivative of G
   have hGs:∀ x,ck*Zc (Qa G) x=Zc (Qa (Bk h k)) x*Zc s x+Zc (Bk h k) x*Zc (Qa s) x:=by
    intro x
    have a1:=Gl (r:=Zu ck G) (p:=Bk h k) (q:=s) (fun x=>by rw[Zh];exact hs x) x
    rw[Vg] at a1
    exact a1
   have hes:∀ x,c4*c5*c*(Zc e x*Zc s x)=Zc h x*(c2*((k:Int)*Zc s x*(c4*Zc w x-c5*Zc (Qa t) x)+c5*(Zc (Qa s) x*Zc t x)+c4*(Zc s x*Zc w x))):=by
    have h3:=Ac (p:=Jk (Bk h k) h) (by
      intro h0
      have:=Ka p1 hh0
      rw[h0] at this
      have:=List.length_pos_iff.2 p1
      have:=List.length_pos_iff.2 hh0
      simp at *
      omega) (Zu (c4*c5*c) (Jk e s)) (Jk h (Zu c2 (Hr (Hr (Jk (Zu (k:Int) s) (Zha (Zu c4 w) (Zu c5 (Qa t)))) (Zu c5 (Jk (Qa s) t))) (Zu c4 (Jk s w))))) (fun x=>by
     have a1:=hd x;have a2:=ht x;have a3:=hw x;have a4:=hft x;have a5:=hs x;have a6:=hGs x;have a7:=Sp h k x
     simp only[Zq,Zh,Z6,X8]
     generalize Zc (Qa (Bk h k)) x=P' at *
     generalize Zc (Qa G) x=G' at *
     generalize Zc (Qa f) x=f' at *
     generalize Zc (Qa h) x=h' at *
     generalize Zc (Qa t) x=t' at *
     generalize Zc (Qa s) x=s' at *
     generalize Zc (Bk h k) x=P at *
     generalize Zc G x=G at *
     generalize Zc f x=f at *
     generalize Zc e x=e at *
     generalize Zc h x=h at *
     generalize Zc t x=t at *
     generalize Zc w x=w at *
     generalize Zc s x=s at *
     have b1:P*h*(c4*c5*c*(e*s))=c4*c5*h*(c*((P*s)*e)):=by grind
     rw[b1,← a5]
     have b2:c4*c5*h*(c*(ck*G*e))=c4*c5*h*ck*(c*(G*e)):=by grind
     rw[b2,a1]
     have b3:c4*c5*h*ck*(c2*(G'*f+G*f'))=c5*c2*((ck*G')*h*(c4*f)+(ck*G)*h*(c4*f')):=by grind
     rw[b3,a6,a5,a2]
     have b4:(P'*s+P*s')*h*(h*t)=(P'*h)*s*h*t+P*s'*h*h*t:=by grind
     rw[b4,a7]
     have b5:(k:Int)*P*h'*s*h*t=(k:Int)*P*s*h*(h'*t):=by grind
     have b6:h'*t=c4*f'-h*t':=by omega
     rw[b5,b6]
     have b7:c5*c2*((k:Int)*P*s*h*(c4*f'-h*t')+P*s'*h*h*t+P*s*h*(c4*f'))=c2*((k:Int)*P*s*h*(c4*(c5*f')-c5*(h*t'))+c5*(P*s'*h*h*t)+P*s*h*(c4*(c5*f'))):=by grind
     rw[b7,a3];grind)
    intro x
    have h4:=h3 x
    simp only[Zq,Zh,Z6,X8] at h4
    exact h4
   have d1:Dv h (Jk e s):=⟨c4*c5*c,Zu c2 (Hr (Hr (Jk (Zu (k:Int) s) (Zha (Zu c4 w) (Zu c5 (Qa t)))) (Zu c5 (Jk (Qa s) t))) (Zu c4 (Jk s w))),Int.mul_ne_zero (Int.mul_ne_zero hc4 hc5) hc,fun x=>by
    simp only[Zq,Zh,Z6,X8]
    exact hes x⟩
   have d2:Dv h (Jk f s):=Dv.mul_right s ⟨c4,t,hc4,ht⟩ (fun x=>Zq _ _ x)
   have d3:Dv h s:=Dv.comb (m:=c*c2*c3) (Zu c2 u) (Zu c v) (Int.mul_ne_zero (Int.mul_ne_zero hc hc2) hc3) d2 d1 (fun x=>by
    rw[hC x]
    simp only[Zq,Zh]
    grind)
   obtain⟨c6,s2,hc6,hs2⟩:=d3
   refine⟨c6*ck,s2,Int.mul_ne_zero hc6 hck,fun x => ?_⟩
   have a1:=hs x;have a2:=hs2 x
   simp only[Bk]
   rw[Zq,Int.mul_assoc,a1]
   have b1:c6*(Zc (Bk h k) x*Zc s x)=Zc (Bk h k) x*(c6*Zc s x):=by grind
   rw[b1,a2];grind
 have hh1:=List.length_pos_iff.2 hh0
 apply Classical.byContradiction
 intro hn
 have h3:=((hk (Ze G).length).length hG0).1
 rw[(H2 hh0 _).2] at h3
 have:(Ze G).length*1≤(Ze G).length*((Ze h).length-1):=Nat.mul_le_mul_left _ (by omega)
 omega
def Z9 (p:List Int):List Int :=
 if (Jf (prim p)).length<2∨(Wj (Jf (prim p)) (Qa (Jf (prim p)))).length<2 then Jf (prim p)
 else prim (Ao (Wj (Jf (prim p)) (Qa (Jf (prim p)))) ((Jf (prim p)).length-(Wj (Jf (prim p)) (Qa (Jf (prim p)))).length+1) (Jf (prim p)) (List.replicate ((Jf (prim p)).length-(Wj (Jf (prim p)) (Qa (Jf (prim p)))).length+1) 0))
theorem Pq {g:List Int} (h:g.length=1):∃ c,g=[c]:=by
 match g,h with
 | [c],_=>exact⟨c,rfl⟩
theorem A7 {a:List Int} (la:Ub a) (h0:a ≠ []) (ca:Je a=1) (ta:0<top a) (f:List Int)
  (hf:f=if a.length<2∨(Wj a (Qa a)).length<2 then a else prim (Ao (Wj a (Qa a)) (a.length-(Wj a (Qa a)).length+1) a (List.replicate (a.length-(Wj a (Qa a)).length+1) 0))) :
  Ub f∧Je f=1∧0<top f∧f ≠ []∧f.length=a.length-(Wj a (Qa a)).length+1∧∃ c d:Int,c ≠ 0∧d ≠ 0∧∀ x,c*Zc a x=d*(Zc (Wj a (Qa a)) x*Zc f x):=by
 have hta:Ze a ≠ []:=X9 la h0
 have hG:=K0 a (Qa a)
 have lG:=Kj a (Qa a)
 have nG:=Bm (t:=Qa a) hta
 have tG:=Sa (t:=Qa a) hta
 have hGl:=(hG.1.length hta).1
 rw[lG,la] at hGl
 have hal:=List.length_pos_iff.2 h0
 have hgl:=List.length_pos_iff.2 nG
 generalize Wj a (Qa a)=G at *
 by_cases hs:a.length<2∨G.length<2
 ·rw[if_pos hs] at hf
  subst hf
  have hG1:G.length=1:=by omega
  obtain⟨c,rfl⟩:=Pq hG1
  refine⟨la,ca,ta,h0,by omega,c,1,?_,by decide,fun x=>by simp[Zc]⟩
  have:top [c]=c:=rfl
  omega
 ·rw[if_neg hs] at hf
  obtain⟨c',r',c1,r1,r2,r3⟩:=Zas (p:=a) (q:=G) nG tG hGl
  generalize Ao G (a.length-G.length+1) a (List.replicate (a.length-G.length+1) 0)=o at *
  have to:=Zic c1 ta nG tG hGl r2 r3 r1
  have hr0:Ze r'=[]:=by
   apply Classical.byContradiction
   intro hn
   have hd:Dv G r':=Dv.comb (m:=1) [c'] (X4 o) (by decide) hG.1 (Dv.refl G) (fun x=>by
    have:=r3 x
    rw[V4];simp only[Zc];grind)
   have h1:=(hd.length hn).1
   rw[lG] at h1
   have hl1:=List.length_pos_iff.2 hn
   have h2:=Ut (Kh r') hn
   rw[Jg,r1 _ (by omega)] at h2
   exact h2 rfl
  have ho0:o ≠ []:=by intro h1;rw[h1] at r2;simp at r2
  have lo:Ub o:=Nj (Or.inr (by unfold top at to;omega))
  obtain⟨m,hm,hpe⟩:=V2 o
  subst hf
  refine⟨Jl o,Ko (X9 lo ho0),N6 to,?_,by rw[Qx,lo,r2],c',m,by omega,hm,fun x => ?_⟩
  ·intro h1;rw[Uf,← Xj,lo] at h1;exact ho0 h1
  ·rw[r3 x,Qy hr0,hpe x];grind
theorem Pg {p:List Int} (hp:Ze p ≠ []):Ub (Jf (prim p))∧Jf (prim p) ≠ []∧Je (Jf (prim p))=1∧0<top (Jf (prim p))∧(Jf (prim p)).length=(Ze p).length∧∃ m:Int,m ≠ 0∧∃ n:Int,n ≠ 0∧∀ x,n*Zc p x=m*Zc (Jf (prim p)) x:=by
 have h1:prim p ≠ []:=by intro h;rw[Uf,← Xj] at h;exact hp h
 obtain⟨m,hm,h2⟩:=V2 p
 obtain⟨n,hn,h3⟩:=Mj (prim p)
 refine⟨Bw (Jl p),?_,by rw[M6];exact Ko hp,R9 (Jl p) h1,by rw[H3,Qx],m,hm,n,hn,fun x=>by rw[h2 x,h3 x];grind⟩
 intro h
 have:=congrArg List.length h
 rw[H3] at this
 exact h1 (List.eq_nil_of_length_eq_zero this)
theorem Wi {p:List Int} (hp:Ze p ≠ []):Ub (Z9 p)∧Je (Z9 p)=1∧0<top (Z9 p)∧Z9 p ≠ []∧Dv (Z9 p) p ∧
  (Z9 p).length+(Wj (Jf (prim p)) (Qa (Jf (prim p)))).length=(Ze p).length+1∧IsG (Wj (Jf (prim p)) (Qa (Jf (prim p)))) p (Qa p)∧(Wj (Z9 p) (Qa (Z9 p))).length=1:=by
 obtain⟨la,h0,ca,ta,hl,m,hm,n,hn,hpe⟩:=Pg hp
 obtain⟨lf,cf,tf,f0,fl,c,d,hc,hd,hcd⟩:=A7 la h0 ca ta (Z9 p) rfl
 have hta:Ze (Jf (prim p)) ≠ []:=X9 la h0
 have hG:=K0 (Jf (prim p)) (Qa (Jf (prim p)))
 have lG:=Kj (Jf (prim p)) (Qa (Jf (prim p)))
 have nG:=Bm (t:=Qa (Jf (prim p))) hta
 have hGl:=(hG.1.length hta).1
 rw[lG,la] at hGl
 have hder:∀ x,n*Zc (Qa p) x=m*Zc (Qa (Jf (prim p))) x:=Pj hpe
 generalize Jf (prim p)=a at *
 generalize Wj a (Qa a)=G at *
 generalize Z9 p=f at *
 have hal:=List.length_pos_iff.2 h0
 have hgl:=List.length_pos_iff.2 nG
 refine⟨lf,cf,tf,f0,?_,by omega,?_,?_⟩
 ·have h1:Dv f a:=⟨c,Zu d G,hc,fun x=>by rw[hcd x,Zh];grind⟩
  exact h1.scaled hn hpe
 ·exact hG.scaled hn hm hn hm hpe hder
 ·have hK:=K0 f (Qa f)
  have nK:=Bm (t:=Qa f) (X9 lf f0)
  have lK:=Kj f (Qa f)
  have h1:=L9 (h:=Wj f (Qa f)) (f:=Zu d f) (c:=c) hta hG hc (fun x=>by rw[hcd x,Zh];grind)
   (hK.1.scaled (m:=1) (n:=d) (by decide) (fun x=>by rw[Zh];omega)) (hK.2.1.scaled (m:=1) (n:=d) (by decide) (fun x=>by rw[Vg];omega))
  rwa [lK] at h1
theorem Ziw {p:List Int} {K:Nat} (hp:Ze p ≠ []) (hl:p.length≤9) (hK:Kb K p):Kb (K+3) (Z9 p)∧(Z9 p).length≤(Ze p).length:=by
 obtain⟨lf,cf,tf,f0,hd,_,_,_⟩:=Wi hp
 have h1:=(hd.length hp).1
 rw[lf] at h1
 obtain⟨c,k,hc,hk⟩:=hd
 have:=Qw p
 exact⟨B1 hc cf hp hl (by omega) hK hk,h1⟩
theorem F1 (t:List Int):Dv [1] t:=⟨1,t,by decide,fun x=>by simp [Zc]⟩
end Go.Ai

namespace Go.Proofs.Ythnnfemologhfaa
open Go.IntKind (i64 u64 u32)
open Go.Ai
set_option maxRecDepth 100000
theorem Zda {E rs:List Rn} {m:Nat} (hl:E.length=rs.length) (h:∀ x,x<m→E.getD x z0=rs.getD x z0):Fx E rs m=rs:=by
 apply List.ext_getElem?
 intro t
 unfold Fx
 by_cases ht:t<m
 ·by_cases hm:t<E.length
  ·have:=h t ht
   rw[List.getD_eq_getElem?_getD,List.getD_eq_getElem?_getD,List.getElem?_eq_getElem hm,List.getElem?_eq_getElem (by omega)] at this
   rw[List.getElem?_append_left (by rw[List.length_take];omega),List.getElem?_take_of_lt ht,List.getElem?_eq_getElem hm,List.getElem?_eq_getElem (by omega)]
   simpa using this
  ·rw[List.getElem?_eq_none (by rw[List.length_append,List.length_take,List.length_drop];omega),List.getElem?_eq_none (by omega)]
 ·by_cases hm:m≤E.length
  ·rw[List.getElem?_append_right (by rw[List.length_take];omega),List.length_take,List.getElem?_drop]
   congr 1;omega
  ·rw[List.getElem?_eq_none (by rw[List.length_append,List.length_take,List.length_drop];omega),List.getElem?_eq_none (by omega)]
theorem Zdb {E rs:List Rn} {m:Nat} (hl:E.length=rs.length) (hm:m≤rs.length) (h:∀ x,m≤x→E.getD x z0=rs.getD x z0):Fx E rs m=E:=by
 apply List.ext_getElem?
 intro t
 unfold Fx
 by_cases ht:t<m
 ·rw[List.getElem?_append_left (by rw[List.length_take];omega),List.getElem?_take_of_lt ht]
 ·rw[List.getElem?_append_right (by rw[List.length_take];omega),List.length_take,List.getElem?_drop,show m+(t-min m E.length)=t by omega]
  by_cases hm:t<E.length
  ·have:=h t (by omega)
   rw[List.getD_eq_getElem?_getD,List.getD_eq_getElem?_getD,List.getElem?_eq_getElem hm,List.getElem?_eq_getElem (by omega)] at this
   rw[List.getElem?_eq_getElem hm,List.getElem?_eq_getElem (by omega)]
   simpa using this.symm
  ·rw[List.getElem?_eq_none (by omega),List.getElem?_eq_none (by omega)]
section
variable {p q:List Int} {J Kq:Nat}
theorem S8 {c:Int} (hp:Kb J p) (hc:Jh Kq c):Kb (J+Kq) (Zu c p):=fun i=>by
 rw[Z2,Nat.add_comm];exact hc.mul (hp i)
theorem div_a {t:Int} {l:Rn} {qs os:List Rn} {kq:Nat} {j:Int} (hp:Kb J p) (ht:Jh Kq t) (hS:J+Kq<1048576) (hN:p.length≤1048576) :
  Za Yir (.loop Ez) (Hx qs p.length (p.map cn) (cn t) kq os j l (p.length:Nat) 0) (.exit 2) (Hx qs p.length ((Zu t p).map cn) (cn t) kq os j l (p.length:Nat) (p.length:Nat)):=by
 have hE:((Zu t p).map cn).length=(p.map cn).length:=by rw[List.length_map,List.length_map,Z0]
 have hpl:(p.map cn).length=p.length:=List.length_map ..
 have h:=Za.up (prog:=Yir) (c:=Ez) (ex := .exit 2) (fin:=Hx qs p.length ((Zu t p).map cn) (cn t) kq os j l (p.length:Nat) (p.length:Nat))
  (fun i=>Hx qs p.length (Fx ((Zu t p).map cn) (p.map cn) i) (cn t) kq os j l (p.length:Nat) (i:Nat)) p.length (by intro e;cases e) ?_ ?_ 0 (Nat.zero_le _)
 ·rw[Br] at h;exact h
 ·intro i hi
  have ei:i64.wrap ((i:Int)+1)=((i+1:Nat):Int):=by rw[w64 (by omega) (by omega)];omega
  have hml:=Vi hE i
  have hget:=Dt hE (i:=i) (by omega)
  have hEi:((Zu t p).map cn).getD i z0=cn ((Zu t p).getD i 0):=Vr (by rw[Z0];exact hi)
  have hset:=Ds hE (i:=i) (by omega)
  rw[hEi,Z2] at hset
  have gp:=Qb (Qj hp) i
  have gt:=Jq ht
  have vi:=H6 p i
  have m1:=G5 gp gt (by omega)
  generalize Fx ((Zu t p).map cn) (p.map cn) i=M at *
  have k:=Zlb qs p.length M (cn t) kq os j l (p.length:Nat) (i:Nat) (by simp;omega) (by omega) (by omega) (by rw[Int.toNat_natCast,hget];exact m1)
  refine k.to rfl ?_
  simp only[ei,Int.toNat_natCast,hget]
  rw[vi,Qe,Int.mul_comm,hset]
 ·rw[show Fx ((Zu t p).map cn) (p.map cn) p.length=(Zu t p).map cn by have h:=Bs hE;rw[hpl] at h;exact h]
  exact Zla _ _ _ _ _ _ _ _ _ _ (by simp)
theorem div_b {t:Int} {l:Rn} {qs rs:List Rn} {k:Nat} {j:Int} (hp:Kb J p) (ht:Jh Kq t) (hS:J+Kq<1048576) (hN:p.length≤1048576) :
  Za Yir (.loop Ey) (Hw qs k rs (cn t) p.length (p.map cn) j l (p.length:Nat) 0) (.exit 4) (Hw qs k rs (cn t) p.length ((Zu t p).map cn) j l (p.length:Nat) (p.length:Nat)):=by
 have hE:((Zu t p).map cn).length=(p.map cn).length:=by rw[List.length_map,List.length_map,Z0]
 have hpl:(p.map cn).length=p.length:=List.length_map ..
 have h:=Za.up (prog:=Yir) (c:=Ey) (ex := .exit 4) (fin:=Hw qs k rs (cn t) p.length ((Zu t p).map cn) j l (p.length:Nat) (p.length:Nat))
  (fun i=>Hw qs k rs (cn t) p.length (Fx ((Zu t p).map cn) (p.map cn) i) j l (p.length:Nat) (i:Nat)) p.length (by intro e;cases e) ?_ ?_ 0 (Nat.zero_le _)
 ·rw[Br] at h;exact h
 ·intro i hi
  have ei:i64.wrap ((i:Int)+1)=((i+1:Nat):Int):=by rw[w64 (by omega) (by omega)];omega
  have hml:=Vi hE i
  have hget:=Dt hE (i:=i) (by omega)
  have hEi:((Zu t p).map cn).getD i z0=cn ((Zu t p).getD i 0):=Vr (by rw[Z0];exact hi)
  have hset:=Ds hE (i:=i) (by omega)
  rw[hEi,Z2] at hset
  have gp:=Qb (Qj hp) i
  have gt:=Jq ht
  have vi:=H6 p i
  have m1:=G5 gp gt (by omega)
  generalize Fx ((Zu t p).map cn) (p.map cn) i=M at *
  have k:=Zk9 qs k rs (cn t) p.length M j l (p.length:Nat) (i:Nat) (by simp;omega) (by omega) (by omega) (by rw[Int.toNat_natCast,hget];exact m1)
  refine k.to rfl ?_
  simp only[ei,Int.toNat_natCast,hget]
  rw[vi,Qe,Int.mul_comm,hset]
 ·rw[show Fx ((Zu t p).map cn) (p.map cn) p.length=(Zu t p).map cn by have h:=Bs hE;rw[hpl] at h;exact h]
  exact Zk8 _ _ _ _ _ _ _ _ _ _ (by simp)
theorem div_c {t:Rn} {l:Int} {os:List Rn} {kq j Jp:Nat} (hp:Kb Jp p) (hq:Kb Kq q) (hl:Jh J l) (hS:J+Kq<1048576) (hJp:Jp<1048576) (hN:p.length≤1048576) (hj:j+q.length≤p.length) :
  Za Yir (.loop Ew) (Hv (q.map cn) p.length (p.map cn) t kq os (j:Nat) (cn l) (q.length:Nat) 0) (.exit 6) (Hv (q.map cn) p.length ((W5 p q l j).map cn) t kq os (j:Nat) (cn l) (q.length:Nat) (q.length:Nat)):=by
 have hE:((W5 p q l j).map cn).length=(p.map cn).length:=by rw[List.length_map,List.length_map,X6]
 have hpl:(p.map cn).length=p.length:=List.length_map ..
 have gE:∀ x,x<p.length→((W5 p q l j).map cn).getD x z0=cn (p.getD x 0-l*(Uy j q).getD x 0):=fun x hx=>by
  rw[Vr (by rw[X6];exact hx),K2 _ _ _ _ _ hj]
 have eout:∀ x,(x<j∨j+q.length≤x)→((W5 p q l j).map cn).getD x z0=(p.map cn).getD x z0:=by
  intro x hx
  by_cases h:x<p.length
  ·rw[gE x h,Vr h,Qo]
   rcases hx with hx | hx
   ·rw[if_neg (by omega),Int.mul_zero,Int.sub_zero]
   ·rw[if_pos (by omega),Qi (xs:=q) (show q.length≤x-j by omega),Int.mul_zero,Int.sub_zero]
  ·rw[List.getD_eq_getElem?_getD,List.getD_eq_getElem?_getD,List.getElem?_eq_none (by omega),List.getElem?_eq_none (by omega)]
 have h:=Za.up (prog:=Yir) (c:=Ew) (ex := .exit 6) (fin:=Hv (q.map cn) p.length ((W5 p q l j).map cn) t kq os (j:Nat) (cn l) (q.length:Nat) (q.length:Nat))
  (fun i=>Hv (q.map cn) p.length (Fx ((W5 p q l j).map cn) (p.map cn) (j+i)) t kq os (j:Nat) (cn l) (q.length:Nat) (i:Nat)) q.length (by intro e;cases e) ?_ ?_ 0 (Nat.zero_le _)
 ·rw[Nat.add_zero,Zda hE (fun x hx=>eout x (.inl hx))] at h;exact h
 ·intro i hi
  have ei:i64.wrap ((i:Int)+1)=((i+1:Nat):Int):=by rw[w64 (by omega) (by omega)];omega
  have eji:i64.wrap ((j:Int)+(i:Int))=((j+i:Nat):Int):=by rw[w64 (by omega) (by omega)];omega
  have hml:=Vi hE (j+i)
  have hget:=Dt hE (i:=j+i) (by omega)
  have hEi:=gE (j+i) (by omega)
  rw[Qo,if_pos (by omega),show j+i-j=i by omega] at hEi
  have hset:=Ds hE (i:=j+i) (by omega)
  rw[hEi] at hset
  have gp:=Qb (Qj hp) (j+i)
  have gq:=Qb (Qj hq) i
  have gl:=Jq hl
  have vi:=H6 p (j+i)
  have vq:=H6 q i
  have m1:=G5 gl gq (by omega)
  have f1:Jh (J+Kq) (Zt (cn l)*Zt ((q.map cn).getD i z0)):=Jh.mul (by rw[Qe];exact hl) gq.fits
  have m2:=Zby gp (Jq f1) (by omega) (by omega)
  rw[Qe (Zt (cn l)*Zt ((q.map cn).getD i z0))] at m2
  generalize Fx ((W5 p q l j).map cn) (p.map cn) (j+i)=M at *
  have k:=Zk7 (q.map cn) p.length M t kq os (j:Nat) (cn l) (q.length:Nat) (i:Nat) (by simp;omega) (by rw[eji];omega) (by omega) (by rw[List.length_map];omega) (by rw[Int.toNat_natCast];exact m1) (by rw[eji,Int.toNat_natCast,Int.toNat_natCast,hget];exact m2)
  refine k.to rfl ?_
  simp only[ei,eji,Int.toNat_natCast,hget]
  rw[vi,vq,Qe,hset,Nat.add_assoc]
 ·rw[Zdb hE (by omega) (fun x hx=>eout x (.inr hx))]
  exact Zk6 _ _ _ _ _ _ _ _ _ _ (by simp)
theorem Ziv {l:Int} (hp:Kb (J+Kq) p) (hq:Kb Kq q) (hl:Jh J l) (k:Nat) (hk:k+q.length≤p.length):Kb (J+Kq+1) (W5 p q l k):=fun i=>by
 rw[K2 _ _ _ _ _ hk,Qo]
 split
 ·exact (hp i).add (hl.mul (hq _)).neg
 ·rw[Int.mul_zero,Int.sub_zero];exact (hp i).mono (by omega)
theorem kb_set {l:Int} (hp:Kb J p) (hl:Jh J l) (k:Nat):Kb J (p.set k l):=fun i=>by
 by_cases h:i=k
 ·subst h
  by_cases hi:i<p.length
  ·rw[List.getD_eq_getElem?_getD,List.getElem?_set_self hi];exact hl
  ·rw[Qi (by rw[List.length_set];omega)];exact Wc _
 ·rw[Qk (by omega)];exact hp i
end
theorem Zjc {q:List Int} {Kq:Nat} (hq:Kb Kq q) (hq0:q ≠ []):∀ (k:Nat) (r out:List Int) (J:Nat),Kb J r→Kb J out→J+k*(Kq+1)<1048576→k≤out.length→out.length+q.length=r.length+1→r.length≤1048576 →
  (∃ r',Za Yir (.loop Zgy) (Rk (q.map cn) r.length (r.map cn) (cn (top q)) out.length (out.map cn) ((k:Int)-1)) (.exit 0) (Rk (q.map cn) r.length r' (cn (top q)) out.length ((Ao q k r out).map cn) (-1)))∧Kb (J+k*(Kq+1)) (Ao q k r out)∧(Ao q k r out).length=out.length:=by
 have hql:=List.length_pos_iff.2 hq0
 intro k
 induction k with
 | zero =>
  intro r out J _ ho _ _ _ _
  exact⟨⟨_,Za.loop_out (Zrk _ _ _ _ _ _ _ (by simp)) (by intro e;cases e)⟩,ho.mono (by omega),rfl⟩
 | succ k ih =>
  intro r out J hr ho hS hk hl hN
  simp only[Ao]
  have hS':J+Kq+1+k*(Kq+1)<1048576:=by rw[Nat.add_mul,Nat.one_mul] at hS;omega
  have el:Jh J (r.getD (k+q.length-1) 0):=hr _
  have e1:((k+1:Nat):Int)-1=(k:Int):=by omega
  have e2:i64.wrap (i64.wrap ((k:Int)+(((q.map cn).length:Nat):Int))-1)=((k+q.length-1:Nat):Int):=by
   rw[List.length_map,w64 (n:=(k:Int)+(q.length:Nat)) (by omega) (by omega),w64 (by omega) (by omega)];omega
  have e3:(r.map cn).getD (k+q.length-1) z0=cn (r.getD (k+q.length-1) 0):=Vr (by omega)
  have e4:i64.wrap ((k:Int)-1)=(k:Int)-1:=w64 (by omega) (by omega)
  have ft:Jh Kq (top q):=hq _
  generalize hlead:r.getD (k+q.length-1) 0=l at *
  have hps:=S8 hr ft
  have hpo:=S8 ho ft
  have la:=div_a (l:=cn l) (qs:=q.map cn) (os:=out.map cn) (kq:=out.length) (j:=(k:Nat)) hr ft (by omega) hN
  have lb:=div_b (l:=cn l) (qs:=q.map cn) (rs:=(Zu (top q) r).map cn) (k:=r.length) (j:=(k:Nat)) ho ft (by omega) (by omega)
  have hlc:=div_c (t:=cn (top q)) (l:=l) (os:=((Zu (top q) out).set k l).map cn) (kq:=out.length) (j:=k) (p:=Zu (top q) r) (J:=J) hps hq el (by omega) (by omega) (by rw[Z0];exact hN) (by rw[Z0];omega)
  rw[Z0] at hlc
  obtain⟨⟨r',hr'⟩,kb,len⟩:=ih (W5 (Zu (top q) r) q l k) ((Zu (top q) out).set k l) (J+Kq+1) (Ziv hps hq el k (by rw[Z0];omega)) (kb_set (hpo.mono (by omega)) (el.mono (by omega)) k) hS' (by rw[List.length_set,Z0];omega) (by rw[List.length_set,Z0,X6,Z0];exact hl) (by rw[X6,Z0];exact hN)
  rw[List.length_set,Z0,X6,Z0] at hr'
  refine⟨⟨r',?_⟩,kb.mono (by rw[Nat.add_mul,Nat.one_mul];omega),by rw[len,List.length_set,Z0]⟩
  have hset:((Zu (top q) out).map cn).set k (cn l)=((Zu (top q) out).set k l).map cn:=by rw[List.map_set]
  have k1:=Zrl (q.map cn) r.length (r.map cn) (cn (top q)) out.length (out.map cn) (k:Nat) ((Zu (top q) r).map cn) ((W5 (Zu (top q) r) q l k).map cn) ((Zu (top q) out).map cn) _ _ _ _ _ _ (by simp) (by rw[e2];omega) (List.length_map ..)
   (by rw[e2,Int.toNat_natCast,e3];exact la) (by rw[e2,Int.toNat_natCast,e3];exact lb) (by omega) (by rw[List.length_map,Z0]) (by rw[e2,Int.toNat_natCast,Int.toNat_natCast,e3,hset,List.length_map];exact hlc)
  rw[e2,Int.toNat_natCast,Int.toNat_natCast,e3,hset,e4] at k1
  rw[e1]
  exact Za.loop k1 hr'
theorem z0_cn:cn 0=z0:=rfl
theorem Lf {p q:List Int} {J K:Nat} (hp:Kb J p) (hq:Kb K q) (lp:Ub p) (hq0:q ≠ []) (hl:q.length≤p.length) (hN:p.length≤1000000) (hS:J+(p.length-q.length+1)*(K+1)<1048576) :
  Zd Yir 116 [.sl (p.map cn).length (pc (p.map cn)), .sl (q.map cn).length (pc (q.map cn))] (.fresh 2 ((prim (Ao q (p.length-q.length+1) p (List.replicate (p.length-q.length+1) 0))).map cn).length (pc ((prim (Ao q (p.length-q.length+1) p (List.replicate (p.length-q.length+1) 0))).map cn))):=by
 have hql:=List.length_pos_iff.2 hq0
 have htr:=Ae (rs:=p.map cn) (fun r h=>(Qj hp r h).mono (show J≤1048576 by omega)) (by rw[List.length_map];omega)
 rw[Qn,lp] at htr
 have htr':Zd Yir 92 [.sl (p.map cn).length (pc (p.map cn))] (.fresh 2 (p.map cn).length (pc (p.map cn))):=by rw[List.length_map] at htr ⊢;exact htr
 obtain⟨⟨r',hlp⟩,kb,len⟩:=Zjc hq hq0 (p.length-q.length+1) p (List.replicate (p.length-q.length+1) 0) J hp (fun i=>by rw[J7];exact Wc _) hS (by simp) (by simp;omega) (by omega)
 rw[List.length_replicate] at hlp len
 have e1:i64.wrap ((((q.map cn).length:Nat):Int)-1)=((q.length-1:Nat):Int):=by rw[List.length_map,w64 (by omega) (by omega)];omega
 have e2:i64.wrap (i64.wrap ((((p.map cn).length:Nat):Int)-(((q.map cn).length:Nat):Int))+1)=((p.length-q.length+1:Nat):Int):=by
  rw[List.length_map,List.length_map,w64 (n:=(p.length:Int)-(q.length:Nat)) (by omega) (by omega),w64 (by omega) (by omega)];omega
 have e3:i64.wrap (((p.length-q.length+1:Nat):Int)-1)=((p.length-q.length+1:Nat):Int)-1:=w64 (by omega) (by omega)
 have hz:(List.replicate (p.length-q.length+1) (0:Int)).map cn=List.replicate (p.length-q.length+1) z0:=by rw[List.map_replicate,z0_cn]
 have hpr:=Jb (rs:=(Ao q (p.length-q.length+1) p (List.replicate (p.length-q.length+1) 0)).map cn) (Qj kb) (by omega) (by rw[List.length_map];omega)
 rw[Qn] at hpr
 have hpr':=hpr
 rw[show ∀ o:List Int,(o.map cn).length=o.length from fun o=>List.length_map ..,len] at hpr'
 have k:=Zpk (p.map cn) (q.map cn) (p.map cn) ((prim (Ao q (p.length-q.length+1) p (List.replicate (p.length-q.length+1) 0))).map cn) r' ((Ao q (p.length-q.length+1) p (List.replicate (p.length-q.length+1) 0)).map cn) (cn (top q)) p.length (p.length-q.length+1) (-1) htr' (by rw[e1,List.length_map];omega) (by rw[e2];omega) (by
   rw[e1,e2,Int.toNat_natCast,Int.toNat_natCast,e3,E8,← hz,Vr (show q.length-1<q.length by omega),show (p.map cn).length=p.length from List.length_map ..]
   exact hlp) (by
   have hlm:((prim (Ao q (p.length-q.length+1) p (List.replicate (p.length-q.length+1) 0))).map cn).length=(prim (Ao q (p.length-q.length+1) p (List.replicate (p.length-q.length+1) 0))).length:=List.length_map ..
   rw[hlm];exact hpr')
 exact k
theorem Zet {rs:List Rn} {K c:Nat} (hr:∀ r∈rs,J4 K r) (hn:rs.length≤c) (hc:c≤9) (hS:(K+3)*(2*3^c)≤500000):Zm0 66 [.sl rs.length (pc rs)] (Z9 (Zl rs)):=by
 have h3:0<3^c:=Nat.pow_pos (by decide)
 have hK:K+3≤250000:=by
  have:(K+3)*2≤(K+3)*(2*3^c):=Nat.mul_le_mul_left _ (by omega)
  omega
 have p1:=Jb hr (by omega) (by omega)
 have p1':Zd Yir 86 [.sl rs.length (pc rs)] (.fresh 2 ((prim (Zl rs)).map cn).length (pc ((prim (Zl rs)).map cn))):=by rw[List.length_map];exact p1
 have k1:Kb K (prim (Zl rs)):=(Mq (X2 hr)).prim
 have l1:(prim (Zl rs)).length≤rs.length:=by rw[Qx];have:=Qw (Zl rs);rwa [Z3] at this
 obtain⟨q1,q2⟩:=Aj k1 (by omega) (by omega)
 have ka:Kb K (Jf (prim (Zl rs))):=by
  unfold Jf;split
  ·intro i;rw[Wb];exact (k1 i).neg
  ·exact k1
 have la:=H3 (prim (Zl rs))
 have lda:Ub (Jf (prim (Zl rs))):=Bw (Jl _)
 have hpp:(¬ top (prim (Zl rs))<0)→Jf (prim (Zl rs))=prim (Zl rs):=Sq
 have hder:=F6 (rs:=(Jf (prim (Zl rs))).map cn) (Qj ka) (by omega) (by rw[List.length_map];omega)
 rw[Qn] at hder
 have hder':Zd Yir 75 [.sl ((Jf (prim (Zl rs))).map cn).length (pc ((Jf (prim (Zl rs))).map cn))] (.fresh 2 ((Qa (Jf (prim (Zl rs)))).map cn).length (pc ((Qa (Jf (prim (Zl rs)))).map cn))):=by
  have hlm:((Qa (Jf (prim (Zl rs)))).map cn).length=(Qa (Jf (prim (Zl rs)))).length:=List.length_map ..
  rw[hlm];exact hder
 have kd:Kb (K+2) (Qa (Jf (prim (Zl rs)))):=Zdp ka (by omega)
 have ld:(Qa (Jf (prim (Zl rs)))).length≤c:=by have:=Zih (Jf (prim (Zl rs)));omega
 have hcom:=Rg (rs:=(Jf (prim (Zl rs))).map cn) (ss:=(Qa (Jf (prim (Zl rs)))).map cn) (K:=K+2) (c:=c) (fun r h=>(Qj ka r h).mono (by omega)) (Qj kd) (by rw[List.length_map];omega) (by rw[List.length_map];exact ld) (by omega) hS
 rw[Qn,Qn] at hcom
 change Zm0 65 _ (Wj (Jf (prim (Zl rs))) (Qa (Jf (prim (Zl rs))))) at hcom
 have hdiv:2≤(Wj (Jf (prim (Zl rs))) (Qa (Jf (prim (Zl rs))))).length→Zd Yir 116 [.sl ((Jf (prim (Zl rs))).map cn).length (pc ((Jf (prim (Zl rs))).map cn)), .sl ((Wj (Jf (prim (Zl rs))) (Qa (Jf (prim (Zl rs))))).map cn).length (pc ((Wj (Jf (prim (Zl rs))) (Qa (Jf (prim (Zl rs))))).map cn))]
   (.fresh 2 ((prim (Ao (Wj (Jf (prim (Zl rs))) (Qa (Jf (prim (Zl rs))))) ((Jf (prim (Zl rs))).length-(Wj (Jf (prim (Zl rs))) (Qa (Jf (prim (Zl rs))))).length+1) (Jf (prim (Zl rs))) (List.replicate ((Jf (prim (Zl rs))).length-(Wj (Jf (prim (Zl rs))) (Qa (Jf (prim (Zl rs))))).length+1) 0))).map cn).length (pc ((prim (Ao (Wj (Jf (prim (Zl rs))) (Qa (Jf (prim (Zl rs))))) ((Jf (prim (Zl rs))).length-(Wj (Jf (prim (Zl rs))) (Qa (Jf (prim (Zl rs))))).length+1) (Jf (prim (Zl rs))) (List.replicate ((Jf (prim (Zl rs))).length-(Wj (Jf (prim (Zl rs))) (Qa (Jf (prim (Zl rs))))).length+1) 0))).map cn))):=by
  intro h2
  have hp0:Ze (Zl rs) ≠ []:=by
   intro h0
   have:prim (Zl rs)=[]:=Uf.2 (Xj.1 h0)
   rw[this] at h2
   exact absurd h2 (by decide)
  obtain⟨a1,a2,_,_,_,_⟩:=Pg hp0
  obtain⟨b1,b2⟩:=Zok (t:=Qa (Jf (prim (Zl rs)))) (X9 a1 a2) (by omega) ka
  rw[a1] at b2
  exact Lf ka b1 lda (by intro h0;rw[h0] at h2;exact absurd h2 (by decide)) b2 (by omega) (by
   have h4:(Jf (prim (Zl rs))).length-(Wj (Jf (prim (Zl rs))) (Qa (Jf (prim (Zl rs))))).length+1≤10:=by omega
   have h5:=Nat.mul_le_mul_right (K+3+1) h4
   have h6:3^2≤3^c:=Nat.pow_le_pow_right (by decide) (by omega)
   have h7:(K+3)*18≤(K+3)*(2*3^c):=Nat.mul_le_mul_left _ (by omega)
   omega)
 unfold Z9
 by_cases hs:(Jf (prim (Zl rs))).length<2
 ·rw[if_pos (.inl hs)]
  by_cases ht:top (prim (Zl rs))<0
  ·exact .inr (Rv rs _ _ (by rw[decide_eq_true_eq,List.length_map];omega) p1' (q1 ht))
  ·rw[hpp ht] at hs ⊢
   exact .inr (Ro rs _ (by rw[decide_eq_true_eq,List.length_map];omega) p1' (q2 ht))
 ·by_cases hg:(Wj (Jf (prim (Zl rs))) (Qa (Jf (prim (Zl rs))))).length<2
  ·rw[if_pos (.inr hg)]
   by_cases ht:top (prim (Zl rs))<0
   ·rcases hcom with h | h
    ·exact .inr (Ru rs _ _ _ _ (by rw[decide_eq_false_iff_not,List.length_map];omega) (by rw[decide_eq_true_eq,List.length_map];omega) p1' (q1 ht) hder' h)
    ·exact .inr (Rs rs _ _ _ _ (by rw[decide_eq_false_iff_not,List.length_map];omega) (by rw[decide_eq_true_eq,List.length_map];omega) p1' (q1 ht) hder' h)
   ·rw[hpp ht] at *
    rcases hcom with h | h
    ·exact .inr (Rq rs _ _ _ (by rw[decide_eq_false_iff_not,List.length_map];omega) (by rw[decide_eq_true_eq,List.length_map];omega) p1' (q2 ht) hder' h)
    ·exact .inr (Rm rs _ _ _ (by rw[decide_eq_false_iff_not,List.length_map];omega) (by rw[decide_eq_true_eq,List.length_map];omega) p1' (q2 ht) hder' h)
  ·rw[if_neg (by omega)]
   have hdiv:=hdiv (by omega)
   by_cases ht:top (prim (Zl rs))<0
   ·rcases hcom with h | h
    ·exact .inl (Rt rs _ _ _ _ _ (by rw[decide_eq_false_iff_not,List.length_map];omega) (by rw[decide_eq_false_iff_not,List.length_map];omega) p1' (q1 ht) hder' h hdiv)
    ·exact .inl (Rr rs _ _ _ _ _ (by rw[decide_eq_false_iff_not,List.length_map];omega) (by rw[decide_eq_false_iff_not,List.length_map];omega) p1' (q1 ht) hder' h hdiv)
   ·rw[hpp ht] at *
    rcases hcom with h | h
    ·exact .inl (Rp rs _ _ _ _ (by rw[decide_eq_false_iff_not,List.length_map];omega) (by rw[decide_eq_false_iff_not,List.length_map];omega) p1' (q2 ht) hder' h hdiv)
    ·exact .inl (Rl rs _ _ _ _ (by rw[decide_eq_false_iff_not,List.length_map];omega) (by rw[decide_eq_false_iff_not,List.length_map];omega) p1' (q2 ht) hder' h hdiv)
def TMC:Js:=TMB
theorem Zg4:Qt Yir TMC:=Zg5
end Go.Proofs.Ythnnfemologhfaa

namespace Go.Proofs.Ythnnfemologhfaa
open Go.IntKind (i64 u64 u32)
open Go.Ai
set_option maxRecDepth 100000
theorem P0 {f:Nat} {args:List AV} {X:List Int} (h:Zd Yir f args (.fresh 2 X.length (pk X))):Zd Yir f args (.fresh 2 (X.map cn).length (pc (X.map cn))):=by
 rw[List.length_map];exact h
section
variable {p d:List Int} {J Kd:Nat}
end
end Go.Proofs.Ythnnfemologhfaa

namespace Go.Proofs.Ythnnfemologhfaa
open Go.IntKind (i64 u64 u32)
open Go.Ai
set_option maxRecDepth 100000
def Wy (o:Bool) (ps:List (List Rn)) (n:Int) (k:Int) (rs:List Rn) (d:Int) (i:Int):Zk:=(dds 2 (.val (.bool o)::(dds 1 (.val (.sl rs.length (pc rs))::(.val (.int .i64 d)::(.val (.int .i64 i)::(.val (.sl ps.length (pp ps))::(.val (.int .i64 n)::(.val (.int .i64 k)::(dds 19 []))))))))))
theorem Zp2 (o:Bool) (ps:List (List Rn)) (n:Int) (k:Int) (rs:List Rn) (d:Int) (i:Int) (z:Int) (c1:(decide (i≤d))=true) (c2:(decide (z>256))=true) (n1:0≤i∧i<(rs.length:Int)) (n2:Zd Yir 76 [Z5 (rs.getD (Int.toNat i) z0)] (.int .i64 z)):Za Yir Al (Wy o ps n k rs d i) .ret (Wy true ps n k rs d i):=(Za.go Qd 400 [.b true, .v (Z5 (rs.getD (Int.toNat i) z0)), .r (.int .i64 z), .b true] [2,4,5,6,7,8,9] (ac c1 (ac n1 (ac (J1 n1) (ac n2 (ac c2 a0))))))
theorem Zp1 (o:Bool) (ps:List (List Rn)) (n:Int) (k:Int) (rs:List Rn) (d:Int) (i:Int) (z:Int) (c1:(decide (i≤d))=true) (c2:(decide (z>256))=false) (n1:0≤i∧i<(rs.length:Int)) (n2:Zd Yir 76 [Z5 (rs.getD (Int.toNat i) z0)] (.int .i64 z)):Za Yir Al (Wy o ps n k rs d i) .norm (Wy o ps n k rs d (i64.wrap (i+1))):=(Za.go Qd 400 [.b true, .v (Z5 (rs.getD (Int.toNat i) z0)), .r (.int .i64 z), .b false] [2,4,5,6,7,8,9] (ac c1 (ac n1 (ac (J1 n1) (ac n2 (ac c2 a0))))))
theorem Zp0 (o:Bool) (ps:List (List Rn)) (n:Int) (k:Int) (rs:List Rn) (d:Int) (i:Int)  (c1:(decide (i≤d))=false):Za Yir Al (Wy o ps n k rs d i) (.exit 2) (Wy o ps n k rs d i):=(Za.go Qd 400 [.b false] [2,4,5,6,7,8,9] (ac c1 a0))
def Zmz:ICode := .seq (rg [oB 10 .lss 9 8]) (.seq (.cond (.t 10) (.skip) (.exit 0)) (.seq (.block 1 (.seq (rg [o1 11 (.ixa 7 (.t 9) 1),o1 12 (.ld 11 11 1 true),oM 4 12]) (.seq (rg [oM 13 4,oC 14 62 [13],oM 5 14]) (.seq (.seq (rg [oM 15 5,o1 16 (.bin .gtr (.t 15) (ci 16))]) (.cond (.t 16) (.seq (rg [o1 2 (.mov (.c (.bool true)))]) (.ret)) (.skip))) (.seq (rg [o1 6 (.mov (ci 0))]) (.block 2 (.loop (.seq (.seq (rg [oM 17 6,oM 18 5,oB 19 .leq 17 18]) (.cond (.t 19) (.skip) (.exit 2))) (.seq (.block 3 (.seq (rg [oM 22 4,oM 23 6,o1 24 (.ixa 22 (.t 23) 2),o1 25 (.ld 24 24 2 false),oC 26 76 [25],o1 27 (.bin .gtr (.t 26) (ci 256))]) (.cond (.t 27) (.seq (rg [o1 2 (.mov (.c (.bool true)))]) (.ret)) (.skip)))) (rg [oM 20 6,o1 21 (.bin .add (.t 20) (ci 1)),oM 6 21])))))))))) (rg [o1 28 (.bin .add (.t 9) (ci 1)),oM 9 28])))
def L3 (o:Bool) (ps:List (List Rn)) (n:Int) (k:Int):Zk:=(dds 2 (.val (.bool o)::(dds 4 (.val (.sl ps.length (pp ps))::(.val (.int .i64 n)::(.val (.int .i64 k)::(dds 19 [])))))))
theorem Yk61_1 (o:Bool) (ps:List (List Rn)) (n:Int) (k:Int) (d:Int) (c1:(decide (k<n))=true) (c2:(decide (d>16))=true) (n1:0≤k∧k<(ps.length:Int)) (n2:Zd Yir 62 [.sl ((ps.getD (Int.toNat k) []).length) (pc (ps.getD (Int.toNat k) []))] (.int .i64 d)):Za Yir Zmz (L3 o ps n k) .ret (L3 true ps n k):=(Za.seq (Za.go (t:=(dds 2 (.val (.bool o)::(dds 4 (.val (.sl ps.length (pp ps))::(vi n::(vi k::(.val (.bool (decide (k<n)))::(dds 18 []))))))))) Qd 400 [] [2,7,8,9,10] a0) (Za.seq (Za.go (t:=(dds 2 (.val (.bool o)::(dds 4 (.val (.sl ps.length (pp ps))::(vi n::(vi k::(dds 19 [])))))))) Qd 400 [.b true] [2,7,8,9] (ac c1 a0)) (Za.seq_out (Za.block_ret (Za.seq (Za.go (t:=(dds 2 (.val (.bool o)::(dds 1 (.val (.sl ((ps.getD (Int.toNat k) []).length) (pc (ps.getD (Int.toNat k) [])))::(dds 2 (.val (.sl ps.length (pp ps))::(vi n::(vi k::(dds 19 [])))))))))) Qd 400 [.v (.sl ((ps.getD (Int.toNat k) []).length) (pc (ps.getD (Int.toNat k) [])))] [2,4,7,8,9] (ac n1 (ac (Wf n1) a0))) (Za.seq (Za.go (t:=(dds 2 (.val (.bool o)::(dds 1 (.val (.sl ((ps.getD (Int.toNat k) []).length) (pc (ps.getD (Int.toNat k) [])))::(vi d::(dds 1 (.val (.sl ps.length (pp ps))::(vi n::(vi k::(dds 19 []))))))))))) Qd 400 [.r (.int .i64 d)] [2,4,5,7,8,9] (ac n2 a0)) (Za.seq_out (Za.go Qd 400 [.b true] [2,7,8,9] (ac c2 a0)) (by intro e;cases e))))) (by intro e;cases e))))
theorem Yk61_2 (o:Bool) (ps:List (List Rn)) (n:Int) (k:Int) (d i:Int) (c1:(decide (k<n))=true) (c2:(decide (d>16))=false) (n1:0≤k∧k<(ps.length:Int)) (n2:Zd Yir 62 [.sl ((ps.getD (Int.toNat k) []).length) (pc (ps.getD (Int.toNat k) []))] (.int .i64 d)) (hl3:Za Yir (.loop Al) (Wy o ps n k (ps.getD (Int.toNat k) []) d 0) (.exit 2) (Wy o ps n k (ps.getD (Int.toNat k) []) d i)):Za Yir Zmz (L3 o ps n k) .norm (L3 o ps n (i64.wrap (k+1))):=(Za.seq (Za.go (t:=(dds 2 (.val (.bool o)::(dds 4 (.val (.sl ps.length (pp ps))::(vi n::(vi k::(.val (.bool (decide (k<n)))::(dds 18 []))))))))) Qd 400 [] [2,7,8,9,10] a0) (Za.seq (Za.go (t:=(dds 2 (.val (.bool o)::(dds 4 (.val (.sl ps.length (pp ps))::(vi n::(vi k::(dds 19 [])))))))) Qd 400 [.b true] [2,7,8,9] (ac c1 a0)) (Za.seq (Za.block_norm (Za.seq (Za.go (t:=(dds 2 (.val (.bool o)::(dds 1 (.val (.sl ((ps.getD (Int.toNat k) []).length) (pc (ps.getD (Int.toNat k) [])))::(dds 2 (.val (.sl ps.length (pp ps))::(vi n::(vi k::(dds 19 [])))))))))) Qd 400 [.v (.sl ((ps.getD (Int.toNat k) []).length) (pc (ps.getD (Int.toNat k) [])))] [2,4,7,8,9] (ac n1 (ac (Wf n1) a0))) (Za.seq (Za.go (t:=(dds 2 (.val (.bool o)::(dds 1 (.val (.sl ((ps.getD (Int.toNat k) []).length) (pc (ps.getD (Int.toNat k) [])))::(vi d::(dds 1 (.val (.sl ps.length (pp ps))::(vi n::(vi k::(dds 19 []))))))))))) Qd 400 [.r (.int .i64 d)] [2,4,5,7,8,9] (ac n2 a0)) (Za.seq (Za.go (t:=(dds 2 (.val (.bool o)::(dds 1 (.val (.sl ((ps.getD (Int.toNat k) []).length) (pc (ps.getD (Int.toNat k) [])))::(vi d::(dds 1 (.val (.sl ps.length (pp ps))::(vi n::(vi k::(dds 19 []))))))))))) Qd 400 [.b false] [2,4,5,7,8,9] (ac c2 a0)) (Za.seq (Za.go Qd 400 [] [2,4,5,6,7,8,9] a0) (Za.block hl3)))))) (Za.go Qd 400 [] [2,7,8,9] a0))))
theorem Yk61_3 (o:Bool) (ps:List (List Rn)) (n:Int) (k:Int)  (c1:(decide (k<n))=false):Za Yir Zmz (L3 o ps n k) (.exit 0) (L3 o ps n k):=(Za.seq (Za.go (t:=(dds 2 (.val (.bool o)::(dds 4 (.val (.sl ps.length (pp ps))::(vi n::(vi k::(.val (.bool (decide (k<n)))::(dds 18 []))))))))) Qd 400 [] [2,7,8,9,10] a0) (Za.seq_out (Za.go Qd 400 [.b false] [2,7,8,9] (ac c1 a0)) (by intro e;cases e)))
def Ys61y (o:Bool) (ps:List (List Rn)) (n:Int) (k:Int):Zk:=(dds 2 (.val (.bool o)::(dds 4 (.val (.sl ps.length (pp ps))::(.val (.int .i64 n)::(.val (.int .i64 k)::(dds 19 [])))))))
theorem Zpz (o:Bool) (ps:List (List Rn)) (n:Int) (k:Int) (d i:Int) (c1:(decide (k<n))=true) (c2:(decide (d>16))=false) (n1:0≤k∧k<(ps.length:Int)) (n2:Zd Yir 62 [.sl ((ps.getD (Int.toNat k) []).length) (pc (ps.getD (Int.toNat k) []))] (.int .i64 d)) (hl3:Za Yir (.loop Al) (Wy o ps n k (ps.getD (Int.toNat k) []) d 0) .ret (Wy true ps n k (ps.getD (Int.toNat k) []) d i)):Za Yir Yc61y (Ys61y o ps n k) .ret (Ys61y true ps n k):=(Za.seq (Za.go (t:=(dds 2 (.val (.bool o)::(dds 4 (.val (.sl ps.length (pp ps))::(vi n::(vi k::(.val (.bool (decide (k<n)))::(dds 18 []))))))))) Qd 400 [] [2,7,8,9,10] a0) (Za.seq (Za.go (t:=(dds 2 (.val (.bool o)::(dds 4 (.val (.sl ps.length (pp ps))::(vi n::(vi k::(dds 19 [])))))))) Qd 400 [.b true] [2,7,8,9] (ac c1 a0)) (Za.seq_out (Za.block_ret (Za.seq (Za.go (t:=(dds 2 (.val (.bool o)::(dds 1 (.val (.sl ((ps.getD (Int.toNat k) []).length) (pc (ps.getD (Int.toNat k) [])))::(dds 2 (.val (.sl ps.length (pp ps))::(vi n::(vi k::(dds 19 [])))))))))) Qd 400 [.v (.sl ((ps.getD (Int.toNat k) []).length) (pc (ps.getD (Int.toNat k) [])))] [2,4,7,8,9] (ac n1 (ac (Wf n1) a0))) (Za.seq (Za.go (t:=(dds 2 (.val (.bool o)::(dds 1 (.val (.sl ((ps.getD (Int.toNat k) []).length) (pc (ps.getD (Int.toNat k) [])))::(vi d::(dds 1 (.val (.sl ps.length (pp ps))::(vi n::(vi k::(dds 19 []))))))))))) Qd 400 [.r (.int .i64 d)] [2,4,5,7,8,9] (ac n2 a0)) (Za.seq (Za.go (t:=(dds 2 (.val (.bool o)::(dds 1 (.val (.sl ((ps.getD (Int.toNat k) []).length) (pc (ps.getD (Int.toNat k) [])))::(vi d::(dds 1 (.val (.sl ps.length (pp ps))::(vi n::(vi k::(dds 19 []))))))))))) Qd 400 [.b false] [2,4,5,7,8,9] (ac c2 a0)) (Za.seq (Za.go Qd 400 [] [2,4,5,6,7,8,9] a0) (Za.block_ret (Za.keep (t':=(dds 2 (.val (.bool true)::(dds 4 (.val (.sl ps.length (pp ps))::(.val (.int .i64 n)::(.val (.int .i64 k)::(dds 19 [])))))))) [2,7,8,9] hl3 (by kernel_rfl)))))))) (by intro e;cases e))))
theorem Zjz (ps:List (List Rn)) (n k:Int) (hl1:Za Yir (.loop Zmz) (L3 false ps (ps.length:Int) 0) (.exit 0) (L3 false ps n k)):Zd Yir 61 [.sl ps.length (pp ps)] (.bool false):=Zd.of_bodyW (fn:=Zuk) (s:=(dds 2 (.val (.bool false)::(dds 26 [])))) (ex := .ret) rfl rfl (Za.seq (Za.go (t:=(.val (.sl ps.length (pp ps))::(dds 1 (.val (.bool false)::(dds 26 []))))) Qd 400 [] [0,2] a0) (Za.seq (Za.seq (Za.go Qd 400 [] [2,7,8,9] a0) (Za.block hl1)) (Za.go Qd 400 [] [2] a0))) (by intro i e;cases e) rfl
theorem Zjy (ps:List (List Rn)) (n k:Int) (hl1:Za Yir (.loop Zmz) (L3 false ps (ps.length:Int) 0) .ret (L3 true ps n k)):Zd Yir 61 [.sl ps.length (pp ps)] (.bool true):=Zd.of_bodyW (fn:=Zuk) (s:=(dds 2 (.val (.bool true)::(dds 4 (.val (.sl ps.length (pp ps))::(.val (.int .i64 n)::(.val (.int .i64 k)::(dds 19 [])))))))) (ex := .ret) rfl rfl (Za.seq (Za.go (t:=(.val (.sl ps.length (pp ps))::(dds 1 (.val (.bool false)::(dds 26 []))))) Qd 400 [] [0,2] a0) (Za.seq_out (Za.seq (Za.go Qd 400 [] [2,7,8,9] a0) (Za.block_ret hl1)) (by intro e;cases e))) (by intro i e;cases e) rfl
end Go.Proofs.Ythnnfemologhfaa

namespace Go.Proofs.Ythnnfemologhfaa
open Go.IntKind (i64 u64 u32)
open Go.Ai
set_option maxRecDepth 100000
def Zug (x:Int):Bool:=decide (256<(Zb x.natAbs).length)
def Vs (p:List Int):Bool:=decide (17<(Ze p).length) || (Ze p).any Zug
theorem Zes {p:List Int} {f:Int→Bool} (h:p.any f=false) (i:Nat) (hi:i<p.length):f (p.getD i 0)=false:=by
 rw[List.any_eq_false] at h
 rw[List.getD_eq_getElem?_getD,List.getElem?_eq_getElem hi]
 simpa using h _ (List.getElem_mem hi)
theorem Zji {p:List Int} {f:Int→Bool} (h:p.any f=true):∃ i,i<p.length∧f (p.getD i 0)=true:=by
 obtain⟨x,hx,hf⟩:=List.any_eq_true.1 h
 obtain⟨i,hi,rfl⟩:=List.mem_iff_getElem.1 hx
 refine⟨i,hi,?_⟩
 rw[List.getD_eq_getElem?_getD,List.getElem?_eq_getElem hi]
 simpa using hf
section
variable {rs:List Rn} {ps:List (List Rn)} {n k:Int}
theorem To (hg:∀ r∈rs,J4 1048576 r) (hN:rs.length≤1048576) :
  (Vs (Zl rs)=false→(Ze (Zl rs)).length≤17→Za Yir (.loop Al) (Wy false ps n k rs (((Zv (Zl rs) rs.length:Nat):Int)-1) 0) (.exit 2) (Wy false ps n k rs (((Zv (Zl rs) rs.length:Nat):Int)-1) (Zv (Zl rs) rs.length:Nat))) ∧
  (Vs (Zl rs)=true→(Ze (Zl rs)).length≤17→∃ j:Nat,Za Yir (.loop Al) (Wy false ps n k rs (((Zv (Zl rs) rs.length:Nat):Int)-1) 0) .ret (Wy true ps n k rs (((Zv (Zl rs) rs.length:Nat):Int)-1) (j:Nat))):=by
 have hle:=We (Zl rs) rs.length
 have hlen:(Ze (Zl rs)).length=Zv (Zl rs) rs.length:=by rw[Un,Z3]
 have step:∀ t:Nat,t<Zv (Zl rs) rs.length→Zug (Zt (rs.getD t z0))=false→Za Yir Al (Wy false ps n k rs (((Zv (Zl rs) rs.length:Nat):Int)-1) (t:Nat)) .norm (Wy false ps n k rs (((Zv (Zl rs) rs.length:Nat):Int)-1) ((t+1:Nat):Int)):=by
  intro t ht hb
  have ei:i64.wrap ((t:Int)+1)=((t+1:Nat):Int):=by rw[w64 (by omega) (by omega)];omega
  obtain⟨g1,g2⟩:=Qb hg t
  have k2:=Zp1 false ps n k rs (((Zv (Zl rs) rs.length:Nat):Int)-1) (t:Nat) (((Zb (Zt (rs.getD t z0)).natAbs).length:Nat):Int) (by simp;omega) (by unfold Zug at hb;simp only[decide_eq_false_iff_not] at hb ⊢;omega) (by omega) (by rw[Int.toNat_natCast];exact D2 g1 g2)
  rwa [ei] at k2
 refine⟨fun hl _ => ?_,fun hl h17 => ?_⟩
 ·unfold Vs at hl
  rw[Bool.or_eq_false_iff] at hl
  have h:=Za.upTo (prog:=Yir) (c:=Al) (ex := .exit 2) (fun t=>Wy false ps n k rs (((Zv (Zl rs) rs.length:Nat):Int)-1) (t:Nat)) (Zv (Zl rs) rs.length) (by intro e;cases e) (Zp0 false ps n k rs _ _ (by simp;omega)) 0 (Nat.zero_le _) (fun t _ h2=>step t h2 (by
   have:=Zes hl.2 t (by omega)
   rwa [Jg,Q8] at this))
  exact h
 ·unfold Vs at hl
  rw[decide_eq_false (by omega),Bool.false_or] at hl
  obtain⟨i,hi,hf⟩:=Zji hl
  rcases Ej (fun j=>Zug (Zt (rs.getD j z0))) (Zv (Zl rs) rs.length) _ 0 (by rw[Nat.zero_add]) with h | ⟨j,_,h2,h3,h4⟩
  ·have:=h i (by omega) (by omega)
   rw[Jg,Q8] at hf
   rw[hf] at this
   cases this
  ·obtain⟨g1,g2⟩:=Qb hg j
   have k1:=Zp2 false ps n k rs (((Zv (Zl rs) rs.length:Nat):Int)-1) (j:Nat) (((Zb (Zt (rs.getD j z0)).natAbs).length:Nat):Int) (by simp;omega) (by unfold Zug at h3;simp only[decide_eq_true_eq] at h3 ⊢;omega) (by omega) (by rw[Int.toNat_natCast];exact D2 g1 g2)
   exact⟨j,Za.upTo (prog:=Yir) (c:=Al) (ex := .ret) (fun t=>Wy false ps n k rs (((Zv (Zl rs) rs.length:Nat):Int)-1) (t:Nat)) j (by intro e;cases e) k1 0 (Nat.zero_le _) (fun t _ h6=>step t (by omega) (h4 t (by omega) h6))⟩
end
theorem Gs {α:Type} {l:List (List α)} {i:Nat} (h:i<l.length):l.getD i []∈l:=by
 rw[List.getD_eq_getElem?_getD,List.getElem?_eq_getElem h];exact List.getElem_mem h
theorem Zad {ps:List (List Rn)} (hg:∀ p∈ps,(∀ r∈p,J4 1048576 r)∧p.length≤1048576) (hN:ps.length≤1048576):Zd Yir 61 [.sl ps.length (pp ps)] (.bool (ps.any fun p=>Vs (Zl p))):=by
 have hdeg:∀ t,t<ps.length→Zd Yir 62 [.sl (ps.getD t []).length (pc (ps.getD t []))] (.int .i64 (((Zv (Zl (ps.getD t [])) (ps.getD t []).length:Nat):Int)-1)):=fun t ht=>Fp (hg _ (Gs ht)).1 (hg _ (Gs ht)).2
 have step:∀ t:Nat,t<ps.length→Vs (Zl (ps.getD t []))=false→Za Yir Zmz (L3 false ps (ps.length:Nat) (t:Nat)) .norm (L3 false ps (ps.length:Nat) ((t+1:Nat):Int)):=by
  intro t ht hl
  have ei:i64.wrap ((t:Int)+1)=((t+1:Nat):Int):=by rw[w64 (by omega) (by omega)];omega
  obtain⟨g1,g2⟩:=hg _ (Gs ht)
  have hlen:(Ze (Zl (ps.getD t []))).length=Zv (Zl (ps.getD t [])) (ps.getD t []).length:=by rw[Un,Z3]
  have h17:(Ze (Zl (ps.getD t []))).length≤17:=by
   unfold Vs at hl
   rw[Bool.or_eq_false_iff,decide_eq_false_iff_not] at hl
   omega
  have k2:=Yk61_2 false ps (ps.length:Nat) (t:Nat) (((Zv (Zl (ps.getD t [])) (ps.getD t []).length:Nat):Int)-1) _ (by simp;omega) (by rw[decide_eq_false_iff_not];omega) (by omega) (by rw[Int.toNat_natCast];exact hdeg t ht) (by rw[Int.toNat_natCast];exact (To g1 g2).1 hl h17)
  rwa [ei] at k2
 rcases Ej (fun j=>Vs (Zl (ps.getD j []))) ps.length _ 0 (by rw[Nat.zero_add]) with h | ⟨j,_,h2,h3,h4⟩
 ·have hany:(ps.any fun p=>Vs (Zl p))=false:=by
   rw[List.any_eq_false]
   intro p hp
   obtain⟨i,hi,rfl⟩:=List.mem_iff_getElem.1 hp
   have:=h i (by omega) hi
   rw[List.getD_eq_getElem?_getD,List.getElem?_eq_getElem hi] at this
   simpa using this
  rw[hany]
  exact Zjz ps _ _ (Za.upTo (prog:=Yir) (c:=Zmz) (ex := .exit 0) (fun t=>L3 false ps (ps.length:Nat) (t:Nat)) ps.length (by intro e;cases e) (Yk61_3 false ps _ _ (by simp)) 0 (Nat.zero_le _) (fun t _ h6=>step t h6 (h t (by omega) h6)))
 ·have hany:(ps.any fun p=>Vs (Zl p))=true:=by
   rw[List.any_eq_true]
   exact⟨_,Gs h2,h3⟩
  rw[hany]
  obtain⟨g1,g2⟩:=hg _ (Gs h2)
  have hlen:(Ze (Zl (ps.getD j []))).length=Zv (Zl (ps.getD j [])) (ps.getD j []).length:=by rw[Un,Z3]
  have out:Za Yir Zmz (L3 false ps (ps.length:Nat) (j:Nat)) .ret (L3 true ps (ps.length:Nat) (j:Nat)):=by
   by_cases h17:(Ze (Zl (ps.getD j []))).length≤17
   ·obtain⟨i,hi⟩:=(To (ps:=ps) (n:=(ps.length:Nat)) (k:=(j:Nat)) g1 g2).2 h3 h17
    exact Zpz false ps (ps.length:Nat) (j:Nat) (((Zv (Zl (ps.getD j [])) (ps.getD j []).length:Nat):Int)-1) _ (by simp;omega) (by rw[decide_eq_false_iff_not];omega) (by omega) (by rw[Int.toNat_natCast];exact hdeg j h2) (by rw[Int.toNat_natCast];exact hi)
   ·exact Yk61_1 false ps (ps.length:Nat) (j:Nat) (((Zv (Zl (ps.getD j [])) (ps.getD j []).length:Nat):Int)-1) (by simp;omega) (by rw[decide_eq_true_eq];omega) (by omega) (by rw[Int.toNat_natCast];exact hdeg j h2)
  exact Zjy ps _ _ (Za.upTo (prog:=Yir) (c:=Zmz) (ex := .ret) (fun t=>L3 false ps (ps.length:Nat) (t:Nat)) j (by intro e;cases e) out 0 (Nat.zero_le _) (fun t _ h6=>step t (by omega) (h4 t (by omega) h6)))
theorem Ph {rs:List Rn} (hg:∀ r∈rs,J4 1048576 r) (hN:rs.length≤1048576):Zd Yir 61 [.sl 1 [.sl rs.length (pc rs)]] (.bool (Vs (Zl rs))):=by
 have h:=Zad (ps:=[rs]) (fun p hp=>by rw[List.mem_singleton.1 hp];exact⟨hg,hN⟩) (by simp)
 simpa [pp] using h
end Go.Proofs.Ythnnfemologhfaa

namespace Go.Proofs.Ythnnfemologhfaa
open Go.IntKind (i64 u64 u32)
open Go.Ai
set_option maxRecDepth 100000
theorem Pa {p:List Int} (hl:(Ze p).length≤17) (hK:Kb 256 p):Vs p=false:=by
 unfold Vs
 rw[Bool.or_eq_false_iff,decide_eq_false_iff_not]
 refine⟨by omega,?_⟩
 rw[List.any_eq_false]
 intro x hx
 obtain⟨i,hi,rfl⟩:=List.mem_iff_getElem.1 (Sy hx)
 have h:=(hK i).len
 rw[List.getD_eq_getElem?_getD,List.getElem?_eq_getElem hi] at h
 unfold Zug
 simp only[Option.getD_some] at h
 simpa using h
theorem Tw {rs:List Rn} {K:Nat} (hg:∀ r∈rs,J4 K r) (hK:K≤256) (hl:rs.length≤17):Vs (Zl rs)=false :=
 Pa (by have:=Qw (Zl rs);rw[Z3] at this;omega) ((Mq (X2 hg)).mono hK)
theorem large1 {rs:List Rn} {K:Nat} (hg:∀ r∈rs,J4 K r) (hK:K≤256) (hl:rs.length≤17):Zd Yir 61 [.sl 1 [.sl rs.length (pc rs)]] (.bool false):=by
 have h:=Ph (rs:=rs) (fun r hr=>(hg r hr).mono (by omega)) (by omega)
 rwa [Tw hg hK hl] at h
end Go.Proofs.Ythnnfemologhfaa

namespace Go.Proofs.Ythnnfemologhfaa
open Go.IntKind (i64 u64 u32)
open Go.Ai
set_option maxRecDepth 100000
def Yc5:ICode := .seq (.seq (rg [oM 61 11,oM 62 1,oB 63 .lss 61 62]) (.cond (.t 63) (.skip) (.exit 0))) (.seq (.block 1 (.seq (rg [oM 67 9,oM 68 7,o1 69 (.un .neg (.t 68)),o1 70 (.bls 2 [.int .i64 0, .int .i64 0] [(0,1, .t 69),(1,1, .c (.int .i64 1))]),oC 71 26 [70],oC 72 24 [67,71],oM 66 72,o1 73 (.ext (.t 66) 0),o1 74 (.ext (.t 66) 1),oM 9 73]) (rg [oM 76 9,oM 77 8,o1 78 (.un .neg (.t 77)),o1 79 (.bls 2 [.int .i64 0, .int .i64 0] [(0,1, .t 78),(1,1, .c (.int .i64 2))]),oC 80 26 [79],oC 81 24 [76,80],oM 75 81,o1 82 (.ext (.t 75) 0),o1 83 (.ext (.t 75) 1),oM 9 82]))) (rg [oM 64 11,o1 65 (.bin .add (.t 64) (ci 1)),oM 11 65]))
end Go.Proofs.Ythnnfemologhfaa

namespace Go.Proofs.Ythnnfemologhfaa
open Go.IntKind (i64 u64 u32)
open Go.Ai
set_option maxRecDepth 100000
theorem Yrun34 (rs us:List Rn) (n1:Zd Yir 61 [.sl 1 [.sl rs.length (pc rs)]] (.bool false)) (n2:Zd Yir 86 [.sl rs.length (pc rs)] (.fresh 2 us.length (pc us))):Zd Yir 34 [.sl rs.length (pc rs)] (.tup [.sl us.length (pc us), .int .i64 0]):=Zd.go (fn:=Yi34) Zg4 rfl 400 rfl [.r (.bool false), .b false, .r (.fresh 2 us.length (pc us))] (ac n1 (ac (show false=false from rfl) (ac n2 a0)))
end Go.Proofs.Ythnnfemologhfaa

namespace Go.Proofs.Ythnnfemologhfaa
open Go.IntKind (i64 u64 u32)
open Go.Ai
set_option maxRecDepth 100000
theorem Ze8 (na nb:Bool) (xs ys:List Int) (s t:Int) (c1:(decide (s<t))=true) (n1:Zd Yir 81 [.agg [.bool na, .sl xs.length (lm xs)]] (.int .i64 s)) (n2:Zd Yir 81 [.agg [.bool nb, .sl ys.length (lm ys)]] (.int .i64 t)):Zd Yir 135 [.agg [.bool na, .sl xs.length (lm xs)], .agg [.bool nb, .sl ys.length (lm ys)]] (.int .i64 (-1)):=Zd.go (fn:=Lt) Zg rfl 400 rfl [.r (.int .i64 s), .r (.int .i64 t), .b true] (ac n1 (ac n2 (ac c1 a0)))
theorem Ze7 (na nb:Bool) (xs ys:List Int) (s t:Int) (c1:(decide (s<t))=false) (c2:(decide (s>t))=true) (n1:Zd Yir 81 [.agg [.bool na, .sl xs.length (lm xs)]] (.int .i64 s)) (n2:Zd Yir 81 [.agg [.bool nb, .sl ys.length (lm ys)]] (.int .i64 t)):Zd Yir 135 [.agg [.bool na, .sl xs.length (lm xs)], .agg [.bool nb, .sl ys.length (lm ys)]] (.int .i64 1):=Zd.go (fn:=Lt) Zg rfl 400 rfl [.r (.int .i64 s), .r (.int .i64 t), .b false, .b true] (ac n1 (ac n2 (ac c1 (ac c2 a0))))
theorem Ze6 (na nb:Bool) (xs ys:List Int) (s t c:Int) (c1:(decide (s<t))=false) (c2:(decide (s>t))=false) (c3:(decide (s<0))=true) (n1:Zd Yir 81 [.agg [.bool na, .sl xs.length (lm xs)]] (.int .i64 s)) (n2:Zd Yir 81 [.agg [.bool nb, .sl ys.length (lm ys)]] (.int .i64 t)) (n3:Zd Yir 125 [.sl xs.length (lm xs)] (.fresh 1 ((Ze xs).length) (lm (Ze xs)))) (n4:Zd Yir 125 [.sl ys.length (lm ys)] (.fresh 1 ((Ze ys).length) (lm (Ze ys)))) (n5:Zd Yir 139 [.sl ((Ze xs).length) (lm (Ze xs)), .sl ((Ze ys).length) (lm (Ze ys))] (.int .i64 c)):Zd Yir 135 [.agg [.bool na, .sl xs.length (lm xs)], .agg [.bool nb, .sl ys.length (lm ys)]] (.int .i64 (i64.wrap (0-c))):=Zd.go (fn:=Lt) Zg rfl 400 rfl [.r (.int .i64 s), .r (.int .i64 t), .b false, .b false, .r (.fresh 1 ((Ze xs).length) (lm (Ze xs))), .r (.fresh 1 ((Ze ys).length) (lm (Ze ys))), .r (.int .i64 c), .b true] (ac n1 (ac n2 (ac c1 (ac c2 (ac n3 (ac n4 (ac n5 (ac c3 a0))))))))
theorem Ze5 (na nb:Bool) (xs ys:List Int) (s t c:Int) (c1:(decide (s<t))=false) (c2:(decide (s>t))=false) (c3:(decide (s<0))=false) (n1:Zd Yir 81 [.agg [.bool na, .sl xs.length (lm xs)]] (.int .i64 s)) (n2:Zd Yir 81 [.agg [.bool nb, .sl ys.length (lm ys)]] (.int .i64 t)) (n3:Zd Yir 125 [.sl xs.length (lm xs)] (.fresh 1 ((Ze xs).length) (lm (Ze xs)))) (n4:Zd Yir 125 [.sl ys.length (lm ys)] (.fresh 1 ((Ze ys).length) (lm (Ze ys)))) (n5:Zd Yir 139 [.sl ((Ze xs).length) (lm (Ze xs)), .sl ((Ze ys).length) (lm (Ze ys))] (.int .i64 c)):Zd Yir 135 [.agg [.bool na, .sl xs.length (lm xs)], .agg [.bool nb, .sl ys.length (lm ys)]] (.int .i64 c):=Zd.go (fn:=Lt) Zg rfl 400 rfl [.r (.int .i64 s), .r (.int .i64 t), .b false, .b false, .r (.fresh 1 ((Ze xs).length) (lm (Ze xs))), .r (.fresh 1 ((Ze ys).length) (lm (Ze ys))), .r (.int .i64 c), .b false] (ac n1 (ac n2 (ac c1 (ac c2 (ac n3 (ac n4 (ac n5 (ac c3 a0))))))))
theorem Zfc (na nb m1 m2:Bool) (xs ys us vs:List Int) (d:Int) (c1:(m1)=true) (c2:(m2)=true) (n1:Zd Yir 122 [.agg [.bool na, .sl xs.length (lm xs)]] (.tup [.bool m1, .sl us.length (lm us)])) (n2:Zd Yir 122 [.agg [.bool nb, .sl ys.length (lm ys)]] (.tup [.bool m2, .sl vs.length (lm vs)])) (n3:Zd Yir 150 [.sl vs.length (lm vs), .sl us.length (lm us)] (.int .i64 d)):Zd Yir 134 [.agg [.bool na, .sl xs.length (lm xs)], .agg [.bool nb, .sl ys.length (lm ys)]] (.int .i64 d):=Zd.go (fn:=Lu) Zg rfl 400 rfl [.r (.tup [.bool m1, .sl us.length (lm us)]), .r (.tup [.bool m2, .sl vs.length (lm vs)]), .b true, .b false, .b true, .b false, .b true, .r (.int .i64 d)] (ac n1 (ac n2 (ac c1 (ac (show (!m2)=false from (by rw [c2];rfl)) (ac c2 (ac (show (!m1)=false from (by rw [c1];rfl)) (ac c1 (ac n3 a0))))))))
theorem Zfb (na nb m1 m2:Bool) (xs ys us vs:List Int) (c1:(m1)=true) (c2:(m2)=false) (n1:Zd Yir 122 [.agg [.bool na, .sl xs.length (lm xs)]] (.tup [.bool m1, .sl us.length (lm us)])) (n2:Zd Yir 122 [.agg [.bool nb, .sl ys.length (lm ys)]] (.tup [.bool m2, .sl vs.length (lm vs)])):Zd Yir 134 [.agg [.bool na, .sl xs.length (lm xs)], .agg [.bool nb, .sl ys.length (lm ys)]] (.int .i64 (-1)):=Zd.go (fn:=Lu) Zg rfl 400 rfl [.r (.tup [.bool m1, .sl us.length (lm us)]), .r (.tup [.bool m2, .sl vs.length (lm vs)]), .b true, .b true] (ac n1 (ac n2 (ac c1 (ac (show (!m2)=true from (by rw [c2];rfl)) a0))))
theorem Zfa (na nb m1 m2:Bool) (xs ys us vs:List Int) (c1:(m1)=false) (c2:(m2)=true) (n1:Zd Yir 122 [.agg [.bool na, .sl xs.length (lm xs)]] (.tup [.bool m1, .sl us.length (lm us)])) (n2:Zd Yir 122 [.agg [.bool nb, .sl ys.length (lm ys)]] (.tup [.bool m2, .sl vs.length (lm vs)])):Zd Yir 134 [.agg [.bool na, .sl xs.length (lm xs)], .agg [.bool nb, .sl ys.length (lm ys)]] (.int .i64 1):=Zd.go (fn:=Lu) Zg rfl 400 rfl [.r (.tup [.bool m1, .sl us.length (lm us)]), .r (.tup [.bool m2, .sl vs.length (lm vs)]), .b false, .b false, .b true, .b true] (ac n1 (ac n2 (ac c1 (ac (show false=false from rfl) (ac c2 (ac (show (!m1)=true from (by rw [c1];rfl)) a0))))))
theorem Ze9 (na nb m1 m2:Bool) (xs ys us vs:List Int) (c:Int) (c1:(m1)=false) (c2:(m2)=false) (n1:Zd Yir 122 [.agg [.bool na, .sl xs.length (lm xs)]] (.tup [.bool m1, .sl us.length (lm us)])) (n2:Zd Yir 122 [.agg [.bool nb, .sl ys.length (lm ys)]] (.tup [.bool m2, .sl vs.length (lm vs)])) (n3:Zd Yir 150 [.sl us.length (lm us), .sl vs.length (lm vs)] (.int .i64 c)):Zd Yir 134 [.agg [.bool na, .sl xs.length (lm xs)], .agg [.bool nb, .sl ys.length (lm ys)]] (.int .i64 c):=Zd.go (fn:=Lu) Zg rfl 400 rfl [.r (.tup [.bool m1, .sl us.length (lm us)]), .r (.tup [.bool m2, .sl vs.length (lm vs)]), .b false, .b false, .b false, .b false, .b false, .r (.int .i64 c)] (ac n1 (ac n2 (ac c1 (ac (show false=false from rfl) (ac c2 (ac (show false=false from rfl) (ac c1 (ac n3 a0))))))))
theorem Yrun98 (r t:Rn) (e f X Y c:Int) (n1:Zd Yir 124 [Z5 r, .int .i64 (i64.wrap ((if f>e then f else e)-e))] (Zp X)) (n2:Zd Yir 124 [Z5 t, .int .i64 (i64.wrap ((if f>e then f else e)-f))] (Zp Y)) (n3:Zd Yir 134 [Zp X,Zp Y] (.int .i64 c)):Zd Yir 98 [.agg [.bool r.1, .sl r.2.length (lm r.2), .int .i64 e], .agg [.bool t.1, .sl t.2.length (lm t.2), .int .i64 f]] (.int .i64 c):=Zd.go (fn:=Yi98) Zg rfl 400 rfl [.r (Zp X), .r (Zp Y), .r (.int .i64 c)] (ac n1 (ac n2 (ac n3 a0)))
theorem Zjn (r:Rn) (e s:Int) (c1:(decide (e≥0))=true) (c2:(decide (e≤4096))=true) (n1:Zd Yir 76 [Z5 r] (.int .i64 s)):Zd Yir 97 [.agg [.bool r.1, .sl r.2.length (lm r.2), .int .i64 e]] (.bool (decide (s≤256))):=Zd.go (fn:=Zs9) Zg rfl 400 rfl [.b true, .b true, .r (.int .i64 s)] (ac c1 (ac c2 (ac n1 a0)))
theorem Zjm (r:Rn) (e:Int) (c1:(decide (e≥0))=true) (c2:(decide (e≤4096))=false):Zd Yir 97 [.agg [.bool r.1, .sl r.2.length (lm r.2), .int .i64 e]] (.bool false):=Zd.go (fn:=Zs9) Zg rfl 400 rfl [.b true, .b false] (ac c1 (ac c2 a0))
theorem Zjl (r:Rn) (e:Int) (c1:(decide (e≥0))=false):Zd Yir 97 [.agg [.bool r.1, .sl r.2.length (lm r.2), .int .i64 e]] (.bool false):=Zd.go (fn:=Zs9) Zg rfl 400 rfl [.b false, .b false] (ac c1 (ac (show false=false from rfl) a0))
theorem Zpp (r t:Rn) (e f X Y c:Int) (n1:Zd Yir 126 [Z5 r, .int .i64 f] (F3 X)) (n2:Zd Yir 126 [Z5 t, .int .i64 e] (F3 Y)) (n3:Zd Yir 135 [Zp X,Zp Y] (.int .i64 c)):Zd Yir 102 [.agg [.bool r.1, .sl r.2.length (lm r.2), .int .i64 e], .agg [.bool t.1, .sl t.2.length (lm t.2), .int .i64 f]] (.int .i64 c):=Zd.go (fn:=Zgm) Zg rfl 400 rfl [.r (F3 X), .r (F3 Y), .r (.int .i64 c)] (ac n1 (ac n2 (ac n3 a0)))
end Go.Proofs.Ythnnfemologhfaa

namespace Go.Proofs.Ythnnfemologhfaa
open Go.IntKind (i64 u64 u32)
open Go.Ai
set_option maxRecDepth 100000
theorem cmp_sg {a b X Y:Int} (ha:a=X∨a = -X) (hb:b=Y∨b = -Y) (hX:0≤X) (hY:0≤Y) :
  (Vp a<Vp b→Uw a b = -1)∧(Vp a>Vp b→Uw a b=1)∧(¬ Vp a<Vp b→¬ Vp a>Vp b→(Vp a<0→Uw a b = -Uw X Y)∧(¬ Vp a<0→Uw a b=Uw X Y)):=by
 unfold Vp Uw
 grind
theorem Zoy (a b:Int) : -1≤Uw a b∧Uw a b≤1:=by unfold Uw;grind
theorem rv_or (neg:Bool) (xs:List Int):rv neg xs=Zn xs∨rv neg xs = -Zn xs:=by unfold rv;cases neg <;> simp
theorem Zib {na nb:Bool} {xs ys:List Int} (hx:U32 xs) (hy:U32 ys) (h1:xs.length≤1048576) (h2:ys.length≤1048576):Zd Yir 135 [.agg [.bool na, .sl xs.length (lm xs)], .agg [.bool nb, .sl ys.length (lm ys)]] (.int .i64 (Uw (rv na xs) (rv nb ys))):=by
 obtain⟨a1,a2,a3⟩:=cmp_sg (rv_or na xs) (rv_or nb ys) (Z4 hx) (Z4 hy)
 have s1:=Bh (neg:=na) hx h1
 have s2:=Bh (neg:=nb) hy h2
 by_cases c1:Vp (rv na xs)<Vp (rv nb ys)
 ·rw[a1 c1]
  exact Ze8 na nb xs ys _ _ (by rw[decide_eq_true_eq];exact c1) s1 s2
 by_cases c2:Vp (rv na xs)>Vp (rv nb ys)
 ·rw[a2 c2]
  exact Ze7 na nb xs ys _ _ (by rw[decide_eq_false_iff_not];exact c1) (by rw[decide_eq_true_eq];exact c2) s1 s2
 obtain⟨a4,a5⟩:=a3 c1 c2
 have t1:=Qw xs
 have t2:=Qw ys
 have hc:=Er (Uo hx) (Uo hy) (by omega)
 rw[Xk,Xk] at hc
 by_cases c3:Vp (rv na xs)<0
 ·have hb:=Zoy (Zn xs) (Zn ys)
  have k:=Ze6 na nb xs ys _ _ _ (by rw[decide_eq_false_iff_not];exact c1) (by rw[decide_eq_false_iff_not];exact c2) (by rw[decide_eq_true_eq];exact c3) s1 s2 (U6 h1) (U6 h2) hc
  rw[w64 (by omega) (by omega),Int.zero_sub] at k
  rw[a4 c3]
  exact k
 ·rw[a5 c3]
  exact Ze5 na nb xs ys _ _ _ (by rw[decide_eq_false_iff_not];exact c1) (by rw[decide_eq_false_iff_not];exact c2) (by rw[decide_eq_false_iff_not];exact c3) s1 s2 (U6 h1) (U6 h2) hc
theorem Zhk {na nb:Bool} {xs ys:List Int} (hx:U32 xs) (hy:U32 ys) (h1:xs.length≤1048576) (h2:ys.length≤1048576):Zd Yir 134 [.agg [.bool na, .sl xs.length (lm xs)], .agg [.bool nb, .sl ys.length (lm ys)]] (.int .i64 (Uw (rv na xs) (rv nb ys))):=by
 have s1:=Jd (neg:=na) hx h1
 have s2:=Jd (neg:=nb) hy h2
 have l1:=U7 (neg:=na) hx
 have l2:=U7 (neg:=nb) hy
 have k1:=Vu (Qz (rv na xs).natAbs) (Qz (rv nb ys).natAbs) (by omega)
 have k2:=Vu (Qz (rv nb ys).natAbs) (Qz (rv na xs).natAbs) (by omega)
 rw[J6,J6] at k1 k2
 by_cases c1:rv na xs<0
 ·by_cases c2:rv nb ys<0
  ·have e:Uw (rv na xs) (rv nb ys)=Uw ((rv nb ys).natAbs:Int) ((rv na xs).natAbs:Int):=by unfold Uw;grind
   rw[e]
   exact Zfc na nb _ _ xs ys _ _ _ (decide_eq_true c1) (decide_eq_true c2) s1 s2 k2
  ·have e:Uw (rv na xs) (rv nb ys) = -1:=by unfold Uw;grind
   rw[e]
   exact Zfb na nb _ _ xs ys _ _ (decide_eq_true c1) (decide_eq_false c2) s1 s2
 ·by_cases c2:rv nb ys<0
  ·have e:Uw (rv na xs) (rv nb ys)=1:=by unfold Uw;grind
   rw[e]
   exact Zfa na nb _ _ xs ys _ _ (decide_eq_false c1) (decide_eq_true c2) s1 s2
  ·have e:Uw (rv na xs) (rv nb ys)=Uw ((rv na xs).natAbs:Int) ((rv nb ys).natAbs:Int):=by unfold Uw;grind
   rw[e]
   exact Ze9 na nb _ _ xs ys _ _ _ (decide_eq_false c1) (decide_eq_false c2) s1 s2 k1
end Go.Proofs.Ythnnfemologhfaa

namespace Go.Proofs.Ythnnfemologhfaa
open Go.IntKind (i64 u64 u32)
open Go.Ai
set_option maxRecDepth 100000
def dyA (n e:Int):AV := .agg [.bool (decide (n<0)), .sl (Zb n.natAbs).length (lm (Zb n.natAbs)), .int .i64 e]
end Go.Proofs.Ythnnfemologhfaa

namespace Go.Proofs.Ythnnfemologhfaa
open Go.IntKind (i64 u64 u32)
open Go.Ai
set_option maxRecDepth 100000
theorem ax0:Zd Yir 52 [.sl 3 [.int .i64 (-2), .int .i64 0, .int .i64 1]] (.fresh 2 3 [.bool true, .sl 1 [.int .u32 2], .bool false, .sl 0 [], .bool false, .sl 1 [.int .u32 1]]):=Zs Qc (Zj _) 400 _ _ _ (by kernel_rfl)
theorem ax1:Zd Yir 52 [.sl 3 [.int .i64 0, .int .i64 (-1), .int .i64 1]] (.fresh 2 3 [.bool false, .sl 0 [], .bool true, .sl 1 [.int .u32 1], .bool false, .sl 1 [.int .u32 1]]):=Zs Qc (Zj _) 400 _ _ _ (by kernel_rfl)
theorem ax2:Zd Yir 92 [.sl 3 [.bool true, .sl 1 [.int .u32 2], .bool false, .sl 0 [], .bool false, .sl 1 [.int .u32 1]]] (.fresh 2 3 [.bool true, .sl 1 [.int .u32 2], .bool false, .sl 0 [], .bool false, .sl 1 [.int .u32 1]]):=Zs Qc (Zj _) 400 _ _ _ (by kernel_rfl)
theorem ax3:Zd Yir 109 [.agg [.bool false, .sl 0 []], .agg [.bool false, .sl 1 [.int .u32 1]]] (.agg [.bool false, .sl 1 [.int .u32 1]]):=Zs Qc (Zj _) 400 _ _ _ (by kernel_rfl)
theorem ax4:Zd Yir 34 [.sl 3 [.bool true, .sl 1 [.int .u32 2], .bool false, .sl 0 [], .bool false, .sl 1 [.int .u32 1]]] (.tup [.sl 3 [.bool true, .sl 1 [.int .u32 2], .bool false, .sl 0 [], .bool false, .sl 1 [.int .u32 1]], .int .i64 0]):=Zs Qc (Zf ax3 (Zf ax2 (Zj _))) 400 _ _ _ (by kernel_rfl)
theorem ax5:Zd Yir 75 [.sl 3 [.bool true, .sl 1 [.int .u32 2], .bool false, .sl 0 [], .bool false, .sl 1 [.int .u32 1]]] (.fresh 2 2 [.bool false, .sl 0 [], .bool false, .sl 1 [.int .u32 2]]):=Zs Qc (Zj _) 400 _ _ _ (by kernel_rfl)
theorem ax6:Zd Yir 109 [.agg [.bool false, .sl 0 []], .agg [.bool false, .sl 1 [.int .u32 2]]] (.agg [.bool false, .sl 1 [.int .u32 2]]):=Zs Qc (Zj _) 400 _ _ _ (by kernel_rfl)
theorem ax7:Zd Yir 85 [.sl 2 [.bool false, .sl 0 [], .bool false, .sl 1 [.int .u32 2]]] (.agg [.bool false, .sl 1 [.int .u32 2]]):=Zs Qc (Zf ax6 (Zj _)) 400 _ _ _ (by kernel_rfl)
theorem ax8:Zd Yir 86 [.sl 2 [.bool false, .sl 0 [], .bool false, .sl 1 [.int .u32 2]]] (.fresh 2 2 [.bool false, .sl 0 [], .bool false, .sl 1 [.int .u32 1]]):=Zs Qc (Zf ax7 (Zj _)) 400 _ _ _ (by kernel_rfl)
theorem ax9:Zd Yir 86 [.sl 2 [.bool false, .sl 0 [], .bool false, .sl 1 [.int .u32 1]]] (.fresh 2 2 [.bool false, .sl 0 [], .bool false, .sl 1 [.int .u32 1]]):=Zs Qc (Zf ax3 (Zj _)) 400 _ _ _ (by kernel_rfl)
theorem ax10:Zd Yir 109 [.agg [.bool false, .sl 1 [.int .u32 1]], .agg [.bool false, .sl 1 [.int .u32 1]]] (.agg [.bool false, .sl 1 [.int .u32 1]]):=Zs Qc (Zj _) 400 _ _ _ (by kernel_rfl)
theorem ax11:Zd Yir 92 [.sl 3 [.bool true, .sl 1 [.int .u32 2], .bool false, .sl 0 [], .bool false, .sl 0 []]] (.fresh 2 1 [.bool true, .sl 1 [.int .u32 2]]):=Zs Qc (Zj _) 400 _ _ _ (by kernel_rfl)
theorem ax12:Zd Yir 109 [.agg [.bool false, .sl 0 []], .agg [.bool true, .sl 1 [.int .u32 2]]] (.agg [.bool false, .sl 1 [.int .u32 2]]):=Zs Qc (Zj _) 400 _ _ _ (by kernel_rfl)
theorem ax13:Zd Yir 86 [.sl 3 [.bool true, .sl 1 [.int .u32 2], .bool false, .sl 0 [], .bool false, .sl 0 []]] (.fresh 2 1 [.bool true, .sl 1 [.int .u32 1]]):=Zs Qc (Zf ax12 (Zf ax11 (Zj _))) 400 _ _ _ (by kernel_rfl)
theorem ax14:Zd Yir 64 [.sl 3 [.bool true, .sl 1 [.int .u32 2], .bool false, .sl 0 [], .bool false, .sl 1 [.int .u32 1]], .sl 2 [.bool false, .sl 0 [], .bool false, .sl 1 [.int .u32 1]]] (.fresh 2 1 [.bool true, .sl 1 [.int .u32 1]]):=Zs Qc (Zf ax13 (Zf ax10 (Zf ax9 (Zf ax3 (Zf ax2 (Zj _)))))) 400 _ _ _ (by kernel_rfl)
theorem ax15:Zd Yir 109 [.agg [.bool false, .sl 0 []], .agg [.bool true, .sl 1 [.int .u32 1]]] (.agg [.bool false, .sl 1 [.int .u32 1]]):=Zs Qc (Zj _) 400 _ _ _ (by kernel_rfl)
theorem ax16:Zd Yir 86 [.sl 1 [.bool true, .sl 1 [.int .u32 1]]] (.fresh 2 1 [.bool true, .sl 1 [.int .u32 1]]):=Zs Qc (Zf ax15 (Zj _)) 400 _ _ _ (by kernel_rfl)
theorem ax17:Zd Yir 109 [.agg [.bool true, .sl 1 [.int .u32 1]], .agg [.bool false, .sl 1 [.int .u32 1]]] (.agg [.bool false, .sl 1 [.int .u32 1]]):=Zs Qc (Zj _) 400 _ _ _ (by kernel_rfl)
theorem ax18:Zd Yir 64 [.sl 2 [.bool false, .sl 0 [], .bool false, .sl 1 [.int .u32 1]], .sl 1 [.bool true, .sl 1 [.int .u32 1]]] (.fresh 2 0 []):=Zs Qc (Zf ax17 (Zf ax16 (Zf ax9 (Zj _)))) 400 _ _ _ (by kernel_rfl)
theorem ax19:Zd Yir 65 [.sl 3 [.bool true, .sl 1 [.int .u32 2], .bool false, .sl 0 [], .bool false, .sl 1 [.int .u32 1]], .sl 2 [.bool false, .sl 0 [], .bool false, .sl 1 [.int .u32 2]]] (.fresh 2 1 [.bool false, .sl 1 [.int .u32 1]]):=Zs Qc (Zf ax18 (Zf ax14 (Zf ax8 (Zf ax3 (Zf ax2 (Zj _)))))) 400 _ _ _ (by kernel_rfl)
theorem ax20:Zd Yir 66 [.sl 3 [.bool true, .sl 1 [.int .u32 2], .bool false, .sl 0 [], .bool false, .sl 1 [.int .u32 1]]] (.sl 3 [.bool true, .sl 1 [.int .u32 2], .bool false, .sl 0 [], .bool false, .sl 1 [.int .u32 1]]):=Zs Qc (Zf ax19 (Zf ax5 (Zf ax3 (Zf ax2 (Zj _))))) 400 _ _ _ (by kernel_rfl)
theorem ax21:Zd Yir 86 [.sl 1 [.bool false, .sl 1 [.int .u32 1]]] (.fresh 2 1 [.bool false, .sl 1 [.int .u32 1]]):=Zs Qc (Zf ax3 (Zj _)) 400 _ _ _ (by kernel_rfl)
theorem ax22:Zd Yir 64 [.sl 2 [.bool false, .sl 0 [], .bool false, .sl 1 [.int .u32 1]], .sl 1 [.bool false, .sl 1 [.int .u32 1]]] (.fresh 2 0 []):=Zs Qc (Zf ax21 (Zf ax10 (Zf ax9 (Zj _)))) 400 _ _ _ (by kernel_rfl)
theorem ax23:Zd Yir 98 [.agg [.bool false, .sl 0 [], .int .i64 0], .agg [.bool false, .sl 1 [.int .u32 2], .int .i64 0]] (.int .i64 (-1)):=Zs Qc (Zj _) 400 _ _ _ (by kernel_rfl)
theorem ax24:Zd Yir 78 [.sl 3 [.bool true, .sl 1 [.int .u32 2], .bool false, .sl 0 [], .bool false, .sl 1 [.int .u32 1]], .agg [.bool false, .sl 0 [], .int .i64 0]] (.int .i64 (-1)):=Zs Qc (Zj _) 400 _ _ _ (by kernel_rfl)
theorem ax25:Zd Yir 78 [.sl 2 [.bool false, .sl 0 [], .bool false, .sl 1 [.int .u32 1]], .agg [.bool false, .sl 0 [], .int .i64 0]] (.int .i64 0):=Zs Qc (Zj _) 400 _ _ _ (by kernel_rfl)
theorem ax26:Zd Yir 78 [.sl 1 [.bool false, .sl 1 [.int .u32 1]], .agg [.bool false, .sl 0 [], .int .i64 0]] (.int .i64 1):=Zs Qc (Zj _) 400 _ _ _ (by kernel_rfl)
theorem ax27:Zd Yir 78 [.sl 3 [.bool true, .sl 1 [.int .u32 2], .bool false, .sl 0 [], .bool false, .sl 1 [.int .u32 1]], .agg [.bool false, .sl 1 [.int .u32 2], .int .i64 0]] (.int .i64 1):=Zs Qc (Zj _) 400 _ _ _ (by kernel_rfl)
theorem ax28:Zd Yir 78 [.sl 2 [.bool false, .sl 0 [], .bool false, .sl 1 [.int .u32 1]], .agg [.bool false, .sl 1 [.int .u32 2], .int .i64 0]] (.int .i64 1):=Zs Qc (Zj _) 400 _ _ _ (by kernel_rfl)
theorem ax29:Zd Yir 78 [.sl 1 [.bool false, .sl 1 [.int .u32 1]], .agg [.bool false, .sl 1 [.int .u32 2], .int .i64 0]] (.int .i64 1):=Zs Qc (Zj _) 400 _ _ _ (by kernel_rfl)
theorem ax30:Zd Yir 50 [.sl 3 [.bool true, .sl 1 [.int .u32 2], .bool false, .sl 0 [], .bool false, .sl 1 [.int .u32 1]], .agg [.bool false, .sl 0 [], .int .i64 0], .agg [.bool false, .sl 1 [.int .u32 2], .int .i64 0]] (.tup [.int .i64 1, .int .i64 0]):=Zs Qc (Zf ax29 (Zf ax28 (Zf ax27 (Zf ax26 (Zf ax25 (Zf ax24 (Zf ax23 (Zf ax22 (Zf ax20 (Zf ax14 (Zf ax8 (Zf ax5 (Zf ax4 (Zj _)))))))))))))) 400 _ _ _ (by kernel_rfl)
theorem ax31:Zd Yir 92 [.sl 3 [.bool false, .sl 0 [], .bool true, .sl 1 [.int .u32 1], .bool false, .sl 1 [.int .u32 1]]] (.fresh 2 3 [.bool false, .sl 0 [], .bool true, .sl 1 [.int .u32 1], .bool false, .sl 1 [.int .u32 1]]):=Zs Qc (Zj _) 400 _ _ _ (by kernel_rfl)
theorem ax32:Zd Yir 34 [.sl 3 [.bool false, .sl 0 [], .bool true, .sl 1 [.int .u32 1], .bool false, .sl 1 [.int .u32 1]]] (.tup [.sl 3 [.bool false, .sl 0 [], .bool true, .sl 1 [.int .u32 1], .bool false, .sl 1 [.int .u32 1]], .int .i64 0]):=Zs Qc (Zf ax31 (Zf ax3 (Zj _))) 400 _ _ _ (by kernel_rfl)
theorem ax33:Zd Yir 75 [.sl 3 [.bool false, .sl 0 [], .bool true, .sl 1 [.int .u32 1], .bool false, .sl 1 [.int .u32 1]]] (.fresh 2 2 [.bool true, .sl 1 [.int .u32 1], .bool false, .sl 1 [.int .u32 2]]):=Zs Qc (Zj _) 400 _ _ _ (by kernel_rfl)
end Go.Proofs.Ythnnfemologhfaa

namespace Go.Proofs.Ythnnfemologhfaa
open Go.IntKind (i64 u64 u32)
open Go.Ai
set_option maxRecDepth 100000
theorem ax34:Zd Yir 109 [.agg [.bool false, .sl 1 [.int .u32 2]], .agg [.bool true, .sl 1 [.int .u32 1]]] (.agg [.bool false, .sl 1 [.int .u32 1]]):=Zs Qc (Zj _) 400 _ _ _ (by kernel_rfl)
theorem ax35:Zd Yir 86 [.sl 2 [.bool true, .sl 1 [.int .u32 1], .bool false, .sl 1 [.int .u32 2]]] (.fresh 2 2 [.bool true, .sl 1 [.int .u32 1], .bool false, .sl 1 [.int .u32 2]]):=Zs Qc (Zf ax34 (Zf ax6 (Zj _))) 400 _ _ _ (by kernel_rfl)
theorem ax36:Zd Yir 109 [.agg [.bool false, .sl 1 [.int .u32 2]], .agg [.bool false, .sl 1 [.int .u32 1]]] (.agg [.bool false, .sl 1 [.int .u32 1]]):=Zs Qc (Zj _) 400 _ _ _ (by kernel_rfl)
theorem ax37:Zd Yir 92 [.sl 3 [.bool false, .sl 0 [], .bool true, .sl 1 [.int .u32 1], .bool false, .sl 0 []]] (.fresh 2 2 [.bool false, .sl 0 [], .bool true, .sl 1 [.int .u32 1]]):=Zs Qc (Zj _) 400 _ _ _ (by kernel_rfl)
theorem ax38:Zd Yir 86 [.sl 2 [.bool true, .sl 1 [.int .u32 1], .bool false, .sl 0 []]] (.fresh 2 1 [.bool true, .sl 1 [.int .u32 1]]):=Zs Qc (Zf ax15 (Zj _)) 400 _ _ _ (by kernel_rfl)
theorem ax39:Zd Yir 64 [.sl 3 [.bool false, .sl 0 [], .bool true, .sl 1 [.int .u32 1], .bool false, .sl 1 [.int .u32 1]], .sl 2 [.bool true, .sl 1 [.int .u32 1], .bool false, .sl 1 [.int .u32 2]]] (.fresh 2 1 [.bool true, .sl 1 [.int .u32 1]]):=Zs Qc (Zf ax38 (Zf ax37 (Zf ax36 (Zf ax35 (Zf ax34 (Zf ax31 (Zf ax15 (Zf ax3 (Zj _))))))))) 400 _ _ _ (by kernel_rfl)
theorem ax40:Zd Yir 109 [.agg [.bool true, .sl 1 [.int .u32 1]], .agg [.bool false, .sl 1 [.int .u32 2]]] (.agg [.bool false, .sl 1 [.int .u32 1]]):=Zs Qc (Zj _) 400 _ _ _ (by kernel_rfl)
theorem ax41:Zd Yir 109 [.agg [.bool true, .sl 1 [.int .u32 1]], .agg [.bool true, .sl 1 [.int .u32 1]]] (.agg [.bool false, .sl 1 [.int .u32 1]]):=Zs Qc (Zj _) 400 _ _ _ (by kernel_rfl)
theorem ax42:Zd Yir 64 [.sl 2 [.bool true, .sl 1 [.int .u32 1], .bool false, .sl 1 [.int .u32 2]], .sl 1 [.bool true, .sl 1 [.int .u32 1]]] (.fresh 2 0 []):=Zs Qc (Zf ax41 (Zf ax40 (Zf ax38 (Zf ax35 (Zf ax16 (Zj _)))))) 400 _ _ _ (by kernel_rfl)
theorem ax43:Zd Yir 65 [.sl 3 [.bool false, .sl 0 [], .bool true, .sl 1 [.int .u32 1], .bool false, .sl 1 [.int .u32 1]], .sl 2 [.bool true, .sl 1 [.int .u32 1], .bool false, .sl 1 [.int .u32 2]]] (.fresh 2 1 [.bool false, .sl 1 [.int .u32 1]]):=Zs Qc (Zf ax42 (Zf ax39 (Zf ax35 (Zf ax31 (Zf ax3 (Zj _)))))) 400 _ _ _ (by kernel_rfl)
theorem ax44:Zd Yir 66 [.sl 3 [.bool false, .sl 0 [], .bool true, .sl 1 [.int .u32 1], .bool false, .sl 1 [.int .u32 1]]] (.sl 3 [.bool false, .sl 0 [], .bool true, .sl 1 [.int .u32 1], .bool false, .sl 1 [.int .u32 1]]):=Zs Qc (Zf ax43 (Zf ax33 (Zf ax31 (Zf ax3 (Zj _))))) 400 _ _ _ (by kernel_rfl)
theorem ax45:Zd Yir 109 [.agg [.bool false, .sl 1 [.int .u32 1]], .agg [.bool false, .sl 1 [.int .u32 2]]] (.agg [.bool false, .sl 1 [.int .u32 1]]):=Zs Qc (Zj _) 400 _ _ _ (by kernel_rfl)
theorem ax46:Zd Yir 109 [.agg [.bool false, .sl 1 [.int .u32 1]], .agg [.bool true, .sl 1 [.int .u32 1]]] (.agg [.bool false, .sl 1 [.int .u32 1]]):=Zs Qc (Zj _) 400 _ _ _ (by kernel_rfl)
theorem ax47:Zd Yir 64 [.sl 2 [.bool true, .sl 1 [.int .u32 1], .bool false, .sl 1 [.int .u32 2]], .sl 1 [.bool false, .sl 1 [.int .u32 1]]] (.fresh 2 0 []):=Zs Qc (Zf ax46 (Zf ax45 (Zf ax38 (Zf ax35 (Zf ax21 (Zj _)))))) 400 _ _ _ (by kernel_rfl)
theorem ax48:Zd Yir 98 [.agg [.bool false, .sl 0 [], .int .i64 0], .agg [.bool false, .sl 1 [.int .u32 1], .int .i64 0]] (.int .i64 (-1)):=Zs Qc (Zj _) 400 _ _ _ (by kernel_rfl)
theorem ax49:Zd Yir 78 [.sl 3 [.bool false, .sl 0 [], .bool true, .sl 1 [.int .u32 1], .bool false, .sl 1 [.int .u32 1]], .agg [.bool false, .sl 0 [], .int .i64 0]] (.int .i64 0):=Zs Qc (Zj _) 400 _ _ _ (by kernel_rfl)
theorem ax50:Zd Yir 78 [.sl 2 [.bool true, .sl 1 [.int .u32 1], .bool false, .sl 1 [.int .u32 2]], .agg [.bool false, .sl 0 [], .int .i64 0]] (.int .i64 (-1)):=Zs Qc (Zj _) 400 _ _ _ (by kernel_rfl)
theorem ax51:Zd Yir 78 [.sl 3 [.bool false, .sl 0 [], .bool true, .sl 1 [.int .u32 1], .bool false, .sl 1 [.int .u32 1]], .agg [.bool false, .sl 1 [.int .u32 1], .int .i64 0]] (.int .i64 0):=Zs Qc (Zj _) 400 _ _ _ (by kernel_rfl)
theorem ax52:Zd Yir 78 [.sl 2 [.bool true, .sl 1 [.int .u32 1], .bool false, .sl 1 [.int .u32 2]], .agg [.bool false, .sl 1 [.int .u32 1], .int .i64 0]] (.int .i64 1):=Zs Qc (Zj _) 400 _ _ _ (by kernel_rfl)
theorem ax53:Zd Yir 78 [.sl 1 [.bool false, .sl 1 [.int .u32 1]], .agg [.bool false, .sl 1 [.int .u32 1], .int .i64 0]] (.int .i64 1):=Zs Qc (Zj _) 400 _ _ _ (by kernel_rfl)
theorem ax54:Zd Yir 50 [.sl 3 [.bool false, .sl 0 [], .bool true, .sl 1 [.int .u32 1], .bool false, .sl 1 [.int .u32 1]], .agg [.bool false, .sl 0 [], .int .i64 0], .agg [.bool false, .sl 1 [.int .u32 1], .int .i64 0]] (.tup [.int .i64 1, .int .i64 0]):=Zs Qc (Zf ax53 (Zf ax52 (Zf ax51 (Zf ax50 (Zf ax49 (Zf ax48 (Zf ax47 (Zf ax44 (Zf ax39 (Zf ax35 (Zf ax33 (Zf ax32 (Zf ax26 (Zj _)))))))))))))) 400 _ _ _ (by kernel_rfl)
theorem ax55:Zd Yir 95 [.sl 3 [.bool true, .sl 1 [.int .u32 2], .bool false, .sl 0 [], .bool false, .sl 1 [.int .u32 1]]] (.tup [.sl 3 [.sl 3 [.bool true, .sl 1 [.int .u32 2], .bool false, .sl 0 [], .bool false, .sl 1 [.int .u32 1]], .sl 2 [.bool false, .sl 0 [], .bool false, .sl 1 [.int .u32 1]], .sl 1 [.bool false, .sl 1 [.int .u32 1]]], .int .i64 0]):=Zs Qc (Zf ax22 (Zf ax21 (Zf ax20 (Zf ax14 (Zf ax9 (Zf ax8 (Zf ax5 (Zf ax4 (Zj _))))))))) 400 _ _ _ (by kernel_rfl)
theorem ax56:Zd Yir 107 [.agg [.bool false, .sl 1 [.int .u32 1], .int .i64 0], .agg [.bool false, .sl 1 [.int .u32 2], .int .i64 0]] (.agg [.bool false, .sl 1 [.int .u32 3], .int .i64 1]):=Zs Qc (Zj _) 400 _ _ _ (by kernel_rfl)
end Go.Proofs.Ythnnfemologhfaa

namespace Go.Proofs.Ythnnfemologhfaa
open Go.IntKind (i64 u64 u32)
open Go.Ai
set_option maxRecDepth 100000
theorem ax57:Zd Yir 47 [] (.bool true):=Zs Qc (Zf ax56 (Zf ax55 (Zf ax54 (Zf ax30 (Zf ax1 (Zf ax0 (Zj _))))))) 400 _ _ _ (by kernel_rfl)
theorem Yrun47:Zd Yir 47 [] (.bool true):=ax57
end Go.Proofs.Ythnnfemologhfaa

namespace Go.Proofs.Ythnnfemologhfaa
open Go.IntKind (i64 u64 u32)
open Go.Ai
set_option maxRecDepth 100000
theorem Zd3 {n k:Nat} (h:n<32*k):Jh k ((2:Int)^n):=by
 unfold Jh
 rw[Int.natAbs_pow]
 show 2^n<4294967296^k
 rw[show (4294967296:Nat)=2^32 by decide,← Nat.pow_mul]
 exact Nat.pow_lt_pow_right (by decide) h
theorem Zio {a b:Nat} (ha:a≤4096) (hb:b≤4096):i64.wrap ((if (b:Int)>(a:Int) then (b:Int) else (a:Int))-(a:Int))=((max a b-a:Nat):Int):=by
 split <;> rw[w64 (by omega) (by omega)] <;> omega
theorem Zin {a b:Nat} (ha:a≤4096) (hb:b≤4096):i64.wrap ((if (b:Int)>(a:Int) then (b:Int) else (a:Int))-(b:Int))=((max a b-b:Nat):Int):=by
 split <;> rw[w64 (by omega) (by omega)] <;> omega
theorem Zau {a b c:Int} (hc:0<c):Uw (a*c) (b*c)=Uw a b:=by
 unfold Uw
 have h1:a*c<b*c↔a<b:=Int.mul_lt_mul_right hc
 have h2:b*c<a*c↔b<a:=Int.mul_lt_mul_right hc
 simp only[h1,h2]
theorem Zox (X Y:Int) (a b:Nat):Uw (X*2^(max a b-a)) (Y*2^(max a b-b))=Uw (X*2^b) (Y*2^a):=by
 have h:=Zau (a:=X*2^(max a b-a)) (b:=Y*2^(max a b-b)) (J2 (min a b))
 rw[← h,Int.mul_assoc,Int.mul_assoc,← Int.pow_add,← Int.pow_add,show max a b-a+min a b=b by omega,show max a b-b+min a b=a by omega]
def dyR (r:Rn) (e:Int):AV := .agg [.bool r.1, .sl r.2.length (lm r.2), .int .i64 e]
def vE (e:Int):Bool:=decide (e≥0)&&decide (e≤4096)
theorem N5 {r:Rn} {e:Int} (hg:J4 200 r):Zd Yir 97 [dyR r e] (.bool (vE e)):=by
 unfold vE
 by_cases h1:e≥0
 ·by_cases h2:e≤4096
  ·have hs:=D2 (neg:=r.1) hg.1 (by have:=hg.2;omega)
   have hl:=U7 (neg:=r.1) hg.1
   have h2':=hg.2
   have k:=Zjn r e _ (decide_eq_true h1) (decide_eq_true h2) hs
   rw[decide_eq_true (show (((Zb (rv r.1 r.2).natAbs).length:Nat):Int)≤256 by omega)] at k
   rw[decide_eq_true h1,decide_eq_true h2]
   exact k
  ·rw[decide_eq_true h1,decide_eq_false h2]
   exact Zjm r e (decide_eq_true h1) (decide_eq_false h2)
 ·rw[decide_eq_false h1,Bool.false_and]
  exact Zjl r e (decide_eq_false h1)
theorem E7 {r:Rn} (hr:J4 8 r) {n:Nat} (hn:n≤4096):Zd Yir 124 [Z5 r, .int .i64 (n:Nat)] (Zp (Zt r*2^n))∧Zd Yir 126 [Z5 r, .int .i64 (n:Nat)] (F3 (Zt r*2^n))∧Jh 137 (Zt r*2^n):=by
 have h2:=hr.2
 exact⟨R2 hr.1 n (by omega) (by omega),Zn7 hr.1 n (by omega),(hr.fits.mul (Zd3 (k:=129) (by omega))).mono (by omega)⟩
section
variable {r t:Rn} (hr:J4 8 r) (ht:J4 8 t)
include hr ht
end
end Go.Proofs.Ythnnfemologhfaa
