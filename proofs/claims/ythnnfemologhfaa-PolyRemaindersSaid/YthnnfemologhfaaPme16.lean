/- Texts of the proof of PolyRemainders, packed by pack.py: part 16 of 20. -/
import Derived.Test.YthnnfemologhfaaPme15
namespace Go.Proofs.Ythnnfemologhfaa
open Go.IntKind (i64 u64 u32)
open Go.Ai
set_option maxRecDepth 100000
def mixL (E rs:List Rn) (i:Nat):List Rn:=E.take i++rs.drop i
theorem mixL_zero (E rs:List Rn):mixL E rs 0=rs:=by simp [mixL]
theorem mixL_full {E rs:List Rn} (h:E.length=rs.length):mixL E rs rs.length=E:=by
 unfold mixL;rw [List.drop_length,List.append_nil,List.take_of_length_le (by omega)]
theorem mixL_length {E rs:List Rn} (h:E.length=rs.length) (i:Nat):(mixL E rs i).length=rs.length:=by
 unfold mixL;rw [List.length_append,List.length_take,List.length_drop];omega
theorem mixL_get {E rs:List Rn} (h:E.length=rs.length) {i:Nat} (hi:i<rs.length):(mixL E rs i).getD i z0=rs.getD i z0:=by
 unfold mixL
 rw [List.getD_eq_getElem?_getD,List.getD_eq_getElem?_getD,List.getElem?_append_right (by rw [List.length_take];omega),List.length_take,List.getElem?_drop]
 congr 2;omega
theorem mixL_set {E rs:List Rn} (h:E.length=rs.length) {i:Nat} (hi:i<rs.length):(mixL E rs i).set i (E.getD i z0)=mixL E rs (i+1):=by
 have hpi:E[i]?=some (E.getD i z0):=by rw [List.getD_eq_getElem?_getD,List.getElem?_eq_getElem (by omega)];rfl
 apply List.ext_getElem?
 intro t
 have hl:=mixL_length h i
 unfold mixL at *
 rcases Nat.lt_trichotomy t i with g | g | g
 ·rw [List.getElem?_set_ne (by omega),List.getElem?_append_left (by rw [List.length_take];omega),List.getElem?_append_left (by rw [List.length_take];omega),List.getElem?_take_of_lt g,List.getElem?_take_of_lt (by omega)]
 ·subst g
  rw [List.getElem?_set_self (by omega),List.getElem?_append_left (by rw [List.length_take];omega),List.getElem?_take_of_lt (by omega),hpi]
 ·rw [List.getElem?_set_ne (by omega),List.getElem?_append_right (by rw [List.length_take];omega),List.getElem?_append_right (by rw [List.length_take];omega),List.length_take,List.length_take,List.getElem?_drop,List.getElem?_drop]
  congr 1;omega
theorem mcn_get (p:List Int) (i:Nat):rval ((p.map cn).getD i z0)=p.getD i 0:=by rw [← vals_getD,vals_cn]
theorem mcn_getD {p:List Int} {i:Nat} (h:i<p.length):(p.map cn).getD i z0=cn (p.getD i 0):=by
 rw [List.getD_eq_getElem?_getD,List.getElem?_map,List.getD_eq_getElem?_getD,List.getElem?_eq_getElem h];rfl
theorem mcn_good {K:Nat} {p:List Int} (h:Kb K p):∀ r∈p.map cn,Good K r:=good_cns h.mem
theorem set_getD {rs:List Rn} {i:Nat} {r:Rn} (h:i<rs.length):(rs.set i r).getD i z0=r:=by
 simp [List.getD_eq_getElem?_getD,h]
theorem wmul_cn {x y:Rn} {J K:Nat} (hx:Good J x) (hy:Good K y) (h:J+K≤1048576):Runs Yir 113 [rawAV x,rawAV y] (bigAV (rval x*rval y)):=wmul_run hx.1 hy.1 (by have:=hx.2;have:=hy.2;omega)
theorem wsub_cn {x y:Rn} {J K:Nat} (hx:Good J x) (hy:Good K y) (h:J<1048576) (h2:K<1048576):Runs Yir 114 [rawAV x,rawAV y] (bigAV (rval x-rval y)):=wsub_run hx.1 hy.1 (by have:=hx.2;omega) (by have:=hy.2;omega)
section
variable {p d:List Int} {J Kd:Nat}
theorem rem_inner {a b:Int} {t:Rn} (hp:Kb J p) (hd:Kb Kd d) (ha:Fits Kd a) (hb:Fits J b) (hS:J+Kd+1<1048576) (hl:d.length≤p.length) (hN:p.length≤1048576) :
  RunsW Yir (.loop Yc64i) (Ys64i (d.map cn) p.length (p.map cn) t (cn a) (cn b) ((p.length-d.length:Nat):Int) (p.length:Nat) 0) (.exit 2)
   (Ys64i (d.map cn) p.length ((estN p d a b p.length).map cn) t (cn a) (cn b) ((p.length-d.length:Nat):Int) (p.length:Nat) (p.length:Nat)):=by
 have hE:((estN p d a b p.length).map cn).length=(p.map cn).length:=by rw [List.length_map,List.length_map,estN_length]
 have hpl:(p.map cn).length=p.length:=List.length_map ..
 have h:=RunsW.up (prog:=Yir) (c:=Yc64i) (ex := .exit 2) (fin:=Ys64i (d.map cn) p.length ((estN p d a b p.length).map cn) t (cn a) (cn b) ((p.length-d.length:Nat):Int) (p.length:Nat) (p.length:Nat))
  (fun i=>Ys64i (d.map cn) p.length (mixL ((estN p d a b p.length).map cn) (p.map cn) i) t (cn a) (cn b) ((p.length-d.length:Nat):Int) (p.length:Nat) (i:Nat)) p.length (by intro e;cases e) ?_ ?_ 0 (Nat.zero_le _)
 ·rw [mixL_zero] at h;exact h
 ·intro i hi
  have ei:i64.wrap ((i:Int)+1)=((i+1:Nat):Int):=by rw [w64 (by omega) (by omega)];omega
  have hml:=mixL_length hE i
  have hget:=mixL_get hE (i:=i) (by omega)
  have hEi:((estN p d a b p.length).map cn).getD i z0=cn ((estN p d a b p.length).getD i 0):=mcn_getD (by rw [estN_length];exact hi)
  have hest:=getD_estN p d a b p.length i
  rw [if_pos hi] at hest
  have hset:=mixL_set hE (i:=i) (by omega)
  rw [hEi] at hset
  have gp:=good_getD (mcn_good hp) i
  have ga:=good_cn ha
  have gb:=good_cn hb
  have vi:=mcn_get p i
  generalize mixL ((estN p d a b p.length).map cn) (p.map cn) i=M at *
  by_cases hat:p.length-d.length≤i
  ·rw [if_pos hat] at hest
   have ea:i64.wrap ((i:Int)-((p.length-d.length:Nat):Int))=((i-(p.length-d.length):Nat):Int):=by rw [w64 (by omega) (by omega)];omega
   have gq:=good_getD (mcn_good hd) (i-(p.length-d.length))
   have vq:=mcn_get d (i-(p.length-d.length))
   have m1:=wmul_cn gp ga (by omega)
   have m2:=wmul_cn gb gq (by omega)
   have f1:Fits (J+Kd) (rval ((p.map cn).getD i z0)*rval (cn a)):=gp.fits.mul (by rw [rval_cn];exact ha)
   have f2:Fits (J+Kd) (rval (cn b)*rval ((d.map cn).getD (i-(p.length-d.length)) z0)):=Fits.mul (by rw [rval_cn];exact hb) gq.fits
   have m3:=wsub_cn (good_cn f1) (good_cn f2) (by omega) (by omega)
   rw [rval_cn (rval (cn b)*rval ((d.map cn).getD (i-(p.length-d.length)) z0))] at m3
   have k:=Yk64i_1 (d.map cn) p.length M t (cn a) (cn b) ((p.length-d.length:Nat):Int) (p.length:Nat) (i:Nat) (by simp;omega) (by rw [decide_eq_true_eq];omega) (by omega) (by omega) (by rw [List.length_set];omega) (by rw [ea,List.length_map];omega)
    (by rw [Int.toNat_natCast,hget];exact m1) (by rw [ea,Int.toNat_natCast];exact m2) (by
     simp only [ea,Int.toNat_natCast,hget]
     rw [set_getD (by omega)]
     exact m3)
   refine k.to rfl ?_
   simp only [ea,ei,Int.toNat_natCast,hget]
   rw [set_getD (by omega),List.set_set,rval_cn (rval ((p.map cn).getD i z0)*rval (cn a)),vi,vq,rval_cn,rval_cn,Int.mul_comm (p.getD i 0) a,← hest]
   rw [hset]
  ·rw [if_neg hat] at hest
   have m1:=wmul_cn gp ga (by omega)
   have k:=Yk64i_2 (d.map cn) p.length M t (cn a) (cn b) ((p.length-d.length:Nat):Int) (p.length:Nat) (i:Nat) (by simp;omega) (by rw [decide_eq_false_iff_not];omega) (by omega) (by omega) (by rw [Int.toNat_natCast,hget];exact m1)
   refine k.to rfl ?_
   simp only [ei,Int.toNat_natCast,hget]
   rw [vi,rval_cn,Int.mul_comm (p.getD i 0) a,← hest,hset]
 ·rw [show mixL ((estN p d a b p.length).map cn) (p.map cn) p.length=(estN p d a b p.length).map cn by have h:=mixL_full hE;rw [hpl] at h;exact h]
  exact Yk64i_3 (d.map cn) p.length _ t _ _ _ _ _ (by simp)
theorem gcd_ne {a b:Int} (h:a ≠ 0):0<Int.gcd a b:=by
 rw [Int.gcd];exact Nat.gcd_pos_of_pos_left _ (by omega)
theorem rem_step (hp:Kb J p) (hd:Kb Kd d) (hS:J+Kd+1<1048576) (hd0:d ≠ []) (ht:top d ≠ 0) (hl:d.length≤p.length) (hN:p.length≤1048576) :
  RunsW Yir Yc64 (Ys64 (d.map cn) p.length (p.map cn) (cn (top d))) .norm (Ys64 (d.map cn) (pstep p d).length ((pstep p d).map cn) (cn (top d))):=by
 have hdl:=List.length_pos_iff.2 hd0
 have e1:i64.wrap ((p.length:Int)-1)=((p.length-1:Nat):Int):=by rw [w64 (by omega) (by omega)];omega
 have e2:i64.wrap ((p.length:Int)-(((d.map cn).length:Nat):Int))=((p.length-d.length:Nat):Int):=by rw [List.length_map,w64 (by omega) (by omega)];omega
 have gt:=good_cn (kb_top hd)
 have gl:=good_getD (mcn_good hp) (p.length-1)
 have vl:rval ((p.map cn).getD (p.length-1) z0)=top p:=mcn_get p (p.length-1)
 have hgp:=gcd_ne (a:=top d) (b:=top p) ht
 have hgcd:=wgcd_run (na:=(cn (top d)).1) (nb:=((p.map cn).getD (p.length-1) z0).1) gt.1 gl.1 (by have:=gt.2;omega) (by have:=gl.2;omega)
 rw [show rv (cn (top d)).1 (cn (top d)).2=top d from rval_cn _,show rv ((p.map cn).getD (p.length-1) z0).1 ((p.map cn).getD (p.length-1) z0).2=top p from vl] at hgcd
 have hd1:((Int.gcd (top d) (top p):Nat):Int)∣top d:=Int.gcd_dvd_left ..
 have hd2:((Int.gcd (top d) (top p):Nat):Int)∣top p:=Int.gcd_dvd_right ..
 have hd3:((Int.gcd (top d) (top p):Nat):Int)∣(((top d).natAbs:Nat):Int):=Int.dvd_natAbs.2 hd1
 have hgle:Fits Kd ((Int.gcd (top d) (top p):Nat):Int):=by
  have:=kb_top hd
  unfold Fits at *
  rw [Int.natAbs_natCast]
  have:=Nat.le_of_dvd (by omega) (Int.ofNat_dvd_left.1 hd1)
  omega
 have gg:=good_cn hgle
 have habs:=wabs_run (neg:=(cn (top d)).1) gt.1 (by have:=gt.2;omega)
 rw [show rv (cn (top d)).1 (cn (top d)).2=top d from rval_cn _] at habs
 have gab:=good_cn (fits_abs (kb_top hd))
 have q1:=wquo_run (na:=(cn (((top d).natAbs:Nat):Int)).1) (nb:=(cn ((Int.gcd (top d) (top p):Nat):Int)).1) gab.1 gg.1 (by rw [show rv (cn ((Int.gcd (top d) (top p):Nat):Int)).1 (cn ((Int.gcd (top d) (top p):Nat):Int)).2=(Int.gcd (top d) (top p):Nat) from rval_cn _];omega) (by have:=gab.2;omega) (by have:=gg.2;omega)
 rw [show rv (cn ((Int.gcd (top d) (top p):Nat):Int)).1 (cn ((Int.gcd (top d) (top p):Nat):Int)).2=(Int.gcd (top d) (top p):Nat) from rval_cn _,show rv (cn (((top d).natAbs:Nat):Int)).1 (cn (((top d).natAbs:Nat):Int)).2=((top d).natAbs:Nat) from rval_cn _] at q1
 have q2:=wquo_run (na:=((p.map cn).getD (p.length-1) z0).1) (nb:=(cn ((Int.gcd (top d) (top p):Nat):Int)).1) gl.1 gg.1 (by rw [show rv (cn ((Int.gcd (top d) (top p):Nat):Int)).1 (cn ((Int.gcd (top d) (top p):Nat):Int)).2=(Int.gcd (top d) (top p):Nat) from rval_cn _];omega) (by have:=gl.2;omega) (by have:=gg.2;omega)
 rw [show rv (cn ((Int.gcd (top d) (top p):Nat):Int)).1 (cn ((Int.gcd (top d) (top p):Nat):Int)).2=(Int.gcd (top d) (top p):Nat) from rval_cn _,show rv ((p.map cn).getD (p.length-1) z0).1 ((p.map cn).getD (p.length-1) z0).2=top p from vl] at q2
 have hG:(0:Int)<((Int.gcd (top d) (top p):Nat):Int):=by omega
 have x1:=Int.mul_ediv_cancel' hd3
 have x2:=Int.mul_ediv_cancel' hd2
 rw [tdiv_exact hG hd3] at q1
 rw [tdiv_exact hG hd2] at q2
 have hsg:=wsign_run (neg:=(cn (top d)).1) gt.1 (by have:=gt.2;omega)
 rw [show rv (cn (top d)).1 (cn (top d)).2=top d from rval_cn _] at hsg
 -- sizes of the factors
 have fa:Fits Kd ((((top d).natAbs:Nat):Int) / ((Int.gcd (top d) (top p):Nat):Int)):=by
  rcases fits_div (fits_abs (kb_top hd)) (Int.gcd (top d) (top p)) with g | g
  ·exact g
  ·exact absurd hd3 g
 have fb:Fits J (top p / ((Int.gcd (top d) (top p):Nat):Int)):=by
  rcases fits_div (kb_top hp) (Int.gcd (top d) (top p)) with g | g
  ·exact g
  ·exact absurd hd2 g
 generalize hGd:((Int.gcd (top d) (top p):Nat):Int)=G at *
 generalize hx:(((top d).natAbs:Nat):Int) / G=x at *
 generalize hy:top p / G=y at *
 have pst:∀ b:Int,G*b=sg (top d)*top p→pstep p d=prim (estN p d x b p.length):=by
  intro b hb
  have h:=pstep_prog (r:=p) (d:=d) (c:=1) (g:=G) (a:=x) (b:=b) (by decide) hG x1 hb
  rwa [show psmul 1 d=d by unfold psmul;simp] at h
 have fin:∀ b:Int,G*b=sg (top d)*top p→Fits J b→Runs Yir 86 [.sl p.length (pc ((estN p d x b p.length).map cn))] (.fresh 2 ((pstep p d).map cn).length (pc ((pstep p d).map cn))):=by
  intro b hb fb'
  have hK:=kb_estN hp hd fa fb' p.length
  have h:=aprimitive_run (rs:=(estN p d x b p.length).map cn) (mcn_good hK) (by omega) (by rw [List.length_map,estN_length];exact hN)
  rw [vals_cn,← pst b hb,List.length_map,estN_length] at h
  rw [List.length_map]
  exact h
 by_cases hneg:top d<0
 ·have hng:=wneg_run (neg:=(cn y).1) (xs:=(cn y).2) (big_u32 _) (by have:=fb.len;rw [cn_len];omega)
  rw [show rv (cn y).1 (cn y).2=y from rval_cn _] at hng
  have hb:G * -y=sg (top d)*top p:=by unfold sg;rw [if_pos hneg,Int.mul_neg,x2];omega
  have hin:=rem_inner (t:=cn (top d)) hp hd fa fb.neg hS hl hN
  have k:=Yk64_1 (d.map cn) p.length (p.map cn) (cn (top d)) _ _ _ _ G _ x y (-y) _ _ (sgnI (top d)) _ _ _ (by rw [decide_eq_true_eq,List.length_map];omega) (by unfold sgnI;rw [if_pos hneg];rfl) (by rw [e1];omega) (by rw [List.length_map]) (by rw [e1,Int.toNat_natCast];exact hgcd) habs q1 (by rw [e1,Int.toNat_natCast];exact q2) hsg hng (by rw [e2];exact hin) (fin (-y) hb fb.neg)
  rw [List.length_map] at k
  exact k
 ·have hb:G*y=sg (top d)*top p:=by unfold sg;rw [if_neg hneg,x2];omega
  have hin:=rem_inner (t:=cn (top d)) hp hd fa fb hS hl hN
  have k:=Yk64_2 (d.map cn) p.length (p.map cn) (cn (top d)) _ _ _ _ G _ x y _ _ (sgnI (top d)) _ _ _ (by rw [decide_eq_true_eq,List.length_map];omega) (by unfold sgnI;rw [if_neg hneg];split <;> rfl) (by rw [e1];omega) (by rw [List.length_map]) (by rw [e1,Int.toNat_natCast];exact hgcd) habs q1 (by rw [e1,Int.toNat_natCast];exact q2) hsg (by rw [e2];exact hin) (fin y hb fb)
  rw [List.length_map] at k
  exact k
end
theorem rem_loop {d:List Int} {Kd:Nat} (hd:Kb Kd d) (hd0:d ≠ []) (ht:top d ≠ 0):∀ (f:Nat) (p:List Int) (J:Nat),p.length≤f→Kb J p→J+(p.length+1-d.length)*(Kd+1)<1048576→p.length≤1048576 →
  RunsW Yir (.loop Yc64) (Ys64 (d.map cn) p.length (p.map cn) (cn (top d))) (.exit 0) (Ys64 (d.map cn) (restN f p d).length ((restN f p d).map cn) (cn (top d))):=by
 have hdl:=List.length_pos_iff.2 hd0
 intro f
 induction f with
 | zero =>
  intro p J hf _ _ _
  exact RunsW.loop_out (Yk64_3 (d.map cn) p.length (p.map cn) (cn (top d)) (by rw [decide_eq_false_iff_not,List.length_map];omega)) (by intro e;cases e)
 | succ f ih =>
  intro p J hf hJ hS hN
  simp only [restN]
  split
  ·rename_i hl
   have hplen:=pstep_length hd0 hl
   have e:((pstep p d).length+1-d.length)+1≤p.length+1-d.length:=by omega
   have:=Nat.mul_le_mul_right (Kd+1) e
   rw [Nat.add_mul,Nat.one_mul] at this
   have h1:=rem_step hJ hd (by
    have h2:1*(Kd+1)≤(p.length+1-d.length)*(Kd+1):=Nat.mul_le_mul_right _ (by omega)
    omega) hd0 ht hl hN
   exact RunsW.loop h1 (ih (pstep p d) (J+Kd+1) (by omega) (kb_pstep hJ hd) (by omega) (by omega))
  ·rename_i hl
   exact RunsW.loop_out (Yk64_3 (d.map cn) p.length (p.map cn) (cn (top d)) (by rw [decide_eq_false_iff_not,List.length_map];omega)) (by intro e;cases e)
theorem aremainder_run {rs ss:List Rn} {J K:Nat} (hr:∀ r∈rs,Good J r) (hs:∀ r∈ss,Good K r) (hJ:J<1048576) (hK:K<1048576) (hn:rs.length≤1048576) (hm:ss.length≤1048576) (h0:prim (vals ss) ≠ []) (hS:J+((prim (vals rs)).length+1-(prim (vals ss)).length)*(K+1)<1048576) :
  Runs Yir 64 [.sl rs.length (pc rs), .sl ss.length (pc ss)] (.fresh 2 (prest (prim (vals rs)) (prim (vals ss))).length (pk (prest (prim (vals rs)) (prim (vals ss))))):=by
 have p1:=aprimitive_run hr hJ hn
 have p2:=aprimitive_run hs hK hm
 have k1:Kb J (prim (vals rs)):=(kb_of (fits_vals hr)).prim
 have k2:Kb K (prim (vals ss)):=(kb_of (fits_vals hs)).prim
 have l1:(prim (vals rs)).length≤rs.length:=by rw [prim_length];have:=trim_len (vals rs);rwa [vals_length] at this
 have l2:(prim (vals ss)).length≤ss.length:=by rw [prim_length];have:=trim_len (vals ss);rwa [vals_length] at this
 have hl:=List.length_pos_iff.2 h0
 have ht:top (prim (vals ss)) ≠ 0:=lead_top (lead_prim _) h0
 have hlp:=rem_loop k2 h0 ht (prim (vals rs)).length (prim (vals rs)) J (Nat.le_refl _) k1 hS (by omega)
 have e1:i64.wrap (((((prim (vals ss)).map cn).length:Nat):Int)-1)=(((prim (vals ss)).length-1:Nat):Int):=by rw [List.length_map,w64 (by omega) (by omega)];omega
 have p1':Runs Yir 86 [.sl rs.length (pc rs)] (.fresh 2 ((prim (vals rs)).map cn).length (pc ((prim (vals rs)).map cn))):=by rw [List.length_map];exact p1
 have p2':Runs Yir 86 [.sl ss.length (pc ss)] (.fresh 2 ((prim (vals ss)).map cn).length (pc ((prim (vals ss)).map cn))):=by rw [List.length_map];exact p2
 have k:=Yrun64 rs ss _ _ ((prest (prim (vals rs)) (prim (vals ss))).map cn) (cn (top (prim (vals ss)))) (prest (prim (vals rs)) (prim (vals ss))).length p1' p2' (by rw [e1,List.length_map];omega) (by
  rw [e1,Int.toNat_natCast,mcn_getD (show (prim (vals ss)).length-1<(prim (vals ss)).length by omega),List.length_map]
  exact hlp)
 exact k
theorem com_loop:∀ (f:Nat) (x y:List Int) (M:Nat),0<M→y.length≤f→y.length≤x.length→x.length≤1048576→prim x=x→prim y=y→Kb (M-1) x→Kb (M-1) y→M*phi x.length y.length≤500000 →
  ∃ bs,RunsW Yir (.loop Yc65) (Ys65 (x.map cn) (y.map cn)) (.exit 0) (Ys65 ((pcomN f x y).map cn) bs):=by
 intro f
 induction f with
 | zero =>
  intro x y M _ h1 _ _ _ _ _ _ _
  have:y=[]:=List.eq_nil_of_length_eq_zero (by omega)
  subst this
  exact ⟨_,RunsW.loop_out (Yk65_2 _ _ (by simp)) (by intro e;cases e)⟩
 | succ f ih =>
  intro x y M hM h1 h2 h3 px py kx ky hphi
  simp only [pcomN]
  split
  ·rename_i h
   subst h
   exact ⟨_,RunsW.loop_out (Yk65_2 _ _ (by simp)) (by intro e;cases e)⟩
  ·rename_i h
   have hyl:=List.length_pos_iff.2 h
   obtain ⟨r1,r2,r3⟩:=prest_ok hM (lead_of_prim px) h kx ky h2
   have hM':0<M*(x.length-y.length+2):=Nat.mul_pos hM (by omega)
   have hMle:M≤M*(x.length-y.length+2):=Nat.le_mul_of_pos_right M (by omega)
   have hbig:M*(x.length-y.length+2)≤500000:=by
    refine Nat.le_trans (Nat.mul_le_mul_left _ ?_) hphi
    unfold phi
    exact Nat.le_mul_of_pos_right _ (Nat.pow_pos (by decide))
   have hrem:=aremainder_run (rs:=x.map cn) (ss:=y.map cn) (mcn_good kx) (mcn_good ky) (by omega) (by omega) (by rw [List.length_map];exact h3) (by rw [List.length_map];omega) (by rw [vals_cn,py];exact h) (by
    rw [vals_cn,vals_cn,px,py,Nat.sub_add_cancel hM,show x.length+1-y.length=x.length-y.length+1 by omega,Nat.mul_comm _ M]
    have:M*(x.length-y.length+2)=M*(x.length-y.length+1)+M:=by rw [← Nat.mul_succ]
    omega)
   rw [vals_cn,vals_cn,px,py] at hrem
   have hrem':Runs Yir 64 [.sl (x.map cn).length (pc (x.map cn)), .sl (y.map cn).length (pc (y.map cn))] (.fresh 2 ((prest x y).map cn).length (pc ((prest x y).map cn))):=by
    have hlm:((prest x y).map cn).length=(prest x y).length:=List.length_map ..
    rw [hlm];exact hrem
   have k:=Yk65_1 (x.map cn) (y.map cn) _ (by simp;omega) hrem'
   obtain ⟨bs,hb⟩:=ih y (prest x y) (M*(x.length-y.length+2)) hM' (by omega) (by omega) (by omega) py (prim_restN _ _ _ px) (ky.mono (by omega)) r3 (phi_next r2 hphi)
   exact ⟨bs,RunsW.loop k hb⟩
def RunsP (f:Nat) (args:List AV) (p:List Int):Prop:=Runs Yir f args (.fresh 2 (p.map cn).length (pc (p.map cn)))∨Runs Yir f args (.sl (p.map cn).length (pc (p.map cn)))
theorem apositive_P {p:List Int} {K:Nat} (hk:Kb K p) (hK:K≤1048576) (hN:p.length≤1048576) :
  (top p<0→Runs Yir 115 [.sl (p.map cn).length (pc (p.map cn))] (.fresh 2 ((ppos p).map cn).length (pc ((ppos p).map cn))))∧(¬ top p<0→Runs Yir 115 [.sl (p.map cn).length (pc (p.map cn))] (.sl (p.map cn).length (pc (p.map cn)))):=by
 have h:=apositive_run (rs:=p.map cn) (fun r hr=>(mcn_good hk r hr).mono hK) (by rw [List.length_map];exact hN)
 rw [vals_cn] at h
 refine ⟨fun hn => ?_,h.2⟩
 have h1:=h.1 hn
 have e:ppos p=pneg p:=by unfold ppos;rw [if_pos hn]
 have hl:((pneg p).map cn).length=(p.map cn).length:=by rw [List.length_map,List.length_map,pneg_len]
 rw [e,hl]
 exact h1
theorem ppos_not {p:List Int} (h:¬ top p<0):ppos p=p:=by unfold ppos;rw [if_neg h]
theorem pcomN_size:∀ (f:Nat) (x y:List Int) (M:Nat),0<M→y.length≤f→y.length≤x.length→Lead x→Lead y→Kb (M-1) x→Kb (M-1) y→Kb (M*phi x.length y.length-1) (pcomN f x y)∧(pcomN f x y).length≤x.length:=by
 intro f
 induction f with
 | zero =>
  intro x y M hM _ h2 _ _ kx _
  refine ⟨kx.mono ?_,Nat.le_refl _⟩
  have:M*1≤M*phi x.length y.length:=Nat.mul_le_mul_left _ (by unfold phi;exact Nat.mul_pos (by omega) (Nat.pow_pos (by decide)))
  omega
 | succ f ih =>
  intro x y M hM h1 h2 lx ly kx ky
  simp only [pcomN]
  split
  ·refine ⟨kx.mono ?_,Nat.le_refl _⟩
   have:M*1≤M*phi x.length y.length:=Nat.mul_le_mul_left _ (by unfold phi;exact Nat.mul_pos (by omega) (Nat.pow_pos (by decide)))
   omega
  ·rename_i h
   have hyl:=List.length_pos_iff.2 h
   obtain ⟨r1,r2,r3⟩:=prest_ok hM lx h kx ky h2
   have hM':0<M*(x.length-y.length+2):=Nat.mul_pos hM (by omega)
   have hMle:M≤M*(x.length-y.length+2):=Nat.le_mul_of_pos_right M (by omega)
   obtain ⟨a,b⟩:=ih y (prest x y) (M*(x.length-y.length+2)) hM' (by omega) (by omega) ly r1 (ky.mono (by omega)) r3
   exact ⟨a.mono (Nat.sub_le_sub_right (phi_next r2 (Nat.le_refl _)) 1),by omega⟩
theorem acommon_core {rs ss:List Rn} {g:List Int} {bs:List Rn} {K:Nat} (hr:∀ r∈rs,Good K r) (hs:∀ r∈ss,Good K r) (hK:K<1048576) (hn:rs.length≤1048576) (hm:ss.length≤1048576) {Kg:Nat} (hg:Kb Kg g) (hKg:Kg≤1048576) (hgl:g.length≤1048576)
  (hl:RunsW Yir (.loop Yc65) (Ys65 ((prim (vals rs)).map cn) ((prim (vals ss)).map cn)) (.exit 0) (Ys65 (g.map cn) bs)) :
  RunsP 65 [.sl rs.length (pc rs), .sl ss.length (pc ss)] (ppos g):=by
 have p1:=aprimitive_run hr hK hn
 have p2:=aprimitive_run hs hK hm
 have p1':Runs Yir 86 [.sl rs.length (pc rs)] (.fresh 2 ((prim (vals rs)).map cn).length (pc ((prim (vals rs)).map cn))):=by rw [List.length_map];exact p1
 have p2':Runs Yir 86 [.sl ss.length (pc ss)] (.fresh 2 ((prim (vals ss)).map cn).length (pc ((prim (vals ss)).map cn))):=by rw [List.length_map];exact p2
 obtain ⟨q1,q2⟩:=apositive_P hg hKg hgl
 by_cases h:top g<0
 ·exact .inl (Yrun65_f rs ss _ _ (g.map cn) bs _ p1' p2' hl (q1 h))
 ·rw [ppos_not h]
  exact .inr (Yrun65_s rs ss _ _ (g.map cn) bs p1' p2' hl (q2 h))
theorem acommon_run {rs ss:List Rn} {K c:Nat} (hr:∀ r∈rs,Good K r) (hs:∀ r∈ss,Good K r) (hn:rs.length≤c) (hm:ss.length≤c) (hc:c≤1048576) (hS:(K+1)*(2*3^c)≤500000) :
  RunsP 65 [.sl rs.length (pc rs), .sl ss.length (pc ss)] (ppos (pgcd (prim (vals rs)) (prim (vals ss)))):=by
 have h3:0<3^c:=Nat.pow_pos (by decide)
 have hK:K+1≤500000:=by
  have:(K+1)*1≤(K+1)*(2*3^c):=Nat.mul_le_mul_left _ (by omega)
  omega
 have k1:Kb K (prim (vals rs)):=(kb_of (fits_vals hr)).prim
 have k2:Kb K (prim (vals ss)):=(kb_of (fits_vals hs)).prim
 have l1:(prim (vals rs)).length≤rs.length:=by rw [prim_length];have:=trim_len (vals rs);rwa [vals_length] at this
 have l2:(prim (vals ss)).length≤ss.length:=by rw [prim_length];have:=trim_len (vals ss);rwa [vals_length] at this
 unfold pgcd
 split
 ·rename_i hl
  have hphi:(K+1)*phi (prim (vals rs)).length (prim (vals ss)).length≤500000:=Nat.le_trans (Nat.mul_le_mul_left _ (phi_max hl (by omega))) hS
  obtain ⟨bs,hb⟩:=com_loop (prim (vals ss)).length (prim (vals rs)) (prim (vals ss)) (K+1) (by omega) (Nat.le_refl _) hl (by omega) (prim_prim _) (prim_prim _) k1 k2 hphi
  obtain ⟨s1,s2⟩:=pcomN_size (prim (vals ss)).length (prim (vals rs)) (prim (vals ss)) (K+1) (by omega) (Nat.le_refl _) hl (lead_prim _) (lead_prim _) k1 k2
  exact acommon_core hr hs (by omega) (by omega) (by omega) s1 (by omega) (by omega) hb
 ·rename_i hl
  have hphi:(K+1)*phi (prim (vals ss)).length (prim (vals rs)).length≤500000:=Nat.le_trans (Nat.mul_le_mul_left _ (phi_max (by omega) (by omega))) hS
  obtain ⟨bs,hb⟩:=com_loop (prim (vals rs)).length (prim (vals ss)) (prim (vals rs)) (K+1) (by omega) (Nat.le_refl _) (by omega) (by omega) (prim_prim _) (prim_prim _) k2 k1 hphi
  obtain ⟨s1,s2⟩:=pcomN_size (prim (vals rs)).length (prim (vals ss)) (prim (vals rs)) (K+1) (by omega) (Nat.le_refl _) (by omega) (lead_prim _) (lead_prim _) k2 k1
  -- one step that changes their places
  have hy0:prim (vals ss) ≠ []:=by intro h;rw [h] at hl;simp at hl
  have hsw:prest (prim (vals rs)) (prim (vals ss))=prim (vals rs):=by
   unfold prest
   cases hx:(prim (vals rs)).length with
   | zero=>rfl
   | succ n=>simp only [restN];rw [if_neg hl]
  have hrem:=aremainder_run (rs:=(prim (vals rs)).map cn) (ss:=(prim (vals ss)).map cn) (mcn_good k1) (mcn_good k2) (by omega) (by omega) (by rw [List.length_map];omega) (by rw [List.length_map];omega) (by rw [vals_cn,prim_prim];exact hy0) (by
   rw [vals_cn,vals_cn,prim_prim,prim_prim,show (prim (vals rs)).length+1-(prim (vals ss)).length=0 by omega,Nat.zero_mul];omega)
  rw [vals_cn,vals_cn,prim_prim,prim_prim,hsw] at hrem
  have hrem':Runs Yir 64 [.sl ((prim (vals rs)).map cn).length (pc ((prim (vals rs)).map cn)), .sl ((prim (vals ss)).map cn).length (pc ((prim (vals ss)).map cn))] (.fresh 2 ((prim (vals rs)).map cn).length (pc ((prim (vals rs)).map cn))):=by
   have hlm:((prim (vals rs)).map cn).length=(prim (vals rs)).length:=List.length_map ..
   rw [hlm] at hrem ⊢;exact hrem
  have k:=Yk65_1 ((prim (vals rs)).map cn) ((prim (vals ss)).map cn) _ (by rw [decide_eq_true_eq,List.length_map];omega) hrem'
  exact acommon_core hr hs (by omega) (by omega) (by omega) s1 (by omega) (by omega) (RunsW.loop k hb)
def TMB:Table:=TMA
theorem TMB_holds:THolds Yir TMB:=TMA_holds
end Go.Proofs.Ythnnfemologhfaa

namespace Go.Ai
open Go.IntKind (i64 u64 u32)
theorem pder_ext {p q:List Int} (h:∀ x,peval p x=peval q x) (x:Int):peval (pder p) x=peval (pder q) x :=
 peval_ext (fun i=>by rw [getD_pder,getD_pder,peval_inj' h]) x
theorem pder_cons (a:Int) (p:List Int) (x:Int):peval (pder (a::p)) x=peval p x+x*peval (pder p) x:=by
 have h:∀ i,(pder (a::p)).getD i 0=(padd p (0::pder p)).getD i 0:=by
  intro i
  rw [getD_padd,getD_pder,List.getD_cons_succ]
  cases i with
  | zero=>simp
  | succ i=>rw [List.getD_cons_succ,getD_pder];push_cast;grind
 rw [peval_ext h x,peval_padd]
 simp [peval]
theorem pder_add (p q:List Int) (x:Int):peval (pder (padd p q)) x=peval (pder p) x+peval (pder q) x:=by
 rw [← peval_padd]
 exact peval_ext (fun i=>by rw [getD_padd,getD_pder,getD_pder,getD_pder,getD_padd,Int.add_mul]) x
theorem pder_smul (c:Int) (p:List Int) (x:Int):peval (pder (psmul c p)) x=c*peval (pder p) x:=by
 rw [← peval_psmul]
 exact peval_ext (fun i=>by rw [getD_psmul,getD_pder,getD_pder,getD_psmul,Int.mul_assoc]) x
theorem pder_nil:pder []=[]:=rfl
theorem pder_mul (p q:List Int) (x:Int):peval (pder (pmul p q)) x=peval (pder p) x*peval q x+peval p x*peval (pder q) x:=by
 induction p with
 | nil=>simp [pmul,pder_nil,peval]
 | cons a p ih =>
  simp only [pmul]
  rw [pder_add,pder_smul,pder_cons,pder_cons,ih,peval_pmul]
  simp only [peval]
  generalize peval (pder p) x=A at *
  generalize peval (pder q) x=B at *
  grind
theorem pder_prod {r p q:List Int} (h:∀ x,peval r x=peval p x*peval q x) (x:Int):peval (pder r) x=peval (pder p) x*peval q x+peval p x*peval (pder q) x:=by
 rw [← pder_mul];exact pder_ext (fun x=>by rw [h x,peval_pmul]) x
theorem pder_scaled {p q:List Int} {c d:Int} (h:∀ x,c*peval p x=d*peval q x) (x:Int):c*peval (pder p) x=d*peval (pder q) x:=by
 rw [← pder_smul,← pder_smul];exact pder_ext (fun x=>by rw [peval_psmul,peval_psmul,h x]) x
theorem pder_len (p:List Int):(pder p).length≤p.length-1:=by
 unfold pder
 have:=trim_len ((List.range (p.length-1)).map fun j=>p.getD (j+1) 0*((j+1:Nat):Int))
 simpa using this
theorem kb_pder {K:Nat} {p:List Int} (h:Kb K p) (hl:p.length≤1048576):Kb (K+2) (pder p):=fun i=>by
 rw [getD_pder]
 by_cases hi:i<1048576
 ·refine ((h (i+1)).mul (k:=1) ?_).mono (by omega)
  unfold Fits;rw [Int.natAbs_natCast];omega
 ·rw [getD_end (xs:=p) (by omega),Int.zero_mul];exact fits_zero _
def ppow (h:List Int):Nat→List Int
 | 0=>[1]
 | k+1=>pmul (ppow h k) h
theorem ppow_der (h:List Int):∀ (k:Nat) (x:Int),peval (pder (ppow h k)) x*peval h x=(k:Int)*peval (ppow h k) x*peval (pder h) x
 | 0,x=>by simp [ppow,pder,peval,trimL,topN]
 | k+1,x=>by
  have ih:=ppow_der h k x
  simp only [ppow]
  rw [pder_mul,peval_pmul]
  push_cast
  generalize peval (pder (ppow h k)) x=A at *
  generalize peval (ppow h k) x=B at *
  generalize peval (pder h) x=C at *
  generalize peval h x=H at *
  have:(A*H+B*C)*H=(A*H)*H+B*C*H:=by grind
  rw [this,ih];grind
theorem ppow_length {h:List Int} (hh:trimL h ≠ []):∀ k,trimL (ppow h k) ≠ []∧(trimL (ppow h k)).length=k*((trimL h).length-1)+1
 | 0=>by
  have e:trimL (ppow h 0)=[1]:=rfl
  rw [e];simp
 | k+1=>by
  obtain ⟨a,b⟩:=ppow_length hh k
  have h1:=List.length_pos_iff.2 hh
  have e:=pmul_ne a hh
  have e2:(trimL (ppow h (k+1))).length=(k+1)*((trimL h).length-1)+1:=by
   simp only [ppow]
   rw [e,b,Nat.add_mul,Nat.one_mul];omega
  refine ⟨?_,e2⟩
  intro h0
  rw [h0] at e2
  simp at e2
theorem square_free {a G f h:List Int} {c:Int} (ha:trimL a ≠ []) (hG:IsG G a (pder a)) (hc:c ≠ 0) (hf:∀ x,c*peval a x=peval G x*peval f x) (h1:Dv h f) (h2:Dv h (pder f)):(trimL h).length=1:=by
 obtain ⟨g1,⟨c2,e,hc2,he⟩,c3,u,v,hc3,hb⟩:=hG
 have hG0:trimL G ≠ []:=(g1.length ha).2
 have hf0:trimL f ≠ []:=by
  intro h0
  have:trimL a=trimL []:=by
   apply peval_inj
   intro x
   have h3:=hf x
   rw [peval_zero_of_trim h0,Int.mul_zero] at h3
   rcases Int.mul_eq_zero.1 h3 with g | g
   ·exact absurd g hc
   ·exact g
  exact ha this
 have hh0:trimL h ≠ []:=(h1.length hf0).2
 -- f and e have no common divisor
 have hC:∀ x,c*c2*c3=c2*peval u x*peval f x+c*peval v x*peval e x:=by
  have h3:=cancel_fn hG0 [c*c2*c3] (padd (psmul c2 (pmul u f)) (psmul c (pmul v e))) (fun x=>by
   have a1:=hf x;have a2:=he x;have a3:=hb x
   rw [peval_padd,peval_psmul,peval_psmul,peval_pmul,peval_pmul]
   simp only [peval]
   generalize peval G x=G at *
   generalize peval f x=f at *
   generalize peval e x=e at *
   generalize peval u x=u at *
   generalize peval v x=v at *
   generalize peval (pder a) x=a' at *
   generalize peval a x=a at *
   have e1:G*(c*c2*c3+x*0)=c*c2*(c3*G):=by grind
   rw [e1,a3]
   have e2:c*c2*(u*a+v*a')=c2*u*(c*a)+c*v*(c2*a'):=by grind
   rw [e2,a1,a2];grind)
  intro x
  have h4:=h3 x
  rw [peval_padd,peval_psmul,peval_psmul,peval_pmul,peval_pmul] at h4
  simp only [peval,Int.mul_zero,Int.add_zero] at h4
  grind
 -- the derivative of a
 have hd:∀ x,c*(peval G x*peval e x)=c2*(peval (pder G) x*peval f x+peval G x*peval (pder f) x):=by
  intro x
  have a1:=pder_prod (r:=psmul c a) (p:=G) (q:=f) (fun x=>by rw [peval_psmul];exact hf x) x
  rw [pder_smul] at a1
  have a2:=he x
  rw [← a1,← a2];grind
 obtain ⟨c4,t,hc4,ht⟩:=h1
 obtain ⟨c5,w,hc5,hw⟩:=h2
 have hft:∀ x,c4*peval (pder f) x=peval (pder h) x*peval t x+peval h x*peval (pder t) x:=by
  intro x
  have a1:=pder_prod (r:=psmul c4 f) (p:=h) (q:=t) (fun x=>by rw [peval_psmul];exact ht x) x
  rw [pder_smul] at a1
  exact a1
 -- all powers of h divide G
 have hk:∀ k,Dv (ppow h k) G:=by
  intro k
  induction k with
  | zero=>exact ⟨1,G,by decide,fun x=>by simp [ppow,peval]⟩
  | succ k ih =>
   obtain ⟨ck,s,hck,hs⟩:=ih
   obtain ⟨p1,_⟩:=ppow_length hh0 k
   -- the derivative of G
   have hGs:∀ x,ck*peval (pder G) x=peval (pder (ppow h k)) x*peval s x+peval (ppow h k) x*peval (pder s) x:=by
    intro x
    have a1:=pder_prod (r:=psmul ck G) (p:=ppow h k) (q:=s) (fun x=>by rw [peval_psmul];exact hs x) x
    rw [pder_smul] at a1
    exact a1
   have hes:∀ x,c4*c5*c*(peval e x*peval s x)=peval h x*(c2*((k:Int)*peval s x*(c4*peval w x-c5*peval (pder t) x)+c5*(peval (pder s) x*peval t x)+c4*(peval s x*peval w x))):=by
    have h3:=cancel_fn (p:=pmul (ppow h k) h) (by
      intro h0
      have:=pmul_ne p1 hh0
      rw [h0] at this
      have:=List.length_pos_iff.2 p1
      have:=List.length_pos_iff.2 hh0
      simp at *
      omega) (psmul (c4*c5*c) (pmul e s)) (pmul h (psmul c2 (padd (padd (pmul (psmul (k:Int) s) (psub (psmul c4 w) (psmul c5 (pder t)))) (psmul c5 (pmul (pder s) t))) (psmul c4 (pmul s w))))) (fun x=>by
     have a1:=hd x;have a2:=ht x;have a3:=hw x;have a4:=hft x;have a5:=hs x;have a6:=hGs x;have a7:=ppow_der h k x
     simp only [peval_pmul,peval_psmul,peval_padd,peval_psub]
     generalize peval (pder (ppow h k)) x=P' at *
     generalize peval (pder G) x=G' at *
     generalize peval (pder f) x=f' at *
     generalize peval (pder h) x=h' at *
     generalize peval (pder t) x=t' at *
     generalize peval (pder s) x=s' at *
     generalize peval (ppow h k) x=P at *
     generalize peval G x=G at *
     generalize peval f x=f at *
     generalize peval e x=e at *
     generalize peval h x=h at *
     generalize peval t x=t at *
     generalize peval w x=w at *
     generalize peval s x=s at *
     have b1:P*h*(c4*c5*c*(e*s))=c4*c5*h*(c*((P*s)*e)):=by grind
     rw [b1,← a5]
     have b2:c4*c5*h*(c*(ck*G*e))=c4*c5*h*ck*(c*(G*e)):=by grind
     rw [b2,a1]
     have b3:c4*c5*h*ck*(c2*(G'*f+G*f'))=c5*c2*((ck*G')*h*(c4*f)+(ck*G)*h*(c4*f')):=by grind
     rw [b3,a6,a5,a2]
     have b4:(P'*s+P*s')*h*(h*t)=(P'*h)*s*h*t+P*s'*h*h*t:=by grind
     rw [b4,a7]
     have b5:(k:Int)*P*h'*s*h*t=(k:Int)*P*s*h*(h'*t):=by grind
     have b6:h'*t=c4*f'-h*t':=by omega
     rw [b5,b6]
     have b7:c5*c2*((k:Int)*P*s*h*(c4*f'-h*t')+P*s'*h*h*t+P*s*h*(c4*f'))=c2*((k:Int)*P*s*h*(c4*(c5*f')-c5*(h*t'))+c5*(P*s'*h*h*t)+P*s*h*(c4*(c5*f'))):=by grind
     rw [b7,a3];grind)
    intro x
    have h4:=h3 x
    simp only [peval_pmul,peval_psmul,peval_padd,peval_psub] at h4
    exact h4
   have d1:Dv h (pmul e s):=⟨c4*c5*c,psmul c2 (padd (padd (pmul (psmul (k:Int) s) (psub (psmul c4 w) (psmul c5 (pder t)))) (psmul c5 (pmul (pder s) t))) (psmul c4 (pmul s w))),Int.mul_ne_zero (Int.mul_ne_zero hc4 hc5) hc,fun x=>by
    simp only [peval_pmul,peval_psmul,peval_padd,peval_psub]
    exact hes x⟩
   have d2:Dv h (pmul f s):=Dv.mul_right s ⟨c4,t,hc4,ht⟩ (fun x=>peval_pmul _ _ x)
   have d3:Dv h s:=Dv.comb (m:=c*c2*c3) (psmul c2 u) (psmul c v) (Int.mul_ne_zero (Int.mul_ne_zero hc hc2) hc3) d2 d1 (fun x=>by
    rw [hC x]
    simp only [peval_pmul,peval_psmul]
    grind)
   obtain ⟨c6,s2,hc6,hs2⟩:=d3
   refine ⟨c6*ck,s2,Int.mul_ne_zero hc6 hck,fun x => ?_⟩
   have a1:=hs x;have a2:=hs2 x
   simp only [ppow]
   rw [peval_pmul,Int.mul_assoc,a1]
   have b1:c6*(peval (ppow h k) x*peval s x)=peval (ppow h k) x*(c6*peval s x):=by grind
   rw [b1,a2];grind
 have hh1:=List.length_pos_iff.2 hh0
 apply Classical.byContradiction
 intro hn
 have h3:=((hk (trimL G).length).length hG0).1
 rw [(ppow_length hh0 _).2] at h3
 have:(trimL G).length*1≤(trimL G).length*((trimL h).length-1):=Nat.mul_le_mul_left _ (by omega)
 omega
def pfree (p:List Int):List Int :=
 if (ppos (prim p)).length<2∨(pcom (ppos (prim p)) (pder (ppos (prim p)))).length<2 then ppos (prim p)
 else prim (divN (pcom (ppos (prim p)) (pder (ppos (prim p)))) ((ppos (prim p)).length-(pcom (ppos (prim p)) (pder (ppos (prim p)))).length+1) (ppos (prim p)) (List.replicate ((ppos (prim p)).length-(pcom (ppos (prim p)) (pder (ppos (prim p)))).length+1) 0))
theorem one_len {g:List Int} (h:g.length=1):∃ c,g=[c]:=by
 match g,h with
 | [c],_=>exact ⟨c,rfl⟩
theorem pfree_core {a:List Int} (la:Lead a) (h0:a ≠ []) (ca:cont a=1) (ta:0<top a) (f:List Int)
  (hf:f=if a.length<2∨(pcom a (pder a)).length<2 then a else prim (divN (pcom a (pder a)) (a.length-(pcom a (pder a)).length+1) a (List.replicate (a.length-(pcom a (pder a)).length+1) 0))) :
  Lead f∧cont f=1∧0<top f∧f ≠ []∧f.length=a.length-(pcom a (pder a)).length+1∧∃ c d:Int,c ≠ 0∧d ≠ 0∧∀ x,c*peval a x=d*(peval (pcom a (pder a)) x*peval f x):=by
 have hta:trimL a ≠ []:=nonzero_trim la h0
 have hG:=pcom_isG a (pder a)
 have lG:=lead_pcom a (pder a)
 have nG:=pcom_ne (t:=pder a) hta
 have tG:=top_pcom (t:=pder a) hta
 have hGl:=(hG.1.length hta).1
 rw [lG,la] at hGl
 have hal:=List.length_pos_iff.2 h0
 have hgl:=List.length_pos_iff.2 nG
 generalize pcom a (pder a)=G at *
 by_cases hs:a.length<2∨G.length<2
 ·rw [if_pos hs] at hf
  subst hf
  have hG1:G.length=1:=by omega
  obtain ⟨c,rfl⟩:=one_len hG1
  refine ⟨la,ca,ta,h0,by omega,c,1,?_,by decide,fun x=>by simp [peval]⟩
  have:top [c]=c:=rfl
  omega
 ·rw [if_neg hs] at hf
  obtain ⟨c',r',c1,r1,r2,r3⟩:=divN_start (p:=a) (q:=G) nG tG hGl
  generalize divN G (a.length-G.length+1) a (List.replicate (a.length-G.length+1) 0)=o at *
  have to:=quot_top c1 ta nG tG hGl r2 r3 r1
  have hr0:trimL r'=[]:=by
   apply Classical.byContradiction
   intro hn
   have hd:Dv G r':=Dv.comb (m:=1) [c'] (pneg o) (by decide) hG.1 (Dv.refl G) (fun x=>by
    have:=r3 x
    rw [peval_pneg];simp only [peval];grind)
   have h1:=(hd.length hn).1
   rw [lG] at h1
   have hl1:=List.length_pos_iff.2 hn
   have h2:=lead_top (lead_trim r') hn
   rw [getD_trim,r1 _ (by omega)] at h2
   exact h2 rfl
  have ho0:o ≠ []:=by intro h1;rw [h1] at r2;simp at r2
  have lo:Lead o:=lead_of (Or.inr (by unfold top at to;omega))
  obtain ⟨m,hm,hpe⟩:=prim_eval o
  subst hf
  refine ⟨lead_prim o,cont_prim (nonzero_trim lo ho0),top_prim_pos to,?_,by rw [prim_length,lo,r2],c',m,by omega,hm,fun x => ?_⟩
  ·intro h1;rw [prim_nil,← trim_nil,lo] at h1;exact ho0 h1
  ·rw [r3 x,peval_zero_of_trim hr0,hpe x];grind
theorem ppos_ok {p:List Int} (hp:trimL p ≠ []):Lead (ppos (prim p))∧ppos (prim p) ≠ []∧cont (ppos (prim p))=1∧0<top (ppos (prim p))∧(ppos (prim p)).length=(trimL p).length∧∃ m:Int,m ≠ 0∧∃ n:Int,n ≠ 0∧∀ x,n*peval p x=m*peval (ppos (prim p)) x:=by
 have h1:prim p ≠ []:=by intro h;rw [prim_nil,← trim_nil] at h;exact hp h
 obtain ⟨m,hm,h2⟩:=prim_eval p
 obtain ⟨n,hn,h3⟩:=ppos_eval (prim p)
 refine ⟨lead_ppos (lead_prim p),?_,by rw [cont_ppos];exact cont_prim hp,top_ppos (lead_prim p) h1,by rw [ppos_length,prim_length],m,hm,n,hn,fun x=>by rw [h2 x,h3 x];grind⟩
 intro h
 have:=congrArg List.length h
 rw [ppos_length] at this
 exact h1 (List.eq_nil_of_length_eq_zero this)
theorem pfree_ok {p:List Int} (hp:trimL p ≠ []):Lead (pfree p)∧cont (pfree p)=1∧0<top (pfree p)∧pfree p ≠ []∧Dv (pfree p) p ∧
  (pfree p).length+(pcom (ppos (prim p)) (pder (ppos (prim p)))).length=(trimL p).length+1∧IsG (pcom (ppos (prim p)) (pder (ppos (prim p)))) p (pder p)∧(pcom (pfree p) (pder (pfree p))).length=1:=by
 obtain ⟨la,h0,ca,ta,hl,m,hm,n,hn,hpe⟩:=ppos_ok hp
 obtain ⟨lf,cf,tf,f0,fl,c,d,hc,hd,hcd⟩:=pfree_core la h0 ca ta (pfree p) rfl
 have hta:trimL (ppos (prim p)) ≠ []:=nonzero_trim la h0
 have hG:=pcom_isG (ppos (prim p)) (pder (ppos (prim p)))
 have lG:=lead_pcom (ppos (prim p)) (pder (ppos (prim p)))
 have nG:=pcom_ne (t:=pder (ppos (prim p))) hta
 have hGl:=(hG.1.length hta).1
 rw [lG,la] at hGl
 have hder:∀ x,n*peval (pder p) x=m*peval (pder (ppos (prim p))) x:=pder_scaled hpe
 generalize ppos (prim p)=a at *
 generalize pcom a (pder a)=G at *
 generalize pfree p=f at *
 have hal:=List.length_pos_iff.2 h0
 have hgl:=List.length_pos_iff.2 nG
 refine ⟨lf,cf,tf,f0,?_,by omega,?_,?_⟩
 ·have h1:Dv f a:=⟨c,psmul d G,hc,fun x=>by rw [hcd x,peval_psmul];grind⟩
  exact h1.scaled hn hpe
 ·exact hG.scaled hn hm hn hm hpe hder
 ·have hK:=pcom_isG f (pder f)
  have nK:=pcom_ne (t:=pder f) (nonzero_trim lf f0)
  have lK:=lead_pcom f (pder f)
  have h1:=square_free (h:=pcom f (pder f)) (f:=psmul d f) (c:=c) hta hG hc (fun x=>by rw [hcd x,peval_psmul];grind)
   (hK.1.scaled (m:=1) (n:=d) (by decide) (fun x=>by rw [peval_psmul];omega)) (hK.2.1.scaled (m:=1) (n:=d) (by decide) (fun x=>by rw [pder_smul];omega))
  rwa [lK] at h1
theorem kb_pfree {p:List Int} {K:Nat} (hp:trimL p ≠ []) (hl:p.length≤9) (hK:Kb K p):Kb (K+3) (pfree p)∧(pfree p).length≤(trimL p).length:=by
 obtain ⟨lf,cf,tf,f0,hd,_,_,_⟩:=pfree_ok hp
 have h1:=(hd.length hp).1
 rw [lf] at h1
 obtain ⟨c,k,hc,hk⟩:=hd
 have:=trim_len p
 exact ⟨gauss_small hc cf hp hl (by omega) hK hk,h1⟩
end Go.Ai

namespace Go.Proofs.Ythnnfemologhfaa
open Go.IntKind (i64 u64 u32)
open Go.Ai
set_option maxRecDepth 100000
theorem mixL_same {E rs:List Rn} {m:Nat} (hl:E.length=rs.length) (h:∀ x,x<m→E.getD x z0=rs.getD x z0):mixL E rs m=rs:=by
 apply List.ext_getElem?
 intro t
 unfold mixL
 by_cases ht:t<m
 ·by_cases hm:t<E.length
  ·have:=h t ht
   rw [List.getD_eq_getElem?_getD,List.getD_eq_getElem?_getD,List.getElem?_eq_getElem hm,List.getElem?_eq_getElem (by omega)] at this
   rw [List.getElem?_append_left (by rw [List.length_take];omega),List.getElem?_take_of_lt ht,List.getElem?_eq_getElem hm,List.getElem?_eq_getElem (by omega)]
   simpa using this
  ·rw [List.getElem?_eq_none (by rw [List.length_append,List.length_take,List.length_drop];omega),List.getElem?_eq_none (by omega)]
 ·by_cases hm:m≤E.length
  ·rw [List.getElem?_append_right (by rw [List.length_take];omega),List.length_take,List.getElem?_drop]
   congr 1;omega
  ·rw [List.getElem?_eq_none (by rw [List.length_append,List.length_take,List.length_drop];omega),List.getElem?_eq_none (by omega)]
theorem mixL_rest {E rs:List Rn} {m:Nat} (hl:E.length=rs.length) (hm:m≤rs.length) (h:∀ x,m≤x→E.getD x z0=rs.getD x z0):mixL E rs m=E:=by
 apply List.ext_getElem?
 intro t
 unfold mixL
 by_cases ht:t<m
 ·rw [List.getElem?_append_left (by rw [List.length_take];omega),List.getElem?_take_of_lt ht]
 ·rw [List.getElem?_append_right (by rw [List.length_take];omega),List.length_take,List.getElem?_drop,show m+(t-min m E.length)=t by omega]
  by_cases hm:t<E.length
  ·have:=h t (by omega)
   rw [List.getD_eq_getElem?_getD,List.getD_eq_getElem?_getD,List.getElem?_eq_getElem hm,List.getElem?_eq_getElem (by omega)] at this
   rw [List.getElem?_eq_getElem hm,List.getElem?_eq_getElem (by omega)]
   simpa using this.symm
  ·rw [List.getElem?_eq_none (by omega),List.getElem?_eq_none (by omega)]
section
variable {p q:List Int} {J Kq:Nat}
theorem kb_psmul {c:Int} (hp:Kb J p) (hc:Fits Kq c):Kb (J+Kq) (psmul c p):=fun i=>by
 rw [getD_psmul,Nat.add_comm];exact hc.mul (hp i)
theorem div_a {t:Int} {l:Rn} {qs os:List Rn} {kq:Nat} {j:Int} (hp:Kb J p) (ht:Fits Kq t) (hS:J+Kq<1048576) (hN:p.length≤1048576) :
  RunsW Yir (.loop Yc116a) (Ys116a qs p.length (p.map cn) (cn t) kq os j l (p.length:Nat) 0) (.exit 2) (Ys116a qs p.length ((psmul t p).map cn) (cn t) kq os j l (p.length:Nat) (p.length:Nat)):=by
 have hE:((psmul t p).map cn).length=(p.map cn).length:=by rw [List.length_map,List.length_map,psmul_length]
 have hpl:(p.map cn).length=p.length:=List.length_map ..
 have h:=RunsW.up (prog:=Yir) (c:=Yc116a) (ex := .exit 2) (fin:=Ys116a qs p.length ((psmul t p).map cn) (cn t) kq os j l (p.length:Nat) (p.length:Nat))
  (fun i=>Ys116a qs p.length (mixL ((psmul t p).map cn) (p.map cn) i) (cn t) kq os j l (p.length:Nat) (i:Nat)) p.length (by intro e;cases e) ?_ ?_ 0 (Nat.zero_le _)
 ·rw [mixL_zero] at h;exact h
 ·intro i hi
  have ei:i64.wrap ((i:Int)+1)=((i+1:Nat):Int):=by rw [w64 (by omega) (by omega)];omega
  have hml:=mixL_length hE i
  have hget:=mixL_get hE (i:=i) (by omega)
  have hEi:((psmul t p).map cn).getD i z0=cn ((psmul t p).getD i 0):=mcn_getD (by rw [psmul_length];exact hi)
  have hset:=mixL_set hE (i:=i) (by omega)
  rw [hEi,getD_psmul] at hset
  have gp:=good_getD (mcn_good hp) i
  have gt:=good_cn ht
  have vi:=mcn_get p i
  have m1:=wmul_cn gp gt (by omega)
  generalize mixL ((psmul t p).map cn) (p.map cn) i=M at *
  have k:=Yk116a_1 qs p.length M (cn t) kq os j l (p.length:Nat) (i:Nat) (by simp;omega) (by omega) (by omega) (by rw [Int.toNat_natCast,hget];exact m1)
  refine k.to rfl ?_
  simp only [ei,Int.toNat_natCast,hget]
  rw [vi,rval_cn,Int.mul_comm,hset]
 ·rw [show mixL ((psmul t p).map cn) (p.map cn) p.length=(psmul t p).map cn by have h:=mixL_full hE;rw [hpl] at h;exact h]
  exact Yk116a_2 _ _ _ _ _ _ _ _ _ _ (by simp)
theorem div_b {t:Int} {l:Rn} {qs rs:List Rn} {k:Nat} {j:Int} (hp:Kb J p) (ht:Fits Kq t) (hS:J+Kq<1048576) (hN:p.length≤1048576) :
  RunsW Yir (.loop Yc116b) (Ys116b qs k rs (cn t) p.length (p.map cn) j l (p.length:Nat) 0) (.exit 4) (Ys116b qs k rs (cn t) p.length ((psmul t p).map cn) j l (p.length:Nat) (p.length:Nat)):=by
 have hE:((psmul t p).map cn).length=(p.map cn).length:=by rw [List.length_map,List.length_map,psmul_length]
 have hpl:(p.map cn).length=p.length:=List.length_map ..
 have h:=RunsW.up (prog:=Yir) (c:=Yc116b) (ex := .exit 4) (fin:=Ys116b qs k rs (cn t) p.length ((psmul t p).map cn) j l (p.length:Nat) (p.length:Nat))
  (fun i=>Ys116b qs k rs (cn t) p.length (mixL ((psmul t p).map cn) (p.map cn) i) j l (p.length:Nat) (i:Nat)) p.length (by intro e;cases e) ?_ ?_ 0 (Nat.zero_le _)
 ·rw [mixL_zero] at h;exact h
 ·intro i hi
  have ei:i64.wrap ((i:Int)+1)=((i+1:Nat):Int):=by rw [w64 (by omega) (by omega)];omega
  have hml:=mixL_length hE i
  have hget:=mixL_get hE (i:=i) (by omega)
  have hEi:((psmul t p).map cn).getD i z0=cn ((psmul t p).getD i 0):=mcn_getD (by rw [psmul_length];exact hi)
  have hset:=mixL_set hE (i:=i) (by omega)
  rw [hEi,getD_psmul] at hset
  have gp:=good_getD (mcn_good hp) i
  have gt:=good_cn ht
  have vi:=mcn_get p i
  have m1:=wmul_cn gp gt (by omega)
  generalize mixL ((psmul t p).map cn) (p.map cn) i=M at *
  have k:=Yk116b_1 qs k rs (cn t) p.length M j l (p.length:Nat) (i:Nat) (by simp;omega) (by omega) (by omega) (by rw [Int.toNat_natCast,hget];exact m1)
  refine k.to rfl ?_
  simp only [ei,Int.toNat_natCast,hget]
  rw [vi,rval_cn,Int.mul_comm,hset]
 ·rw [show mixL ((psmul t p).map cn) (p.map cn) p.length=(psmul t p).map cn by have h:=mixL_full hE;rw [hpl] at h;exact h]
  exact Yk116b_2 _ _ _ _ _ _ _ _ _ _ (by simp)
theorem div_c {t:Rn} {l:Int} {os:List Rn} {kq j Jp:Nat} (hp:Kb Jp p) (hq:Kb Kq q) (hl:Fits J l) (hS:J+Kq<1048576) (hJp:Jp<1048576) (hN:p.length≤1048576) (hj:j+q.length≤p.length) :
  RunsW Yir (.loop Yc116c) (Ys116c (q.map cn) p.length (p.map cn) t kq os (j:Nat) (cn l) (q.length:Nat) 0) (.exit 6) (Ys116c (q.map cn) p.length ((subAt p q l j).map cn) t kq os (j:Nat) (cn l) (q.length:Nat) (q.length:Nat)):=by
 have hE:((subAt p q l j).map cn).length=(p.map cn).length:=by rw [List.length_map,List.length_map,subAt_length]
 have hpl:(p.map cn).length=p.length:=List.length_map ..
 have gE:∀ x,x<p.length→((subAt p q l j).map cn).getD x z0=cn (p.getD x 0-l*(shiftP j q).getD x 0):=fun x hx=>by
  rw [mcn_getD (by rw [subAt_length];exact hx),getD_subAt _ _ _ _ _ hj]
 have eout:∀ x,(x<j∨j+q.length≤x)→((subAt p q l j).map cn).getD x z0=(p.map cn).getD x z0:=by
  intro x hx
  by_cases h:x<p.length
  ·rw [gE x h,mcn_getD h,getD_shiftP]
   rcases hx with hx | hx
   ·rw [if_neg (by omega),Int.mul_zero,Int.sub_zero]
   ·rw [if_pos (by omega),getD_end (xs:=q) (show q.length≤x-j by omega),Int.mul_zero,Int.sub_zero]
  ·rw [List.getD_eq_getElem?_getD,List.getD_eq_getElem?_getD,List.getElem?_eq_none (by omega),List.getElem?_eq_none (by omega)]
 have h:=RunsW.up (prog:=Yir) (c:=Yc116c) (ex := .exit 6) (fin:=Ys116c (q.map cn) p.length ((subAt p q l j).map cn) t kq os (j:Nat) (cn l) (q.length:Nat) (q.length:Nat))
  (fun i=>Ys116c (q.map cn) p.length (mixL ((subAt p q l j).map cn) (p.map cn) (j+i)) t kq os (j:Nat) (cn l) (q.length:Nat) (i:Nat)) q.length (by intro e;cases e) ?_ ?_ 0 (Nat.zero_le _)
 ·rw [Nat.add_zero,mixL_same hE (fun x hx=>eout x (.inl hx))] at h;exact h
 ·intro i hi
  have ei:i64.wrap ((i:Int)+1)=((i+1:Nat):Int):=by rw [w64 (by omega) (by omega)];omega
  have eji:i64.wrap ((j:Int)+(i:Int))=((j+i:Nat):Int):=by rw [w64 (by omega) (by omega)];omega
  have hml:=mixL_length hE (j+i)
  have hget:=mixL_get hE (i:=j+i) (by omega)
  have hEi:=gE (j+i) (by omega)
  rw [getD_shiftP,if_pos (by omega),show j+i-j=i by omega] at hEi
  have hset:=mixL_set hE (i:=j+i) (by omega)
  rw [hEi] at hset
  have gp:=good_getD (mcn_good hp) (j+i)
  have gq:=good_getD (mcn_good hq) i
  have gl:=good_cn hl
  have vi:=mcn_get p (j+i)
  have vq:=mcn_get q i
  have m1:=wmul_cn gl gq (by omega)
  have f1:Fits (J+Kq) (rval (cn l)*rval ((q.map cn).getD i z0)):=Fits.mul (by rw [rval_cn];exact hl) gq.fits
  have m2:=wsub_cn gp (good_cn f1) (by omega) (by omega)
  rw [rval_cn (rval (cn l)*rval ((q.map cn).getD i z0))] at m2
  generalize mixL ((subAt p q l j).map cn) (p.map cn) (j+i)=M at *
  have k:=Yk116c_1 (q.map cn) p.length M t kq os (j:Nat) (cn l) (q.length:Nat) (i:Nat) (by simp;omega) (by rw [eji];omega) (by omega) (by rw [List.length_map];omega) (by rw [Int.toNat_natCast];exact m1) (by rw [eji,Int.toNat_natCast,Int.toNat_natCast,hget];exact m2)
  refine k.to rfl ?_
  simp only [ei,eji,Int.toNat_natCast,hget]
  rw [vi,vq,rval_cn,hset,Nat.add_assoc]
 ·rw [mixL_rest hE (by omega) (fun x hx=>eout x (.inr hx))]
  exact Yk116c_2 _ _ _ _ _ _ _ _ _ _ (by simp)
theorem kb_subAt {l:Int} (hp:Kb (J+Kq) p) (hq:Kb Kq q) (hl:Fits J l) (k:Nat) (hk:k+q.length≤p.length):Kb (J+Kq+1) (subAt p q l k):=fun i=>by
 rw [getD_subAt _ _ _ _ _ hk,getD_shiftP]
 split
 ·exact (hp i).add (hl.mul (hq _)).neg
 ·rw [Int.mul_zero,Int.sub_zero];exact (hp i).mono (by omega)
theorem kb_set {l:Int} (hp:Kb J p) (hl:Fits J l) (k:Nat):Kb J (p.set k l):=fun i=>by
 by_cases h:i=k
 ·subst h
  by_cases hi:i<p.length
  ·rw [List.getD_eq_getElem?_getD,List.getElem?_set_self hi];exact hl
  ·rw [getD_end (by rw [List.length_set];omega)];exact fits_zero _
 ·rw [getD_other (by omega)];exact hp i
end
theorem div_loop {q:List Int} {Kq:Nat} (hq:Kb Kq q) (hq0:q ≠ []):∀ (k:Nat) (r out:List Int) (J:Nat),Kb J r→Kb J out→J+k*(Kq+1)<1048576→k≤out.length→out.length+q.length=r.length+1→r.length≤1048576 →
  (∃ r',RunsW Yir (.loop Yc116) (Ys116 (q.map cn) r.length (r.map cn) (cn (top q)) out.length (out.map cn) ((k:Int)-1)) (.exit 0) (Ys116 (q.map cn) r.length r' (cn (top q)) out.length ((divN q k r out).map cn) (-1)))∧Kb (J+k*(Kq+1)) (divN q k r out)∧(divN q k r out).length=out.length:=by
 have hql:=List.length_pos_iff.2 hq0
 intro k
 induction k with
 | zero =>
  intro r out J _ ho _ _ _ _
  exact ⟨⟨_,RunsW.loop_out (Yk116_2 _ _ _ _ _ _ _ (by simp)) (by intro e;cases e)⟩,ho.mono (by omega),rfl⟩
 | succ k ih =>
  intro r out J hr ho hS hk hl hN
  simp only [divN]
  have hS':J+Kq+1+k*(Kq+1)<1048576:=by rw [Nat.add_mul,Nat.one_mul] at hS;omega
  have el:Fits J (r.getD (k+q.length-1) 0):=hr _
  have e1:((k+1:Nat):Int)-1=(k:Int):=by omega
  have e2:i64.wrap (i64.wrap ((k:Int)+(((q.map cn).length:Nat):Int))-1)=((k+q.length-1:Nat):Int):=by
   rw [List.length_map,w64 (n:=(k:Int)+(q.length:Nat)) (by omega) (by omega),w64 (by omega) (by omega)];omega
  have e3:(r.map cn).getD (k+q.length-1) z0=cn (r.getD (k+q.length-1) 0):=mcn_getD (by omega)
  have e4:i64.wrap ((k:Int)-1)=(k:Int)-1:=w64 (by omega) (by omega)
  have ft:Fits Kq (top q):=hq _
  generalize hlead:r.getD (k+q.length-1) 0=l at *
  have hps:=kb_psmul hr ft
  have hpo:=kb_psmul ho ft
  have la:=div_a (l:=cn l) (qs:=q.map cn) (os:=out.map cn) (kq:=out.length) (j:=(k:Nat)) hr ft (by omega) hN
  have lb:=div_b (l:=cn l) (qs:=q.map cn) (rs:=(psmul (top q) r).map cn) (k:=r.length) (j:=(k:Nat)) ho ft (by omega) (by omega)
  have hlc:=div_c (t:=cn (top q)) (l:=l) (os:=((psmul (top q) out).set k l).map cn) (kq:=out.length) (j:=k) (p:=psmul (top q) r) (J:=J) hps hq el (by omega) (by omega) (by rw [psmul_length];exact hN) (by rw [psmul_length];omega)
  rw [psmul_length] at hlc
  obtain ⟨⟨r',hr'⟩,kb,len⟩:=ih (subAt (psmul (top q) r) q l k) ((psmul (top q) out).set k l) (J+Kq+1) (kb_subAt hps hq el k (by rw [psmul_length];omega)) (kb_set (hpo.mono (by omega)) (el.mono (by omega)) k) hS' (by rw [List.length_set,psmul_length];omega) (by rw [List.length_set,psmul_length,subAt_length,psmul_length];exact hl) (by rw [subAt_length,psmul_length];exact hN)
  rw [List.length_set,psmul_length,subAt_length,psmul_length] at hr'
  refine ⟨⟨r',?_⟩,kb.mono (by rw [Nat.add_mul,Nat.one_mul];omega),by rw [len,List.length_set,psmul_length]⟩
  have hset:((psmul (top q) out).map cn).set k (cn l)=((psmul (top q) out).set k l).map cn:=by rw [List.map_set]
  have k1:=Yk116_1 (q.map cn) r.length (r.map cn) (cn (top q)) out.length (out.map cn) (k:Nat) ((psmul (top q) r).map cn) ((subAt (psmul (top q) r) q l k).map cn) ((psmul (top q) out).map cn) _ _ _ _ _ _ (by simp) (by rw [e2];omega) (List.length_map ..)
   (by rw [e2,Int.toNat_natCast,e3];exact la) (by rw [e2,Int.toNat_natCast,e3];exact lb) (by omega) (by rw [List.length_map,psmul_length]) (by rw [e2,Int.toNat_natCast,Int.toNat_natCast,e3,hset,List.length_map];exact hlc)
  rw [e2,Int.toNat_natCast,Int.toNat_natCast,e3,hset,e4] at k1
  rw [e1]
  exact RunsW.loop k1 hr'
theorem z0_cn:cn 0=z0:=rfl
theorem adivided_run {p q:List Int} {J K:Nat} (hp:Kb J p) (hq:Kb K q) (lp:Lead p) (hq0:q ≠ []) (hl:q.length≤p.length) (hN:p.length≤1000000) (hS:J+(p.length-q.length+1)*(K+1)<1048576) :
  Runs Yir 116 [.sl (p.map cn).length (pc (p.map cn)), .sl (q.map cn).length (pc (q.map cn))] (.fresh 2 ((prim (divN q (p.length-q.length+1) p (List.replicate (p.length-q.length+1) 0))).map cn).length (pc ((prim (divN q (p.length-q.length+1) p (List.replicate (p.length-q.length+1) 0))).map cn))):=by
 have hql:=List.length_pos_iff.2 hq0
 have htr:=atrim_run (rs:=p.map cn) (fun r h=>(mcn_good hp r h).mono (show J≤1048576 by omega)) (by rw [List.length_map];omega)
 rw [vals_cn,lp] at htr
 have htr':Runs Yir 92 [.sl (p.map cn).length (pc (p.map cn))] (.fresh 2 (p.map cn).length (pc (p.map cn))):=by rw [List.length_map] at htr ⊢;exact htr
 obtain ⟨⟨r',hlp⟩,kb,len⟩:=div_loop hq hq0 (p.length-q.length+1) p (List.replicate (p.length-q.length+1) 0) J hp (fun i=>by rw [getD_zeros];exact fits_zero _) hS (by simp) (by simp;omega) (by omega)
 rw [List.length_replicate] at hlp len
 have e1:i64.wrap ((((q.map cn).length:Nat):Int)-1)=((q.length-1:Nat):Int):=by rw [List.length_map,w64 (by omega) (by omega)];omega
 have e2:i64.wrap (i64.wrap ((((p.map cn).length:Nat):Int)-(((q.map cn).length:Nat):Int))+1)=((p.length-q.length+1:Nat):Int):=by
  rw [List.length_map,List.length_map,w64 (n:=(p.length:Int)-(q.length:Nat)) (by omega) (by omega),w64 (by omega) (by omega)];omega
 have e3:i64.wrap (((p.length-q.length+1:Nat):Int)-1)=((p.length-q.length+1:Nat):Int)-1:=w64 (by omega) (by omega)
 have hz:(List.replicate (p.length-q.length+1) (0:Int)).map cn=List.replicate (p.length-q.length+1) z0:=by rw [List.map_replicate,z0_cn]
 have hpr:=aprimitive_run (rs:=(divN q (p.length-q.length+1) p (List.replicate (p.length-q.length+1) 0)).map cn) (mcn_good kb) (by omega) (by rw [List.length_map];omega)
 rw [vals_cn] at hpr
 have hpr':=hpr
 rw [show ∀ o:List Int,(o.map cn).length=o.length from fun o=>List.length_map ..,len] at hpr'
 have k:=Yrun116 (p.map cn) (q.map cn) (p.map cn) ((prim (divN q (p.length-q.length+1) p (List.replicate (p.length-q.length+1) 0))).map cn) r' ((divN q (p.length-q.length+1) p (List.replicate (p.length-q.length+1) 0)).map cn) (cn (top q)) p.length (p.length-q.length+1) (-1) htr' (by rw [e1,List.length_map];omega) (by rw [e2];omega) (by
   rw [e1,e2,Int.toNat_natCast,Int.toNat_natCast,e3,repl_pc,← hz,mcn_getD (show q.length-1<q.length by omega),show (p.map cn).length=p.length from List.length_map ..]
   exact hlp) (by
   have hlm:((prim (divN q (p.length-q.length+1) p (List.replicate (p.length-q.length+1) 0))).map cn).length=(prim (divN q (p.length-q.length+1) p (List.replicate (p.length-q.length+1) 0))).length:=List.length_map ..
   rw [hlm];exact hpr')
 exact k
theorem afree_run {rs:List Rn} {K c:Nat} (hr:∀ r∈rs,Good K r) (hn:rs.length≤c) (hc:c≤9) (hS:(K+3)*(2*3^c)≤500000):RunsP 66 [.sl rs.length (pc rs)] (pfree (vals rs)):=by
 have h3:0<3^c:=Nat.pow_pos (by decide)
 have hK:K+3≤250000:=by
  have:(K+3)*2≤(K+3)*(2*3^c):=Nat.mul_le_mul_left _ (by omega)
  omega
 have p1:=aprimitive_run hr (by omega) (by omega)
 have p1':Runs Yir 86 [.sl rs.length (pc rs)] (.fresh 2 ((prim (vals rs)).map cn).length (pc ((prim (vals rs)).map cn))):=by rw [List.length_map];exact p1
 have k1:Kb K (prim (vals rs)):=(kb_of (fits_vals hr)).prim
 have l1:(prim (vals rs)).length≤rs.length:=by rw [prim_length];have:=trim_len (vals rs);rwa [vals_length] at this
 obtain ⟨q1,q2⟩:=apositive_P k1 (by omega) (by omega)
 have ka:Kb K (ppos (prim (vals rs))):=by
  unfold ppos;split
  ·intro i;rw [getD_pneg];exact (k1 i).neg
  ·exact k1
 have la:=ppos_length (prim (vals rs))
 have lda:Lead (ppos (prim (vals rs))):=lead_ppos (lead_prim _)
 have hpp:(¬ top (prim (vals rs))<0)→ppos (prim (vals rs))=prim (vals rs):=ppos_not
 have hder:=aderived_run (rs:=(ppos (prim (vals rs))).map cn) (mcn_good ka) (by omega) (by rw [List.length_map];omega)
 rw [vals_cn] at hder
 have hder':Runs Yir 75 [.sl ((ppos (prim (vals rs))).map cn).length (pc ((ppos (prim (vals rs))).map cn))] (.fresh 2 ((pder (ppos (prim (vals rs)))).map cn).length (pc ((pder (ppos (prim (vals rs)))).map cn))):=by
  have hlm:((pder (ppos (prim (vals rs)))).map cn).length=(pder (ppos (prim (vals rs)))).length:=List.length_map ..
  rw [hlm];exact hder
 have kd:Kb (K+2) (pder (ppos (prim (vals rs)))):=kb_pder ka (by omega)
 have ld:(pder (ppos (prim (vals rs)))).length≤c:=by have:=pder_len (ppos (prim (vals rs)));omega
 have hcom:=acommon_run (rs:=(ppos (prim (vals rs))).map cn) (ss:=(pder (ppos (prim (vals rs)))).map cn) (K:=K+2) (c:=c) (fun r h=>(mcn_good ka r h).mono (by omega)) (mcn_good kd) (by rw [List.length_map];omega) (by rw [List.length_map];exact ld) (by omega) hS
 rw [vals_cn,vals_cn] at hcom
 change RunsP 65 _ (pcom (ppos (prim (vals rs))) (pder (ppos (prim (vals rs))))) at hcom
 have hdiv:2≤(pcom (ppos (prim (vals rs))) (pder (ppos (prim (vals rs))))).length→Runs Yir 116 [.sl ((ppos (prim (vals rs))).map cn).length (pc ((ppos (prim (vals rs))).map cn)), .sl ((pcom (ppos (prim (vals rs))) (pder (ppos (prim (vals rs))))).map cn).length (pc ((pcom (ppos (prim (vals rs))) (pder (ppos (prim (vals rs))))).map cn))]
   (.fresh 2 ((prim (divN (pcom (ppos (prim (vals rs))) (pder (ppos (prim (vals rs))))) ((ppos (prim (vals rs))).length-(pcom (ppos (prim (vals rs))) (pder (ppos (prim (vals rs))))).length+1) (ppos (prim (vals rs))) (List.replicate ((ppos (prim (vals rs))).length-(pcom (ppos (prim (vals rs))) (pder (ppos (prim (vals rs))))).length+1) 0))).map cn).length (pc ((prim (divN (pcom (ppos (prim (vals rs))) (pder (ppos (prim (vals rs))))) ((ppos (prim (vals rs))).length-(pcom (ppos (prim (vals rs))) (pder (ppos (prim (vals rs))))).length+1) (ppos (prim (vals rs))) (List.replicate ((ppos (prim (vals rs))).length-(pcom (ppos (prim (vals rs))) (pder (ppos (prim (vals rs))))).length+1) 0))).map cn))):=by
  intro h2
  have hp0:trimL (vals rs) ≠ []:=by
   intro h0
   have:prim (vals rs)=[]:=prim_nil.2 (trim_nil.1 h0)
   rw [this] at h2
   exact absurd h2 (by decide)
  obtain ⟨a1,a2,_,_,_,_⟩:=ppos_ok hp0
  obtain ⟨b1,b2⟩:=kb_pcom (t:=pder (ppos (prim (vals rs)))) (nonzero_trim a1 a2) (by omega) ka
  rw [a1] at b2
  exact adivided_run ka b1 lda (by intro h0;rw [h0] at h2;exact absurd h2 (by decide)) b2 (by omega) (by
   have h4:(ppos (prim (vals rs))).length-(pcom (ppos (prim (vals rs))) (pder (ppos (prim (vals rs))))).length+1≤10:=by omega
   have h5:=Nat.mul_le_mul_right (K+3+1) h4
   have h6:3^2≤3^c:=Nat.pow_le_pow_right (by decide) (by omega)
   have h7:(K+3)*18≤(K+3)*(2*3^c):=Nat.mul_le_mul_left _ (by omega)
   omega)
 unfold pfree
 by_cases hs:(ppos (prim (vals rs))).length<2
 ·rw [if_pos (.inl hs)]
  by_cases ht:top (prim (vals rs))<0
  ·exact .inr (Yrun66_ff_1 rs _ _ (by rw [decide_eq_true_eq,List.length_map];omega) p1' (q1 ht))
  ·rw [hpp ht] at hs ⊢
   exact .inr (Yrun66_ss_1 rs _ (by rw [decide_eq_true_eq,List.length_map];omega) p1' (q2 ht))
 ·by_cases hg:(pcom (ppos (prim (vals rs))) (pder (ppos (prim (vals rs))))).length<2
  ·rw [if_pos (.inr hg)]
   by_cases ht:top (prim (vals rs))<0
   ·rcases hcom with h | h
    ·exact .inr (Yrun66_ff_2 rs _ _ _ _ (by rw [decide_eq_false_iff_not,List.length_map];omega) (by rw [decide_eq_true_eq,List.length_map];omega) p1' (q1 ht) hder' h)
    ·exact .inr (Yrun66_fs_2 rs _ _ _ _ (by rw [decide_eq_false_iff_not,List.length_map];omega) (by rw [decide_eq_true_eq,List.length_map];omega) p1' (q1 ht) hder' h)
   ·rw [hpp ht] at *
    rcases hcom with h | h
    ·exact .inr (Yrun66_sf_2 rs _ _ _ (by rw [decide_eq_false_iff_not,List.length_map];omega) (by rw [decide_eq_true_eq,List.length_map];omega) p1' (q2 ht) hder' h)
    ·exact .inr (Yrun66_ss_2 rs _ _ _ (by rw [decide_eq_false_iff_not,List.length_map];omega) (by rw [decide_eq_true_eq,List.length_map];omega) p1' (q2 ht) hder' h)
  ·rw [if_neg (by omega)]
   have hdiv:=hdiv (by omega)
   by_cases ht:top (prim (vals rs))<0
   ·rcases hcom with h | h
    ·exact .inl (Yrun66_ff_3 rs _ _ _ _ _ (by rw [decide_eq_false_iff_not,List.length_map];omega) (by rw [decide_eq_false_iff_not,List.length_map];omega) p1' (q1 ht) hder' h hdiv)
    ·exact .inl (Yrun66_fs_3 rs _ _ _ _ _ (by rw [decide_eq_false_iff_not,List.length_map];omega) (by rw [decide_eq_false_iff_not,List.length_map];omega) p1' (q1 ht) hder' h hdiv)
   ·rw [hpp ht] at *
    rcases hcom with h | h
    ·exact .inl (Yrun66_sf_3 rs _ _ _ _ (by rw [decide_eq_false_iff_not,List.length_map];omega) (by rw [decide_eq_false_iff_not,List.length_map];omega) p1' (q2 ht) hder' h hdiv)
    ·exact .inl (Yrun66_ss_3 rs _ _ _ _ (by rw [decide_eq_false_iff_not,List.length_map];omega) (by rw [decide_eq_false_iff_not,List.length_map];omega) p1' (q2 ht) hder' h hdiv)
def TMC:Table:=TMB
theorem TMC_holds:THolds Yir TMC:=TMB_holds
end Go.Proofs.Ythnnfemologhfaa

namespace Go.Proofs.Ythnnfemologhfaa
open Go.IntKind (i64 u64 u32)
open Go.Ai
set_option maxRecDepth 100000
def plA (p:List Int):AV := .sl (p.map cn).length (pc (p.map cn))
def plF (p:List Int):AV := .fresh 2 (p.map cn).length (pc (p.map cn))
theorem fr_cn {f:Nat} {args:List AV} {X:List Int} (h:Runs Yir f args (.fresh 2 X.length (pk X))):Runs Yir f args (.fresh 2 (X.map cn).length (pc (X.map cn))):=by
 rw [List.length_map];exact h
theorem mcn_top (p:List Int):rval ((p.map cn).getD (p.length-1) z0)=top p:=mcn_get p (p.length-1)
theorem qpositive_P {p:List Int} {K:Nat} (hk:Kb K p) (hL:Lead p) (hK:K≤1048576) (hN:p.length≤1048576) :
  (top p<0→Runs Yir 119 [plA p] (plF (ppos p)))∧(¬ top p<0→Runs Yir 119 [plA p] (plA p)):=by
 have hg:∀ r∈p.map cn,Good 1048576 r:=fun r hr=>(mcn_good hk r hr).mono hK
 have hlm:(p.map cn).length=p.length:=List.length_map ..
 by_cases h0:0<p.length
 ·have e1:i64.wrap ((((p.map cn).length:Nat):Int)-1)=((p.length-1:Nat):Int):=by rw [hlm,w64 (by omega) (by omega)];omega
  obtain ⟨g1,g2⟩:=good_getD hg (p.length-1)
  have hs:=rsign_run (neg:=((p.map cn).getD (p.length-1) z0).1) g1 g2
  have ht:rval ((p.map cn).getD (p.length-1) z0)=top p:=mcn_top p
  rw [show rv ((p.map cn).getD (p.length-1) z0).1 ((p.map cn).getD (p.length-1) z0).2=top p from ht] at hs
  refine ⟨fun h => ?_,fun h => ?_⟩
  ·have hn:=qneg_run hg (by omega)
   rw [vals_cn,lead_pneg hL] at hn
   have e:ppos p=pneg p:=by unfold ppos;rw [if_pos h]
   unfold plA plF
   rw [e]
   exact Yrun119_1 _ _ (by rw [decide_eq_true_eq];omega) (by rw [e1,Int.toNat_natCast,ht,decide_eq_true_eq];unfold sgnI;rw [if_pos h];decide) (by rw [e1];omega) (by rw [e1,Int.toNat_natCast,ht];exact hs) (fr_cn hn)
  ·exact Yrun119_2 _ (by rw [decide_eq_true_eq];omega) (by rw [e1,Int.toNat_natCast,ht,decide_eq_false_iff_not];unfold sgnI;rw [if_neg h];split <;> decide) (by rw [e1];omega) (by rw [e1,Int.toNat_natCast,ht];exact hs)
 ·have hz:p=[]:=List.eq_nil_of_length_eq_zero (by omega)
  subst hz
  refine ⟨fun h=>absurd h (by decide),fun _=>Yrun119_3 [] (by decide)⟩
theorem rval_absn (n:Int):rval (false,(cn n).2)=(n.natAbs:Int):=by
 show rv false (limbs n.natAbs)=_
 unfold rv;rw [limbs_val];simp
theorem rt_cn {x y:Rn} {J K:Nat} (hx:Good J x) (hy:Good K y) (h:J+K≤1048576):Runs Yir 105 [.agg [.bool x.1, .sl x.2.length (lm x.2)],rawAV y] (bigAV (rval x*rval y)):=rtimes_run hx.1 hy.1 (by have:=hx.2;have:=hy.2;omega)
theorem rm_cn {x y:Rn} {J K:Nat} (hx:Good J x) (hy:Good K y) (h:J<1048576) (h2:K<1048576):Runs Yir 118 [rawAV x,rawAV y] (bigAV (rval x-rval y)):=rminus_run hx.1 hy.1 (by have:=hx.2;omega) (by have:=hy.2;omega)
def gst (p d:List Int) (a b:Int) (j:Nat):Int:=if p.length-d.length≤j then a*p.getD j 0-b*d.getD (j-(p.length-d.length)) 0 else a*p.getD j 0
theorem gst_map (p d:List Int) (a b:Int) (n:Nat):((List.range n).map fun j=>cn (gst p d a b j))=(estN p d a b n).map cn:=by
 unfold estN gst;rw [List.map_map];rfl
section
variable {p d:List Int} {J Kd:Nat}
theorem qrest_inner {b:Int} (hp:Kb J p) (hd:Kb Kd d) (hb:Fits J b) (hS:J+Kd+1<1000000) (hd0:d ≠ []) (hl:d.length≤p.length) (hN:p.length≤1048576) :
  RunsW Yir (.loop Yc69i) (Ys69i (p.map cn) (d.map cn) (cn (top d)) (cn b) ((p.length-d.length:Nat):Int) 0 [] 0) (.exit 2)
   (Ys69i (p.map cn) (d.map cn) (cn (top d)) (cn b) ((p.length-d.length:Nat):Int) (p.length-1) (pc ((estN p d ((top d).natAbs:Int) b (p.length-1)).map cn)) ((p.length-1:Nat):Int)):=by
 have hdl:=List.length_pos_iff.2 hd0
 have hlm:(p.map cn).length=p.length:=List.length_map ..
 have hld:(d.map cn).length=d.length:=List.length_map ..
 have e1:i64.wrap ((((p.map cn).length:Nat):Int)-1)=((p.length-1:Nat):Int):=by rw [hlm,w64 (by omega) (by omega)];omega
 have h:=RunsW.up (prog:=Yir) (c:=Yc69i) (ex := .exit 2) (fin:=Ys69i (p.map cn) (d.map cn) (cn (top d)) (cn b) ((p.length-d.length:Nat):Int) (p.length-1) (pc ((estN p d ((top d).natAbs:Int) b (p.length-1)).map cn)) ((p.length-1:Nat):Int))
  (fun i=>Ys69i (p.map cn) (d.map cn) (cn (top d)) (cn b) ((p.length-d.length:Nat):Int) i (pc ((List.range i).map fun j=>cn (gst p d ((top d).natAbs:Int) b j))) (i:Nat)) (p.length-1) (by intro e;cases e) ?_ ?_ 0 (Nat.zero_le _)
 ·exact h
 ·intro i hi
  have ei:i64.wrap ((i:Int)+1)=((i+1:Nat):Int):=by rw [w64 (by omega) (by omega)];omega
  have gp:=good_getD (mcn_good hp) i
  have ga:Good Kd (false,(cn (top d)).2):=by
   have:=good_cn (kb_top hd)
   exact ⟨this.1,this.2⟩
  have gb:=good_cn hb
  have vi:=mcn_get p i
  have m1:=rt_cn ga gp (by omega)
  have va:=rval_absn (top d)
  by_cases hat:p.length-d.length≤i
  ·have ea:i64.wrap ((i:Int)-((p.length-d.length:Nat):Int))=((i-(p.length-d.length):Nat):Int):=by rw [w64 (by omega) (by omega)];omega
   have gq:=good_getD (mcn_good hd) (i-(p.length-d.length))
   have vq:=mcn_get d (i-(p.length-d.length))
   have m2:=rt_cn gb gq (by omega)
   have f1:Fits (Kd+J) (rval (false,(cn (top d)).2)*rval ((p.map cn).getD i z0)):=ga.fits.mul gp.fits
   have f2:Fits (J+Kd) (rval (cn b)*rval ((d.map cn).getD (i-(p.length-d.length)) z0)):=gb.fits.mul gq.fits
   have m3:=rm_cn (good_cn f1) (good_cn f2) (by omega) (by omega)
   rw [rval_cn (rval (false,(cn (top d)).2)*_),rval_cn (rval (cn b)*rval ((d.map cn).getD (i-(p.length-d.length)) z0))] at m3
   have k:=Yk69i_1 (p.map cn) (d.map cn) (cn (top d)) (cn b) ((p.length-d.length:Nat):Int) i (pc ((List.range i).map fun j=>cn (gst p d ((top d).natAbs:Int) b j))) (i:Nat) (by rw [e1,decide_eq_true_eq];omega) (by rw [decide_eq_true_eq];omega) (by omega) (by rw [ea];omega) (by omega)
    (by rw [Int.toNat_natCast];exact m1) (by rw [ea,Int.toNat_natCast];exact m2) (by rw [ea,Int.toNat_natCast,Int.toNat_natCast];exact m3)
   refine k.to rfl ?_
   rw [ea,Int.toNat_natCast,Int.toNat_natCast,ei]
   rw [← pc_map_snoc (gst p d ((top d).natAbs:Int) b) i]
   unfold gst
   rw [if_pos hat,va,vi,rval_cn,vq]
  ·have k:=Yk69i_2 (p.map cn) (d.map cn) (cn (top d)) (cn b) ((p.length-d.length:Nat):Int) i (pc ((List.range i).map fun j=>cn (gst p d ((top d).natAbs:Int) b j))) (i:Nat) (by rw [e1,decide_eq_true_eq];omega) (by rw [decide_eq_false_iff_not];omega) (by omega) (by omega)
    (by rw [Int.toNat_natCast];exact m1)
   refine k.to rfl ?_
   rw [Int.toNat_natCast,ei]
   rw [← pc_map_snoc (gst p d ((top d).natAbs:Int) b) i]
   unfold gst
   rw [if_neg hat,va,vi]
 ·show RunsW _ _ (Ys69i _ _ _ _ _ _ (pc ((List.range (p.length-1)).map fun j=>cn (gst p d ((top d).natAbs:Int) b j))) _) _ _
  rw [gst_map]
  exact Yk69i_3 _ _ _ _ _ _ _ _ (by rw [e1,decide_eq_false_iff_not];omega)
theorem qrest_step (hp:Kb J p) (hd:Kb Kd d) (hS:J+Kd+1<1000000) (hd0:d ≠ []) (hl:d.length≤p.length) (hN:p.length≤1048576) :
  RunsW Yir Yc69 (Ys69 (p.map cn) (d.map cn) (cn (top d))) .norm (Ys69 ((pstep p d).map cn) (d.map cn) (cn (top d))):=by
 have hdl:=List.length_pos_iff.2 hd0
 have hlm:(p.map cn).length=p.length:=List.length_map ..
 have hld:(d.map cn).length=d.length:=List.length_map ..
 have e1:i64.wrap ((((p.map cn).length:Nat):Int)-1)=((p.length-1:Nat):Int):=by rw [hlm,w64 (by omega) (by omega)];omega
 have e2:i64.wrap ((((p.map cn).length:Nat):Int)-(((d.map cn).length:Nat):Int))=((p.length-d.length:Nat):Int):=by rw [hlm,hld,w64 (by omega) (by omega)];omega
 have gt:=good_cn (kb_top hd)
 have gl:=good_getD (mcn_good hp) (p.length-1)
 have vl:=mcn_top p
 have hs:=rsign_run (neg:=(cn (top d)).1) gt.1 (by have:=gt.2;omega)
 rw [show rv (cn (top d)).1 (cn (top d)).2=top d from rval_cn _] at hs
 have hT:∀ b,Fits J b→b=sg (top d)*top p→Runs Yir 43 [.sl (p.length-1) (pc ((estN p d ((top d).natAbs:Int) b (p.length-1)).map cn))] (.fresh 2 ((trimL (estN p d ((top d).natAbs:Int) b (p.length-1))).map cn).length (pc ((trimL (estN p d ((top d).natAbs:Int) b (p.length-1))).map cn)))
   ∧ Runs Yir 91 [.sl ((trimL (estN p d ((top d).natAbs:Int) b (p.length-1))).map cn).length (pc ((trimL (estN p d ((top d).natAbs:Int) b (p.length-1))).map cn))] (.fresh 2 ((pstep p d).map cn).length (pc ((pstep p d).map cn))):=by
  intro b fb hb
  have kE:Kb (J+Kd+1) (estN p d ((top d).natAbs:Int) b (p.length-1)):=kb_estN hp hd (fits_abs (kb_top hd)) fb _
  have hlE:=estN_length p d ((top d).natAbs:Int) b (p.length-1)
  have htl:=trim_len (estN p d ((top d).natAbs:Int) b (p.length-1))
  refine ⟨?_,?_⟩
  ·have h:=qtrim_run (rs:=(estN p d ((top d).natAbs:Int) b (p.length-1)).map cn) (fun r hr=>(mcn_good kE r hr).mono (by omega)) (by rw [List.length_map];omega)
   rw [vals_cn,List.length_map,hlE] at h
   exact fr_cn h
  ·have h:=qprim_run (rs:=(trimL (estN p d ((top d).natAbs:Int) b (p.length-1))).map cn) (mcn_good kE.trim) (by omega) (by rw [List.length_map];omega)
   rw [vals_cn] at h
   have e:prim (trimL (estN p d ((top d).natAbs:Int) b (p.length-1)))=pstep p d:=by
    rw [pstep_ref hd0 hl,← hb]
    exact prim_ext (getD_trim _)
   rw [e] at h
   exact fr_cn h
 by_cases hneg:top d<0
 ·have hng:=rneg_run (neg:=((p.map cn).getD (p.length-1) z0).1) gl.1 (by have:=gl.2;omega)
  rw [show rv ((p.map cn).getD (p.length-1) z0).1 ((p.map cn).getD (p.length-1) z0).2=top p from vl] at hng
  have hb : -(top p)=sg (top d)*top p:=by unfold sg;rw [if_pos hneg];omega
  obtain ⟨t1,t2⟩:=hT _ (kb_top hp).neg hb
  exact Yk69_1 (p.map cn) (d.map cn) (cn (top d)) ((estN p d ((top d).natAbs:Int) (-(top p)) (p.length-1)).map cn) _ _ (p.length-1) ((p.length-1:Nat):Int) (by rw [decide_eq_true_eq];omega) (by rw [rval_cn,decide_eq_true_eq];unfold sgnI;rw [if_pos hneg];decide) (by rw [e1];omega) (by rw [rval_cn];exact hs) (by rw [e1,Int.toNat_natCast,vl];exact hng)
   (by rw [e1,e2,Int.toNat_natCast,vl];exact qrest_inner hp hd (kb_top hp).neg hS hd0 hl hN) t1 t2
 ·have hb:top p=sg (top d)*top p:=by unfold sg;rw [if_neg hneg];omega
  obtain ⟨t1,t2⟩:=hT _ (kb_top hp) hb
  have hu:(p.map cn).getD (p.length-1) z0=cn (top p):=mcn_getD (by omega)
  exact Yk69_2 (p.map cn) (d.map cn) (cn (top d)) ((estN p d ((top d).natAbs:Int) (top p) (p.length-1)).map cn) _ _ (p.length-1) ((p.length-1:Nat):Int) (by rw [decide_eq_true_eq];omega) (by rw [rval_cn,decide_eq_false_iff_not];unfold sgnI;rw [if_neg hneg];split <;> decide) (by rw [e1];omega) (by rw [rval_cn];exact hs)
   (by rw [e1,e2,Int.toNat_natCast,hu];exact qrest_inner hp hd (kb_top hp) hS hd0 hl hN) t1 t2
end
theorem qrest_loop {d:List Int} {Kd:Nat} (hd:Kb Kd d) (hd0:d ≠ []):∀ (f:Nat) (p:List Int) (J:Nat),p.length≤f→Kb J p→J+(p.length+1-d.length)*(Kd+1)<1000000→p.length≤1048576 →
  RunsW Yir (.loop Yc69) (Ys69 (p.map cn) (d.map cn) (cn (top d))) (.exit 0) (Ys69 ((restN f p d).map cn) (d.map cn) (cn (top d))):=by
 have hdl:=List.length_pos_iff.2 hd0
 intro f
 induction f with
 | zero =>
  intro p J hf _ _ _
  exact RunsW.loop_out (Yk69_3 (p.map cn) (d.map cn) (cn (top d)) (by rw [decide_eq_false_iff_not,List.length_map,List.length_map];omega)) (by intro e;cases e)
 | succ f ih =>
  intro p J hf hJ hS hN
  simp only [restN]
  split
  ·rename_i hl
   have hplen:=pstep_length hd0 hl
   have e:((pstep p d).length+1-d.length)+1≤p.length+1-d.length:=by omega
   have:=Nat.mul_le_mul_right (Kd+1) e
   rw [Nat.add_mul,Nat.one_mul] at this
   have h1:=qrest_step hJ hd (by
    have h2:1*(Kd+1)≤(p.length+1-d.length)*(Kd+1):=Nat.mul_le_mul_right _ (by omega)
    omega) hd0 hl hN
   exact RunsW.loop h1 (ih (pstep p d) (J+Kd+1) (by omega) (kb_pstep hJ hd) (by omega) (by omega))
  ·rename_i hl
   exact RunsW.loop_out (Yk69_3 (p.map cn) (d.map cn) (cn (top d)) (by rw [decide_eq_false_iff_not,List.length_map,List.length_map];omega)) (by intro e;cases e)
theorem prest_scale {x y:List Int} (hy:trimL y ≠ []):prest x (trimL y)=prest x (prim y):=by
 unfold prest
 rw [← psmul_prim y,restN_scale (by have:=cont_pos hy;omega)]
theorem qrest_run {rs ss:List Rn} {J K:Nat} (hr:∀ r∈rs,Good J r) (hs:∀ r∈ss,Good K r) (hJ:J<1000000) (hK:K<1000000) (hn:rs.length≤1048576) (hm:ss.length≤1048576) (h0:trimL (vals ss) ≠ []) (hS:J+((trimL (vals rs)).length+1-(trimL (vals ss)).length)*(K+1)<1000000) :
  Runs Yir 69 [.sl rs.length (pc rs), .sl ss.length (pc ss)] (plA (prest (prim (vals rs)) (prim (vals ss)))):=by
 have p1:=qprim_run hr hJ hn
 have p2:=qtrim_run (fun r h=>(hs r h).mono (show K≤1048576 by omega)) hm
 have k1:Kb J (prim (vals rs)):=(kb_of (fits_vals hr)).prim
 have k2:Kb K (trimL (vals ss)):=(kb_of (fits_vals hs)).trim
 have l1:(prim (vals rs)).length≤rs.length:=by rw [prim_length];have:=trim_len (vals rs);rwa [vals_length] at this
 have l2:(trimL (vals ss)).length≤ss.length:=by have:=trim_len (vals ss);rwa [vals_length] at this
 have hl:=List.length_pos_iff.2 h0
 have hlp:=qrest_loop k2 h0 (prim (vals rs)).length (prim (vals rs)) J (Nat.le_refl _) k1 (by rw [prim_length];exact hS) (by omega)
 have e1:i64.wrap (((((trimL (vals ss)).map cn).length:Nat):Int)-1)=(((trimL (vals ss)).length-1:Nat):Int):=by rw [List.length_map,w64 (by omega) (by omega)];omega
 rw [← prest_scale h0]
 exact Yrun69 rs ss _ _ ((prest (prim (vals rs)) (trimL (vals ss))).map cn) (cn (top (trimL (vals ss)))) (fr_cn p1) (fr_cn p2) (by rw [e1,List.length_map];omega) (by
  rw [e1,Int.toNat_natCast,mcn_getD (show (trimL (vals ss)).length-1<(trimL (vals ss)).length by omega)]
  exact hlp)
theorem qcom_loop:∀ (f:Nat) (x y:List Int) (M:Nat),0<M→y.length≤f→y.length≤x.length→x.length≤1048576→prim x=x→prim y=y→Kb (M-1) x→Kb (M-1) y→M*phi x.length y.length≤500000 →
  ∃ bs,RunsW Yir (.loop Ycq70) (Ysq70 (x.map cn) (y.map cn)) (.exit 0) (Ysq70 ((pcomN f x y).map cn) bs):=by
 intro f
 induction f with
 | zero =>
  intro x y M _ h1 _ _ _ _ _ _ _
  have:y=[]:=List.eq_nil_of_length_eq_zero (by omega)
  subst this
  exact ⟨_,RunsW.loop_out (Ykq70_2 _ _ (by simp)) (by intro e;cases e)⟩
 | succ f ih =>
  intro x y M hM h1 h2 h3 px py kx ky hphi
  simp only [pcomN]
  split
  ·rename_i h
   subst h
   exact ⟨_,RunsW.loop_out (Ykq70_2 _ _ (by simp)) (by intro e;cases e)⟩
  ·rename_i h
   have hyl:=List.length_pos_iff.2 h
   obtain ⟨r1,r2,r3⟩:=prest_ok hM (lead_of_prim px) h kx ky h2
   have hM':0<M*(x.length-y.length+2):=Nat.mul_pos hM (by omega)
   have hMle:M≤M*(x.length-y.length+2):=Nat.le_mul_of_pos_right M (by omega)
   have hbig:M*(x.length-y.length+2)≤500000:=by
    refine Nat.le_trans (Nat.mul_le_mul_left _ ?_) hphi
    unfold phi
    exact Nat.le_mul_of_pos_right _ (Nat.pow_pos (by decide))
   have hrem:=qrest_run (rs:=x.map cn) (ss:=y.map cn) (mcn_good kx) (mcn_good ky) (by omega) (by omega) (by rw [List.length_map];exact h3) (by rw [List.length_map];omega) (by rw [vals_cn,lead_of_prim py];exact h) (by
    rw [vals_cn,vals_cn,lead_of_prim px,lead_of_prim py,Nat.sub_add_cancel hM,show x.length+1-y.length=x.length-y.length+1 by omega,Nat.mul_comm _ M]
    have:M*(x.length-y.length+2)=M*(x.length-y.length+1)+M:=by rw [← Nat.mul_succ]
    omega)
   rw [vals_cn,vals_cn,px,py] at hrem
   have k:=Ykq70_1 (x.map cn) (y.map cn) _ (by simp;omega) hrem
   obtain ⟨bs,hb⟩:=ih y (prest x y) (M*(x.length-y.length+2)) hM' (by omega) (by omega) (by omega) py (prim_restN _ _ _ px) (ky.mono (by omega)) r3 (phi_next r2 hphi)
   exact ⟨bs,RunsW.loop k hb⟩
theorem qcommon_core {rs ss:List Rn} {g:List Int} {bs:List Rn} {K:Nat} (hr:∀ r∈rs,Good K r) (hs:∀ r∈ss,Good K r) (hK:K<1000000) (hn:rs.length≤1048576) (hm:ss.length≤1048576) {Kg:Nat} (hg:Kb Kg g) (hgL:Lead g) (hKg:Kg≤1048576) (hgl:g.length≤1048576)
  (hl:RunsW Yir (.loop Ycq70) (Ysq70 ((prim (vals rs)).map cn) ((prim (vals ss)).map cn)) (.exit 0) (Ysq70 (g.map cn) bs)) :
  RunsP 70 [.sl rs.length (pc rs), .sl ss.length (pc ss)] (ppos g):=by
 have p1:=qprim_run hr hK hn
 have p2:=qprim_run hs hK hm
 obtain ⟨q1,q2⟩:=qpositive_P hg hgL hKg hgl
 by_cases h:top g<0
 ·exact .inl (Yrun70_f rs ss _ _ (g.map cn) bs _ (fr_cn p1) (fr_cn p2) hl (q1 h))
 ·rw [ppos_not h]
  exact .inr (Yrun70_s rs ss _ _ (g.map cn) bs (fr_cn p1) (fr_cn p2) hl (q2 h))
theorem qcommon_run {rs ss:List Rn} {K c:Nat} (hr:∀ r∈rs,Good K r) (hs:∀ r∈ss,Good K r) (hn:rs.length≤c) (hm:ss.length≤c) (hc:c≤1048576) (hS:(K+1)*(2*3^c)≤500000) :
  RunsP 70 [.sl rs.length (pc rs), .sl ss.length (pc ss)] (ppos (pgcd (prim (vals rs)) (prim (vals ss)))):=by
 have h3:0<3^c:=Nat.pow_pos (by decide)
 have hK:K+1≤500000:=by
  have:(K+1)*1≤(K+1)*(2*3^c):=Nat.mul_le_mul_left _ (by omega)
  omega
 have k1:Kb K (prim (vals rs)):=(kb_of (fits_vals hr)).prim
 have k2:Kb K (prim (vals ss)):=(kb_of (fits_vals hs)).prim
 have l1:(prim (vals rs)).length≤rs.length:=by rw [prim_length];have:=trim_len (vals rs);rwa [vals_length] at this
 have l2:(prim (vals ss)).length≤ss.length:=by rw [prim_length];have:=trim_len (vals ss);rwa [vals_length] at this
 unfold pgcd
 split
 ·rename_i hl
  have hphi:(K+1)*phi (prim (vals rs)).length (prim (vals ss)).length≤500000:=Nat.le_trans (Nat.mul_le_mul_left _ (phi_max hl (by omega))) hS
  obtain ⟨bs,hb⟩:=qcom_loop (prim (vals ss)).length (prim (vals rs)) (prim (vals ss)) (K+1) (by omega) (Nat.le_refl _) hl (by omega) (prim_prim _) (prim_prim _) k1 k2 hphi
  obtain ⟨s1,s2⟩:=pcomN_size (prim (vals ss)).length (prim (vals rs)) (prim (vals ss)) (K+1) (by omega) (Nat.le_refl _) hl (lead_prim _) (lead_prim _) k1 k2
  exact qcommon_core hr hs (by omega) (by omega) (by omega) s1 (lead_of_prim (prim_pcomN _ _ _ (prim_prim _) (prim_prim _))) (by omega) (by omega) hb
 ·rename_i hl
  have hphi:(K+1)*phi (prim (vals ss)).length (prim (vals rs)).length≤500000:=Nat.le_trans (Nat.mul_le_mul_left _ (phi_max (by omega) (by omega))) hS
  obtain ⟨bs,hb⟩:=qcom_loop (prim (vals rs)).length (prim (vals ss)) (prim (vals rs)) (K+1) (by omega) (Nat.le_refl _) (by omega) (by omega) (prim_prim _) (prim_prim _) k2 k1 hphi
  obtain ⟨s1,s2⟩:=pcomN_size (prim (vals rs)).length (prim (vals ss)) (prim (vals rs)) (K+1) (by omega) (Nat.le_refl _) (by omega) (lead_prim _) (lead_prim _) k2 k1
  have hy0:prim (vals ss) ≠ []:=by intro h;rw [h] at hl;simp at hl
  have hsw:prest (prim (vals rs)) (prim (vals ss))=prim (vals rs):=by
   unfold prest
   cases hx:(prim (vals rs)).length with
   | zero=>rfl
   | succ n=>simp only [restN];rw [if_neg hl]
  have hrem:=qrest_run (rs:=(prim (vals rs)).map cn) (ss:=(prim (vals ss)).map cn) (mcn_good k1) (mcn_good k2) (by omega) (by omega) (by rw [List.length_map];omega) (by rw [List.length_map];omega) (by rw [vals_cn,lead_prim];exact hy0) (by
   rw [vals_cn,vals_cn,lead_prim,lead_prim,show (prim (vals rs)).length+1-(prim (vals ss)).length=0 by omega,Nat.zero_mul];omega)
  rw [vals_cn,vals_cn,prim_prim,prim_prim,hsw] at hrem
  have k:=Ykq70_1 ((prim (vals rs)).map cn) ((prim (vals ss)).map cn) _ (by rw [decide_eq_true_eq,List.length_map];omega) hrem
  exact qcommon_core hr hs (by omega) (by omega) (by omega) s1 (lead_of_prim (prim_pcomN _ _ _ (prim_prim _) (prim_prim _))) (by omega) (by omega) (RunsW.loop k hb)
end Go.Proofs.Ythnnfemologhfaa

namespace Go.Proofs.Ythnnfemologhfaa
open Go.IntKind (i64 u64 u32)
open Go.Ai
set_option maxRecDepth 100000
section
variable {p d:List Int} {J Kd:Nat}
theorem qover_a {t:Int} {l:Rn} {rs ds:List Rn} {q:Int} (hp:Kb J p) (ht:Fits Kd t) (hS:J+Kd<1000000) (hN:p.length≤1048576) :
  RunsW Yir (.loop Yc120a) (Ys120a rs ds (cn t) p.length (p.map cn) l q 0) (.exit 2) (Ys120a rs ds (cn t) p.length ((psmul t p).map cn) l q (p.length:Nat)):=by
 have hE:((psmul t p).map cn).length=(p.map cn).length:=by rw [List.length_map,List.length_map,psmul_length]
 have hpl:(p.map cn).length=p.length:=List.length_map ..
 have h:=RunsW.up (prog:=Yir) (c:=Yc120a) (ex := .exit 2) (fin:=Ys120a rs ds (cn t) p.length ((psmul t p).map cn) l q (p.length:Nat))
  (fun i=>Ys120a rs ds (cn t) p.length (mixL ((psmul t p).map cn) (p.map cn) i) l q (i:Nat)) p.length (by intro e;cases e) ?_ ?_ 0 (Nat.zero_le _)
 ·rw [mixL_zero] at h;exact h
 ·intro i hi
  have ei:i64.wrap ((i:Int)+1)=((i+1:Nat):Int):=by rw [w64 (by omega) (by omega)];omega
  have hml:=mixL_length hE i
  have hget:=mixL_get hE (i:=i) (by omega)
  have hEi:((psmul t p).map cn).getD i z0=cn ((psmul t p).getD i 0):=mcn_getD (by rw [psmul_length];exact hi)
  have hset:=mixL_set hE (i:=i) (by omega)
  rw [hEi,getD_psmul] at hset
  have gp:=good_getD (mcn_good hp) i
  have gt:=good_cn ht
  have vi:=mcn_get p i
  have m1:=rt_cn gp gt (by omega)
  generalize mixL ((psmul t p).map cn) (p.map cn) i=M at *
  have k:=Yk120a_1 rs ds (cn t) p.length M l q (i:Nat) (by simp;omega) (by omega) (by omega) (by rw [Int.toNat_natCast,hget];exact m1)
  refine k.to rfl ?_
  simp only [ei,Int.toNat_natCast,hget]
  rw [vi,rval_cn,Int.mul_comm,hset]
 ·rw [show mixL ((psmul t p).map cn) (p.map cn) p.length=(psmul t p).map cn by have h:=mixL_full hE;rw [hpl] at h;exact h]
  exact Yk120a_2 _ _ _ _ _ _ _ _ (by simp)
theorem qover_b {b:Int} {k:Nat} {os:List Rn} (hp:Kb J p) (hd:Kb Kd d) (hb:Fits J b) (hS:J+Kd+1<1000000) (hd0:d ≠ []) (hl:d.length≤p.length) (hN:p.length≤1048576) :
  RunsW Yir (.loop Yc120b) (Ys120b (p.map cn) (d.map cn) (cn (top d)) k os (cn b) ((p.length-d.length:Nat):Int) 0 [] 0) (.exit 4)
   (Ys120b (p.map cn) (d.map cn) (cn (top d)) k os (cn b) ((p.length-d.length:Nat):Int) (p.length-1) (pc ((estN p d (top d) b (p.length-1)).map cn)) ((p.length-1:Nat):Int)):=by
 have hdl:=List.length_pos_iff.2 hd0
 have hlm:(p.map cn).length=p.length:=List.length_map ..
 have hld:(d.map cn).length=d.length:=List.length_map ..
 have e1:i64.wrap ((((p.map cn).length:Nat):Int)-1)=((p.length-1:Nat):Int):=by rw [hlm,w64 (by omega) (by omega)];omega
 have h:=RunsW.up (prog:=Yir) (c:=Yc120b) (ex := .exit 4) (fin:=Ys120b (p.map cn) (d.map cn) (cn (top d)) k os (cn b) ((p.length-d.length:Nat):Int) (p.length-1) (pc ((estN p d (top d) b (p.length-1)).map cn)) ((p.length-1:Nat):Int))
  (fun i=>Ys120b (p.map cn) (d.map cn) (cn (top d)) k os (cn b) ((p.length-d.length:Nat):Int) i (pc ((List.range i).map fun j=>cn (gst p d (top d) b j))) (i:Nat)) (p.length-1) (by intro e;cases e) ?_ ?_ 0 (Nat.zero_le _)
 ·exact h
 ·intro i hi
  have ei:i64.wrap ((i:Int)+1)=((i+1:Nat):Int):=by rw [w64 (by omega) (by omega)];omega
  have gp:=good_getD (mcn_good hp) i
  have ga:=good_cn (kb_top hd)
  have gb:=good_cn hb
  have vi:=mcn_get p i
  have m1:=rt_cn ga gp (by omega)
  have va:=rval_cn (top d)
  by_cases hat:p.length-d.length≤i
  ·have ea:i64.wrap ((i:Int)-((p.length-d.length:Nat):Int))=((i-(p.length-d.length):Nat):Int):=by rw [w64 (by omega) (by omega)];omega
   have gq:=good_getD (mcn_good hd) (i-(p.length-d.length))
   have vq:=mcn_get d (i-(p.length-d.length))
   have m2:=rt_cn gb gq (by omega)
   have f1:Fits (Kd+J) (rval (cn (top d))*rval ((p.map cn).getD i z0)):=ga.fits.mul gp.fits
   have f2:Fits (J+Kd) (rval (cn b)*rval ((d.map cn).getD (i-(p.length-d.length)) z0)):=gb.fits.mul gq.fits
   have m3:=rm_cn (good_cn f1) (good_cn f2) (by omega) (by omega)
   rw [rval_cn (rval (cn (top d))*_),rval_cn (rval (cn b)*rval ((d.map cn).getD (i-(p.length-d.length)) z0))] at m3
   have k:=Yk120b_1 (p.map cn) (d.map cn) (cn (top d)) k os (cn b) ((p.length-d.length:Nat):Int) i (pc ((List.range i).map fun j=>cn (gst p d (top d) b j))) (i:Nat) (by rw [e1,decide_eq_true_eq];omega) (by rw [decide_eq_true_eq];omega) (by omega) (by rw [ea];omega) (by omega)
    (by rw [Int.toNat_natCast];exact m1) (by rw [ea,Int.toNat_natCast];exact m2) (by rw [ea,Int.toNat_natCast,Int.toNat_natCast];exact m3)
   refine k.to rfl ?_
   rw [ea,Int.toNat_natCast,Int.toNat_natCast,ei]
   rw [← pc_map_snoc (gst p d (top d) b) i]
   unfold gst
   rw [if_pos hat,va,vi,rval_cn,vq]
  ·have k:=Yk120b_2 (p.map cn) (d.map cn) (cn (top d)) k os (cn b) ((p.length-d.length:Nat):Int) i (pc ((List.range i).map fun j=>cn (gst p d (top d) b j))) (i:Nat) (by rw [e1,decide_eq_true_eq];omega) (by rw [decide_eq_false_iff_not];omega) (by omega) (by omega)
    (by rw [Int.toNat_natCast];exact m1)
   refine k.to rfl ?_
   rw [Int.toNat_natCast,ei]
   rw [← pc_map_snoc (gst p d (top d) b) i]
   unfold gst
   rw [if_neg hat,va,vi]
 ·show RunsW _ _ (Ys120b _ _ _ _ _ _ _ _ (pc ((List.range (p.length-1)).map fun j=>cn (gst p d (top d) b j))) _) _ _
  rw [gst_map]
  exact Yk120b_3 _ _ _ _ _ _ _ _ _ _ (by rw [e1,decide_eq_false_iff_not];omega)
end
theorem qover_loop {d:List Int} {Kd:Nat} (hd:Kb Kd d) (hd0:d ≠ []):∀ (f:Nat) (r out:List Int) (J:Nat),r.length≤f→Kb J r→Kb J out→J+(r.length+1-d.length)*(Kd+1)<1000000→r.length+1≤out.length+d.length→out.length≤1048576→r.length≤1048576 →
  (∃ r',RunsW Yir (.loop Yc120) (Ys120 (r.map cn) (d.map cn) (cn (top d)) out.length (out.map cn)) (.exit 0) (Ys120 r' (d.map cn) (cn (top d)) out.length ((ovrN d f r out).map cn)))∧Kb (J+(r.length+1-d.length)*(Kd+1)) (ovrN d f r out)∧(ovrN d f r out).length=out.length:=by
 have hdl:=List.length_pos_iff.2 hd0
 have hld:(d.map cn).length=d.length:=List.length_map ..
 intro f
 induction f with
 | zero =>
  intro r out J hf _ ho _ _ _ _
  exact ⟨⟨_,RunsW.loop_out (Yk120_2 (r.map cn) (d.map cn) (cn (top d)) out.length (out.map cn) (by rw [decide_eq_false_iff_not,List.length_map,List.length_map];omega)) (by intro e;cases e)⟩,ho.mono (Nat.le_add_right _ _),rfl⟩
 | succ f ih =>
  intro r out J hf hJ ho hS hlo hN1 hN
  have hlm:(r.map cn).length=r.length:=List.length_map ..
  simp only [ovrN]
  split
  ·rename_i hl
   have e1:i64.wrap ((((r.map cn).length:Nat):Int)-1)=((r.length-1:Nat):Int):=by rw [hlm,w64 (by omega) (by omega)];omega
   have e2:i64.wrap ((((r.map cn).length:Nat):Int)-(((d.map cn).length:Nat):Int))=((r.length-d.length:Nat):Int):=by rw [hlm,hld,w64 (by omega) (by omega)];omega
   have hlen:=ovr_step_length hd0 hl
   have e:((trimL (estN r d (top d) (top r) (r.length-1))).length+1-d.length)+1≤r.length+1-d.length:=by omega
   have hmul:=Nat.mul_le_mul_right (Kd+1) e
   rw [Nat.add_mul,Nat.one_mul] at hmul
   have hsz:J+Kd+1<1000000:=by omega
   have kE:Kb (J+Kd+1) (estN r d (top d) (top r) (r.length-1)):=kb_estN hJ hd (kb_top hd) (kb_top hJ) _
   have hlE:=estN_length r d (top d) (top r) (r.length-1)
   have hps:=kb_psmul ho (kb_top hd)
   have ht:=qtrim_run (rs:=(estN r d (top d) (top r) (r.length-1)).map cn) (fun x hx=>(mcn_good kE x hx).mono (by omega)) (by rw [List.length_map];omega)
   rw [vals_cn,List.length_map,hlE] at ht
   have hu:(r.map cn).getD (r.length-1) z0=cn (top r):=mcn_getD (by omega)
   have hset:((psmul (top d) out).map cn).set (r.length-d.length) (cn (top r))=((psmul (top d) out).set (r.length-d.length) (top r)).map cn:=by rw [List.map_set]
   obtain ⟨⟨r',hr'⟩,kb,len⟩:=ih (trimL (estN r d (top d) (top r) (r.length-1))) ((psmul (top d) out).set (r.length-d.length) (top r)) (J+Kd+1) (by omega) kE.trim (kb_set (hps.mono (by omega)) ((kb_top hJ).mono (by omega)) _) (by omega) (by rw [List.length_set,psmul_length];omega) (by rw [List.length_set,psmul_length];exact hN1) (by omega)
   rw [List.length_set,psmul_length] at hr' len
   refine ⟨⟨r',RunsW.loop ?_ hr'⟩,kb.mono (by omega),len⟩
   have k:=Yk120_1 (r.map cn) (d.map cn) (cn (top d)) out.length (out.map cn) ((psmul (top d) out).map cn) ((estN r d (top d) (top r) (r.length-1)).map cn) _ (r.length-1) (out.length:Nat) ((r.length-1:Nat):Int) (by rw [decide_eq_true_eq];omega) (by rw [e1];omega)
    (by rw [e1,e2,Int.toNat_natCast,hu];exact qover_a ho (kb_top hd) (by omega) hN1) (by rw [e2];omega) (by rw [List.length_map,psmul_length])
    (by rw [e1,e2,Int.toNat_natCast,Int.toNat_natCast,hu];exact qover_b hJ hd (kb_top hJ) hsz hd0 hl hN) (fr_cn ht)
   rw [e1,e2,Int.toNat_natCast,Int.toNat_natCast,hu,hset] at k
   exact k
  ·rename_i hl
   exact ⟨⟨_,RunsW.loop_out (Yk120_2 (r.map cn) (d.map cn) (cn (top d)) out.length (out.map cn) (by rw [decide_eq_false_iff_not,List.length_map,List.length_map];omega)) (by intro e;cases e)⟩,ho.mono (Nat.le_add_right _ _),rfl⟩
theorem qover_run {p q:List Int} {J K:Nat} (hp:Kb J p) (hq:Kb K q) (lp:Lead p) (lq:Lead q) (hq0:q ≠ []) (tq:0<top q) (tp:0<top p) (hl:q.length≤p.length) (hN:p.length≤1000000) (hS:J+(p.length+1-q.length)*(K+1)<1000000) :
  Runs Yir 120 [.sl (p.map cn).length (pc (p.map cn)), .sl (q.map cn).length (pc (q.map cn))] (plA (prim (ovrN q p.length p (List.replicate (p.length-q.length+1) 0)))):=by
 have hql:=List.length_pos_iff.2 hq0
 have hlp:(p.map cn).length=p.length:=List.length_map ..
 have hlq:(q.map cn).length=q.length:=List.length_map ..
 have h1:1*(K+1)≤(p.length+1-q.length)*(K+1):=Nat.mul_le_mul_right _ (by omega)
 have t1:=qtrim_run (rs:=p.map cn) (fun r h=>(mcn_good hp r h).mono (show J≤1048576 by omega)) (by omega)
 have t2:=qtrim_run (rs:=q.map cn) (fun r h=>(mcn_good hq r h).mono (show K≤1048576 by omega)) (by omega)
 rw [vals_cn,lp] at t1
 rw [vals_cn,lq] at t2
 have hz:(List.replicate (p.length-q.length+1) (0:Int)).map cn=List.replicate (p.length-q.length+1) z0:=by rw [List.map_replicate,z0_cn]
 obtain ⟨⟨r',hlp2⟩,kb,len⟩:=qover_loop hq hq0 p.length p (List.replicate (p.length-q.length+1) 0) J (Nat.le_refl _) hp (fun i=>by rw [getD_zeros];exact fits_zero _) hS (by simp;omega) (by simp;omega) (by omega)
 rw [List.length_replicate] at hlp2 len
 obtain ⟨c',r1,a1,a2,_,a4⟩:=ovrN_start (p:=p) hq0 tq hl
 have tO:=quot_top a1 tp hq0 tq hl len a4 a2
 generalize ovrN q p.length p (List.replicate (p.length-q.length+1) 0)=o at *
 have e1:i64.wrap ((((q.map cn).length:Nat):Int)-1)=((q.length-1:Nat):Int):=by rw [hlq,w64 (by omega) (by omega)];omega
 have e2:i64.wrap (i64.wrap ((((p.map cn).length:Nat):Int)-(((q.map cn).length:Nat):Int))+1)=((p.length-q.length+1:Nat):Int):=by
  rw [hlp,hlq,w64 (n:=(p.length:Int)-(q.length:Nat)) (by omega) (by omega),w64 (by omega) (by omega)];omega
 have t3:=qtrim_run (rs:=o.map cn) (fun r h=>(mcn_good kb r h).mono (by omega)) (by rw [List.length_map];omega)
 rw [vals_cn,List.length_map,len] at t3
 have htl:=trim_len o
 have p3:=qprim_run (rs:=(trimL o).map cn) (mcn_good kb.trim) (by omega) (by rw [List.length_map];omega)
 rw [vals_cn,prim_ext (getD_trim o)] at p3
 have hpl:(prim o).length≤o.length:=by rw [prim_length];exact htl
 have hps:=(qpositive_P (p:=prim o) kb.prim (lead_prim o) (by omega) (by omega)).2 (by have:=top_prim_pos tO;omega)
 exact Yrun120 (p.map cn) (q.map cn) (p.map cn) (q.map cn) r' (o.map cn) _ _ (cn (top q)) (p.length-q.length+1) (fr_cn t1) (fr_cn t2) (by rw [e1,hlq];omega) (by rw [e2];omega)
  (by rw [e1,e2,Int.toNat_natCast,Int.toNat_natCast,repl_pc,← hz,mcn_getD (show q.length-1<q.length by omega)];exact hlp2) (fr_cn t3) (fr_cn p3) hps
theorem over_one {p:List Int} {c:Int} (hc:0<c) (hp:prim p=p) (hl:1≤p.length):prim (ovrN [c] p.length p (List.replicate (p.length-1+1) 0))=p:=by
 obtain ⟨c',r',a1,a2,_,a4⟩:=ovrN_start (p:=p) (d:=[c]) (by simp) (show 0<top [c] from hc) hl
 have lq:Lead [c]:=lead_of (.inr (by show c ≠ 0;omega))
 have h:=prim_unique a1 hc (quot_unique (o2:=p) (r2:=[]) (c2:=c) lq (by simp) a4 (fun x=>by simp [peval]) a2 (fun i _=>rfl))
 rw [hp] at h
 exact h
theorem qsimple_run {rs:List Rn} {K c:Nat} (hr:∀ r∈rs,Good K r) (hn:rs.length≤c) (hc:c≤9) (hS:(K+3)*(2*3^c)≤500000):Runs Yir 71 [.sl rs.length (pc rs)] (plA (pfree (vals rs))):=by
 have h3:0<3^c:=Nat.pow_pos (by decide)
 have hK:K+3≤250000:=by
  have:(K+3)*2≤(K+3)*(2*3^c):=Nat.mul_le_mul_left _ (by omega)
  omega
 have p1:=fr_cn (qprim_run hr (by omega) (by omega))
 have k1:Kb K (prim (vals rs)):=(kb_of (fits_vals hr)).prim
 have l1:(prim (vals rs)).length≤rs.length:=by rw [prim_length];have:=trim_len (vals rs);rwa [vals_length] at this
 obtain ⟨q1,q2⟩:=qpositive_P k1 (lead_prim _) (by omega) (by omega)
 have ka:Kb K (ppos (prim (vals rs))):=by
  unfold ppos;split
  ·intro i;rw [getD_pneg];exact (k1 i).neg
  ·exact k1
 have la:=ppos_length (prim (vals rs))
 have lda:Lead (ppos (prim (vals rs))):=lead_ppos (lead_prim _)
 have hpp:(¬ top (prim (vals rs))<0)→ppos (prim (vals rs))=prim (vals rs):=ppos_not
 have hder:=qder_run (rs:=(ppos (prim (vals rs))).map cn) (mcn_good ka) (by omega) (by rw [List.length_map];omega)
 rw [vals_cn] at hder
 have hder':=fr_cn hder
 have kd:Kb (K+2) (pder (ppos (prim (vals rs)))):=kb_pder ka (by omega)
 have ld:(pder (ppos (prim (vals rs)))).length≤c:=by have:=pder_len (ppos (prim (vals rs)));omega
 have hcom:=qcommon_run (rs:=(ppos (prim (vals rs))).map cn) (ss:=(pder (ppos (prim (vals rs)))).map cn) (K:=K+2) (c:=c) (fun r h=>(mcn_good ka r h).mono (by omega)) (mcn_good kd) (by rw [List.length_map];omega) (by rw [List.length_map];exact ld) (by omega) hS
 rw [vals_cn,vals_cn] at hcom
 change RunsP 70 _ (pcom (ppos (prim (vals rs))) (pder (ppos (prim (vals rs))))) at hcom
 have hover:2≤(ppos (prim (vals rs))).length→Runs Yir 120 [.sl ((ppos (prim (vals rs))).map cn).length (pc ((ppos (prim (vals rs))).map cn)), .sl ((pcom (ppos (prim (vals rs))) (pder (ppos (prim (vals rs))))).map cn).length (pc ((pcom (ppos (prim (vals rs))) (pder (ppos (prim (vals rs))))).map cn))] (plA (pfree (vals rs))):=by
  intro h2
  have hp0:trimL (vals rs) ≠ []:=by
   intro h0
   have:prim (vals rs)=[]:=prim_nil.2 (trim_nil.1 h0)
   rw [this] at h2
   exact absurd h2 (by decide)
  obtain ⟨a1,a2,a3,a4,_,_⟩:=ppos_ok hp0
  have hta:trimL (ppos (prim (vals rs))) ≠ []:=nonzero_trim a1 a2
  obtain ⟨b1,b2⟩:=kb_pcom (t:=pder (ppos (prim (vals rs)))) hta (by omega) ka
  rw [a1] at b2
  have nG:=pcom_ne (t:=pder (ppos (prim (vals rs)))) hta
  have lG:=lead_pcom (ppos (prim (vals rs))) (pder (ppos (prim (vals rs))))
  have tG:=top_pcom (t:=pder (ppos (prim (vals rs)))) hta
  have h:=qover_run ka b1 lda lG nG tG a4 b2 (by omega) (by
   have h4:(ppos (prim (vals rs))).length+1-(pcom (ppos (prim (vals rs))) (pder (ppos (prim (vals rs))))).length≤10:=by omega
   have h5:=Nat.mul_le_mul_right (K+3+1) h4
   have h6:3^2≤3^c:=Nat.pow_le_pow_right (by decide) (by omega)
   have h7:(K+3)*18≤(K+3)*(2*3^c):=Nat.mul_le_mul_left _ (by omega)
   omega)
  have e:prim (ovrN (pcom (ppos (prim (vals rs))) (pder (ppos (prim (vals rs))))) (ppos (prim (vals rs))).length (ppos (prim (vals rs))) (List.replicate ((ppos (prim (vals rs))).length-(pcom (ppos (prim (vals rs))) (pder (ppos (prim (vals rs))))).length+1) 0))=pfree (vals rs):=by
   unfold pfree
   by_cases hg:(pcom (ppos (prim (vals rs))) (pder (ppos (prim (vals rs))))).length<2
   ·rw [if_pos (.inr hg)]
    have hgl:=List.length_pos_iff.2 nG
    obtain ⟨c,hc⟩:=one_len (show (pcom (ppos (prim (vals rs))) (pder (ppos (prim (vals rs))))).length=1 by omega)
    rw [hc] at tG ⊢
    exact over_one tG (prim_of_cont a1 a3) (by omega)
   ·rw [if_neg (by omega)]
    exact (div_ovr lG nG tG b2).symm
  rw [e] at h
  exact h
 by_cases hs:(ppos (prim (vals rs))).length<2
 ·have e:pfree (vals rs)=ppos (prim (vals rs)):=by unfold pfree;rw [if_pos (.inl hs)]
  rw [e]
  by_cases ht:top (prim (vals rs))<0
  ·exact Yrun71_ff_1 rs _ _ (by rw [decide_eq_true_eq,List.length_map];omega) p1 (q1 ht)
  ·rw [hpp ht] at hs ⊢
   exact Yrun71_ss_1 rs _ (by rw [decide_eq_true_eq,List.length_map];omega) p1 (q2 ht)
 ·have hover:=hover (by omega)
  by_cases ht:top (prim (vals rs))<0
  ·rcases hcom with h | h
   ·exact Yrun71_ff_2 rs _ _ _ _ _ (by rw [decide_eq_false_iff_not,List.length_map];omega) p1 (q1 ht) hder' h hover
   ·exact Yrun71_fs_2 rs _ _ _ _ _ (by rw [decide_eq_false_iff_not,List.length_map];omega) p1 (q1 ht) hder' h hover
  ·rw [hpp ht] at *
   rcases hcom with h | h
   ·exact Yrun71_sf_2 rs _ _ _ _ (by rw [decide_eq_false_iff_not,List.length_map];omega) p1 (q2 ht) hder' h hover
   ·exact Yrun71_ss_2 rs _ _ _ _ (by rw [decide_eq_false_iff_not,List.length_map];omega) p1 (q2 ht) hder' h hover
end Go.Proofs.Ythnnfemologhfaa

namespace Go.Proofs.Ythnnfemologhfaa
open Go.IntKind (i64 u64 u32)
open Go.Ai
set_option maxRecDepth 100000
def Ys61i (o:Bool) (ps:List (List Rn)) (n:Int) (k:Int) (rs:List Rn) (d:Int) (i:Int):State:=(dds 2 (.val (.bool o)::(dds 1 (.val (.sl rs.length (pc rs))::(.val (.int .i64 d)::(.val (.int .i64 i)::(.val (.sl ps.length (pp ps))::(.val (.int .i64 n)::(.val (.int .i64 k)::(dds 19 []))))))))))
theorem Yk61i_1 (o:Bool) (ps:List (List Rn)) (n:Int) (k:Int) (rs:List Rn) (d:Int) (i:Int) (z:Int) (c1:(decide (i≤d))=true) (c2:(decide (z>256))=true) (n1:0≤i∧i<(rs.length:Int)) (n2:Runs Yir 76 [rawAV (rs.getD (Int.toNat i) z0)] (.int .i64 z)):RunsW Yir Yc61i (Ys61i o ps n k rs d i) .ret (Ys61i true ps n k rs d i):=(RunsW.go TAA_holds 400 [.b true, .v (rawAV (rs.getD (Int.toNat i) z0)), .r (.int .i64 z), .b true] [2,4,5,6,7,8,9] (ac c1 (ac n1 (ac (take_pcI n1) (ac n2 (ac c2 a0))))) (by kernel_rfl))
theorem Yk61i_2 (o:Bool) (ps:List (List Rn)) (n:Int) (k:Int) (rs:List Rn) (d:Int) (i:Int) (z:Int) (c1:(decide (i≤d))=true) (c2:(decide (z>256))=false) (n1:0≤i∧i<(rs.length:Int)) (n2:Runs Yir 76 [rawAV (rs.getD (Int.toNat i) z0)] (.int .i64 z)):RunsW Yir Yc61i (Ys61i o ps n k rs d i) .norm (Ys61i o ps n k rs d (i64.wrap (i+1))):=(RunsW.go TAA_holds 400 [.b true, .v (rawAV (rs.getD (Int.toNat i) z0)), .r (.int .i64 z), .b false] [2,4,5,6,7,8,9] (ac c1 (ac n1 (ac (take_pcI n1) (ac n2 (ac c2 a0))))) (by kernel_rfl))
theorem Yk61i_3 (o:Bool) (ps:List (List Rn)) (n:Int) (k:Int) (rs:List Rn) (d:Int) (i:Int)  (c1:(decide (i≤d))=false):RunsW Yir Yc61i (Ys61i o ps n k rs d i) (.exit 2) (Ys61i o ps n k rs d i):=(RunsW.go TAA_holds 400 [.b false] [2,4,5,6,7,8,9] (ac c1 a0) (by kernel_rfl))
def Yc61:ICode := .seq (.region false [oB 10 .lss 9 8]) (.seq (.cond (.t 10) (.skip) (.exit 0)) (.seq (.block 1 (.seq (.region false [o1 11 (.ixa 7 (.t 9) 1),o1 12 (.ld 11 11 1 true),oM 4 12]) (.seq (.region false [oM 13 4,oC 14 62 [13],oM 5 14]) (.seq (.seq (.region false [oM 15 5,o1 16 (.bin .gtr (.t 15) (.c (.int .i64 16)))]) (.cond (.t 16) (.seq (.region false [o1 2 (.mov (.c (.bool true)))]) (.ret)) (.skip))) (.seq (.region false [o1 6 (.mov (.c (.int .i64 0)))]) (.block 2 (.loop (.seq (.seq (.region false [oM 17 6,oM 18 5,oB 19 .leq 17 18]) (.cond (.t 19) (.skip) (.exit 2))) (.seq (.block 3 (.seq (.region false [oM 22 4,oM 23 6,o1 24 (.ixa 22 (.t 23) 2),o1 25 (.ld 24 24 2 false),oC 26 76 [25],o1 27 (.bin .gtr (.t 26) (.c (.int .i64 256)))]) (.cond (.t 27) (.seq (.region false [o1 2 (.mov (.c (.bool true)))]) (.ret)) (.skip)))) (.region false [oM 20 6,o1 21 (.bin .add (.t 20) (.c (.int .i64 1))),oM 6 21])))))))))) (.region false [o1 28 (.bin .add (.t 9) (.c (.int .i64 1))),oM 9 28])))
def Ys61 (o:Bool) (ps:List (List Rn)) (n:Int) (k:Int):State:=(dds 2 (.val (.bool o)::(dds 4 (.val (.sl ps.length (pp ps))::(.val (.int .i64 n)::(.val (.int .i64 k)::(dds 19 [])))))))
theorem Yk61_1 (o:Bool) (ps:List (List Rn)) (n:Int) (k:Int) (d:Int) (c1:(decide (k<n))=true) (c2:(decide (d>16))=true) (n1:0≤k∧k<(ps.length:Int)) (n2:Runs Yir 62 [.sl ((ps.getD (Int.toNat k) []).length) (pc (ps.getD (Int.toNat k) []))] (.int .i64 d)):RunsW Yir Yc61 (Ys61 o ps n k) .ret (Ys61 true ps n k):=(RunsW.seq (RunsW.go (t:=(dds 2 (.val (.bool o)::(dds 4 (.val (.sl ps.length (pp ps))::(vi n::(vi k::(.val (.bool (decide (k<n)))::(dds 18 []))))))))) (ex := .norm) TAA_holds 400 [] [2,7,8,9,10] a0 (by kernel_rfl)) (RunsW.seq (RunsW.go (t:=(dds 2 (.val (.bool o)::(dds 4 (.val (.sl ps.length (pp ps))::(vi n::(vi k::(dds 19 [])))))))) (ex := .norm) TAA_holds 400 [.b true] [2,7,8,9] (ac c1 a0) (by kernel_rfl)) (RunsW.seq_out (RunsW.block_ret (RunsW.seq (RunsW.go (t:=(dds 2 (.val (.bool o)::(dds 1 (.val (.sl ((ps.getD (Int.toNat k) []).length) (pc (ps.getD (Int.toNat k) [])))::(dds 2 (.val (.sl ps.length (pp ps))::(vi n::(vi k::(dds 19 [])))))))))) (ex := .norm) TAA_holds 400 [.v (.sl ((ps.getD (Int.toNat k) []).length) (pc (ps.getD (Int.toNat k) [])))] [2,4,7,8,9] (ac n1 (ac (take_ppI n1) a0)) (by kernel_rfl)) (RunsW.seq (RunsW.go (t:=(dds 2 (.val (.bool o)::(dds 1 (.val (.sl ((ps.getD (Int.toNat k) []).length) (pc (ps.getD (Int.toNat k) [])))::(vi d::(dds 1 (.val (.sl ps.length (pp ps))::(vi n::(vi k::(dds 19 []))))))))))) (ex := .norm) TAA_holds 400 [.r (.int .i64 d)] [2,4,5,7,8,9] (ac n2 a0) (by kernel_rfl)) (RunsW.seq_out (RunsW.go TAA_holds 400 [.b true] [2,7,8,9] (ac c2 a0) (by kernel_rfl)) (by intro e;cases e))))) (by intro e;cases e))))
theorem Yk61_2 (o:Bool) (ps:List (List Rn)) (n:Int) (k:Int) (d i:Int) (c1:(decide (k<n))=true) (c2:(decide (d>16))=false) (n1:0≤k∧k<(ps.length:Int)) (n2:Runs Yir 62 [.sl ((ps.getD (Int.toNat k) []).length) (pc (ps.getD (Int.toNat k) []))] (.int .i64 d)) (hl3:RunsW Yir (.loop Yc61i) (Ys61i o ps n k (ps.getD (Int.toNat k) []) d 0) (.exit 2) (Ys61i o ps n k (ps.getD (Int.toNat k) []) d i)):RunsW Yir Yc61 (Ys61 o ps n k) .norm (Ys61 o ps n (i64.wrap (k+1))):=(RunsW.seq (RunsW.go (t:=(dds 2 (.val (.bool o)::(dds 4 (.val (.sl ps.length (pp ps))::(vi n::(vi k::(.val (.bool (decide (k<n)))::(dds 18 []))))))))) (ex := .norm) TAA_holds 400 [] [2,7,8,9,10] a0 (by kernel_rfl)) (RunsW.seq (RunsW.go (t:=(dds 2 (.val (.bool o)::(dds 4 (.val (.sl ps.length (pp ps))::(vi n::(vi k::(dds 19 [])))))))) (ex := .norm) TAA_holds 400 [.b true] [2,7,8,9] (ac c1 a0) (by kernel_rfl)) (RunsW.seq (RunsW.block_norm (RunsW.seq (RunsW.go (t:=(dds 2 (.val (.bool o)::(dds 1 (.val (.sl ((ps.getD (Int.toNat k) []).length) (pc (ps.getD (Int.toNat k) [])))::(dds 2 (.val (.sl ps.length (pp ps))::(vi n::(vi k::(dds 19 [])))))))))) (ex := .norm) TAA_holds 400 [.v (.sl ((ps.getD (Int.toNat k) []).length) (pc (ps.getD (Int.toNat k) [])))] [2,4,7,8,9] (ac n1 (ac (take_ppI n1) a0)) (by kernel_rfl)) (RunsW.seq (RunsW.go (t:=(dds 2 (.val (.bool o)::(dds 1 (.val (.sl ((ps.getD (Int.toNat k) []).length) (pc (ps.getD (Int.toNat k) [])))::(vi d::(dds 1 (.val (.sl ps.length (pp ps))::(vi n::(vi k::(dds 19 []))))))))))) (ex := .norm) TAA_holds 400 [.r (.int .i64 d)] [2,4,5,7,8,9] (ac n2 a0) (by kernel_rfl)) (RunsW.seq (RunsW.go (t:=(dds 2 (.val (.bool o)::(dds 1 (.val (.sl ((ps.getD (Int.toNat k) []).length) (pc (ps.getD (Int.toNat k) [])))::(vi d::(dds 1 (.val (.sl ps.length (pp ps))::(vi n::(vi k::(dds 19 []))))))))))) (ex := .norm) TAA_holds 400 [.b false] [2,4,5,7,8,9] (ac c2 a0) (by kernel_rfl)) (RunsW.seq (RunsW.go TAA_holds 400 [] [2,4,5,6,7,8,9] a0 (by kernel_rfl)) (RunsW.block hl3)))))) (RunsW.go TAA_holds 400 [] [2,7,8,9] a0 (by kernel_rfl)))))
theorem Yk61_3 (o:Bool) (ps:List (List Rn)) (n:Int) (k:Int)  (c1:(decide (k<n))=false):RunsW Yir Yc61 (Ys61 o ps n k) (.exit 0) (Ys61 o ps n k):=(RunsW.seq (RunsW.go (t:=(dds 2 (.val (.bool o)::(dds 4 (.val (.sl ps.length (pp ps))::(vi n::(vi k::(.val (.bool (decide (k<n)))::(dds 18 []))))))))) (ex := .norm) TAA_holds 400 [] [2,7,8,9,10] a0 (by kernel_rfl)) (RunsW.seq_out (RunsW.go TAA_holds 400 [.b false] [2,7,8,9] (ac c1 a0) (by kernel_rfl)) (by intro e;cases e)))
def Ys61y (o:Bool) (ps:List (List Rn)) (n:Int) (k:Int):State:=(dds 2 (.val (.bool o)::(dds 4 (.val (.sl ps.length (pp ps))::(.val (.int .i64 n)::(.val (.int .i64 k)::(dds 19 [])))))))
theorem Yk61y_2 (o:Bool) (ps:List (List Rn)) (n:Int) (k:Int) (d i:Int) (c1:(decide (k<n))=true) (c2:(decide (d>16))=false) (n1:0≤k∧k<(ps.length:Int)) (n2:Runs Yir 62 [.sl ((ps.getD (Int.toNat k) []).length) (pc (ps.getD (Int.toNat k) []))] (.int .i64 d)) (hl3:RunsW Yir (.loop Yc61i) (Ys61i o ps n k (ps.getD (Int.toNat k) []) d 0) .ret (Ys61i true ps n k (ps.getD (Int.toNat k) []) d i)):RunsW Yir Yc61y (Ys61y o ps n k) .ret (Ys61y true ps n k):=(RunsW.seq (RunsW.go (t:=(dds 2 (.val (.bool o)::(dds 4 (.val (.sl ps.length (pp ps))::(vi n::(vi k::(.val (.bool (decide (k<n)))::(dds 18 []))))))))) (ex := .norm) TAA_holds 400 [] [2,7,8,9,10] a0 (by kernel_rfl)) (RunsW.seq (RunsW.go (t:=(dds 2 (.val (.bool o)::(dds 4 (.val (.sl ps.length (pp ps))::(vi n::(vi k::(dds 19 [])))))))) (ex := .norm) TAA_holds 400 [.b true] [2,7,8,9] (ac c1 a0) (by kernel_rfl)) (RunsW.seq_out (RunsW.block_ret (RunsW.seq (RunsW.go (t:=(dds 2 (.val (.bool o)::(dds 1 (.val (.sl ((ps.getD (Int.toNat k) []).length) (pc (ps.getD (Int.toNat k) [])))::(dds 2 (.val (.sl ps.length (pp ps))::(vi n::(vi k::(dds 19 [])))))))))) (ex := .norm) TAA_holds 400 [.v (.sl ((ps.getD (Int.toNat k) []).length) (pc (ps.getD (Int.toNat k) [])))] [2,4,7,8,9] (ac n1 (ac (take_ppI n1) a0)) (by kernel_rfl)) (RunsW.seq (RunsW.go (t:=(dds 2 (.val (.bool o)::(dds 1 (.val (.sl ((ps.getD (Int.toNat k) []).length) (pc (ps.getD (Int.toNat k) [])))::(vi d::(dds 1 (.val (.sl ps.length (pp ps))::(vi n::(vi k::(dds 19 []))))))))))) (ex := .norm) TAA_holds 400 [.r (.int .i64 d)] [2,4,5,7,8,9] (ac n2 a0) (by kernel_rfl)) (RunsW.seq (RunsW.go (t:=(dds 2 (.val (.bool o)::(dds 1 (.val (.sl ((ps.getD (Int.toNat k) []).length) (pc (ps.getD (Int.toNat k) [])))::(vi d::(dds 1 (.val (.sl ps.length (pp ps))::(vi n::(vi k::(dds 19 []))))))))))) (ex := .norm) TAA_holds 400 [.b false] [2,4,5,7,8,9] (ac c2 a0) (by kernel_rfl)) (RunsW.seq (RunsW.go TAA_holds 400 [] [2,4,5,6,7,8,9] a0 (by kernel_rfl)) (RunsW.block_ret (RunsW.keep (t':=(dds 2 (.val (.bool true)::(dds 4 (.val (.sl ps.length (pp ps))::(.val (.int .i64 n)::(.val (.int .i64 k)::(dds 19 [])))))))) [2,7,8,9] hl3 (by kernel_rfl)))))))) (by intro e;cases e))))
theorem Yrun61_n (ps:List (List Rn)) (n k:Int) (hl1:RunsW Yir (.loop Yc61) (Ys61 false ps (ps.length:Int) 0) (.exit 0) (Ys61 false ps n k)):Runs Yir 61 [.sl ps.length (pp ps)] (.bool false):=Runs.of_bodyW (fn:=Yi61) (s:=(dds 2 (.val (.bool false)::(dds 26 [])))) (ex := .ret) rfl rfl (RunsW.seq (RunsW.go (t:=(.val (.sl ps.length (pp ps))::(dds 1 (.val (.bool false)::(dds 26 []))))) (ex := .norm) TAA_holds 400 [] [0,2] a0 (by kernel_rfl)) (RunsW.seq (RunsW.seq (RunsW.go TAA_holds 400 [] [2,7,8,9] a0 (by kernel_rfl)) (RunsW.block hl1)) (RunsW.go TAA_holds 400 [] [2] a0 (by kernel_rfl)))) (by intro i e;cases e) rfl
theorem Yrun61_y (ps:List (List Rn)) (n k:Int) (hl1:RunsW Yir (.loop Yc61) (Ys61 false ps (ps.length:Int) 0) .ret (Ys61 true ps n k)):Runs Yir 61 [.sl ps.length (pp ps)] (.bool true):=Runs.of_bodyW (fn:=Yi61) (s:=(dds 2 (.val (.bool true)::(dds 4 (.val (.sl ps.length (pp ps))::(.val (.int .i64 n)::(.val (.int .i64 k)::(dds 19 [])))))))) (ex := .ret) rfl rfl (RunsW.seq (RunsW.go (t:=(.val (.sl ps.length (pp ps))::(dds 1 (.val (.bool false)::(dds 26 []))))) (ex := .norm) TAA_holds 400 [] [0,2] a0 (by kernel_rfl)) (RunsW.seq_out (RunsW.seq (RunsW.go TAA_holds 400 [] [2,7,8,9] a0 (by kernel_rfl)) (RunsW.block_ret hl1)) (by intro e;cases e))) (by intro i e;cases e) rfl
end Go.Proofs.Ythnnfemologhfaa
