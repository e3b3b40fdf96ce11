/- Texts of the proof of PolyRemainders, packed by pack.py: part 15 of 20. -/
import Derived.Test.YthnnfemologhfaaPme14
namespace Go.Proofs.Ythnnfemologhfaa
open Go.IntKind (i64 u64 u32)
open Go.Ai
set_option maxRecDepth 100000
theorem blen_one {n:Nat}:blen n=1↔n=1:=by
 unfold blen
 split
 ·omega
 ·rename_i h
  constructor
  ·intro h1
   have h2:Nat.log2 n=0:=by omega
   have:=(Nat.log2_eq_iff h).1 h2
   omega
  ·rintro rfl;decide
theorem blen_gt {n:Nat}:1<blen n↔1<n:=by
 have h1:=blen_one (n:=n)
 have h0:blen n=0↔n=0:=by unfold blen;split <;> omega
 omega
theorem cn_len (n:Int):(cn n).2.length=(limbs n.natAbs).length:=rfl
theorem drop_vals {rs:List Rn} {n:Nat} (h:n<rs.length):(vals rs).drop n=rval (rs.getD n z0)::(vals rs).drop (n+1):=by
 rw [List.drop_eq_getElem_cons (by rw [vals_length];exact h)]
 congr 1
 rw [← vals_getD,List.getD_eq_getElem?_getD,List.getElem?_eq_getElem (by rw [vals_length];exact h)];rfl
theorem cont_le {K:Nat} {p:List Int} (h:∀ x∈p,Fits K x):Fits K ((cont p:Nat):Int):=by
 by_cases h0:trimL p=[]
 ·rw [cont_zero.2 (trim_nil.1 h0)];exact fits_zero K
 ·have hc:=cont_pos h0
  have:∃ i,p.getD i 0 ≠ 0:=Classical.byContradiction fun hn=>h0 (trim_nil.2 fun i=>Classical.byContradiction fun hi=>hn ⟨i,hi⟩)
  obtain ⟨i,hi⟩:=this
  have hd:=cont_dvd p i
  have hf:=fits_getD h i
  unfold Fits at *
  rw [Int.natAbs_natCast]
  have:=Nat.le_of_dvd (by omega) (Int.ofNat_dvd_left.1 hd)
  omega
theorem cont_drop {p:List Int} (n:Nat):cont p∣cont (p.drop n):=by
 rw [dvd_cont]
 intro i
 have:=cont_dvd p (n+i)
 rw [List.getD_eq_getElem?_getD] at this ⊢
 rwa [List.getElem?_drop]
theorem Yloop85 {K:Nat} {rs:List Rn} {z:Rn} (hg:∀ r∈rs,Good K r) (hK:K<1048576) (hN:rs.length≤1048576):∀ n,n≤rs.length →
  ∃ i',RunsW Yir (.loop Yc85) (Ys85 rs (cn (cont ((vals rs).drop n):Nat)) ((n:Int)-1) z) (.exit 0) (Ys85 rs (cn (cont (vals rs):Nat)) i' z):=by
 intro n
 induction n with
 | zero =>
  intro _
  rw [List.drop_zero]
  exact ⟨_,RunsW.loop_out (Yk85_3 rs _ _ z (by simp)) (by intro e;cases e)⟩
 | succ n ih =>
  intro hn
  have e0:((n+1:Nat):Int)-1=(n:Int):=by omega
  have e1:i64.wrap ((n:Int)-1)=(n:Int)-1:=w64 (by omega) (by omega)
  have hf:Fits K ((cont ((vals rs).drop (n+1)):Nat):Int):=cont_le fun x hx=>fits_vals hg x (List.mem_of_mem_drop hx)
  have hl:=hf.len
  have hb:=wbits_run (neg:=(cn (cont ((vals rs).drop (n+1)):Nat)).1) (xs:=(cn (cont ((vals rs).drop (n+1)):Nat)).2) (big_u32 _) (by rw [cn_len];omega)
  rw [show rv (cn (cont ((vals rs).drop (n+1)):Nat)).1 (cn (cont ((vals rs).drop (n+1)):Nat)).2=(cont ((vals rs).drop (n+1)):Nat) from rval_cn _,Int.natAbs_natCast] at hb
  rw [e0]
  by_cases h1:cont ((vals rs).drop (n+1))=1
  ·have hc:cont (vals rs)=1:=by
    have:=cont_drop (p:=vals rs) (n+1)
    rw [h1] at this
    exact Nat.dvd_one.1 this
   rw [h1] at hb ⊢
   rw [hc]
   exact ⟨_,RunsW.loop_out (Yk85_2 rs _ (n:Nat) z _ (by simp) (by decide) hb) (by intro e;cases e)⟩
  ·obtain ⟨g1,g2⟩:=good_getD hg n
   have hgc:=wgcd_run (na:=(cn (cont ((vals rs).drop (n+1)):Nat)).1) (nb:=(rs.getD n z0).1) (xs:=(cn (cont ((vals rs).drop (n+1)):Nat)).2) (ys:=(rs.getD n z0).2) (big_u32 _) g1 (by rw [cn_len];omega) (by omega)
   rw [show rv (cn (cont ((vals rs).drop (n+1)):Nat)).1 (cn (cont ((vals rs).drop (n+1)):Nat)).2=(cont ((vals rs).drop (n+1)):Nat) from rval_cn _,show rv (rs.getD n z0).1 (rs.getD n z0).2=rval (rs.getD n z0) from rfl] at hgc
   have hstep:(Int.gcd ((cont ((vals rs).drop (n+1)):Nat):Int) (rval (rs.getD n z0)))=cont ((vals rs).drop n):=by
    rw [drop_vals (n:=n) (by omega),cont,Int.gcd,Int.natAbs_natCast,Nat.gcd_comm]
   rw [hstep] at hgc
   have k1:=Yk85_1 rs (cn (cont ((vals rs).drop (n+1)):Nat)) (n:Nat) z _ _ (by simp) (by
    rw [bne_iff_ne]
    have:=blen_one (n:=cont ((vals rs).drop (n+1)))
    omega) (by omega) hb (by rw [Int.toNat_natCast];exact hgc)
   rw [e1] at k1
   obtain ⟨i',h⟩:=ih (by omega)
   exact ⟨i',RunsW.loop k1 h⟩
theorem acontent_run {K:Nat} {rs:List Rn} (hg:∀ r∈rs,Good K r) (hK:K<1048576) (hN:rs.length≤1048576):Runs Yir 85 [.sl rs.length (pc rs)] (bigAV (cont (vals rs):Nat)):=by
 obtain ⟨i',h⟩:=Yloop85 (z:=z0) hg hK hN rs.length (Nat.le_refl _)
 rw [show (vals rs).drop rs.length=[] by rw [← vals_length,List.drop_length],show cn ((cont []:Nat):Int)=z0 from rfl] at h
 exact Yrun85 rs (cn (cont (vals rs):Nat)) z0 i' (by rw [w64 (by omega) (by omega)];exact h)
theorem tdiv_exact {x g:Int} (hg:0<g) (h:g∣x):Int.tdiv x g=x / g:=by
 obtain ⟨y,rfl⟩:=h
 rw [Int.mul_tdiv_cancel_left _ (by omega),Int.mul_ediv_cancel_left _ (by omega)]
theorem aprimitive_run {K:Nat} {rs:List Rn} (hg:∀ r∈rs,Good K r) (hK:K<1048576) (hN:rs.length≤1048576):Runs Yir 86 [.sl rs.length (pc rs)] (.fresh 2 (prim (vals rs)).length (pk (prim (vals rs)))):=by
 have ht:=atrim_run (fun r h=>(hg r h).mono (show K≤1048576 by omega)) hN
 have hfT:∀ x∈trimL (vals rs),Fits K x:=fits_mem_trim (fits_vals hg)
 have gts:=good_cns hfT
 have hvs:=vals_cn (trimL (vals rs))
 have hll:=trim_len (vals rs)
 rw [vals_length] at hll
 have hpk:pk (trimL (vals rs))=pc ((trimL (vals rs)).map cn):=rfl
 rw [hpk,← List.length_map (f:=cn)] at ht
 have hlm:((trimL (vals rs)).map cn).length=(trimL (vals rs)).length:=List.length_map ..
 have hc:=acontent_run gts hK (by omega)
 rw [hvs,cont_trim] at hc
 have hfc:Fits K ((cont (vals rs):Nat):Int):=cont_le (fits_vals hg)
 have hlc:=hfc.len
 have hb:=wbits_run (neg:=(cn (cont (vals rs):Nat)).1) (xs:=(cn (cont (vals rs):Nat)).2) (big_u32 _) (by rw [cn_len];omega)
 rw [show rv (cn (cont (vals rs):Nat)).1 (cn (cont (vals rs):Nat)).2=(cont (vals rs):Nat) from rval_cn _,Int.natAbs_natCast] at hb
 by_cases h1:1<cont (vals rs)
 ·have hgd:∀ t,rval (((trimL (vals rs)).map cn).getD t z0)=(trimL (vals rs)).getD t 0:=fun t=>by rw [← vals_getD,hvs]
  have key:∀ ts:List Rn,ts.length=(trimL (vals rs)).length→(∀ r∈ts,Good K r)→(∀ t,rval (ts.getD t z0)=(trimL (vals rs)).getD t 0) →
    RunsW Yir (.loop Yc86) (Ys86 ts.length ts (cn (cont (vals rs):Nat)) (ts.length:Nat) 0) (.exit 0) (Ys86 ts.length ((prim (vals rs)).map cn) (cn (cont (vals rs):Nat)) (ts.length:Nat) (ts.length:Nat)):=by
   intro ts hl gt hv
   have hlp:((prim (vals rs)).map cn).length=ts.length:=by rw [List.length_map,prim_length,hl]
   have h:=RunsW.up (prog:=Yir) (c:=Yc86) (ex := .exit 0) (fin:=Ys86 ts.length ((prim (vals rs)).map cn) (cn (cont (vals rs):Nat)) (ts.length:Nat) (ts.length:Nat))
    (fun i=>Ys86 ts.length (((prim (vals rs)).map cn).take i++ts.drop i) (cn (cont (vals rs):Nat)) (ts.length:Nat) (i:Nat)) ts.length (by intro e;cases e) ?_ ?_ 0 (Nat.zero_le _)
   ·exact h
   ·intro i hi
    have ei:i64.wrap ((i:Int)+1)=((i+1:Nat):Int):=by rw [w64 (by omega) (by omega)];omega
    have hlen:(((prim (vals rs)).map cn).take i++ts.drop i).length=ts.length:=by rw [List.length_append,List.length_take,List.length_drop];omega
    have hget:(((prim (vals rs)).map cn).take i++ts.drop i).getD i z0=ts.getD i z0:=by
     rw [List.getD_eq_getElem?_getD,List.getD_eq_getElem?_getD,List.getElem?_append_right (by rw [List.length_take];omega),List.length_take,List.getElem?_drop]
     congr 2;omega
    obtain ⟨g1,g2⟩:=good_getD gt i
    have hq:=wquo_run (na:=(ts.getD i z0).1) (nb:=(cn (cont (vals rs):Nat)).1) (xs:=(ts.getD i z0).2) (ys:=(cn (cont (vals rs):Nat)).2) g1 (big_u32 _) (by rw [show rv (cn (cont (vals rs):Nat)).1 (cn (cont (vals rs):Nat)).2=(cont (vals rs):Nat) from rval_cn _];omega) (by omega) (by rw [cn_len];omega)
    rw [show rv (cn (cont (vals rs):Nat)).1 (cn (cont (vals rs):Nat)).2=(cont (vals rs):Nat) from rval_cn _,show rv (ts.getD i z0).1 (ts.getD i z0).2=rval (ts.getD i z0) from rfl,hv,getD_trim] at hq
    have k:=Yk86_1 ts.length (((prim (vals rs)).map cn).take i++ts.drop i) (cn (cont (vals rs):Nat)) (ts.length:Nat) (i:Nat) _ _ (by simp;omega) (by omega) hlen (by rw [Int.toNat_natCast,hget];exact hq)
    refine k.to rfl ?_
    rw [ei,Int.toNat_natCast,tdiv_exact (by omega) (cont_dvd (vals rs) i),← getD_prim]
    congr 1
    apply List.ext_getElem?
    intro t
    have hpi:((prim (vals rs)).map cn)[i]?=some (cn ((prim (vals rs)).getD i 0)):=by
     rw [List.getElem?_map,List.getD_eq_getElem?_getD,List.getElem?_eq_getElem (by rw [List.length_map] at hlp;omega)];rfl
    rcases Nat.lt_trichotomy t i with g | g | g
    ·rw [List.getElem?_set_ne (by omega),List.getElem?_append_left (by rw [List.length_take];omega),List.getElem?_append_left (by rw [List.length_take];omega),List.getElem?_take_of_lt g,List.getElem?_take_of_lt (by omega)]
    ·subst g
     rw [List.getElem?_set_self (by omega),List.getElem?_append_left (by rw [List.length_take];omega),List.getElem?_take_of_lt (by omega),hpi]
    ·rw [List.getElem?_set_ne (by omega),List.getElem?_append_right (by rw [List.length_take];omega),List.getElem?_append_right (by rw [List.length_take];omega),List.length_take,List.length_take,List.getElem?_drop,List.getElem?_drop]
     congr 1;omega
   ·rw [List.take_of_length_le (by omega),List.drop_length,List.append_nil]
    exact Yk86_2 ts.length _ _ (ts.length:Nat) (ts.length:Nat) (by simp)
  have hl:=key _ hlm gts hgd
  have h:=Yrun86_1 rs ((trimL (vals rs)).map cn) _ _ _ _ _ _ _ (by rw [decide_eq_true_eq];have:=(blen_gt (n:=cont (vals rs))).2 h1;omega) ht (pc_noI _) (big_intsOnly _) hc hb hl
  rw [hlm,← prim_length] at h
  exact h
 ·have h:=Yrun86_2 rs ((trimL (vals rs)).map cn) _ _ (by rw [decide_eq_false_iff_not];have:=(blen_gt (n:=cont (vals rs))).1;omega) ht (pc_noI _) (big_intsOnly _) hc hb
  have hp:prim (vals rs)=trimL (vals rs):=by
   rcases Nat.eq_zero_or_pos (cont (vals rs)) with g | g
   ·rw [prim_nil.2 (cont_zero.1 g),trim_nil.2 (cont_zero.1 g)]
   ·exact prim_one (by omega)
  rw [hp]
  rw [hlm] at h
  exact h
theorem last_getD (rs:List Rn):rval (rs.getD (rs.length-1) z0)=top (vals rs):=by unfold top;rw [vals_getD,vals_length]
theorem apositive_run {rs:List Rn} (hg:∀ r∈rs,Good 1048576 r) (hN:rs.length≤1048576) : 
  (top (vals rs)<0→Runs Yir 115 [.sl rs.length (pc rs)] (.fresh 2 rs.length (pk (pneg (vals rs)))))∧(¬ top (vals rs)<0→Runs Yir 115 [.sl rs.length (pc rs)] (.sl rs.length (pc rs))):=by
 by_cases h0:0<rs.length
 ·have e1:i64.wrap ((rs.length:Int)-1)=((rs.length-1:Nat):Int):=by rw [w64 (by omega) (by omega)];omega
  obtain ⟨g1,g2⟩:=good_getD hg (rs.length-1)
  have hs:=wsign_run (neg:=(rs.getD (rs.length-1) z0).1) g1 g2
  rw [show rv (rs.getD (rs.length-1) z0).1 (rs.getD (rs.length-1) z0).2=rval (rs.getD (rs.length-1) z0) from rfl,last_getD] at hs
  refine ⟨fun h => ?_,fun h => ?_⟩
  ·have hn:=anegative_run hg hN
   have hpk:pk (pneg (vals rs))=pc ((pneg (vals rs)).map cn):=rfl
   have hll:((pneg (vals rs)).map cn).length=rs.length:=by rw [List.length_map,pneg_len,vals_length]
   rw [hpk] at hn ⊢
   rw [← hll] at hn ⊢
   have hn':Runs Yir 127 [.sl rs.length (pc rs)] (.fresh 2 ((pneg (vals rs)).map cn).length (pc ((pneg (vals rs)).map cn))):=by
    have:=anegative_run hg hN
    rw [hll];exact this
   rw [hll]
   have k:=Yrun115_1 rs ((pneg (vals rs)).map cn) (sgnI (top (vals rs))) (by simp;omega) (by unfold sgnI;rw [if_pos h];rfl) (by rw [e1];omega) (by rw [e1,Int.toNat_natCast];exact hs) hn'
   rw [hll] at k
   exact k
  ·exact Yrun115_2 rs (sgnI (top (vals rs))) (by simp;omega) (by unfold sgnI;rw [if_neg h];split <;> rfl) (by rw [e1];omega) (by rw [e1,Int.toNat_natCast];exact hs)
 ·have hz:rs=[]:=List.eq_nil_of_length_eq_zero (by omega)
  subst hz
  refine ⟨fun h=>absurd h (by decide),fun _=>Yrun115_3 [] (by decide)⟩
theorem aderived_run {K:Nat} {rs:List Rn} (hg:∀ r∈rs,Good K r) (hK:K+2≤1048576) (hN:rs.length≤1048576):Runs Yir 75 [.sl rs.length (pc rs)] (.fresh 2 (pder (vals rs)).length (pk (pder (vals rs)))):=by
 have hd:=degree_run (fun r h=>(hg r h).mono (show K≤1048576 by omega)) hN
 have hle:=topN_le (vals rs) rs.length
 have hl:=RunsW.up (prog:=Yir) (c:=Yc75) (ex := .exit 0) (fin:=Ys75 rs (topN (vals rs) rs.length-1) (pc ((List.range (topN (vals rs) rs.length-1)).map fun j=>cn (rval (rs.getD (j+1) z0)*((j+1:Nat):Int)))) ((topN (vals rs) rs.length-1+1:Nat):Int))
  (fun i=>Ys75 rs i (pc ((List.range i).map fun j=>cn (rval (rs.getD (j+1) z0)*((j+1:Nat):Int)))) ((i+1:Nat):Int)) (topN (vals rs) rs.length-1) (by intro e;cases e) ?_ ?_ 0 (Nat.zero_le _)
 ·have hfit:∀ r∈(List.range (topN (vals rs) rs.length-1)).map (fun j=>cn (rval (rs.getD (j+1) z0)*((j+1:Nat):Int))),Good 1048576 r:=by
   intro r hr
   obtain ⟨j,hj,rfl⟩:=List.mem_map.1 hr
   rw [List.mem_range] at hj
   have h2:Fits 2 ((j+1:Nat):Int):=fits_i64 (by omega)
   exact (good_cn ((good_getD hg (j+1)).fits.mul h2)).mono (by omega)
  have ht:=atrim_run hfit (by rw [List.length_map,List.length_range];omega)
  have hlen:((List.range (topN (vals rs) rs.length-1)).map (fun j=>cn (rval (rs.getD (j+1) z0)*((j+1:Nat):Int)))).length=topN (vals rs) rs.length-1:=by rw [List.length_map,List.length_range]
  have e:trimL (vals ((List.range (topN (vals rs) rs.length-1)).map (fun j=>cn (rval (rs.getD (j+1) z0)*((j+1:Nat):Int)))))=pder (vals rs):=by
   unfold pder
   apply trim_ext
   intro i
   rw [vals_range,getD_range,rval_cn,vals_getD,vals_length]
   by_cases h1:i<topN (vals rs) rs.length-1
   ·rw [if_pos h1,if_pos (by omega)]
   ·rw [if_neg h1]
    split
    ·have:rval (rs.getD (i+1) z0)=0:=by rw [← vals_getD];exact topN_zero (vals rs) rs.length (i+1) (by omega) (by omega)
     rw [this,Int.zero_mul]
    ·rfl
  rw [e,hlen] at ht
  have hpk:pk (pder (vals rs))=pc ((pder (vals rs)).map cn):=rfl
  rw [hpk,← List.length_map (f:=cn)] at ht ⊢
  exact Yrun75 rs _ _ _ _ hl ht
 ·intro i hi
  have ei:i64.wrap (((i+1:Nat):Int)+1)=((i+1+1:Nat):Int):=by rw [w64 (by omega) (by omega)];omega
  obtain ⟨g1,g2⟩:=good_getD hg (i+1)
  have ho:=wof_run (n:=((i+1:Nat):Int)) (by omega)
  have hfi:Fits 2 ((i+1:Nat):Int):=fits_i64 (by omega)
  have hm:=wmul_run (na:=(rs.getD (i+1) z0).1) (nb:=decide (((i+1:Nat):Int)<0)) (xs:=(rs.getD (i+1) z0).2) (ys:=limbs ((i+1:Nat):Int).natAbs) g1 (big_u32 _) (by have:=hfi.len;omega)
  rw [rv_big] at hm
  have k:=Yk75_1 rs i (pc ((List.range i).map fun j=>cn (rval (rs.getD (j+1) z0)*((j+1:Nat):Int)))) ((i+1:Nat):Int) (((topN (vals rs) rs.length:Nat):Int)-1) (rval (rs.getD (i+1) z0)*((i+1:Nat):Int)) (by simp;omega) (by omega) (by omega) hd ho (by rw [Int.toNat_natCast];exact hm)
  refine k.to rfl ?_
  rw [ei]
  congr 1
  rw [List.range_succ,List.map_append,pc_append]
  rfl
 ·exact Yk75_2 rs _ _ _ _ (by rw [decide_eq_false_iff_not];omega) hd
def TRB:Table:=TRA
theorem TRB_holds:THolds Yir TRB:=TRA_holds
end Go.Proofs.Ythnnfemologhfaa

namespace Go.Proofs.Ythnnfemologhfaa
open Go.IntKind (i64 u64 u32)
open Go.Ai
set_option maxRecDepth 100000
theorem lz_len {n:Int} {xs:List Int} (hu:U32 xs) (h0:0≤n) (h:n≤valL xs):(lz n).length≤xs.length :=
 limbs_len (by have:=valL_lt hu;omega)
theorem lz_val {n:Int} (h:0≤n):valL (lz n)=n:=by unfold lz;rw [limbs_val];omega
theorem rdiv_run {na nb:Bool} {xs ys:List Int} (hx:U32 xs) (hy:U32 ys) (h0:rv nb ys ≠ 0) (h1:xs.length<1000000) (h2:ys.length<1000000) :
  Runs Yir 131 [.agg [.bool na, .sl xs.length (lm xs)], .agg [.bool nb, .sl ys.length (lm ys)]] (.tup [bigAV (Int.tdiv (rv na xs) (rv nb ys)),bigAV (Int.tmod (rv na xs) (rv nb ys))]):=by
 have cx:=trimL_canon hx
 have cy:=trimL_canon hy
 have t1:=trim_len xs
 have t2:=trim_len ys
 have hX:=valL_nonneg hx
 have hY:0<valL ys:=by
  have:=valL_nonneg hy
  rcases Int.lt_or_le 0 (valL ys) with h | h
  ·exact h
  ·have hz:valL ys=0:=by omega
   exact absurd (by unfold rv;rw [hz];cases nb <;> rfl) h0
 have hy0:trimL ys ≠ []:=by
  intro e
  have:=trimL_val ys
  rw [e] at this
  simp only [valL] at this
  omega
 have hd:=divMag_run cx cy hy0 (by omega) (by omega)
 rw [trimL_val,trimL_val] at hd
 have hq0:0≤valL xs / valL ys:=Int.ediv_nonneg hX (by omega)
 have hq1:valL xs / valL ys≤valL xs:=Int.ediv_le_self _ hX
 have hr0:=Int.emod_nonneg (valL xs) (show valL ys ≠ 0 by omega)
 have hr1:valL xs % valL ys≤valL xs:=by
  have:=Int.mul_ediv_add_emod (valL xs) (valL ys)
  have:=Int.mul_nonneg (show 0≤valL ys by omega) hq0
  omega
 have l1:=lz_len hx hq0 hq1
 have l2:=lz_len hx hr0 hr1
 have m1:=mk1_run (neg := !(na==nb)) (xs:=lz (valL xs / valL ys)) (big_u32 _) (by omega)
 have m2:=mk1_run (neg:=na) (xs:=lz (valL xs % valL ys)) (big_u32 _) (by omega)
 have e1:rv (!(na==nb)) (lz (valL xs / valL ys))=Int.tdiv (rv na xs) (rv nb ys):=by
  unfold rv
  rw [lz_val hq0,← Int.tdiv_eq_ediv_of_nonneg hX]
  cases na <;> cases nb <;> simp [Int.neg_tdiv,Int.tdiv_neg]
 have e2:rv na (lz (valL xs % valL ys))=Int.tmod (rv na xs) (rv nb ys):=by
  unfold rv
  rw [lz_val hr0,← Int.tmod_eq_emod_of_nonneg hX]
  cases na <;> cases nb <;> simp [Int.neg_tmod,Int.tmod_neg]
 rw [e1] at m1
 rw [e2] at m2
 exact Yrun131 na nb xs ys _ _ _ _ (mag_run (by omega)) (mag_run (by omega)) hd m1 m2
theorem cn_u32 (n:Int):U32 (cn n).2:=big_u32 _
theorem rv_cn (n:Int):rv (cn n).1 (cn n).2=n:=rval_cn n
theorem Yloop130:∀ (n X Y:Nat),Y≤n→(limbs X).length<1000000→(limbs Y).length<1000000→RunsW Yir (.loop Ycn130) (Ysn130 (cn (X:Nat)) (cn (Y:Nat))) (.exit 0) (Ysn130 (cn (Nat.gcd X Y:Nat)) (cn 0)):=by
 intro n
 induction n with
 | zero =>
  intro X Y hY _ _
  have:Y=0:=by omega
  subst this
  rw [Nat.gcd_zero_right]
  exact RunsW.loop_out (Ykn130_2 (cn (X:Nat)) (cn 0) (by decide) (rsign_run (neg:=(cn 0).1) (xs:=(cn 0).2) (cn_u32 _) (by decide))) (by intro e;cases e)
 | succ n ih =>
  intro X Y hY h1 h2
  by_cases h0:Y=0
  ·subst h0
   rw [Nat.gcd_zero_right]
   exact RunsW.loop_out (Ykn130_2 (cn (X:Nat)) (cn 0) (by decide) (rsign_run (neg:=(cn 0).1) (xs:=(cn 0).2) (cn_u32 _) (by decide))) (by intro e;cases e)
  ·have hs:=rsign_run (neg:=(cn (Y:Nat)).1) (xs:=(cn (Y:Nat)).2) (big_u32 _) (by rw [cn_len,Int.natAbs_natCast];omega)
   have hd:=rdiv_run (na:=(cn (X:Nat)).1) (nb:=(cn (Y:Nat)).1) (xs:=(cn (X:Nat)).2) (ys:=(cn (Y:Nat)).2) (big_u32 _) (big_u32 _) (by rw [rv_cn];omega) (by rw [cn_len,Int.natAbs_natCast];omega) (by rw [cn_len,Int.natAbs_natCast];omega)
   rw [rv_cn,rv_cn] at hd
   rw [rv_cn] at hs
   have em:Int.tmod (X:Int) (Y:Int)=((X % Y:Nat):Int):=by rw [Int.tmod_eq_emod_of_nonneg (by omega)];omega
   rw [em] at hd
   have k:=Ykn130_1 (cn (X:Nat)) (cn (Y:Nat)) _ _ (by rw [rval_cn,bne_iff_ne];unfold sgnI; (repeat' split) <;> omega) (by rw [rval_cn];exact hs) hd
   have hlt:X % Y<Y:=Nat.mod_lt _ (by omega)
   have hle:(limbs (X % Y)).length≤(limbs Y).length:=by
    apply limbs_len
    have:=valL_lt (limbs_canon Y).1
    rw [limbs_val] at this
    omega
   have r:=ih Y (X % Y) (by omega) h2 (by omega)
   rw [Nat.gcd_comm X Y,Nat.gcd_rec Y X,Nat.gcd_comm (X % Y) Y]
   exact RunsW.loop k r
theorem rcommon_run {na nb:Bool} {xs ys:List Int} (hx:U32 xs) (hy:U32 ys) (h1:xs.length<1000000) (h2:ys.length<1000000) :
  Runs Yir 130 [.agg [.bool na, .sl xs.length (lm xs)], .agg [.bool nb, .sl ys.length (lm ys)]] (bigAV (Int.gcd (rv na xs) (rv nb ys):Nat)):=by
 have m1:=mk1_run (neg:=false) hx (by omega)
 have m2:=mk1_run (neg:=false) hy (by omega)
 have l1:=rv_len (neg:=na) hx
 have l2:=rv_len (neg:=nb) hy
 have e1:rv false xs=(((rv na xs).natAbs:Nat):Int):=by
  have:=valL_nonneg hx
  unfold rv;cases na <;> simp <;> omega
 have e2:rv false ys=(((rv nb ys).natAbs:Nat):Int):=by
  have:=valL_nonneg hy
  unfold rv;cases nb <;> simp <;> omega
 rw [e1] at m1
 rw [e2] at m2
 exact Yrun130 na nb xs ys _ _ _ _ m1 m2 (Yloop130 _ (rv na xs).natAbs (rv nb ys).natAbs (Nat.le_refl _) (by omega) (by omega))
theorem cont_append (a b:List Int):cont (a++b)=Nat.gcd (cont a) (cont b):=by
 induction a with
 | nil=>simp [cont]
 | cons x a ih=>simp only [List.cons_append,cont,ih,Nat.gcd_assoc]
theorem take_succ_vals {rs:List Rn} {i:Nat} (h:i<rs.length):(vals rs).take (i+1)=(vals rs).take i++[rval (rs.getD i z0)]:=by
 rw [List.take_succ_eq_append_getElem (by rw [vals_length];exact h)]
 congr 2
 rw [← vals_getD,List.getD_eq_getElem?_getD,List.getElem?_eq_getElem (by rw [vals_length];exact h)];rfl
theorem qinner_run {K:Nat} {rs:List Rn} (hg:∀ r∈rs,Good K r) (hK:K<1000000) (hN:rs.length≤1048576):Runs Yir 90 [.sl rs.length (pc rs)] (bigAV (cont (vals rs):Nat)):=by
 have h:=RunsW.up (prog:=Yir) (c:=Yc90) (ex := .exit 0) (fin:=Ys90 rs (cn (cont (vals rs):Nat)) (rs.length:Nat))
  (fun i=>Ys90 rs (cn (cont ((vals rs).take i):Nat)) (i:Nat)) rs.length (by intro e;cases e) ?_ ?_ 0 (Nat.zero_le _)
 ·exact Yrun90 rs (cn (cont (vals rs):Nat)) _ h
 ·intro i hi
  have ei:i64.wrap ((i:Int)+1)=((i+1:Nat):Int):=by rw [w64 (by omega) (by omega)];omega
  obtain ⟨g1,g2⟩:=good_getD hg i
  have hf:Fits K ((cont ((vals rs).take i):Nat):Int):=cont_le fun x hx=>fits_vals hg x (List.mem_of_mem_take hx)
  have hl:=hf.len
  have hc:=rcommon_run (na:=(cn (cont ((vals rs).take i):Nat)).1) (nb:=(rs.getD i z0).1) (xs:=(cn (cont ((vals rs).take i):Nat)).2) (ys:=(rs.getD i z0).2) (big_u32 _) g1 (by rw [cn_len];omega) (by omega)
  rw [rv_cn] at hc
  have k:=Yk90_1 rs (cn (cont ((vals rs).take i):Nat)) (i:Nat) _ (by simp;omega) (by omega) (by rw [Int.toNat_natCast];exact hc)
  refine k.to rfl ?_
  rw [ei,take_succ_vals hi,cont_append]
  congr 2
  show ((Nat.gcd (((cont ((vals rs).take i):Nat):Int)).natAbs (rval (rs.getD i z0)).natAbs:Nat):Int)=_
  rw [Int.natAbs_natCast]
  simp [cont]
 ·rw [List.take_of_length_le (by rw [vals_length];omega)]
  exact Yk90_2 rs _ _ (by simp)
theorem pc_map_snoc (g:Nat→Int) (i:Nat):pc ((List.range i).map fun j=>cn (g j))++([.bool (decide (g i<0)), .sl (limbs (g i).natAbs).length (lm (limbs (g i).natAbs))]:List AV)=pc ((List.range (i+1)).map fun j=>cn (g j)):=by
 rw [map_range_succ (fun j=>cn (g j)),← pc_snoc];rfl
theorem fits_tdiv {K:Nat} {x:Int} (h:Fits K x) (c:Int):Fits K (Int.tdiv x c):=by
 unfold Fits at *
 have:(Int.tdiv x c).natAbs=x.natAbs / c.natAbs:=Int.natAbs_tdiv x c
 have:=Nat.div_le_self x.natAbs c.natAbs
 omega
theorem qprim_run {K:Nat} {rs:List Rn} (hg:∀ r∈rs,Good K r) (hK:K<1000000) (hN:rs.length≤1048576):Runs Yir 91 [.sl rs.length (pc rs)] (.fresh 2 (prim (vals rs)).length (pk (prim (vals rs)))):=by
 have hi:=qinner_run hg hK hN
 have hfc:Fits K ((cont (vals rs):Nat):Int):=cont_le (fits_vals hg)
 have hlc:=hfc.len
 have hs:=rsign_run (neg:=(cn (cont (vals rs):Nat)).1) (xs:=(cn (cont (vals rs):Nat)).2) (big_u32 _) (by rw [cn_len];omega)
 rw [rv_cn] at hs
 by_cases h0:cont (vals rs)=0
 ·rw [prim_nil.2 (cont_zero.1 h0)]
  exact Yrun91_1 rs _ (by rw [h0];rfl) hi hs
 ·have h:=RunsW.up (prog:=Yir) (c:=Yc91) (ex := .exit 0) (fin:=Ys91 rs (cn (cont (vals rs):Nat)) rs.length (pc ((List.range rs.length).map fun j=>cn (Int.tdiv (rval (rs.getD j z0)) (cont (vals rs):Nat)))) (rs.length:Nat))
   (fun i=>Ys91 rs (cn (cont (vals rs):Nat)) i (pc ((List.range i).map fun j=>cn (Int.tdiv (rval (rs.getD j z0)) (cont (vals rs):Nat)))) (i:Nat)) rs.length (by intro e;cases e) ?_ ?_ 0 (Nat.zero_le _)
  ·have hgo:∀ r∈(List.range rs.length).map (fun j=>cn (Int.tdiv (rval (rs.getD j z0)) (cont (vals rs):Nat))),Good 1048576 r:=good_fill fun j _=>(good_cn (fits_tdiv (good_getD hg j).fits _)).mono (by omega)
   have ht:=qtrim_run hgo (by rw [List.length_map,List.length_range];exact hN)
   have e:trimL (vals ((List.range rs.length).map (fun j=>cn (Int.tdiv (rval (rs.getD j z0)) (cont (vals rs):Nat)))))=prim (vals rs):=by
    rw [← lead_prim (vals rs)]
    apply trim_ext
    intro i
    rw [vals_range,rval_cn,getD_prim,← vals_getD]
    by_cases h1:i<rs.length
    ·rw [if_pos h1,tdiv_exact (by omega) (cont_dvd _ _)]
    ·rw [if_neg h1,getD_end (by rw [vals_length];omega),Int.zero_ediv]
   rw [e,List.length_map,List.length_range] at ht
   have hpk:pk (prim (vals rs))=pc ((prim (vals rs)).map cn):=rfl
   rw [hpk,← List.length_map (f:=cn)] at ht ⊢
   exact Yrun91_2 rs _ _ _ _ _ (by rw [beq_eq_false_iff_ne];unfold sgnI; (repeat' split) <;> omega) hi hs h ht
  ·intro i hi2
   have ei:i64.wrap ((i:Int)+1)=((i+1:Nat):Int):=by rw [w64 (by omega) (by omega)];omega
   obtain ⟨g1,g2⟩:=good_getD hg i
   have hd:=rdiv_run (na:=(rs.getD i z0).1) (nb:=(cn (cont (vals rs):Nat)).1) (xs:=(rs.getD i z0).2) (ys:=(cn (cont (vals rs):Nat)).2) g1 (big_u32 _) (by rw [rv_cn];omega) (by omega) (by rw [cn_len];omega)
   rw [rv_cn] at hd
   have k:=Yk91_1 rs (cn (cont (vals rs):Nat)) i (pc ((List.range i).map fun j=>cn (Int.tdiv (rval (rs.getD j z0)) (cont (vals rs):Nat)))) (i:Nat) _ _ (by simp;omega) (by omega) (by omega) (by rw [Int.toNat_natCast];exact hd)
   refine k.to rfl ?_
   rw [ei,← pc_map_snoc (fun j=>Int.tdiv (rval (rs.getD j z0)) (cont (vals rs):Nat)) i]
   rfl
  ·exact Yk91_2 rs _ _ _ _ (by simp)
theorem qder_run {K:Nat} {rs:List Rn} (hg:∀ r∈rs,Good K r) (hK:K+2≤1000000) (hN:rs.length≤1048576):Runs Yir 89 [.sl rs.length (pc rs)] (.fresh 2 (pder (vals rs)).length (pk (pder (vals rs)))):=by
 have h:=RunsW.up (prog:=Yir) (c:=Yc89) (ex := .exit 0) (fin:=Ys89 rs (rs.length-1) (pc ((List.range (rs.length-1)).map fun j=>cn (((j+1:Nat):Int)*rval (rs.getD (j+1) z0)))) ((rs.length-1+1:Nat):Int))
  (fun i=>Ys89 rs i (pc ((List.range i).map fun j=>cn (((j+1:Nat):Int)*rval (rs.getD (j+1) z0)))) ((i+1:Nat):Int)) (rs.length-1) (by intro e;cases e) ?_ ?_ 0 (Nat.zero_le _)
 ·have hgo:∀ r∈(List.range (rs.length-1)).map (fun j=>cn (((j+1:Nat):Int)*rval (rs.getD (j+1) z0))),Good 1048576 r:=good_fill fun j hj=>by
   have h2:Fits 2 ((j+1:Nat):Int):=fits_i64 (by omega)
   exact (good_cn (h2.mul (good_getD hg (j+1)).fits)).mono (by omega)
  have ht:=qtrim_run hgo (by rw [List.length_map,List.length_range];omega)
  have e:trimL (vals ((List.range (rs.length-1)).map (fun j=>cn (((j+1:Nat):Int)*rval (rs.getD (j+1) z0)))))=pder (vals rs):=by
   unfold pder
   apply trim_ext
   intro i
   rw [vals_range,getD_range,rval_cn,vals_getD,vals_length,Int.mul_comm]
  rw [e,List.length_map,List.length_range] at ht
  have hpk:pk (pder (vals rs))=pc ((pder (vals rs)).map cn):=rfl
  rw [hpk,← List.length_map (f:=cn)] at ht ⊢
  exact Yrun89 rs _ _ _ _ h ht
 ·intro i hi
  have ei:i64.wrap (((i+1:Nat):Int)+1)=((i+1+1:Nat):Int):=by rw [w64 (by omega) (by omega)];omega
  obtain ⟨g1,g2⟩:=good_getD hg (i+1)
  have ho:=of_run (n:=((i+1:Nat):Int)) (by omega)
  have hfi:Fits 2 ((i+1:Nat):Int):=fits_i64 (by omega)
  have hm:=rtimes_run (na:=(cn ((i+1:Nat):Int)).1) (nb:=(rs.getD (i+1) z0).1) (xs:=(cn ((i+1:Nat):Int)).2) (ys:=(rs.getD (i+1) z0).2) (cn_u32 _) g1 (by rw [cn_len];have:=hfi.len;omega)
  rw [rv_cn] at hm
  have k:=Yk89_1 rs i (pc ((List.range i).map fun j=>cn (((j+1:Nat):Int)*rval (rs.getD (j+1) z0)))) ((i+1:Nat):Int) (by simp;omega) (by omega) (by omega) ho (by rw [Int.toNat_natCast];exact hm)
  refine k.to rfl ?_
  rw [ei,← pc_map_snoc (fun j=>((j+1:Nat):Int)*rval (rs.getD (j+1) z0)) i,Int.toNat_natCast]
 ·exact Yk89_2 rs _ _ _ (by rw [decide_eq_false_iff_not];omega)
theorem qneg_run {rs:List Rn} (hg:∀ r∈rs,Good 1048576 r) (hN:rs.length≤1048576):Runs Yir 129 [.sl rs.length (pc rs)] (.fresh 2 (trimL (pneg (vals rs))).length (pk (trimL (pneg (vals rs))))):=by
 have h:=RunsW.up (prog:=Yir) (c:=Yc129) (ex := .exit 0) (fin:=Ys129 rs rs.length (pc ((List.range rs.length).map fun j=>cn (-rval (rs.getD j z0)))) (rs.length:Nat))
  (fun i=>Ys129 rs i (pc ((List.range i).map fun j=>cn (-rval (rs.getD j z0)))) (i:Nat)) rs.length (by intro e;cases e) ?_ ?_ 0 (Nat.zero_le _)
 ·have hgo:∀ r∈(List.range rs.length).map (fun j=>cn (-rval (rs.getD j z0))),Good 1048576 r:=good_fill fun j _=>good_cn (good_getD hg j).fits.neg
  have ht:=qtrim_run hgo (by rw [List.length_map,List.length_range];exact hN)
  have e:trimL (vals ((List.range rs.length).map (fun j=>cn (-rval (rs.getD j z0)))))=trimL (pneg (vals rs)):=by
   apply trim_ext
   intro i
   rw [vals_range,rval_cn,getD_pneg,← vals_getD]
   split
   ·rfl
   ·rw [getD_end (by rw [vals_length];omega)];rfl
  rw [e,List.length_map,List.length_range] at ht
  have hpk:pk (trimL (pneg (vals rs)))=pc ((trimL (pneg (vals rs))).map cn):=rfl
  rw [hpk,← List.length_map (f:=cn)] at ht ⊢
  exact Yrun129 rs _ _ _ _ h ht
 ·intro i hi
  have ei:i64.wrap ((i:Int)+1)=((i+1:Nat):Int):=by rw [w64 (by omega) (by omega)];omega
  obtain ⟨g1,g2⟩:=good_getD hg i
  have k:=Yk129_1 rs i (pc ((List.range i).map fun j=>cn (-rval (rs.getD j z0)))) (i:Nat) (by simp;omega) (by omega) (by omega) (by rw [Int.toNat_natCast];exact rneg_run g1 g2)
  refine k.to rfl ?_
  rw [ei,← pc_map_snoc (fun j => -rval (rs.getD j z0)) i,Int.toNat_natCast]
 ·exact Yk129_2 rs _ _ _ (by simp)
end Go.Proofs.Ythnnfemologhfaa

namespace Go.Proofs.Ythnnfemologhfaa
open Go.IntKind (i64 u64 u32)
open Go.Ai
set_option maxRecDepth 100000
def Ys64i (qs:List Rn) (k:Nat) (rs:List Rn) (t:Rn) (a:Rn) (b:Rn) (at1:Int) (n:Int) (i:Int):State:=(dds 1 (.val (.sl qs.length (pc qs))::(dds 3 (.own 2 k (pc rs)::(.box [.bool t.1, .sl t.2.length (lm t.2)]::(dds 2 (.box [.bool a.1, .sl a.2.length (lm a.2)]::(dds 1 (.box [.bool b.1, .sl b.2.length (lm b.2)]::(dds 1 (.val (.int .i64 at1)::(dds 49 (.val (.int .i64 n)::(.val (.int .i64 i)::(dds 34 [])))))))))))))))
theorem Yk64i_1 (qs:List Rn) (k:Nat) (rs:List Rn) (t:Rn) (a:Rn) (b:Rn) (at1:Int) (n:Int) (i:Int)  (c1:(decide (i<n))=true) (c2:(decide (i≥at1))=true) (n1:0≤i∧i<(k:Int)) (n2:rs.length=k) (n3:(rs.set (Int.toNat i) (cn ((rval (rs.getD (Int.toNat i) z0))*(rval a)))).length=k) (n4:0≤(i64.wrap (i-at1))∧(i64.wrap (i-at1))<(qs.length:Int)) (n5:Runs Yir 113 [rawAV (rs.getD (Int.toNat i) z0),rawAV a] (bigAV ((rval (rs.getD (Int.toNat i) z0))*(rval a)))) (n6:Runs Yir 113 [rawAV b,rawAV (qs.getD (Int.toNat (i64.wrap (i-at1))) z0)] (bigAV ((rval b)*(rval (qs.getD (Int.toNat (i64.wrap (i-at1))) z0))))) (n7:Runs Yir 114 [rawAV ((rs.set (Int.toNat i) (cn ((rval (rs.getD (Int.toNat i) z0))*(rval a)))).getD (Int.toNat i) z0),bigAV ((rval b)*(rval (qs.getD (Int.toNat (i64.wrap (i-at1))) z0)))] (bigAV ((rval ((rs.set (Int.toNat i) (cn ((rval (rs.getD (Int.toNat i) z0))*(rval a)))).getD (Int.toNat i) z0))-((rval b)*(rval (qs.getD (Int.toNat (i64.wrap (i-at1))) z0)))))):RunsW Yir Yc64i (Ys64i qs k rs t a b at1 n i) .norm (Ys64i qs k ((rs.set (Int.toNat i) (cn ((rval (rs.getD (Int.toNat i) z0))*(rval a)))).set (Int.toNat i) (cn ((rval ((rs.set (Int.toNat i) (cn ((rval (rs.getD (Int.toNat i) z0))*(rval a)))).getD (Int.toNat i) z0))-((rval b)*(rval (qs.getD (Int.toNat (i64.wrap (i-at1))) z0)))))) t a b at1 n (i64.wrap (i+1))):=(RunsW.go TRB_holds 400 [.b true, .v (rawAV (rs.getD (Int.toNat i) z0)), .r (bigAV ((rval (rs.getD (Int.toNat i) z0))*(rval a))), .l (pc (rs.set (Int.toNat i) (cn ((rval (rs.getD (Int.toNat i) z0))*(rval a))))), .b true, .v (rawAV ((rs.set (Int.toNat i) (cn ((rval (rs.getD (Int.toNat i) z0))*(rval a)))).getD (Int.toNat i) z0)), .v (rawAV (qs.getD (Int.toNat (i64.wrap (i-at1))) z0)), .r (bigAV ((rval b)*(rval (qs.getD (Int.toNat (i64.wrap (i-at1))) z0)))), .r (bigAV ((rval ((rs.set (Int.toNat i) (cn ((rval (rs.getD (Int.toNat i) z0))*(rval a)))).getD (Int.toNat i) z0))-((rval b)*(rval (qs.getD (Int.toNat (i64.wrap (i-at1))) z0))))), .l (pc ((rs.set (Int.toNat i) (cn ((rval (rs.getD (Int.toNat i) z0))*(rval a)))).set (Int.toNat i) (cn ((rval ((rs.set (Int.toNat i) (cn ((rval (rs.getD (Int.toNat i) z0))*(rval a)))).getD (Int.toNat i) z0))-((rval b)*(rval (qs.getD (Int.toNat (i64.wrap (i-at1))) z0)))))))] [1,5,6,9,11,13,63,64] (ac c1 (ac n1 (ac (own_pcI n2 n1) (ac n5 (ac n1 (ac (lay_pcI (r:=cn ((rval (rs.getD (Int.toNat i) z0))*(rval a))) n2 n1) (ac c2 (ac n1 (ac (own_pcI n3 n1) (ac n4 (ac (take_pcI n4) (ac n6 (ac n7 (ac n1 (ac (lay_pcI (r:=cn ((rval ((rs.set (Int.toNat i) (cn ((rval (rs.getD (Int.toNat i) z0))*(rval a)))).getD (Int.toNat i) z0))-((rval b)*(rval (qs.getD (Int.toNat (i64.wrap (i-at1))) z0))))) n3 n1) a0))))))))))))))) (by kernel_rfl))
theorem Yk64i_2 (qs:List Rn) (k:Nat) (rs:List Rn) (t:Rn) (a:Rn) (b:Rn) (at1:Int) (n:Int) (i:Int)  (c1:(decide (i<n))=true) (c2:(decide (i≥at1))=false) (n1:0≤i∧i<(k:Int)) (n2:rs.length=k) (n3:Runs Yir 113 [rawAV (rs.getD (Int.toNat i) z0),rawAV a] (bigAV ((rval (rs.getD (Int.toNat i) z0))*(rval a)))):RunsW Yir Yc64i (Ys64i qs k rs t a b at1 n i) .norm (Ys64i qs k (rs.set (Int.toNat i) (cn ((rval (rs.getD (Int.toNat i) z0))*(rval a)))) t a b at1 n (i64.wrap (i+1))):=(RunsW.go TRB_holds 400 [.b true, .v (rawAV (rs.getD (Int.toNat i) z0)), .r (bigAV ((rval (rs.getD (Int.toNat i) z0))*(rval a))), .l (pc (rs.set (Int.toNat i) (cn ((rval (rs.getD (Int.toNat i) z0))*(rval a))))), .b false] [1,5,6,9,11,13,63,64] (ac c1 (ac n1 (ac (own_pcI n2 n1) (ac n3 (ac n1 (ac (lay_pcI (r:=cn ((rval (rs.getD (Int.toNat i) z0))*(rval a))) n2 n1) (ac c2 a0))))))) (by kernel_rfl))
theorem Yk64i_3 (qs:List Rn) (k:Nat) (rs:List Rn) (t:Rn) (a:Rn) (b:Rn) (at1:Int) (n:Int) (i:Int)  (c1:(decide (i<n))=false):RunsW Yir Yc64i (Ys64i qs k rs t a b at1 n i) (.exit 2) (Ys64i qs k rs t a b at1 n i):=(RunsW.go TRB_holds 400 [.b false] [1,5,6,9,11,13,63,64] (ac c1 a0) (by kernel_rfl))
def Ys64 (qs:List Rn) (k:Nat) (rs:List Rn) (t:Rn):State:=(dds 1 (.val (.sl qs.length (pc qs))::(dds 3 (.own 2 k (pc rs)::(.box [.bool t.1, .sl t.2.length (lm t.2)]::(dds 92 []))))))
theorem Yk64_1 (qs:List Rn) (k:Nat) (rs:List Rn) (t:Rn) (os us:List Rn) (a b:Rn) (g ab x y ny r1 r2 s at1 n i:Int) (c1:(decide ((k:Int)≥(qs.length:Int)))=true) (c2:(decide (s<0))=true) (n1:0≤(i64.wrap ((k:Int)-1))∧(i64.wrap ((k:Int)-1))<(k:Int)) (n2:rs.length=k) (n3:Runs Yir 109 [rawAV t,rawAV (rs.getD (Int.toNat (i64.wrap ((k:Int)-1))) z0)] (bigAV g)) (n4:Runs Yir 111 [rawAV t] (bigAV ab)) (n5:Runs Yir 110 [bigAV ab,bigAV g] (.tup [bigAV x,bigAV r1])) (n6:Runs Yir 110 [rawAV (rs.getD (Int.toNat (i64.wrap ((k:Int)-1))) z0),bigAV g] (.tup [bigAV y,bigAV r2])) (n7:Runs Yir 73 [rawAV t] (.int .i64 s)) (n8:Runs Yir 112 [bigAV y] (bigAV ny)) (hl9:RunsW Yir (.loop Yc64i) (Ys64i qs k rs t (cn x) (cn ny) (i64.wrap ((k:Int)-(qs.length:Int))) (k:Int) 0) (.exit 2) (Ys64i qs k os t a b at1 n i)) (n10:Runs Yir 86 [.sl k (pc os)] (.fresh 2 us.length (pc us))):RunsW Yir Yc64 (Ys64 qs k rs t) .norm (Ys64 qs us.length us t):=(RunsW.seq (RunsW.go (t:=(dds 1 (vp qs::(dds 3 (.own 2 k (pc rs)::(bR t::(dds 18 (.dup 5::(dds 73 []))))))))) (ex := .norm) TRB_holds 400 [.b true] [1,5,6,25] (ac c1 a0) (by kernel_rfl)) (RunsW.block_norm (RunsW.seq (RunsW.go (t:=(dds 1 (vp qs::(dds 3 (.own 2 k (pc rs)::(bR t::(bR (rs.getD (Int.toNat (i64.wrap ((k:Int)-1))) z0)::(dds 17 (.dup 5::(dds 4 (.dup 5::(.dup 5::(dds 2 (.ptr 5 (Int.toNat (i64.wrap ((k:Int)-1))*2)::(dds 64 []))))))))))))))) (ex := .norm) TRB_holds 400 [.v (rawAV (rs.getD (Int.toNat (i64.wrap ((k:Int)-1))) z0))] [1,5,6,7,25,30,31,34] (ac n1 (ac (own_pcI n2 n1) a0)) (by kernel_rfl)) (RunsW.seq (RunsW.go (t:=(dds 1 (vp qs::(dds 3 (.own 2 k (pc rs)::(bR t::(bR (rs.getD (Int.toNat (i64.wrap ((k:Int)-1))) z0)::(bN g::(dds 16 (.dup 5::(dds 4 (.dup 5::(.dup 5::(dds 2 (.ptr 5 (Int.toNat (i64.wrap ((k:Int)-1))*2)::(dds 64 [])))))))))))))))) (ex := .norm) TRB_holds 400 [.r (bigAV g)] [1,5,6,7,8,25,30,31,34] (ac n3 a0) (by kernel_rfl)) (RunsW.seq (RunsW.go (t:=(dds 1 (vp qs::(dds 3 (.own 2 k (pc rs)::(bR t::(bR (rs.getD (Int.toNat (i64.wrap ((k:Int)-1))) z0)::(bN g::(bN x::(dds 15 (.dup 5::(dds 4 (.dup 5::(.dup 5::(dds 2 (.ptr 5 (Int.toNat (i64.wrap ((k:Int)-1))*2)::(dds 64 []))))))))))))))))) (ex := .norm) TRB_holds 400 [.r (bigAV ab), .r (.tup [bigAV x,bigAV r1])] [1,5,6,7,8,9,25,30,31,34] (ac n4 (ac n5 a0)) (by kernel_rfl)) (RunsW.seq (RunsW.go (t:=(dds 1 (vp qs::(dds 3 (.own 2 k (pc rs)::(bR t::(dds 2 (bN x::(dds 1 (bN y::(dds 13 (.dup 5::(dds 4 (.dup 5::(.dup 5::(dds 2 (.ptr 5 (Int.toNat (i64.wrap ((k:Int)-1))*2)::(dds 64 [])))))))))))))))))) (ex := .norm) TRB_holds 400 [.r (.tup [bigAV y,bigAV r2])] [1,5,6,9,11,25,30,31,34] (ac n6 a0) (by kernel_rfl)) (RunsW.seq (RunsW.go (t:=(dds 1 (vp qs::(dds 3 (.own 2 k (pc rs)::(bR t::(dds 2 (bN x::(dds 1 (bN ny::(dds 13 (.dup 5::(dds 4 (.dup 5::(.dup 5::(dds 2 (.ptr 5 (Int.toNat (i64.wrap ((k:Int)-1))*2)::(dds 64 [])))))))))))))))))) (ex := .norm) TRB_holds 400 [.r (.int .i64 s), .b true, .r (bigAV ny)] [1,5,6,9,11,25,30,31,34] (ac n7 (ac c2 (ac n8 a0))) (by kernel_rfl)) (RunsW.seq (RunsW.go (t:=(dds 1 (vp qs::(dds 3 (.own 2 k (pc rs)::(bR t::(dds 2 (bN x::(dds 1 (bN ny::(dds 1 (vi (i64.wrap ((k:Int)-(qs.length:Int)))::(dds 11 (.dup 5::(dds 4 (.dup 5::(.dup 5::(dds 2 (.ptr 5 (Int.toNat (i64.wrap ((k:Int)-1))*2)::(dds 22 (.dup 5::(dds 41 [])))))))))))))))))))))) (ex := .norm) TRB_holds 400 [] [1,5,6,9,11,13,25,30,31,34,57] a0 (by kernel_rfl)) (RunsW.seq (RunsW.seq (RunsW.go TRB_holds 400 [] [1,5,6,9,11,13,63,64] a0 (by kernel_rfl)) (RunsW.block hl9)) (RunsW.go TRB_holds 400 [.r (.fresh 2 us.length (pc us))] [1,5,6] (ac n10 a0) (by kernel_rfl)))))))))))
theorem Yk64_2 (qs:List Rn) (k:Nat) (rs:List Rn) (t:Rn) (os us:List Rn) (a b:Rn) (g ab x y r1 r2 s at1 n i:Int) (c1:(decide ((k:Int)≥(qs.length:Int)))=true) (c2:(decide (s<0))=false) (n1:0≤(i64.wrap ((k:Int)-1))∧(i64.wrap ((k:Int)-1))<(k:Int)) (n2:rs.length=k) (n3:Runs Yir 109 [rawAV t,rawAV (rs.getD (Int.toNat (i64.wrap ((k:Int)-1))) z0)] (bigAV g)) (n4:Runs Yir 111 [rawAV t] (bigAV ab)) (n5:Runs Yir 110 [bigAV ab,bigAV g] (.tup [bigAV x,bigAV r1])) (n6:Runs Yir 110 [rawAV (rs.getD (Int.toNat (i64.wrap ((k:Int)-1))) z0),bigAV g] (.tup [bigAV y,bigAV r2])) (n7:Runs Yir 73 [rawAV t] (.int .i64 s)) (hl8:RunsW Yir (.loop Yc64i) (Ys64i qs k rs t (cn x) (cn y) (i64.wrap ((k:Int)-(qs.length:Int))) (k:Int) 0) (.exit 2) (Ys64i qs k os t a b at1 n i)) (n9:Runs Yir 86 [.sl k (pc os)] (.fresh 2 us.length (pc us))):RunsW Yir Yc64 (Ys64 qs k rs t) .norm (Ys64 qs us.length us t):=(RunsW.seq (RunsW.go (t:=(dds 1 (vp qs::(dds 3 (.own 2 k (pc rs)::(bR t::(dds 18 (.dup 5::(dds 73 []))))))))) (ex := .norm) TRB_holds 400 [.b true] [1,5,6,25] (ac c1 a0) (by kernel_rfl)) (RunsW.block_norm (RunsW.seq (RunsW.go (t:=(dds 1 (vp qs::(dds 3 (.own 2 k (pc rs)::(bR t::(bR (rs.getD (Int.toNat (i64.wrap ((k:Int)-1))) z0)::(dds 17 (.dup 5::(dds 4 (.dup 5::(.dup 5::(dds 2 (.ptr 5 (Int.toNat (i64.wrap ((k:Int)-1))*2)::(dds 64 []))))))))))))))) (ex := .norm) TRB_holds 400 [.v (rawAV (rs.getD (Int.toNat (i64.wrap ((k:Int)-1))) z0))] [1,5,6,7,25,30,31,34] (ac n1 (ac (own_pcI n2 n1) a0)) (by kernel_rfl)) (RunsW.seq (RunsW.go (t:=(dds 1 (vp qs::(dds 3 (.own 2 k (pc rs)::(bR t::(bR (rs.getD (Int.toNat (i64.wrap ((k:Int)-1))) z0)::(bN g::(dds 16 (.dup 5::(dds 4 (.dup 5::(.dup 5::(dds 2 (.ptr 5 (Int.toNat (i64.wrap ((k:Int)-1))*2)::(dds 64 [])))))))))))))))) (ex := .norm) TRB_holds 400 [.r (bigAV g)] [1,5,6,7,8,25,30,31,34] (ac n3 a0) (by kernel_rfl)) (RunsW.seq (RunsW.go (t:=(dds 1 (vp qs::(dds 3 (.own 2 k (pc rs)::(bR t::(bR (rs.getD (Int.toNat (i64.wrap ((k:Int)-1))) z0)::(bN g::(bN x::(dds 15 (.dup 5::(dds 4 (.dup 5::(.dup 5::(dds 2 (.ptr 5 (Int.toNat (i64.wrap ((k:Int)-1))*2)::(dds 64 []))))))))))))))))) (ex := .norm) TRB_holds 400 [.r (bigAV ab), .r (.tup [bigAV x,bigAV r1])] [1,5,6,7,8,9,25,30,31,34] (ac n4 (ac n5 a0)) (by kernel_rfl)) (RunsW.seq (RunsW.go (t:=(dds 1 (vp qs::(dds 3 (.own 2 k (pc rs)::(bR t::(dds 2 (bN x::(dds 1 (bN y::(dds 13 (.dup 5::(dds 4 (.dup 5::(.dup 5::(dds 2 (.ptr 5 (Int.toNat (i64.wrap ((k:Int)-1))*2)::(dds 64 [])))))))))))))))))) (ex := .norm) TRB_holds 400 [.r (.tup [bigAV y,bigAV r2])] [1,5,6,9,11,25,30,31,34] (ac n6 a0) (by kernel_rfl)) (RunsW.seq (RunsW.go (t:=(dds 1 (vp qs::(dds 3 (.own 2 k (pc rs)::(bR t::(dds 2 (bN x::(dds 1 (bN y::(dds 13 (.dup 5::(dds 4 (.dup 5::(.dup 5::(dds 2 (.ptr 5 (Int.toNat (i64.wrap ((k:Int)-1))*2)::(dds 64 [])))))))))))))))))) (ex := .norm) TRB_holds 400 [.r (.int .i64 s), .b false] [1,5,6,9,11,25,30,31,34] (ac n7 (ac c2 a0)) (by kernel_rfl)) (RunsW.seq (RunsW.go (t:=(dds 1 (vp qs::(dds 3 (.own 2 k (pc rs)::(bR t::(dds 2 (bN x::(dds 1 (bN y::(dds 1 (vi (i64.wrap ((k:Int)-(qs.length:Int)))::(dds 11 (.dup 5::(dds 4 (.dup 5::(.dup 5::(dds 2 (.ptr 5 (Int.toNat (i64.wrap ((k:Int)-1))*2)::(dds 22 (.dup 5::(dds 41 [])))))))))))))))))))))) (ex := .norm) TRB_holds 400 [] [1,5,6,9,11,13,25,30,31,34,57] a0 (by kernel_rfl)) (RunsW.seq (RunsW.seq (RunsW.go TRB_holds 400 [] [1,5,6,9,11,13,63,64] a0 (by kernel_rfl)) (RunsW.block hl8)) (RunsW.go TRB_holds 400 [.r (.fresh 2 us.length (pc us))] [1,5,6] (ac n9 a0) (by kernel_rfl)))))))))))
theorem Yk64_3 (qs:List Rn) (k:Nat) (rs:List Rn) (t:Rn)  (c1:(decide ((k:Int)≥(qs.length:Int)))=false):RunsW Yir Yc64 (Ys64 qs k rs t) (.exit 0) (Ys64 qs k rs t):=(RunsW.seq_out (RunsW.go TRB_holds 400 [.b false] [1,5,6] (ac c1 a0) (by kernel_rfl)) (by intro e;cases e))
theorem Yrun64 (rs ss ps qs us:List Rn) (t:Rn) (k:Nat) (n1:Runs Yir 86 [.sl rs.length (pc rs)] (.fresh 2 ps.length (pc ps))) (n2:Runs Yir 86 [.sl ss.length (pc ss)] (.fresh 2 qs.length (pc qs))) (n3:0≤(i64.wrap ((qs.length:Int)-1))∧(i64.wrap ((qs.length:Int)-1))<(qs.length:Int)) (hl4:RunsW Yir (.loop Yc64) (Ys64 qs ps.length ps (qs.getD (Int.toNat (i64.wrap ((qs.length:Int)-1))) z0)) (.exit 0) (Ys64 qs k us t)):Runs Yir 64 [.sl rs.length (pc rs), .sl ss.length (pc ss)] (.fresh 2 k (pc us)):=Runs.of_bodyW (fn:=Yi64) (s:=(dds 4 (.own 2 k (pc us)::(dds 94 [])))) (ex := .ret) rfl rfl (RunsW.seq (RunsW.go (t:=(vp rs::(vp ss::(dds 2 (.own 2 0 []::(dds 94 [])))))) (ex := .norm) TRB_holds 400 [] [0,1,4] a0 (by kernel_rfl)) (RunsW.seq (RunsW.go (t:=(vp rs::(vp qs::(dds 2 (.own 2 0 []::(.own 2 ps.length (pc ps)::(dds 93 []))))))) (ex := .norm) TRB_holds 400 [.r (.fresh 2 ps.length (pc ps)), .r (.fresh 2 qs.length (pc qs))] [0,1,4,5] (ac n1 (ac n2 a0)) (by kernel_rfl)) (RunsW.seq (RunsW.go TRB_holds 400 [.v (rawAV (qs.getD (Int.toNat (i64.wrap ((qs.length:Int)-1))) z0))] [1,5,6] (ac n3 (ac (take_pcI n3) a0)) (by kernel_rfl)) (RunsW.seq (RunsW.block hl4) (RunsW.go TRB_holds 400 [] [4] a0 (by kernel_rfl)))))) (by intro i e;cases e) rfl
def Ys65 (as1:List Rn) (bs:List Rn):State:=(dds 5 (.val (.sl as1.length (pc as1))::(.val (.sl bs.length (pc bs))::(dds 13 []))))
theorem Yk65_1 (as1:List Rn) (bs:List Rn) (us:List Rn) (c1:(decide ((bs.length:Int)>0))=true) (n1:Runs Yir 64 [.sl as1.length (pc as1), .sl bs.length (pc bs)] (.fresh 2 us.length (pc us))):RunsW Yir Yc65 (Ys65 as1 bs) .norm (Ys65 bs us):=(RunsW.go TRB_holds 400 [.b true, .r (.fresh 2 us.length (pc us))] [5,6] (ac c1 (ac n1 a0)) (by kernel_rfl))
theorem Yk65_2 (as1:List Rn) (bs:List Rn)  (c1:(decide ((bs.length:Int)>0))=false):RunsW Yir Yc65 (Ys65 as1 bs) (.exit 0) (Ys65 as1 bs):=(RunsW.go TRB_holds 400 [.b false] [5,6] (ac c1 a0) (by kernel_rfl))
theorem Yrun65_f (rs ss ps qs as1 bs ts:List Rn) (n1:Runs Yir 86 [.sl rs.length (pc rs)] (.fresh 2 ps.length (pc ps))) (n2:Runs Yir 86 [.sl ss.length (pc ss)] (.fresh 2 qs.length (pc qs))) (hl3:RunsW Yir (.loop Yc65) (Ys65 ps qs) (.exit 0) (Ys65 as1 bs)) (n4:Runs Yir 115 [.sl as1.length (pc as1)] (.fresh 2 ts.length (pc ts))):Runs Yir 65 [.sl rs.length (pc rs), .sl ss.length (pc ss)] (.fresh 2 ts.length (pc ts)):=Runs.of_bodyW (fn:=Yi65) (s:=(dds 4 (.own 2 ts.length (pc ts)::(dds 15 [])))) (ex := .ret) rfl rfl (RunsW.seq (RunsW.go (t:=(vp rs::(vp ss::(dds 2 (.own 2 0 []::(dds 15 [])))))) (ex := .norm) TRB_holds 400 [] [0,1,4] a0 (by kernel_rfl)) (RunsW.seq (RunsW.go TRB_holds 400 [.r (.fresh 2 ps.length (pc ps)), .r (.fresh 2 qs.length (pc qs))] [5,6] (ac n1 (ac n2 a0)) (by kernel_rfl)) (RunsW.seq (RunsW.block hl3) (RunsW.go TRB_holds 400 [.r (.fresh 2 ts.length (pc ts))] [4] (ac n4 a0) (by kernel_rfl))))) (by intro i e;cases e) rfl
theorem Yrun65_s (rs ss ps qs as1 bs:List Rn) (n1:Runs Yir 86 [.sl rs.length (pc rs)] (.fresh 2 ps.length (pc ps))) (n2:Runs Yir 86 [.sl ss.length (pc ss)] (.fresh 2 qs.length (pc qs))) (hl3:RunsW Yir (.loop Yc65) (Ys65 ps qs) (.exit 0) (Ys65 as1 bs)) (n4:Runs Yir 115 [.sl as1.length (pc as1)] (.sl as1.length (pc as1))):Runs Yir 65 [.sl rs.length (pc rs), .sl ss.length (pc ss)] (.sl as1.length (pc as1)):=Runs.of_bodyW (fn:=Yi65) (s:=(dds 4 (.val (.sl as1.length (pc as1))::(dds 15 [])))) (ex := .ret) rfl rfl (RunsW.seq (RunsW.go (t:=(vp rs::(vp ss::(dds 2 (.own 2 0 []::(dds 15 [])))))) (ex := .norm) TRB_holds 400 [] [0,1,4] a0 (by kernel_rfl)) (RunsW.seq (RunsW.go TRB_holds 400 [.r (.fresh 2 ps.length (pc ps)), .r (.fresh 2 qs.length (pc qs))] [5,6] (ac n1 (ac n2 a0)) (by kernel_rfl)) (RunsW.seq (RunsW.block hl3) (RunsW.go TRB_holds 400 [.r (.sl as1.length (pc as1))] [4] (ac n4 a0) (by kernel_rfl))))) (by intro i e;cases e) rfl
def Ys116a (qs:List Rn) (k:Nat) (rs:List Rn) (t:Rn) (kq:Nat) (os:List Rn) (j:Int) (l:Rn) (n:Int) (i:Int):State:=(dds 1 (.val (.sl qs.length (pc qs))::(dds 3 (.own 2 k (pc rs)::(.box [.bool t.1, .sl t.2.length (lm t.2)]::(.own 2 kq (pc os)::(.val (.int .i64 j)::(.box [.bool l.1, .sl l.2.length (lm l.2)]::(dds 34 (.val (.int .i64 n)::(.val (.int .i64 i)::(dds 57 []))))))))))))
theorem Yk116a_1 (qs:List Rn) (k:Nat) (rs:List Rn) (t:Rn) (kq:Nat) (os:List Rn) (j:Int) (l:Rn) (n:Int) (i:Int)  (c1:(decide (i<n))=true) (n1:0≤i∧i<(k:Int)) (n2:rs.length=k) (n3:Runs Yir 113 [rawAV (rs.getD (Int.toNat i) z0),rawAV t] (bigAV ((rval (rs.getD (Int.toNat i) z0))*(rval t)))):RunsW Yir Yc116a (Ys116a qs k rs t kq os j l n i) .norm (Ys116a qs k (rs.set (Int.toNat i) (cn ((rval (rs.getD (Int.toNat i) z0))*(rval t)))) t kq os j l n (i64.wrap (i+1))):=(RunsW.go TRB_holds 400 [.b true, .v (rawAV (rs.getD (Int.toNat i) z0)), .r (bigAV ((rval (rs.getD (Int.toNat i) z0))*(rval t))), .l (pc (rs.set (Int.toNat i) (cn ((rval (rs.getD (Int.toNat i) z0))*(rval t)))))] [1,5,6,7,8,9,44,45] (ac c1 (ac n1 (ac (own_pcI n2 n1) (ac n3 (ac n1 (ac (lay_pcI (r:=cn ((rval (rs.getD (Int.toNat i) z0))*(rval t))) n2 n1) a0)))))) (by kernel_rfl))
theorem Yk116a_2 (qs:List Rn) (k:Nat) (rs:List Rn) (t:Rn) (kq:Nat) (os:List Rn) (j:Int) (l:Rn) (n:Int) (i:Int)  (c1:(decide (i<n))=false):RunsW Yir Yc116a (Ys116a qs k rs t kq os j l n i) (.exit 2) (Ys116a qs k rs t kq os j l n i):=(RunsW.go TRB_holds 400 [.b false] [1,5,6,7,8,9,44,45] (ac c1 a0) (by kernel_rfl))
def Ys116b (qs:List Rn) (k:Nat) (rs:List Rn) (t:Rn) (kq:Nat) (os:List Rn) (j:Int) (l:Rn) (n:Int) (i:Int):State:=(dds 1 (.val (.sl qs.length (pc qs))::(dds 3 (.own 2 k (pc rs)::(.box [.bool t.1, .sl t.2.length (lm t.2)]::(.own 2 kq (pc os)::(.val (.int .i64 j)::(.box [.bool l.1, .sl l.2.length (lm l.2)]::(dds 49 (.val (.int .i64 n)::(.val (.int .i64 i)::(dds 42 []))))))))))))
theorem Yk116b_1 (qs:List Rn) (k:Nat) (rs:List Rn) (t:Rn) (kq:Nat) (os:List Rn) (j:Int) (l:Rn) (n:Int) (i:Int)  (c1:(decide (i<n))=true) (n1:0≤i∧i<(kq:Int)) (n2:os.length=kq) (n3:Runs Yir 113 [rawAV (os.getD (Int.toNat i) z0),rawAV t] (bigAV ((rval (os.getD (Int.toNat i) z0))*(rval t)))):RunsW Yir Yc116b (Ys116b qs k rs t kq os j l n i) .norm (Ys116b qs k rs t kq (os.set (Int.toNat i) (cn ((rval (os.getD (Int.toNat i) z0))*(rval t)))) j l n (i64.wrap (i+1))):=(RunsW.go TRB_holds 400 [.b true, .v (rawAV (os.getD (Int.toNat i) z0)), .r (bigAV ((rval (os.getD (Int.toNat i) z0))*(rval t))), .l (pc (os.set (Int.toNat i) (cn ((rval (os.getD (Int.toNat i) z0))*(rval t)))))] [1,5,6,7,8,9,59,60] (ac c1 (ac n1 (ac (own_pcI n2 n1) (ac n3 (ac n1 (ac (lay_pcI (r:=cn ((rval (os.getD (Int.toNat i) z0))*(rval t))) n2 n1) a0)))))) (by kernel_rfl))
theorem Yk116b_2 (qs:List Rn) (k:Nat) (rs:List Rn) (t:Rn) (kq:Nat) (os:List Rn) (j:Int) (l:Rn) (n:Int) (i:Int)  (c1:(decide (i<n))=false):RunsW Yir Yc116b (Ys116b qs k rs t kq os j l n i) (.exit 4) (Ys116b qs k rs t kq os j l n i):=(RunsW.go TRB_holds 400 [.b false] [1,5,6,7,8,9,59,60] (ac c1 a0) (by kernel_rfl))
def Ys116c (qs:List Rn) (k:Nat) (rs:List Rn) (t:Rn) (kq:Nat) (os:List Rn) (j:Int) (l:Rn) (n:Int) (i:Int):State:=(dds 1 (.val (.sl qs.length (pc qs))::(dds 3 (.own 2 k (pc rs)::(.box [.bool t.1, .sl t.2.length (lm t.2)]::(.own 2 kq (pc os)::(.val (.int .i64 j)::(.box [.bool l.1, .sl l.2.length (lm l.2)]::(dds 68 (.val (.int .i64 n)::(.val (.int .i64 i)::(dds 23 []))))))))))))
theorem Yk116c_1 (qs:List Rn) (k:Nat) (rs:List Rn) (t:Rn) (kq:Nat) (os:List Rn) (j:Int) (l:Rn) (n:Int) (i:Int)  (c1:(decide (i<n))=true) (n1:0≤(i64.wrap (j+i))∧(i64.wrap (j+i))<(k:Int)) (n2:rs.length=k) (n3:0≤i∧i<(qs.length:Int)) (n4:Runs Yir 113 [rawAV l,rawAV (qs.getD (Int.toNat i) z0)] (bigAV ((rval l)*(rval (qs.getD (Int.toNat i) z0))))) (n5:Runs Yir 114 [rawAV (rs.getD (Int.toNat (i64.wrap (j+i))) z0),bigAV ((rval l)*(rval (qs.getD (Int.toNat i) z0)))] (bigAV ((rval (rs.getD (Int.toNat (i64.wrap (j+i))) z0))-((rval l)*(rval (qs.getD (Int.toNat i) z0)))))):RunsW Yir Yc116c (Ys116c qs k rs t kq os j l n i) .norm (Ys116c qs k (rs.set (Int.toNat (i64.wrap (j+i))) (cn ((rval (rs.getD (Int.toNat (i64.wrap (j+i))) z0))-((rval l)*(rval (qs.getD (Int.toNat i) z0)))))) t kq os j l n (i64.wrap (i+1))):=(RunsW.go TRB_holds 400 [.b true, .v (rawAV (rs.getD (Int.toNat (i64.wrap (j+i))) z0)), .v (rawAV (qs.getD (Int.toNat i) z0)), .r (bigAV ((rval l)*(rval (qs.getD (Int.toNat i) z0)))), .r (bigAV ((rval (rs.getD (Int.toNat (i64.wrap (j+i))) z0))-((rval l)*(rval (qs.getD (Int.toNat i) z0))))), .l (pc (rs.set (Int.toNat (i64.wrap (j+i))) (cn ((rval (rs.getD (Int.toNat (i64.wrap (j+i))) z0))-((rval l)*(rval (qs.getD (Int.toNat i) z0)))))))] [1,5,6,7,8,9,78,79] (ac c1 (ac n1 (ac (own_pcI n2 n1) (ac n3 (ac (take_pcI n3) (ac n4 (ac n5 (ac n1 (ac (lay_pcI (r:=cn ((rval (rs.getD (Int.toNat (i64.wrap (j+i))) z0))-((rval l)*(rval (qs.getD (Int.toNat i) z0))))) n2 n1) a0))))))))) (by kernel_rfl))
theorem Yk116c_2 (qs:List Rn) (k:Nat) (rs:List Rn) (t:Rn) (kq:Nat) (os:List Rn) (j:Int) (l:Rn) (n:Int) (i:Int)  (c1:(decide (i<n))=false):RunsW Yir Yc116c (Ys116c qs k rs t kq os j l n i) (.exit 6) (Ys116c qs k rs t kq os j l n i):=(RunsW.go TRB_holds 400 [.b false] [1,5,6,7,8,9,78,79] (ac c1 a0) (by kernel_rfl))
def Ys116 (qs:List Rn) (k:Nat) (rs:List Rn) (t:Rn) (kq:Nat) (os:List Rn) (j:Int):State:=(dds 1 (.val (.sl qs.length (pc qs))::(dds 3 (.own 2 k (pc rs)::(.box [.bool t.1, .sl t.2.length (lm t.2)]::(.own 2 kq (pc os)::(.val (.int .i64 j)::(dds 94 []))))))))
theorem Yk116_1 (qs:List Rn) (k:Nat) (rs:List Rn) (t:Rn) (kq:Nat) (os:List Rn) (j:Int) (rs1 rs2 os1:List Rn) (m1 i1 m2 i2 m3 i3:Int) (c1:(decide (j≥0))=true) (n1:0≤(i64.wrap ((i64.wrap (j+(qs.length:Int)))-1))∧(i64.wrap ((i64.wrap (j+(qs.length:Int)))-1))<(k:Int)) (n2:rs.length=k) (hl3:RunsW Yir (.loop Yc116a) (Ys116a qs k rs t kq os j (rs.getD (Int.toNat (i64.wrap ((i64.wrap (j+(qs.length:Int)))-1))) z0) (k:Int) 0) (.exit 2) (Ys116a qs k rs1 t kq os j (rs.getD (Int.toNat (i64.wrap ((i64.wrap (j+(qs.length:Int)))-1))) z0) m1 i1)) (hl4:RunsW Yir (.loop Yc116b) (Ys116b qs k rs1 t kq os j (rs.getD (Int.toNat (i64.wrap ((i64.wrap (j+(qs.length:Int)))-1))) z0) (kq:Int) 0) (.exit 4) (Ys116b qs k rs1 t kq os1 j (rs.getD (Int.toNat (i64.wrap ((i64.wrap (j+(qs.length:Int)))-1))) z0) m2 i2)) (n5:0≤j∧j<(kq:Int)) (n6:os1.length=kq) (hl7:RunsW Yir (.loop Yc116c) (Ys116c qs k rs1 t kq (os1.set (Int.toNat j) (rs.getD (Int.toNat (i64.wrap ((i64.wrap (j+(qs.length:Int)))-1))) z0)) j (rs.getD (Int.toNat (i64.wrap ((i64.wrap (j+(qs.length:Int)))-1))) z0) (qs.length:Int) 0) (.exit 6) (Ys116c qs k rs2 t kq (os1.set (Int.toNat j) (rs.getD (Int.toNat (i64.wrap ((i64.wrap (j+(qs.length:Int)))-1))) z0)) j (rs.getD (Int.toNat (i64.wrap ((i64.wrap (j+(qs.length:Int)))-1))) z0) m3 i3)):RunsW Yir Yc116 (Ys116 qs k rs t kq os j) .norm (Ys116 qs k rs2 t kq (os1.set (Int.toNat j) (rs.getD (Int.toNat (i64.wrap ((i64.wrap (j+(qs.length:Int)))-1))) z0)) (i64.wrap (j-1))):=(RunsW.seq (RunsW.go (t:=(dds 1 (vp qs::(dds 3 (.own 2 k (pc rs)::(bR t::(.own 2 kq (pc os)::(vi j::(dds 94 []))))))))) (ex := .norm) TRB_holds 400 [.b true] [1,5,6,7,8] (ac c1 a0) (by kernel_rfl)) (RunsW.seq (RunsW.block_norm (RunsW.seq (RunsW.go (t:=(dds 1 (vp qs::(dds 3 (.own 2 k (pc rs)::(bR t::(.own 2 kq (pc os)::(vi j::(bR (rs.getD (Int.toNat (i64.wrap ((i64.wrap (j+(qs.length:Int)))-1))) z0)::(dds 93 [])))))))))) (ex := .norm) TRB_holds 400 [.v (rawAV (rs.getD (Int.toNat (i64.wrap ((i64.wrap (j+(qs.length:Int)))-1))) z0))] [1,5,6,7,8,9] (ac n1 (ac (own_pcI n2 n1) a0)) (by kernel_rfl)) (RunsW.seq (RunsW.seq (RunsW.go TRB_holds 400 [] [1,5,6,7,8,9,44,45] a0 (by kernel_rfl)) (RunsW.block hl3)) (RunsW.seq (RunsW.seq (RunsW.go TRB_holds 400 [] [1,5,6,7,8,9,59,60] a0 (by kernel_rfl)) (RunsW.block hl4)) (RunsW.seq (RunsW.go (t:=(dds 1 (vp qs::(dds 3 (.own 2 k (pc rs1)::(bR t::(.own 2 kq (pc (os1.set (Int.toNat j) (rs.getD (Int.toNat (i64.wrap ((i64.wrap (j+(qs.length:Int)))-1))) z0)))::(vi j::(bR (rs.getD (Int.toNat (i64.wrap ((i64.wrap (j+(qs.length:Int)))-1))) z0)::(dds 93 [])))))))))) (ex := .norm) TRB_holds 400 [.l (pc (os1.set (Int.toNat j) (rs.getD (Int.toNat (i64.wrap ((i64.wrap (j+(qs.length:Int)))-1))) z0)))] [1,5,6,7,8,9] (ac n5 (ac (lay_pcI (r:=rs.getD (Int.toNat (i64.wrap ((i64.wrap (j+(qs.length:Int)))-1))) z0) n6 n5) a0)) (by kernel_rfl)) (RunsW.seq (RunsW.go TRB_holds 400 [] [1,5,6,7,8,9,78,79] a0 (by kernel_rfl)) (RunsW.block hl7))))))) (RunsW.go TRB_holds 400 [] [1,5,6,7,8] a0 (by kernel_rfl))))
theorem Yk116_2 (qs:List Rn) (k:Nat) (rs:List Rn) (t:Rn) (kq:Nat) (os:List Rn) (j:Int)  (c1:(decide (j≥0))=false):RunsW Yir Yc116 (Ys116 qs k rs t kq os j) (.exit 0) (Ys116 qs k rs t kq os j):=(RunsW.seq_out (RunsW.go TRB_holds 400 [.b false] [1,5,6,7,8] (ac c1 a0) (by kernel_rfl)) (by intro e;cases e))
theorem Yrun116 (rs qs ps us xs os:List Rn) (t:Rn) (k kq:Nat) (j:Int) (n1:Runs Yir 92 [.sl rs.length (pc rs)] (.fresh 2 ps.length (pc ps))) (n2:0≤(i64.wrap ((qs.length:Int)-1))∧(i64.wrap ((qs.length:Int)-1))<(qs.length:Int)) (n3:0≤(i64.wrap ((i64.wrap ((ps.length:Int)-(qs.length:Int)))+1))∧(i64.wrap ((i64.wrap ((ps.length:Int)-(qs.length:Int)))+1))≤1048576) (hl4:RunsW Yir (.loop Yc116) ((dds 1 (.val (.sl qs.length (pc qs))::(dds 3 (.own 2 ps.length (pc ps)::(.box [.bool ((qs.getD (Int.toNat (i64.wrap ((qs.length:Int)-1))) z0).1), .sl ((qs.getD (Int.toNat (i64.wrap ((qs.length:Int)-1))) z0).2.length) (lm (qs.getD (Int.toNat (i64.wrap ((qs.length:Int)-1))) z0).2)]::(.own 2 (Int.toNat (i64.wrap ((i64.wrap ((ps.length:Int)-(qs.length:Int)))+1))) (replA [.bool false, .sl 0 []] (Int.toNat (i64.wrap ((i64.wrap ((ps.length:Int)-(qs.length:Int)))+1))))::(.val (.int .i64 (i64.wrap ((((Int.toNat (i64.wrap ((i64.wrap ((ps.length:Int)-(qs.length:Int)))+1))):Nat):Int)-1)))::(dds 94 []))))))))) (.exit 0) (Ys116 qs k xs t kq os j)) (n5:Runs Yir 86 [.sl kq (pc os)] (.fresh 2 us.length (pc us))):Runs Yir 116 [.sl rs.length (pc rs), .sl qs.length (pc qs)] (.fresh 2 us.length (pc us)):=Runs.of_bodyW (fn:=Yi116) (s:=(dds 4 (.own 2 us.length (pc us)::(dds 98 [])))) (ex := .ret) rfl rfl (RunsW.seq (RunsW.go (t:=(vp rs::(vp qs::(dds 2 (.own 2 0 []::(dds 98 [])))))) (ex := .norm) TRB_holds 400 [] [0,1,4] a0 (by kernel_rfl)) (RunsW.seq (RunsW.go (t:=(vp rs::(vp qs::(dds 2 (.own 2 0 []::(.own 2 ps.length (pc ps)::(dds 97 []))))))) (ex := .norm) TRB_holds 400 [.r (.fresh 2 ps.length (pc ps))] [0,1,4,5] (ac n1 a0) (by kernel_rfl)) (RunsW.seq (RunsW.go (t:=(vp rs::(vp qs::(dds 2 (.own 2 0 []::(.own 2 ps.length (pc ps)::(bR (qs.getD (Int.toNat (i64.wrap ((qs.length:Int)-1))) z0)::(dds 96 [])))))))) (ex := .norm) TRB_holds 400 [.v (rawAV (qs.getD (Int.toNat (i64.wrap ((qs.length:Int)-1))) z0))] [0,1,4,5,6] (ac n2 (ac (take_pcI n2) a0)) (by kernel_rfl)) (RunsW.seq (RunsW.go (t:=(vp rs::(vp qs::(dds 2 (.own 2 0 []::(.own 2 ps.length (pc ps)::(bR (qs.getD (Int.toNat (i64.wrap ((qs.length:Int)-1))) z0)::(.own 2 (Int.toNat (i64.wrap ((i64.wrap ((ps.length:Int)-(qs.length:Int)))+1))) (replA [.bool false, .sl 0 []] (Int.toNat (i64.wrap ((i64.wrap ((ps.length:Int)-(qs.length:Int)))+1))))::(dds 95 []))))))))) (ex := .norm) TRB_holds 400 [] [0,1,4,5,6,7] (ac n3 a0) (by kernel_rfl)) (RunsW.seq (RunsW.seq (RunsW.go TRB_holds 400 [] [1,5,6,7,8] a0 (by kernel_rfl)) (RunsW.block hl4)) (RunsW.go TRB_holds 400 [.r (.fresh 2 us.length (pc us))] [4] (ac n5 a0) (by kernel_rfl))))))) (by intro i e;cases e) rfl
theorem Yrun66_ff_1 (rs ps xs:List Rn) (c1:(decide ((xs.length:Int)<2))=true) (n1:Runs Yir 86 [.sl rs.length (pc rs)] (.fresh 2 ps.length (pc ps))) (n2:Runs Yir 115 [.sl ps.length (pc ps)] (.fresh 2 xs.length (pc xs))):Runs Yir 66 [.sl rs.length (pc rs)] (.sl xs.length (pc xs)):=Runs.go (fn:=Yi66) TRB_holds rfl 400 rfl [.r (.fresh 2 ps.length (pc ps)), .r (.fresh 2 xs.length (pc xs)), .b true] (ac n1 (ac n2 (ac c1 a0))) (by kernel_rfl)
theorem Yrun66_ff_2 (rs ps xs ds gs:List Rn) (c1:(decide ((xs.length:Int)<2))=false) (c2:(decide ((gs.length:Int)<2))=true) (n1:Runs Yir 86 [.sl rs.length (pc rs)] (.fresh 2 ps.length (pc ps))) (n2:Runs Yir 115 [.sl ps.length (pc ps)] (.fresh 2 xs.length (pc xs))) (n3:Runs Yir 75 [.sl xs.length (pc xs)] (.fresh 2 ds.length (pc ds))) (n4:Runs Yir 65 [.sl xs.length (pc xs), .sl ds.length (pc ds)] (.fresh 2 gs.length (pc gs))):Runs Yir 66 [.sl rs.length (pc rs)] (.sl xs.length (pc xs)):=Runs.go (fn:=Yi66) TRB_holds rfl 400 rfl [.r (.fresh 2 ps.length (pc ps)), .r (.fresh 2 xs.length (pc xs)), .b false, .r (.fresh 2 ds.length (pc ds)), .r (.fresh 2 gs.length (pc gs)), .b true] (ac n1 (ac n2 (ac c1 (ac n3 (ac n4 (ac c2 a0)))))) (by kernel_rfl)
theorem Yrun66_ff_3 (rs ps xs ds gs us:List Rn) (c1:(decide ((xs.length:Int)<2))=false) (c2:(decide ((gs.length:Int)<2))=false) (n1:Runs Yir 86 [.sl rs.length (pc rs)] (.fresh 2 ps.length (pc ps))) (n2:Runs Yir 115 [.sl ps.length (pc ps)] (.fresh 2 xs.length (pc xs))) (n3:Runs Yir 75 [.sl xs.length (pc xs)] (.fresh 2 ds.length (pc ds))) (n4:Runs Yir 65 [.sl xs.length (pc xs), .sl ds.length (pc ds)] (.fresh 2 gs.length (pc gs))) (n5:Runs Yir 116 [.sl xs.length (pc xs), .sl gs.length (pc gs)] (.fresh 2 us.length (pc us))):Runs Yir 66 [.sl rs.length (pc rs)] (.fresh 2 us.length (pc us)):=Runs.go (fn:=Yi66) TRB_holds rfl 400 rfl [.r (.fresh 2 ps.length (pc ps)), .r (.fresh 2 xs.length (pc xs)), .b false, .r (.fresh 2 ds.length (pc ds)), .r (.fresh 2 gs.length (pc gs)), .b false, .r (.fresh 2 us.length (pc us))] (ac n1 (ac n2 (ac c1 (ac n3 (ac n4 (ac c2 (ac n5 a0))))))) (by kernel_rfl)
theorem Yrun66_fs_2 (rs ps xs ds gs:List Rn) (c1:(decide ((xs.length:Int)<2))=false) (c2:(decide ((gs.length:Int)<2))=true) (n1:Runs Yir 86 [.sl rs.length (pc rs)] (.fresh 2 ps.length (pc ps))) (n2:Runs Yir 115 [.sl ps.length (pc ps)] (.fresh 2 xs.length (pc xs))) (n3:Runs Yir 75 [.sl xs.length (pc xs)] (.fresh 2 ds.length (pc ds))) (n4:Runs Yir 65 [.sl xs.length (pc xs), .sl ds.length (pc ds)] (.sl gs.length (pc gs))):Runs Yir 66 [.sl rs.length (pc rs)] (.sl xs.length (pc xs)):=Runs.go (fn:=Yi66) TRB_holds rfl 400 rfl [.r (.fresh 2 ps.length (pc ps)), .r (.fresh 2 xs.length (pc xs)), .b false, .r (.fresh 2 ds.length (pc ds)), .r (.sl gs.length (pc gs)), .b true] (ac n1 (ac n2 (ac c1 (ac n3 (ac n4 (ac c2 a0)))))) (by kernel_rfl)
theorem Yrun66_fs_3 (rs ps xs ds gs us:List Rn) (c1:(decide ((xs.length:Int)<2))=false) (c2:(decide ((gs.length:Int)<2))=false) (n1:Runs Yir 86 [.sl rs.length (pc rs)] (.fresh 2 ps.length (pc ps))) (n2:Runs Yir 115 [.sl ps.length (pc ps)] (.fresh 2 xs.length (pc xs))) (n3:Runs Yir 75 [.sl xs.length (pc xs)] (.fresh 2 ds.length (pc ds))) (n4:Runs Yir 65 [.sl xs.length (pc xs), .sl ds.length (pc ds)] (.sl gs.length (pc gs))) (n5:Runs Yir 116 [.sl xs.length (pc xs), .sl gs.length (pc gs)] (.fresh 2 us.length (pc us))):Runs Yir 66 [.sl rs.length (pc rs)] (.fresh 2 us.length (pc us)):=Runs.go (fn:=Yi66) TRB_holds rfl 400 rfl [.r (.fresh 2 ps.length (pc ps)), .r (.fresh 2 xs.length (pc xs)), .b false, .r (.fresh 2 ds.length (pc ds)), .r (.sl gs.length (pc gs)), .b false, .r (.fresh 2 us.length (pc us))] (ac n1 (ac n2 (ac c1 (ac n3 (ac n4 (ac c2 (ac n5 a0))))))) (by kernel_rfl)
theorem Yrun66_sf_2 (rs ps ds gs:List Rn) (c1:(decide ((ps.length:Int)<2))=false) (c2:(decide ((gs.length:Int)<2))=true) (n1:Runs Yir 86 [.sl rs.length (pc rs)] (.fresh 2 ps.length (pc ps))) (n2:Runs Yir 115 [.sl ps.length (pc ps)] (.sl ps.length (pc ps))) (n3:Runs Yir 75 [.sl ps.length (pc ps)] (.fresh 2 ds.length (pc ds))) (n4:Runs Yir 65 [.sl ps.length (pc ps), .sl ds.length (pc ds)] (.fresh 2 gs.length (pc gs))):Runs Yir 66 [.sl rs.length (pc rs)] (.sl ps.length (pc ps)):=Runs.go (fn:=Yi66) TRB_holds rfl 400 rfl [.r (.fresh 2 ps.length (pc ps)), .r (.sl ps.length (pc ps)), .b false, .r (.fresh 2 ds.length (pc ds)), .r (.fresh 2 gs.length (pc gs)), .b true] (ac n1 (ac n2 (ac c1 (ac n3 (ac n4 (ac c2 a0)))))) (by kernel_rfl)
theorem Yrun66_sf_3 (rs ps ds gs us:List Rn) (c1:(decide ((ps.length:Int)<2))=false) (c2:(decide ((gs.length:Int)<2))=false) (n1:Runs Yir 86 [.sl rs.length (pc rs)] (.fresh 2 ps.length (pc ps))) (n2:Runs Yir 115 [.sl ps.length (pc ps)] (.sl ps.length (pc ps))) (n3:Runs Yir 75 [.sl ps.length (pc ps)] (.fresh 2 ds.length (pc ds))) (n4:Runs Yir 65 [.sl ps.length (pc ps), .sl ds.length (pc ds)] (.fresh 2 gs.length (pc gs))) (n5:Runs Yir 116 [.sl ps.length (pc ps), .sl gs.length (pc gs)] (.fresh 2 us.length (pc us))):Runs Yir 66 [.sl rs.length (pc rs)] (.fresh 2 us.length (pc us)):=Runs.go (fn:=Yi66) TRB_holds rfl 400 rfl [.r (.fresh 2 ps.length (pc ps)), .r (.sl ps.length (pc ps)), .b false, .r (.fresh 2 ds.length (pc ds)), .r (.fresh 2 gs.length (pc gs)), .b false, .r (.fresh 2 us.length (pc us))] (ac n1 (ac n2 (ac c1 (ac n3 (ac n4 (ac c2 (ac n5 a0))))))) (by kernel_rfl)
theorem Yrun66_ss_1 (rs ps:List Rn) (c1:(decide ((ps.length:Int)<2))=true) (n1:Runs Yir 86 [.sl rs.length (pc rs)] (.fresh 2 ps.length (pc ps))) (n2:Runs Yir 115 [.sl ps.length (pc ps)] (.sl ps.length (pc ps))):Runs Yir 66 [.sl rs.length (pc rs)] (.sl ps.length (pc ps)):=Runs.go (fn:=Yi66) TRB_holds rfl 400 rfl [.r (.fresh 2 ps.length (pc ps)), .r (.sl ps.length (pc ps)), .b true] (ac n1 (ac n2 (ac c1 a0))) (by kernel_rfl)
theorem Yrun66_ss_2 (rs ps ds gs:List Rn) (c1:(decide ((ps.length:Int)<2))=false) (c2:(decide ((gs.length:Int)<2))=true) (n1:Runs Yir 86 [.sl rs.length (pc rs)] (.fresh 2 ps.length (pc ps))) (n2:Runs Yir 115 [.sl ps.length (pc ps)] (.sl ps.length (pc ps))) (n3:Runs Yir 75 [.sl ps.length (pc ps)] (.fresh 2 ds.length (pc ds))) (n4:Runs Yir 65 [.sl ps.length (pc ps), .sl ds.length (pc ds)] (.sl gs.length (pc gs))):Runs Yir 66 [.sl rs.length (pc rs)] (.sl ps.length (pc ps)):=Runs.go (fn:=Yi66) TRB_holds rfl 400 rfl [.r (.fresh 2 ps.length (pc ps)), .r (.sl ps.length (pc ps)), .b false, .r (.fresh 2 ds.length (pc ds)), .r (.sl gs.length (pc gs)), .b true] (ac n1 (ac n2 (ac c1 (ac n3 (ac n4 (ac c2 a0)))))) (by kernel_rfl)
theorem Yrun66_ss_3 (rs ps ds gs us:List Rn) (c1:(decide ((ps.length:Int)<2))=false) (c2:(decide ((gs.length:Int)<2))=false) (n1:Runs Yir 86 [.sl rs.length (pc rs)] (.fresh 2 ps.length (pc ps))) (n2:Runs Yir 115 [.sl ps.length (pc ps)] (.sl ps.length (pc ps))) (n3:Runs Yir 75 [.sl ps.length (pc ps)] (.fresh 2 ds.length (pc ds))) (n4:Runs Yir 65 [.sl ps.length (pc ps), .sl ds.length (pc ds)] (.sl gs.length (pc gs))) (n5:Runs Yir 116 [.sl ps.length (pc ps), .sl gs.length (pc gs)] (.fresh 2 us.length (pc us))):Runs Yir 66 [.sl rs.length (pc rs)] (.fresh 2 us.length (pc us)):=Runs.go (fn:=Yi66) TRB_holds rfl 400 rfl [.r (.fresh 2 ps.length (pc ps)), .r (.sl ps.length (pc ps)), .b false, .r (.fresh 2 ds.length (pc ds)), .r (.sl gs.length (pc gs)), .b false, .r (.fresh 2 us.length (pc us))] (ac n1 (ac n2 (ac c1 (ac n3 (ac n4 (ac c2 (ac n5 a0))))))) (by kernel_rfl)
def TMA:Table:=TRB
theorem TMA_holds:THolds Yir TMA:=TRB_holds
end Go.Proofs.Ythnnfemologhfaa

namespace Go.Ai
open Go.IntKind (i64 u64 u32)
theorem least_div (c:Nat) (hc:1<c):∃ p,1<p∧p∣c∧∀ d,d∣p→d=1∨d=p:=by
 have h:∀ n,∀ m,m≤n→1<m→m∣c→∃ p,1<p∧p∣c∧∀ d,d∣p→d=1∨d=p:=by
  intro n
  induction n with
  | zero=>intro m h1 h2;omega
  | succ n ih =>
   intro m h1 h2 h3
   by_cases h:∀ d,d∣m→d=1∨d=m
   ·exact ⟨m,h2,h3,h⟩
   ·obtain ⟨d,hd⟩:=Classical.not_forall.1 h
    obtain ⟨hd1,hd2⟩:=Classical.not_imp.1 hd
    have h5:=Nat.le_of_dvd (by omega) hd1
    have h6:d ≠ 0:=by intro h0;subst h0;have:=Nat.zero_dvd.1 hd1;omega
    exact ih d (by omega) (by omega) (Nat.dvd_trans hd1 h3)
 exact h c c (Nat.le_refl _) hc (Nat.dvd_refl _)
theorem prime_mul {p:Nat} (hp:∀ d,d∣p→d=1∨d=p) {a b:Int} (h:(p:Int)∣a*b):(p:Int)∣a∨(p:Int)∣b:=by
 rcases hp (Nat.gcd p a.natAbs) (Nat.gcd_dvd_left _ _) with g | g
 ·right
  have h1:p∣a.natAbs*b.natAbs:=by rw [← Int.natAbs_mul];exact Int.ofNat_dvd_left.1 h
  exact Int.ofNat_dvd_left.2 (Nat.Coprime.dvd_of_dvd_mul_left g h1)
 ·left
  have:p∣a.natAbs:=by rw [← g];exact Nat.gcd_dvd_right _ _
  exact Int.ofNat_dvd_left.2 this
theorem pmul_cons_right (g:List Int) (b:Int) (k:List Int) (i:Nat):(pmul g (b::k)).getD i 0=b*g.getD i 0+(shiftP 1 (pmul g k)).getD i 0:=by
 have h:=peval_inj' (p:=pmul g (b::k)) (q:=padd (psmul b g) (shiftP 1 (pmul g k))) (fun x=>by
  rw [peval_pmul,peval_padd,peval_psmul,peval_shiftP,peval_pmul]
  simp only [peval,Int.pow_succ,Int.pow_zero]
  grind) i
 rw [h,getD_padd,getD_psmul]
theorem gauss_prime {p:Nat} (hp:∀ d,d∣p→d=1∨d=p):∀ (g k:List Int),(∀ i,(p:Int)∣(pmul g k).getD i 0)→(¬ ∀ i,(p:Int)∣g.getD i 0)→∀ i,(p:Int)∣k.getD i 0
 | [],k,_,h=>absurd (fun i=>by simp) h
 | a::g,k,h,hn=>by
  by_cases ha:(p:Int)∣a
  ·refine gauss_prime hp g k (fun i => ?_) (fun h2=>hn fun i => ?_)
   ·have h1:=h (i+1)
    rw [getD_pmul_cons,getD_shiftP,if_pos (by omega)] at h1
    exact (Int.dvd_add_right (Int.dvd_trans ha (Int.dvd_mul_right _ _))).1 h1
   ·cases i with
    | zero=>simpa using ha
    | succ i=>simpa using h2 i
  ·clear hn
   induction k with
   | nil=>intro i;simp
   | cons b k ih =>
    have h0:=h 0
    rw [getD_pmul_cons,getD_shiftP,if_neg (by omega),Int.add_zero] at h0
    have hb:(p:Int)∣b:=by
     rcases prime_mul hp h0 with g1 | g1
     ·exact absurd g1 ha
     ·simpa using g1
    have h2:=ih (fun i=>by
     have h1:=h (i+1)
     rw [pmul_cons_right,getD_shiftP,if_pos (by omega)] at h1
     exact (Int.dvd_add_right (Int.dvd_trans hb (Int.dvd_mul_right _ _))).1 h1)
    intro i
    cases i with
    | zero=>simpa using hb
    | succ i=>simpa using h2 i
theorem gauss {g : List Int} (hg : cont g = 1) : ∀ (c : Nat) (k : List Int), 0 < c → (∀ i, (c : Int) ∣ (pmul g k).getD i 0) → ∀ i, (c : Int) ∣ k.getD i 0 := by
  intro c
  induction c using Nat.strongRecOn with
  | ind c ih =>
    intro k hc h
    by_cases h1 : c = 1
    · intro i; rw [h1]; exact Int.one_dvd _
    · obtain ⟨p, p1, ⟨d, hd⟩, p3⟩ := least_div c (by omega)
      have hd0 : 0 < d := by rcases Nat.eq_zero_or_pos d with g | g
                             · rw [g, Nat.mul_zero] at hd; omega
                             · exact g
      have hdc : d < c := by rw [hd]; exact (Nat.lt_mul_iff_one_lt_left hd0).2 p1
      have hpk := gauss_prime p3 g k (fun i => Int.dvd_trans ⟨(d : Int), by rw [hd]; push_cast; rfl⟩ (h i)) (fun h2 => by
        have := (dvd_cont p g).2 h2
        rw [hg] at this
        have := Nat.le_of_dvd (by decide) this
        omega)
      have hk : psmul (p : Int) (k.map fun x => x / (p : Int)) = k := by
        apply list_ext (by simp [psmul])
        intro i
        rw [getD_psmul]
        have e : (k.map fun x => x / (p : Int)).getD i 0 = k.getD i 0 / (p : Int) := by
          simp only [List.getD_eq_getElem?_getD, List.getElem?_map]
          cases k[i]? <;> simp
        rw [e]
        exact Int.mul_ediv_cancel' (hpk i)
      generalize k.map (fun x => x / (p : Int)) = k1 at hk
      subst hk
      have h3 := ih d hdc k1 hd0 (fun i => by
        have h2 := h i
        have e : (pmul g (psmul (p : Int) k1)).getD i 0 = (p : Int) * (pmul g k1).getD i 0 := by
          rw [← getD_psmul]
          exact peval_inj' (fun x => by rw [peval_pmul, peval_psmul, peval_psmul, peval_pmul]; grind) i
        rw [e, hd, Int.natCast_mul] at h2
        exact Int.dvd_of_mul_dvd_mul_left (by omega) h2)
      intro i
      rw [getD_psmul, hd, Int.natCast_mul]
      exact Int.mul_dvd_mul_left _ (h3 i)
def syn:List Int→Int→List Int
 | [],_=>[]
 | _::p,a=>padd p (psmul a (syn p a))
theorem syn_eval:∀ (p:List Int) (a x:Int),peval p x-peval p a=(x-a)*peval (syn p a) x
 | [],a,x=>by simp [syn,peval]
 | c::p,a,x=>by
  have ih:=syn_eval p a x
  simp only [syn,peval]
  rw [peval_padd,peval_psmul]
  grind
theorem syn_len:∀ (p:List Int) (a:Int),(syn p a).length≤p.length-1
 | [],a=>by simp [syn]
 | c::p,a=>by
  have ih:=syn_len p a
  have:=padd_len p (psmul a (syn p a))
  rw [psmul_length] at this
  simp only [syn,List.length_cons]
  omega
theorem syn_coef (p:List Int) (a:Int) (i:Nat):p.getD i 0=(peval p a::syn p a).getD i 0-a*(syn p a).getD i 0:=by
 have h:=peval_inj' (p:=p) (q:=psub (peval p a::syn p a) (psmul a (syn p a))) (fun x=>by
  rw [peval_psub,peval_psmul]
  simp only [peval]
  have:=syn_eval p a x
  grind) i
 rw [h,getD_psub,getD_psmul]
theorem roots_few:∀ (n:Nat) (p:List Int) (l:List Int),p.length≤n→l.Nodup→(∀ x∈l,peval p x=0)→n≤l.length→∀ i,p.getD i 0=0:=by
 intro n
 induction n with
 | zero =>
  intro p l h _ _ _ i
  rw [List.eq_nil_of_length_eq_zero (by omega:p.length=0)];simp
 | succ n ih =>
  intro p l h1 h2 h3 h4 i
  cases l with
  | nil=>simp at h4
  | cons a l =>
   have ha:=h3 a List.mem_cons_self
   have hq:=ih (syn p a) l (by have:=syn_len p a;omega) (List.nodup_cons.1 h2).2 (fun x hx=>by
    have h5:=syn_eval p a x
    rw [ha,h3 x (List.mem_cons_of_mem _ hx)] at h5
    rcases Int.mul_eq_zero.1 (h5.symm.trans (by omega)) with g | g
    ·have hxa:x=a:=by omega
     subst hxa
     exact absurd hx (List.nodup_cons.1 h2).1
    ·exact g) (by simp at h4;omega)
   rw [syn_coef p a i,ha,hq i]
   cases i with
   | zero=>simp
   | succ i=>simpa using hq i
theorem small_coef {R:Nat}:∀ (n:Nat) (g:List Int) (l:List Int) (M:Nat),g.length≤n+1→l.Nodup→l.length=n+1→(∀ x∈l,x.natAbs≤R∧(peval g x).natAbs≤M)→(∀ x∈l,∀ y∈l,x ≠ y→1≤(x-y).natAbs)→∀ i,(g.getD i 0).natAbs≤M*(2*R+3)^n:=by
 intro n
 induction n with
 | zero =>
  intro g l M h1 h2 h3 h4 _ i
  cases l with
  | nil=>simp at h3
  | cons a l =>
   have ha:=h4 a List.mem_cons_self
   cases g with
   | nil=>simp
   | cons c g =>
    have:g=[]:=by simpa using h1
    subst this
    simp only [peval,Int.mul_zero,Int.add_zero] at ha
    rw [Nat.pow_zero,Nat.mul_one]
    cases i with
    | zero=>simpa using ha.2
    | succ i=>simp
 | succ n ih =>
  intro g l M h1 h2 h3 h4 h6 i
  cases l with
  | nil=>simp at h3
  | cons a l =>
   obtain ⟨ha1,ha2⟩:=h4 a List.mem_cons_self
   have hq:=ih (syn g a) l (2*M) (by have:=syn_len g a;omega) (List.nodup_cons.1 h2).2 (by simpa using h3) (fun x hx=>by
    obtain ⟨hx1,hx2⟩:=h4 x (List.mem_cons_of_mem _ hx)
    refine ⟨hx1,?_⟩
    have h5:=congrArg Int.natAbs (syn_eval g a x)
    rw [Int.natAbs_mul] at h5
    have hne:x ≠ a:=by intro e;subst e;exact absurd hx (List.nodup_cons.1 h2).1
    have h7:1≤(x-a).natAbs:=by omega
    have h8:=Nat.le_mul_of_pos_left (peval (syn g a) x).natAbs h7
    have h9:(peval g x-peval g a).natAbs≤2*M:=by omega
    omega) (fun x hx y hy=>h6 x (List.mem_cons_of_mem _ hx) y (List.mem_cons_of_mem _ hy))
   rw [syn_coef g a i]
   have hX:1≤(2*R+3)^n:=Nat.pow_pos (by omega)
   have e1:M*(2*R+3)^(n+1)=R*(2*M*(2*R+3)^n)+2*M*(2*R+3)^n+M*(2*R+3)^n:=by rw [Nat.pow_succ];grind
   have e2:M*1≤M*(2*R+3)^n:=Nat.mul_le_mul_left _ hX
   have b1:=hq i
   have b2:(a*(syn g a).getD i 0).natAbs≤R*(2*M*(2*R+3)^n):=by rw [Int.natAbs_mul];exact Nat.mul_le_mul ha1 b1
   have b3:((peval g a::syn g a).getD i 0).natAbs≤2*M*(2*R+3)^n+M*(2*R+3)^n:=by
    cases i with
    | zero=>simp only [List.getD_cons_zero];omega
    | succ i=>have:=hq i;simp only [List.getD_cons_succ];omega
   rw [e1]
   generalize R*(2*M*(2*R+3)^n)=A at *
   generalize 2*M*(2*R+3)^n=B at *
   generalize M*(2*R+3)^n=C at *
   omega
theorem peval_le {R B:Nat}:∀ (t:List Int) (x:Int),(∀ i,(t.getD i 0).natAbs≤B)→x.natAbs≤R→(peval t x).natAbs≤B*(R+1)^t.length
 | [],x,_,_=>by simp [peval]
 | c::t,x,h,hx=>by
  have ih:=peval_le t x (fun i=>by simpa using h (i+1)) hx
  have h0:c.natAbs≤B:=by simpa using h 0
  simp only [peval,List.length_cons]
  have h1:(x*peval t x).natAbs≤R*(B*(R+1)^t.length):=by rw [Int.natAbs_mul];exact Nat.mul_le_mul hx ih
  have h2:B*1≤B*(R+1)^t.length:=Nat.mul_le_mul_left _ (Nat.pow_pos (by omega))
  have e:B*(R+1)^(t.length+1)=R*(B*(R+1)^t.length)+B*(R+1)^t.length:=by rw [Nat.pow_succ];grind
  rw [e]
  generalize R*(B*(R+1)^t.length)=X at *
  omega
theorem no_roots {t:List Int} {n:Nat} (ht:trimL t ≠ []) (hl:t.length≤n+1):∃ l:List Int,l.Nodup∧l.length=n+1∧∀ x∈l,x.natAbs≤2*n∧peval t x ≠ 0:=by
 have hnd:((List.range (2*n+1)).map fun i:Nat=>(i:Int)).Nodup:=by
  rw [List.nodup_iff_pairwise_ne,List.pairwise_map]
  exact (List.nodup_iff_pairwise_ne.1 List.nodup_range).imp (fun h=>by omega)
 have hmem:∀ x∈(List.range (2*n+1)).map fun i:Nat=>(i:Int),x.natAbs≤2*n:=by
  intro x hx
  obtain ⟨i,hi,rfl⟩:=List.mem_map.1 hx
  have:=List.mem_range.1 hi
  omega
 have hlen:((List.range (2*n+1)).map fun i:Nat=>(i:Int)).length=2*n+1:=by simp
 generalize ((List.range (2*n+1)).map fun i:Nat=>(i:Int))=L at *
 have hsum:=List.length_eq_countP_add_countP (fun x=>decide (peval t x=0)) (l:=L)
 rw [List.countP_eq_length_filter,List.countP_eq_length_filter] at hsum
 have hA:(L.filter fun x=>decide (peval t x=0)).length≤n:=by
  apply Nat.le_of_not_lt
  intro h
  apply ht
  rw [trim_nil]
  exact roots_few (n+1) t (L.filter fun x=>decide (peval t x=0)) hl (hnd.filter _) (fun x hx=>by simpa using (List.mem_filter.1 hx).2) (by omega)
 refine ⟨(L.filter fun x=>decide ¬ (decide (peval t x=0))=true).take (n+1),(hnd.filter _).sublist (List.take_sublist _ _),?_,?_⟩
 ·rw [List.length_take];omega
 ·intro x hx
  obtain ⟨h1,h2⟩:=List.mem_filter.1 (List.mem_of_mem_take hx)
  exact ⟨hmem x h1,by simpa using h2⟩
theorem divisor_small {t g k:List Int} {K:Nat} (ht:trimL t ≠ []) (hl:t.length≤9) (hg:g.length≤9) (hK:Kb K t) (h:∀ x,peval t x=peval g x*peval k x):Kb (K+3) g:=by
 obtain ⟨l,l1,l2,l3⟩:=no_roots (n:=8) ht hl
 have hb:∀ i,(t.getD i 0).natAbs≤4294967296^K:=fun i=>Nat.le_of_lt (hK i)
 have h1:=small_coef (R:=16) 8 g l (4294967296^K*17^9) hg l1 l2 (fun x hx=>by
  obtain ⟨a,b⟩:=l3 x hx
  refine ⟨a,?_⟩
  have h2:=peval_le (R:=16) t x hb a
  have h3:=congrArg Int.natAbs (h x)
  rw [Int.natAbs_mul] at h3
  have h4:1≤(peval k x).natAbs:=by
   rcases Nat.eq_zero_or_pos (peval k x).natAbs with g | g
   ·rw [g,Nat.mul_zero] at h3;omega
   ·exact g
  have h5:=Nat.le_mul_of_pos_right (peval g x).natAbs h4
  have h6:4294967296^K*17^t.length≤4294967296^K*17^9:=Nat.mul_le_mul_left _ (Nat.pow_le_pow_right (by decide) hl)
  exact Nat.le_trans (Nat.le_trans h5 (Nat.le_of_eq h3.symm)) (Nat.le_trans h2 h6)) (fun x _ y _ hne=>by omega)
 intro i
 have h2:=h1 i
 unfold Fits
 refine Nat.lt_of_le_of_lt h2 ?_
 rw [Nat.mul_assoc,Nat.pow_add]
 exact Nat.mul_lt_mul_of_pos_left (by decide) (Nat.pow_pos (by decide))
theorem gauss_quot {t g k:List Int} {c:Int} (hc:c ≠ 0) (hg:cont g=1) (h:∀ x,c*peval t x=peval g x*peval k x):∃ k',∀ x,peval t x=peval g x*peval k' x:=by
 have h1:=peval_inj' (p:=pmul g k) (q:=psmul c t) (fun x=>by rw [peval_pmul,peval_psmul];exact (h x).symm)
 have h2:=gauss hg c.natAbs k (by omega) (fun i=>by rw [h1,getD_psmul];exact Int.dvd_trans (Int.natAbs_dvd.2 (Int.dvd_refl _)) (Int.dvd_mul_right _ _))
 have hk:psmul c (k.map fun x=>x / c)=k:=by
  apply list_ext (by simp [psmul])
  intro i
  rw [getD_psmul]
  have e:(k.map fun x=>x / c).getD i 0=k.getD i 0 / c:=by
   simp only [List.getD_eq_getElem?_getD,List.getElem?_map]
   cases k[i]? <;> simp
  rw [e]
  exact Int.mul_ediv_cancel' (Int.natAbs_dvd.1 (h2 i))
 refine ⟨k.map fun x=>x / c,fun x => ?_⟩
 have h3:=h x
 rw [← hk,peval_psmul] at h3
 apply Int.eq_of_mul_eq_mul_left hc
 rw [h3];grind
theorem gauss_small {t g k:List Int} {c:Int} {K:Nat} (hc:c ≠ 0) (hg:cont g=1) (ht:trimL t ≠ []) (hl:t.length≤9) (hgl:g.length≤9) (hK:Kb K t) (h:∀ x,c*peval t x=peval g x*peval k x):Kb (K+3) g:=by
 obtain ⟨k',hk⟩:=gauss_quot hc hg h
 exact divisor_small ht hl hgl hK hk
end Go.Ai

namespace Go.Ai
open Go.IntKind (i64 u64 u32)
def Dv (g t:List Int):Prop:=∃ (c:Int) (k:List Int),c ≠ 0∧∀ x,c*peval t x=peval g x*peval k x
theorem Dv.refl (g:List Int):Dv g g:=⟨1,[1],by decide,fun x=>by simp [peval]⟩
theorem Dv.zero (g:List Int):Dv g []:=⟨1,[],by decide,fun x=>by simp [peval]⟩
theorem Dv.trans {a b c:List Int} (h1:Dv a b) (h2:Dv b c):Dv a c:=by
 obtain ⟨m,k,hm,h⟩:=h1
 obtain ⟨n,l,hn,g⟩:=h2
 refine ⟨m*n,pmul k l,Int.mul_ne_zero hm hn,fun x => ?_⟩
 have h':=h x;have g':=g x
 rw [peval_pmul,Int.mul_assoc,g']
 rw [← Int.mul_assoc,h']
 grind
theorem Dv.comb {g s t r:List Int} {m:Int} (u v:List Int) (hm:m ≠ 0) (h1:Dv g s) (h2:Dv g t) (h:∀ x,m*peval r x=peval u x*peval s x+peval v x*peval t x):Dv g r:=by
 obtain ⟨c,k,hc,hk⟩:=h1
 obtain ⟨d,l,hd,hl⟩:=h2
 refine ⟨c*d*m,padd (psmul d (pmul u k)) (psmul c (pmul v l)),Int.mul_ne_zero (Int.mul_ne_zero hc hd) hm,fun x => ?_⟩
 rw [peval_padd,peval_psmul,peval_psmul,peval_pmul,peval_pmul]
 have a:=hk x;have b:=hl x;have e:=h x
 rw [Int.mul_assoc,e]
 generalize peval s x=s at *
 generalize peval t x=t at *
 generalize peval g x=g at *
 generalize peval k x=k at *
 generalize peval l x=l at *
 generalize peval u x=u at *
 generalize peval v x=v at *
 have e1:c*d*(u*s+v*t)=d*u*(c*s)+c*v*(d*t):=by grind
 rw [e1,a,b];grind
theorem Dv.scaled {g s r:List Int} {m n:Int} (hm:m ≠ 0) (h1:Dv g s) (h:∀ x,m*peval r x=n*peval s x):Dv g r :=
 Dv.comb [n] [] hm h1 h1 fun x=>by rw [h x];simp [peval]
theorem Dv.left {g f t:List Int} {m n:Int} (_:m ≠ 0) (hn:n ≠ 0) (h1:Dv g t) (h:∀ x,m*peval f x=n*peval g x):Dv f t:=by
 obtain ⟨c,k,hc,hk⟩:=h1
 refine ⟨n*c,psmul m k,Int.mul_ne_zero hn hc,fun x => ?_⟩
 have a:=hk x;have b:=h x
 rw [peval_psmul]
 have e1:n*c*peval t x=n*(c*peval t x):=by grind
 rw [e1,a]
 have e2:n*(peval g x*peval k x)=(n*peval g x)*peval k x:=by grind
 rw [e2,← b];grind
theorem Dv.mul_right {g s:List Int} (t:List Int) (h:Dv g s) {r:List Int} (hr:∀ x,peval r x=peval s x*peval t x):Dv g r :=
 Dv.comb (m:=1) t [] (by decide) h h fun x=>by rw [hr x];simp [peval];grind
theorem nonzero_trim {p:List Int} (h:Lead p) (h0:p ≠ []):trimL p ≠ []:=by rw [h];exact h0
theorem pmul_ne {p q:List Int} (hp:trimL p ≠ []) (hq:trimL q ≠ []):(trimL (pmul p q)).length=(trimL p).length+(trimL q).length-1:=by
 have e:trimL (pmul p q)=trimL (pmul (trimL p) (trimL q)):=peval_inj fun x=>by rw [peval_pmul,peval_pmul,peval_trim,peval_trim]
 rw [e]
 have lp:=lead_trim p
 have lq:=lead_trim q
 generalize trimL p=P at *
 generalize trimL q=Q at *
 have h1:=List.length_pos_iff.2 hp
 have h2:=List.length_pos_iff.2 hq
 obtain ⟨t1,t2⟩:=pmul_top P Q hp hq
 have t3:(pmul P Q).getD (P.length+Q.length-2) 0 ≠ 0:=by rw [t1];exact Int.mul_ne_zero (lead_top lp hp) (lead_top lq hq)
 rw [pmul_trim]
 have a1:¬ (pmul P Q).length≤P.length+Q.length-2:=fun h=>t3 (getD_end h)
 have a2:¬ P.length+Q.length-1<(pmul P Q).length:=fun h=>by
  have hne:pmul P Q ≠ []:=by intro h0;rw [h0] at h;simp at h
  exact lead_top (show Lead (pmul P Q) from pmul_trim P Q) hne (t2 _ (by omega))
 omega
theorem mul_zero_fn {p q:List Int} (hp:trimL p ≠ []) (h:∀ x,peval p x*peval q x=0):∀ x,peval q x=0:=by
 intro x
 by_cases hq:trimL q=[]
 ·exact peval_zero_of_trim hq x
 ·have h1:=pmul_ne hp hq
  have h2:trimL (pmul p q)=trimL []:=peval_inj fun x=>by rw [peval_pmul,h x];rfl
  rw [h2] at h1
  have:=List.length_pos_iff.2 hp
  have:=List.length_pos_iff.2 hq
  have h0:(trimL []).length=0:=rfl
  rw [h0] at h1
  omega
theorem cancel_fn {p:List Int} (hp:trimL p ≠ []) (q r:List Int) (h:∀ x,peval p x*peval q x=peval p x*peval r x):∀ x,peval q x=peval r x:=by
 intro x
 have:=mul_zero_fn (q:=psub q r) hp (fun x=>by rw [peval_psub,Int.mul_sub,h x];omega) x
 rw [peval_psub] at this
 omega
theorem Dv.length {g t:List Int} (h:Dv g t) (ht:trimL t ≠ []):(trimL g).length≤(trimL t).length∧trimL g ≠ []:=by
 obtain ⟨c,k,hc,hk⟩:=h
 have e:trimL (psmul c t)=trimL (pmul g k):=peval_inj fun x=>by rw [peval_psmul,peval_pmul];exact hk x
 rw [trim_psmul hc] at e
 have e2:=congrArg List.length e
 rw [psmul_length] at e2
 have ht1:=List.length_pos_iff.2 ht
 by_cases hg:trimL g=[]
 ·have:trimL (pmul g k)=trimL []:=peval_inj fun x=>by rw [peval_pmul,peval_zero_of_trim hg];simp [peval]
  have h0:(trimL []).length=0:=rfl
  rw [this,h0] at e2
  omega
 ·by_cases hk0:trimL k=[]
  ·have:trimL (pmul g k)=trimL []:=peval_inj fun x=>by rw [peval_pmul,peval_zero_of_trim hk0];simp [peval]
   have h0:(trimL []).length=0:=rfl
   rw [this,h0] at e2
   omega
  ·rw [pmul_ne hg hk0] at e2
   have:=List.length_pos_iff.2 hk0
   exact ⟨by omega,hg⟩
def IsG (g s t:List Int):Prop:=Dv g s∧Dv g t∧∃ (c:Int) (u v:List Int),c ≠ 0∧∀ x,c*peval g x=peval u x*peval s x+peval v x*peval t x
theorem IsG.comm {g s t:List Int} (h:IsG g s t):IsG g t s:=by
 obtain ⟨a,b,c,u,v,hc,h⟩:=h
 exact ⟨b,a,c,v,u,hc,fun x=>by rw [h x];omega⟩
theorem IsG.dv {g s t f:List Int} (h:IsG g s t) (h1:Dv f s) (h2:Dv f t):Dv f g:=by
 obtain ⟨_,_,c,u,v,hc,h⟩:=h
 exact Dv.comb u v hc h1 h2 h
theorem IsG.start (s:List Int):IsG s s []:=⟨Dv.refl s,Dv.zero s,1,[1],[],by decide,fun x=>by simp [peval]⟩
theorem IsG.length {f g s t:List Int} (h1:IsG f s t) (h2:IsG g s t) (hf:trimL f ≠ []):(trimL f).length=(trimL g).length:=by
 have a:=(h1.dv h2.1 h2.2.1).length hf
 have b:=(h2.dv h1.1 h1.2.1).length a.2
 omega
theorem IsG.step {g r d e q:List Int} {a m:Int} (ha:a ≠ 0) (hm:m ≠ 0) (hr:∀ x,a*peval r x=peval q x*peval d x+m*peval e x) (h:IsG g d e):IsG g r d:=by
 obtain ⟨h1,h2,c,u,v,hc,h⟩:=h
 refine ⟨Dv.comb q [m] ha h1 h2 (fun x=>by rw [hr x];simp [peval]),h1,c*m,psmul a v,psub (psmul m u) (pmul v q),Int.mul_ne_zero hc hm,fun x => ?_⟩
 have e1:=hr x;have e2:=h x
 rw [peval_psmul,peval_psub,peval_psmul,peval_pmul]
 generalize peval g x=g at *
 generalize peval d x=d at *
 generalize peval e x=e at *
 generalize peval r x=r at *
 generalize peval q x=q at *
 generalize peval u x=u at *
 generalize peval v x=v at *
 have e3:c*m*g=m*(c*g):=by grind
 rw [e3,e2]
 have e4:a*v*r=v*(a*r):=by grind
 rw [e4,e1];grind
theorem IsG.scaled {g s t s' t':List Int} {m n k l:Int} (hm:m ≠ 0) (hn:n ≠ 0) (hk:k ≠ 0) (hl:l ≠ 0) (h1:∀ x,m*peval s' x=n*peval s x) (h2:∀ x,k*peval t' x=l*peval t x) (h:IsG g s t):IsG g s' t':=by
 obtain ⟨a,b,c,u,v,hc,h⟩:=h
 refine ⟨a.scaled hm h1,b.scaled hk h2,c*(n*l),psmul (m*l) u,psmul (k*n) v,Int.mul_ne_zero hc (Int.mul_ne_zero hn hl),fun x => ?_⟩
 have e1:=h1 x;have e2:=h2 x;have e3:=h x
 rw [peval_psmul,peval_psmul]
 generalize peval g x=g at *
 generalize peval s x=s at *
 generalize peval t x=t at *
 generalize peval s' x=s' at *
 generalize peval t' x=t' at *
 generalize peval u x=u at *
 generalize peval v x=v at *
 have e4:c*(n*l)*g=n*l*(c*g):=by grind
 rw [e4,e3]
 have e5:m*l*u*s'=l*u*(m*s'):=by grind
 have e6:k*n*v*t'=n*v*(k*t'):=by grind
 rw [e5,e6,e1,e2];grind
theorem IsG.gscaled {g g' s t:List Int} {m n:Int} (hm:m ≠ 0) (hn:n ≠ 0) (h1:∀ x,m*peval g' x=n*peval g x) (h:IsG g s t):IsG g' s t:=by
 obtain ⟨a,b,c,u,v,hc,h⟩:=h
 refine ⟨a.left hm hn h1,b.left hm hn h1,c*m,psmul n u,psmul n v,Int.mul_ne_zero hc hm,fun x => ?_⟩
 have e1:=h1 x;have e2:=h x
 rw [peval_psmul,peval_psmul,Int.mul_assoc,e1]
 have e3:c*(n*peval g x)=n*(c*peval g x):=by grind
 rw [e3,e2];grind
theorem IsG.mul {d p q:List Int} (c:List Int) {d' p' q':List Int} (hd:∀ x,peval d' x=peval c x*peval d x) (hp:∀ x,peval p' x=peval c x*peval p x) (hq:∀ x,peval q' x=peval c x*peval q x) (h:IsG d p q):IsG d' p' q':=by
 obtain ⟨⟨m,k,hm,hk⟩,⟨n,l,hn,hl⟩,e,u,v,he,h⟩:=h
 refine ⟨⟨m,k,hm,fun x => ?_⟩,⟨n,l,hn,fun x => ?_⟩,e,u,v,he,fun x => ?_⟩
 ·have:=hk x;rw [hd,hp];grind
 ·have:=hl x;rw [hd,hq];grind
 ·have:=h x;rw [hd,hp,hq];grind
theorem prim_eval (p:List Int):∃ m:Int,m ≠ 0∧∀ x,peval p x=m*peval (prim p) x:=by
 by_cases h:trimL p=[]
 ·refine ⟨1,by decide,fun x => ?_⟩
  rw [peval_zero_of_trim h,prim_nil.2 (trim_nil.1 h)];rfl
 ·have:=cont_pos h
  refine ⟨(cont p:Int),by omega,fun x => ?_⟩
  rw [← peval_psmul,psmul_prim,peval_trim]
theorem pstep_eval {r d:List Int} (hl:d.length≤r.length) (ht:top d ≠ 0):∃ (a m:Int) (q:List Int),a ≠ 0∧m ≠ 0∧∀ x,a*peval r x=peval q x*peval d x+m*peval (pstep r d) x:=by
 obtain ⟨m,hm,h⟩:=prim_eval (estN r d ((top d).natAbs:Int) (sg (top d)*top r) r.length)
 refine ⟨((top d).natAbs:Int),m,shiftP (r.length-d.length) [sg (top d)*top r],by omega,hm,fun x => ?_⟩
 have h1:=h x
 rw [estN_eval hl] at h1
 have e:peval (pstep r d) x=peval (prim (estN r d ((top d).natAbs:Int) (sg (top d)*top r) r.length)) x:=rfl
 rw [e,← h1,peval_shiftP]
 simp only [peval]
 grind
theorem restN_eval {d:List Int} (ht:top d ≠ 0):∀ (f:Nat) (r:List Int),∃ (a m:Int) (q:List Int),a ≠ 0∧m ≠ 0∧∀ x,a*peval r x=peval q x*peval d x+m*peval (restN f r d) x:=by
 intro f
 induction f with
 | zero=>intro r;exact ⟨1,1,[],by decide,by decide,fun x=>by simp [peval,restN]⟩
 | succ f ih =>
  intro r
  simp only [restN]
  split
  ·rename_i hl
   obtain ⟨a,m,q,ha,hm,h⟩:=pstep_eval hl ht
   obtain ⟨b,n,s,hb,hn,g⟩:=ih (pstep r d)
   refine ⟨b*a,m*n,padd (psmul b q) (psmul m s),Int.mul_ne_zero hb ha,Int.mul_ne_zero hm hn,fun x => ?_⟩
   have h':=h x;have g':=g x
   rw [peval_padd,peval_psmul,peval_psmul,Int.mul_assoc,h']
   generalize peval (restN f (pstep r d) d) x=z at *
   generalize peval (pstep r d) x=y at *
   have e:b*(peval q x*peval d x+m*y)=b*(peval q x*peval d x)+m*(b*y):=by grind
   rw [e,g'];grind
  ·exact ⟨1,1,[],by decide,by decide,fun x=>by simp [peval]⟩
theorem pcomN_isG:∀ (f:Nat) (x y:List Int),y.length≤f→y.length≤x.length→Lead x→Lead y→IsG (pcomN f x y) x y:=by
 intro f
 induction f with
 | zero =>
  intro x y h1 _ _ _
  have:y=[]:=List.eq_nil_of_length_eq_zero (by omega)
  subst this
  exact IsG.start x
 | succ f ih =>
  intro x y h1 h2 lx ly
  simp only [pcomN]
  split
  ·rename_i h;subst h;exact IsG.start x
  ·rename_i h
   have ht:top y ≠ 0:=lead_top ly h
   obtain ⟨r1,r2,_⟩:=restN_ok h (K:=Nat.max 1 (y.map Int.natAbs).sum) (fun i=>by
    have h3:(y.getD i 0).natAbs≤(y.map Int.natAbs).sum:=by
     clear ht h h1 h2 ly ih
     induction y generalizing i with
     | nil=>simp
     | cons c y ih => 
      cases i with
      | zero=>simp
      | succ i=>have:=ih i;simp at this ⊢;omega
    unfold Fits
    have h4:(y.map Int.natAbs).sum≤Nat.max 1 (y.map Int.natAbs).sum:=Nat.le_max_right _ _
    exact Nat.lt_of_le_of_lt (Nat.le_trans h3 h4) (Nat.lt_pow_self (by decide))) x.length x (Nat.max 1 (x.map Int.natAbs).sum) (Nat.le_refl _) lx (fun i=>by
    have h3:(x.getD i 0).natAbs≤(x.map Int.natAbs).sum:=by
     clear ht h h1 h2 lx ih
     induction x generalizing i with
     | nil=>simp
     | cons c y ih => 
      cases i with
      | zero=>simp
      | succ i=>have:=ih i;simp at this ⊢;omega
    unfold Fits
    have h4:(x.map Int.natAbs).sum≤Nat.max 1 (x.map Int.natAbs).sum:=Nat.le_max_right _ _
    exact Nat.lt_of_le_of_lt (Nat.le_trans h3 h4) (Nat.lt_pow_self (by decide)))
   obtain ⟨a,m,q,ha,hm,e⟩:=restN_eval ht x.length x
   exact IsG.step ha hm e (ih y (prest x y) (by unfold prest;omega) (by unfold prest;omega) ly r1)
def pgcd (x y:List Int):List Int:=if y.length≤x.length then pcomN y.length x y else pcomN x.length y x
theorem pgcd_isG {x y:List Int} (lx:Lead x) (ly:Lead y):IsG (pgcd x y) x y:=by
 unfold pgcd
 split
 ·exact pcomN_isG _ _ _ (Nat.le_refl _) (by assumption) lx ly
 ·exact (pcomN_isG _ _ _ (Nat.le_refl _) (by omega) ly lx).comm
theorem ppos_eval (p:List Int):∃ m:Int,m ≠ 0∧∀ x,peval (ppos p) x=m*peval p x:=by
 unfold ppos
 split
 ·exact ⟨-1,by decide,fun x=>by rw [peval_pneg];omega⟩
 ·exact ⟨1,by decide,fun x=>by omega⟩
theorem ppos_length (p:List Int):(ppos p).length=p.length:=by
 unfold ppos;split
 ·exact pneg_len p
 ·rfl
def pcom (s t:List Int):List Int:=ppos (pgcd (prim s) (prim t))
theorem pcom_isG (s t:List Int):IsG (pcom s t) s t:=by
 have h:=pgcd_isG (lead_prim s) (lead_prim t)
 obtain ⟨m,hm,h1⟩:=prim_eval s
 obtain ⟨n,hn,h2⟩:=prim_eval t
 obtain ⟨k,hk,h3⟩:=ppos_eval (pgcd (prim s) (prim t))
 have h4:=h.scaled (s':=s) (t':=t) (m:=1) (n:=m) (k:=1) (l:=n) (by decide) hm (by decide) hn (fun x=>by rw [h1 x];omega) (fun x=>by rw [h2 x];omega)
 exact h4.gscaled (m:=1) (n:=k) (by decide) hk (fun x=>by unfold pcom;rw [h3 x];omega)
theorem lead_pneg {p:List Int} (h:Lead p):Lead (pneg p):=by
 have e:pneg p=psmul (-1) p:=by
  unfold pneg psmul
  apply List.map_congr_left
  intro x _;omega
 rw [e];exact lead_psmul (by decide) h
theorem lead_ppos {p:List Int} (h:Lead p):Lead (ppos p):=by
 unfold ppos;split
 ·exact lead_pneg h
 ·exact h
theorem prim_pcomN:∀ (f:Nat) (x y:List Int),prim x=x→prim y=y→prim (pcomN f x y)=pcomN f x y:=by
 intro f
 induction f with
 | zero=>intro x y h _;exact h
 | succ f ih =>
  intro x y hx hy
  simp only [pcomN]
  split
  ·exact hx
  ·exact ih y _ hy (prim_restN _ _ _ hx)
theorem prim_pgcd {x y:List Int} (hx:prim x=x) (hy:prim y=y):prim (pgcd x y)=pgcd x y:=by
 unfold pgcd;split
 ·exact prim_pcomN _ _ _ hx hy
 ·exact prim_pcomN _ _ _ hy hx
theorem cont_pneg (p:List Int):cont (pneg p)=cont p:=by
 have e:pneg p=psmul (-1) p:=by
  unfold pneg psmul
  apply List.map_congr_left
  intro x _;omega
 rw [e,cont_psmul];simp
theorem cont_ppos (p:List Int):cont (ppos p)=cont p:=by
 unfold ppos;split
 ·exact cont_pneg p
 ·rfl
theorem lead_pcom (s t:List Int):Lead (pcom s t):=lead_ppos (lead_of_prim (prim_pgcd (prim_prim s) (prim_prim t)))
theorem prim_of_cont {p:List Int} (h:Lead p) (hc:cont p=1):prim p=p:=by rw [prim_one hc];exact h
theorem pcom_ne {s t:List Int} (h:trimL s ≠ []):pcom s t ≠ []:=by
 have:=((pcom_isG s t).1.length h).2
 intro h0;rw [h0] at this;exact this rfl
theorem cont_pcom {s t:List Int} (h:trimL s ≠ []):cont (pcom s t)=1:=by
 have h1:=pcom_ne (t:=t) h
 unfold pcom at *
 rw [cont_ppos]
 have h2:pgcd (prim s) (prim t) ≠ []:=by
  intro h0;rw [h0] at h1;exact h1 rfl
 have h3:=prim_pgcd (prim_prim s) (prim_prim t)
 rw [← h3]
 exact cont_prim (by rw [lead_of_prim h3];exact h2)
theorem top_ppos {p:List Int} (h:Lead p) (h0:p ≠ []):0<top (ppos p):=by
 have h1:=lead_top h h0
 unfold ppos;split
 ·rename_i hn
  unfold top at *
  rw [pneg_len,getD_pneg];omega
 ·rename_i hn
  unfold top at *;omega
theorem top_pcom {s t:List Int} (h:trimL s ≠ []):0<top (pcom s t):=by
 have h1:=pcom_ne (t:=t) h
 unfold pcom at *
 refine top_ppos (lead_of_prim (prim_pgcd (prim_prim s) (prim_prim t))) ?_
 intro h0;rw [h0] at h1;exact h1 rfl
theorem kb_pcom {s t:List Int} {K:Nat} (h:trimL s ≠ []) (hl:s.length≤9) (hK:Kb K s):Kb (K+3) (pcom s t)∧(pcom s t).length≤(trimL s).length:=by
 have hg:=(pcom_isG s t).1
 have h1:=(hg.length h).1
 have hle:=lead_pcom s t
 rw [hle] at h1
 obtain ⟨c,k,hc,hk⟩:=hg
 have:=trim_len s
 exact ⟨gauss_small hc (cont_pcom h) h hl (by omega) hK hk,h1⟩
end Go.Ai
