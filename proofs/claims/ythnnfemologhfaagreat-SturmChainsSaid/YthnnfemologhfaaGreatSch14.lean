/- Texts of the proof of SturmChains, packed by pack.py: part 14 of 19. -/
import Derived.Test.YthnnfemologhfaaGreatSch13
namespace Go.Proofs.YthnnfemologhfaaGreat
open Go.IntKind (i64 u64 u32)
open Go.Ai
set_option maxRecDepth 100000
theorem Tm {n:Nat}:Kf n=1↔n=1:=by
 unfold Kf
 split
 ·omega
 ·rename_i h
  constructor
  ·intro h1
   have h2:Nat.log2 n=0:=by omega
   have:=(Nat.log2_eq_iff h).1 h2
   omega
  ·rintro rfl;decide
theorem Zd2 {n:Nat}:1<Kf n↔1<n:=by
 have h1:=Tm (n:=n)
 have h0:Kf n=0↔n=0:=by unfold Kf;split <;> omega
 omega
theorem Ke (n:Int):(cn n).2.length=(Zb n.natAbs).length:=rfl
theorem Zdw {rs:List Rn} {n:Nat} (h:n<rs.length):(Zi rs).drop n=Zl (rs.getD n z0)::(Zi rs).drop (n+1):=by
 rw[List.drop_eq_getElem_cons (by rw[Zs];exact h)]
 congr 1
 rw[← Q1,List.getD_eq_getElem?_getD,List.getElem?_eq_getElem (by rw[Zs];exact h)];rfl
theorem Nh {K:Nat} {p:List Int} (h:∀ x∈p,Ji K x):Ji K ((Jb p:Nat):Int):=by
 by_cases h0:Zd p=[]
 ·rw[K0.2 (Xg.1 h0)];exact U8 K
 ·have hc:=Hj h0
  have:∃ i,p.getD i 0 ≠ 0:=Classical.byContradiction fun hn=>h0 (Xg.2 fun i=>Classical.byContradiction fun hi=>hn ⟨i,hi⟩)
  obtain⟨i,hi⟩:=this
  have hd:=Vk p i
  have hf:=Mg h i
  unfold Ji at *
  rw[Int.natAbs_natCast]
  have:=Nat.le_of_dvd (by omega) (Int.ofNat_dvd_left.1 hd)
  omega
theorem Zdy {p:List Int} (n:Nat):Jb p∣Jb (p.drop n):=by
 rw[Hg]
 intro i
 have:=Vk p (n+i)
 rw[List.getD_eq_getElem?_getD] at this ⊢
 rwa [List.getElem?_drop]
theorem Zn8 {K:Nat} {rs:List Rn} {z:Rn} (hg:∀ r∈rs,Jw K r) (hK:K<1048576) (hN:rs.length≤1048576):∀ n,n≤rs.length →
  ∃ i',Za Yir (.loop Ztu) (Zf4 rs (cn (Jb ((Zi rs).drop n):Nat)) ((n:Int)-1) z) (.exit 0) (Zf4 rs (cn (Jb (Zi rs):Nat)) i' z):=by
 intro n
 induction n with
 | zero =>
  intro _
  rw[List.drop_zero]
  exact⟨_,Za.loop_out (Yk59_3 rs _ _ z (by simp)) (by intro e;cases e)⟩
 | succ n ih =>
  intro hn
  have e0:((n+1:Nat):Int)-1=(n:Int):=by omega
  have e1:i64.wrap ((n:Int)-1)=(n:Int)-1:=w64 (by omega) (by omega)
  have hf:Ji K ((Jb ((Zi rs).drop (n+1)):Nat):Int):=Nh fun x hx=>Q8 hg x (List.mem_of_mem_drop hx)
  have hl:=hf.len
  have hb:=D2 (neg:=(cn (Jb ((Zi rs).drop (n+1)):Nat)).1) (xs:=(cn (Jb ((Zi rs).drop (n+1)):Nat)).2) (Qw _) (by rw[Ke];omega)
  rw[show rv (cn (Jb ((Zi rs).drop (n+1)):Nat)).1 (cn (Jb ((Zi rs).drop (n+1)):Nat)).2=(Jb ((Zi rs).drop (n+1)):Nat) from Qc _,Int.natAbs_natCast] at hb
  rw[e0]
  by_cases h1:Jb ((Zi rs).drop (n+1))=1
  ·have hc:Jb (Zi rs)=1:=by
    have:=Zdy (p:=Zi rs) (n+1)
    rw[h1] at this
    exact Nat.dvd_one.1 this
   rw[h1] at hb ⊢
   rw[hc]
   exact⟨_,Za.loop_out (Yk59_2 rs _ (n:Nat) z _ (by simp) (by decide) hb) (by intro e;cases e)⟩
  ·obtain⟨g1,g2⟩:=Z9 hg n
   have hgc:=R2 (na:=(cn (Jb ((Zi rs).drop (n+1)):Nat)).1) (nb:=(rs.getD n z0).1) (xs:=(cn (Jb ((Zi rs).drop (n+1)):Nat)).2) (ys:=(rs.getD n z0).2) (Qw _) g1 (by rw[Ke];omega) (by omega)
   rw[show rv (cn (Jb ((Zi rs).drop (n+1)):Nat)).1 (cn (Jb ((Zi rs).drop (n+1)):Nat)).2=(Jb ((Zi rs).drop (n+1)):Nat) from Qc _,show rv (rs.getD n z0).1 (rs.getD n z0).2=Zl (rs.getD n z0) from rfl] at hgc
   have hstep:(Int.gcd ((Jb ((Zi rs).drop (n+1)):Nat):Int) (Zl (rs.getD n z0)))=Jb ((Zi rs).drop n):=by
    rw[Zdw (n:=n) (by omega),Jb,Int.gcd,Int.natAbs_natCast,Nat.gcd_comm]
   rw[hstep] at hgc
   have k1:=Yk59_1 rs (cn (Jb ((Zi rs).drop (n+1)):Nat)) (n:Nat) z _ _ (by simp) (by
    rw[bne_iff_ne]
    have:=Tm (n:=Jb ((Zi rs).drop (n+1)))
    omega) (by omega) hb (by rw[Int.toNat_natCast];exact hgc)
   rw[e1] at k1
   obtain⟨i',h⟩:=ih (by omega)
   exact⟨i',Za.loop k1 h⟩
theorem M3 {K:Nat} {rs:List Rn} (hg:∀ r∈rs,Jw K r) (hK:K<1048576) (hN:rs.length≤1048576):Ze Yir 59 [.sl rs.length (pc rs)] (Zn (Jb (Zi rs):Nat)):=by
 obtain⟨i',h⟩:=Zn8 (z:=z0) hg hK hN rs.length (Nat.le_refl _)
 rw[show (Zi rs).drop rs.length=[] by rw[← Zs,List.drop_length],show cn ((Jb []:Nat):Int)=z0 from rfl] at h
 exact Yrun59 rs (cn (Jb (Zi rs):Nat)) z0 i' (by rw[w64 (by omega) (by omega)];exact h)
theorem K7 {x g:Int} (hg:0<g) (h:g∣x):Int.tdiv x g=x / g:=by
 obtain⟨y,rfl⟩:=h
 rw[Int.mul_tdiv_cancel_left _ (by omega),Int.mul_ediv_cancel_left _ (by omega)]
theorem Jc {K:Nat} {rs:List Rn} (hg:∀ r∈rs,Jw K r) (hK:K<1048576) (hN:rs.length≤1048576):Ze Yir 33 [.sl rs.length (pc rs)] (.fresh 2 (prim (Zi rs)).length (pk (prim (Zi rs)))):=by
 have ht:=Ad (fun r h=>(hg r h).mono (show K≤1048576 by omega)) hN
 have hfT:∀ x∈Zd (Zi rs),Ji K x:=Vj (Q8 hg)
 have gts:=Ds hfT
 have hvs:=Z3 (Zd (Zi rs))
 have hll:=Qg (Zi rs)
 rw[Zs] at hll
 have hpk:pk (Zd (Zi rs))=pc ((Zd (Zi rs)).map cn):=rfl
 rw[hpk,← List.length_map (f:=cn)] at ht
 have hlm:((Zd (Zi rs)).map cn).length=(Zd (Zi rs)).length:=List.length_map ..
 have hc:=M3 gts hK (by omega)
 rw[hvs,Mt] at hc
 have hfc:Ji K ((Jb (Zi rs):Nat):Int):=Nh (Q8 hg)
 have hlc:=hfc.len
 have hb:=D2 (neg:=(cn (Jb (Zi rs):Nat)).1) (xs:=(cn (Jb (Zi rs):Nat)).2) (Qw _) (by rw[Ke];omega)
 rw[show rv (cn (Jb (Zi rs):Nat)).1 (cn (Jb (Zi rs):Nat)).2=(Jb (Zi rs):Nat) from Qc _,Int.natAbs_natCast] at hb
 by_cases h1:1<Jb (Zi rs)
 ·have hgd:∀ t,Zl (((Zd (Zi rs)).map cn).getD t z0)=(Zd (Zi rs)).getD t 0:=fun t=>by rw[← Q1,hvs]
  have key:∀ ts:List Rn,ts.length=(Zd (Zi rs)).length→(∀ r∈ts,Jw K r)→(∀ t,Zl (ts.getD t z0)=(Zd (Zi rs)).getD t 0) →
    Za Yir (.loop Ztw) (Zf6 ts.length ts (cn (Jb (Zi rs):Nat)) (ts.length:Nat) 0) (.exit 0) (Zf6 ts.length ((prim (Zi rs)).map cn) (cn (Jb (Zi rs):Nat)) (ts.length:Nat) (ts.length:Nat)):=by
   intro ts hl gt hv
   have hlp:((prim (Zi rs)).map cn).length=ts.length:=by rw[List.length_map,Qq,hl]
   have h:=Za.up (prog:=Yir) (c:=Ztw) (ex := .exit 0) (fin:=Zf6 ts.length ((prim (Zi rs)).map cn) (cn (Jb (Zi rs):Nat)) (ts.length:Nat) (ts.length:Nat))
    (fun i=>Zf6 ts.length (((prim (Zi rs)).map cn).take i++ts.drop i) (cn (Jb (Zi rs):Nat)) (ts.length:Nat) (i:Nat)) ts.length (by intro e;cases e) ?_ ?_ 0 (Nat.zero_le _)
   ·exact h
   ·intro i hi
    have ei:i64.wrap ((i:Int)+1)=((i+1:Nat):Int):=by rw[w64 (by omega) (by omega)];omega
    have hlen:(((prim (Zi rs)).map cn).take i++ts.drop i).length=ts.length:=by rw[List.length_append,List.length_take,List.length_drop];omega
    have hget:(((prim (Zi rs)).map cn).take i++ts.drop i).getD i z0=ts.getD i z0:=by
     rw[List.getD_eq_getElem?_getD,List.getD_eq_getElem?_getD,List.getElem?_append_right (by rw[List.length_take];omega),List.length_take,List.getElem?_drop]
     congr 2;omega
    obtain⟨g1,g2⟩:=Z9 gt i
    have hq:=Dk (na:=(ts.getD i z0).1) (nb:=(cn (Jb (Zi rs):Nat)).1) (xs:=(ts.getD i z0).2) (ys:=(cn (Jb (Zi rs):Nat)).2) g1 (Qw _) (by rw[show rv (cn (Jb (Zi rs):Nat)).1 (cn (Jb (Zi rs):Nat)).2=(Jb (Zi rs):Nat) from Qc _];omega) (by omega) (by rw[Ke];omega)
    rw[show rv (cn (Jb (Zi rs):Nat)).1 (cn (Jb (Zi rs):Nat)).2=(Jb (Zi rs):Nat) from Qc _,show rv (ts.getD i z0).1 (ts.getD i z0).2=Zl (ts.getD i z0) from rfl,hv,Jg] at hq
    have k:=Yk33_1 ts.length (((prim (Zi rs)).map cn).take i++ts.drop i) (cn (Jb (Zi rs):Nat)) (ts.length:Nat) (i:Nat) _ _ (by simp;omega) (by omega) hlen (by rw[Int.toNat_natCast,hget];exact hq)
    refine k.to rfl ?_
    rw[ei,Int.toNat_natCast,K7 (by omega) (Vk (Zi rs) i),← Wr]
    congr 1
    apply List.ext_getElem?
    intro t
    have hpi:((prim (Zi rs)).map cn)[i]?=some (cn ((prim (Zi rs)).getD i 0)):=by
     rw[List.getElem?_map,List.getD_eq_getElem?_getD,List.getElem?_eq_getElem (by rw[List.length_map] at hlp;omega)];rfl
    rcases Nat.lt_trichotomy t i with g | g | g
    ·rw[List.getElem?_set_ne (by omega),List.getElem?_append_left (by rw[List.length_take];omega),List.getElem?_append_left (by rw[List.length_take];omega),List.getElem?_take_of_lt g,List.getElem?_take_of_lt (by omega)]
    ·subst g
     rw[List.getElem?_set_self (by omega),List.getElem?_append_left (by rw[List.length_take];omega),List.getElem?_take_of_lt (by omega),hpi]
    ·rw[List.getElem?_set_ne (by omega),List.getElem?_append_right (by rw[List.length_take];omega),List.getElem?_append_right (by rw[List.length_take];omega),List.length_take,List.length_take,List.getElem?_drop,List.getElem?_drop]
     congr 1;omega
   ·rw[List.take_of_length_le (by omega),List.drop_length,List.append_nil]
    exact Yk33_2 ts.length _ _ (ts.length:Nat) (ts.length:Nat) (by simp)
  have hl:=key _ hlm gts hgd
  have h:=Zi3 rs ((Zd (Zi rs)).map cn) _ _ _ _ _ _ _ (by rw[decide_eq_true_eq];have:=(Zd2 (n:=Jb (Zi rs))).2 h1;omega) ht (Zk4 _) (F5 _) hc hb hl
  rw[hlm,← Qq] at h
  exact h
 ·have h:=Zi2 rs ((Zd (Zi rs)).map cn) _ _ (by rw[decide_eq_false_iff_not];have:=(Zd2 (n:=Jb (Zi rs))).1;omega) ht (Zk4 _) (F5 _) hc hb
  have hp:prim (Zi rs)=Zd (Zi rs):=by
   rcases Nat.eq_zero_or_pos (Jb (Zi rs)) with g | g
   ·rw[Uz.2 (K0.1 g),Xg.2 (K0.1 g)]
   ·exact E5 (by omega)
  rw[hp]
  rw[hlm] at h
  exact h
theorem Zc9 (rs:List Rn):Zl (rs.getD (rs.length-1) z0)=top (Zi rs):=by unfold top;rw [Q1,Zs]
theorem Nn {rs:List Rn} (hg:∀ r∈rs,Jw 1048576 r) (hN:rs.length≤1048576) : 
  (top (Zi rs)<0→Ze Yir 61 [.sl rs.length (pc rs)] (.fresh 2 rs.length (pk (Vc (Zi rs)))))∧(¬ top (Zi rs)<0→Ze Yir 61 [.sl rs.length (pc rs)] (.sl rs.length (pc rs))):=by
 by_cases h0:0<rs.length
 ·have e1:i64.wrap ((rs.length:Int)-1)=((rs.length-1:Nat):Int):=by rw[w64 (by omega) (by omega)];omega
  obtain⟨g1,g2⟩:=Z9 hg (rs.length-1)
  have hs:=H5 (neg:=(rs.getD (rs.length-1) z0).1) g1 g2
  rw[show rv (rs.getD (rs.length-1) z0).1 (rs.getD (rs.length-1) z0).2=Zl (rs.getD (rs.length-1) z0) from rfl,Zc9] at hs
  refine⟨fun h => ?_,fun h => ?_⟩
  ·have hn:=W8 hg hN
   have hpk:pk (Vc (Zi rs))=pc ((Vc (Zi rs)).map cn):=rfl
   have hll:((Vc (Zi rs)).map cn).length=rs.length:=by rw[List.length_map,Xx,Zs]
   rw[hpk] at hn ⊢
   rw[← hll] at hn ⊢
   have hn':Ze Yir 36 [.sl rs.length (pc rs)] (.fresh 2 ((Vc (Zi rs)).map cn).length (pc ((Vc (Zi rs)).map cn))):=by
    have:=W8 hg hN
    rw[hll];exact this
   rw[hll]
   have k:=Zir rs ((Vc (Zi rs)).map cn) (X2 (top (Zi rs))) (by simp;omega) (by unfold X2;rw[if_pos h];rfl) (by rw[e1];omega) (by rw[e1,Int.toNat_natCast];exact hs) hn'
   rw[hll] at k
   exact k
  ·exact Ziq rs (X2 (top (Zi rs))) (by simp;omega) (by unfold X2;rw[if_neg h];split <;> rfl) (by rw[e1];omega) (by rw[e1,Int.toNat_natCast];exact hs)
 ·have hz:rs=[]:=List.eq_nil_of_length_eq_zero (by omega)
  subst hz
  refine⟨fun h=>absurd h (by decide),fun _=>Zip [] (by decide)⟩
theorem F8 {K:Nat} {rs:List Rn} (hg:∀ r∈rs,Jw K r) (hK:K+2≤1048576) (hN:rs.length≤1048576):Ze Yir 35 [.sl rs.length (pc rs)] (.fresh 2 (Qu (Zi rs)).length (pk (Qu (Zi rs)))):=by
 have hd:=Hh (fun r h=>(hg r h).mono (show K≤1048576 by omega)) hN
 have hle:=Wd (Zi rs) rs.length
 have hl:=Za.up (prog:=Yir) (c:=Yc35) (ex := .exit 0) (fin:=Zlz rs (Z1 (Zi rs) rs.length-1) (pc ((List.range (Z1 (Zi rs) rs.length-1)).map fun j=>cn (Zl (rs.getD (j+1) z0)*((j+1:Nat):Int)))) ((Z1 (Zi rs) rs.length-1+1:Nat):Int))
  (fun i=>Zlz rs i (pc ((List.range i).map fun j=>cn (Zl (rs.getD (j+1) z0)*((j+1:Nat):Int)))) ((i+1:Nat):Int)) (Z1 (Zi rs) rs.length-1) (by intro e;cases e) ?_ ?_ 0 (Nat.zero_le _)
 ·have hfit:∀ r∈(List.range (Z1 (Zi rs) rs.length-1)).map (fun j=>cn (Zl (rs.getD (j+1) z0)*((j+1:Nat):Int))),Jw 1048576 r:=by
   intro r hr
   obtain⟨j,hj,rfl⟩:=List.mem_map.1 hr
   rw[List.mem_range] at hj
   have h2:Ji 2 ((j+1:Nat):Int):=Du (by omega)
   exact (Jj ((Z9 hg (j+1)).fits.mul h2)).mono (by omega)
  have ht:=Ad hfit (by rw[List.length_map,List.length_range];omega)
  have hlen:((List.range (Z1 (Zi rs) rs.length-1)).map (fun j=>cn (Zl (rs.getD (j+1) z0)*((j+1:Nat):Int)))).length=Z1 (Zi rs) rs.length-1:=by rw[List.length_map,List.length_range]
  have e:Zd (Zi ((List.range (Z1 (Zi rs) rs.length-1)).map (fun j=>cn (Zl (rs.getD (j+1) z0)*((j+1:Nat):Int)))))=Qu (Zi rs):=by
   unfold Qu
   apply V9
   intro i
   rw[K5,Wq,Qc,Q1,Zs]
   by_cases h1:i<Z1 (Zi rs) rs.length-1
   ·rw[if_pos h1,if_pos (by omega)]
   ·rw[if_neg h1]
    split
    ·have:Zl (rs.getD (i+1) z0)=0:=by rw[← Q1];exact D3 (Zi rs) rs.length (i+1) (by omega) (by omega)
     rw[this,Int.zero_mul]
    ·rfl
  rw[e,hlen] at ht
  have hpk:pk (Qu (Zi rs))=pc ((Qu (Zi rs)).map cn):=rfl
  rw[hpk,← List.length_map (f:=cn)] at ht ⊢
  exact Yrun35 rs _ _ _ _ hl ht
 ·intro i hi
  have ei:i64.wrap (((i+1:Nat):Int)+1)=((i+1+1:Nat):Int):=by rw[w64 (by omega) (by omega)];omega
  obtain⟨g1,g2⟩:=Z9 hg (i+1)
  have ho:=Zmj (n:=((i+1:Nat):Int)) (by omega)
  have hfi:Ji 2 ((i+1:Nat):Int):=Du (by omega)
  have hm:=Eu (na:=(rs.getD (i+1) z0).1) (nb:=decide (((i+1:Nat):Int)<0)) (xs:=(rs.getD (i+1) z0).2) (ys:=Zb ((i+1:Nat):Int).natAbs) g1 (Qw _) (by have:=hfi.len;omega)
  rw[Wa] at hm
  have k:=Yk35_1 rs i (pc ((List.range i).map fun j=>cn (Zl (rs.getD (j+1) z0)*((j+1:Nat):Int)))) ((i+1:Nat):Int) (((Z1 (Zi rs) rs.length:Nat):Int)-1) (Zl (rs.getD (i+1) z0)*((i+1:Nat):Int)) (by simp;omega) (by omega) (by omega) hd ho (by rw[Int.toNat_natCast];exact hm)
  refine k.to rfl ?_
  rw[ei]
  congr 1
  rw[List.range_succ,List.map_append,Ge]
  rfl
 ·exact Yk35_2 rs _ _ _ _ (by rw[decide_eq_false_iff_not];omega) hd
def TRB:J6:=TRA
theorem Zr:Q9 Yir TRB:=Zfw
end Go.Proofs.YthnnfemologhfaaGreat

namespace Go.Proofs.YthnnfemologhfaaGreat
open Go.IntKind (i64 u64 u32)
open Go.Ai
set_option maxRecDepth 100000
theorem Zla {n:Int} {xs:List Int} (hu:U32 xs) (h0:0≤n) (h:n≤Zj xs):(lz n).length≤xs.length :=
 Bw (by have:=J7 hu;omega)
theorem Zk8 {n:Int} (h:0≤n):Zj (lz n)=n:=by unfold lz;rw [Je];omega
theorem Sp {na nb:Bool} {xs ys:List Int} (hx:U32 xs) (hy:U32 ys) (h0:rv nb ys ≠ 0) (h1:xs.length<1000000) (h2:ys.length<1000000) :
  Ze Yir 75 [.agg [.bool na, .sl xs.length (lm xs)], .agg [.bool nb, .sl ys.length (lm ys)]] (.tup [Zn (Int.tdiv (rv na xs) (rv nb ys)),Zn (Int.tmod (rv na xs) (rv nb ys))]):=by
 have cx:=Us hx
 have cy:=Us hy
 have t1:=Qg xs
 have t2:=Qg ys
 have hX:=Zz hx
 have hY:0<Zj ys:=by
  have:=Zz hy
  rcases Int.lt_or_le 0 (Zj ys) with h | h
  ·exact h
  ·have hz:Zj ys=0:=by omega
   exact absurd (by unfold rv;rw[hz];cases nb <;> rfl) h0
 have hy0:Zd ys ≠ []:=by
  intro e
  have:=Xk ys
  rw[e] at this
  simp only[Zj] at this
  omega
 have hd:=Zat cx cy hy0 (by omega) (by omega)
 rw[Xk,Xk] at hd
 have hq0:0≤Zj xs / Zj ys:=Int.ediv_nonneg hX (by omega)
 have hq1:Zj xs / Zj ys≤Zj xs:=Int.ediv_le_self _ hX
 have hr0:=Int.emod_nonneg (Zj xs) (show Zj ys ≠ 0 by omega)
 have hr1:Zj xs % Zj ys≤Zj xs:=by
  have:=Int.mul_ediv_add_emod (Zj xs) (Zj ys)
  have:=Int.mul_nonneg (show 0≤Zj ys by omega) hq0
  omega
 have l1:=Zla hx hq0 hq1
 have l2:=Zla hx hr0 hr1
 have m1:=Uu (neg := !(na==nb)) (xs:=lz (Zj xs / Zj ys)) (Qw _) (by omega)
 have m2:=Uu (neg:=na) (xs:=lz (Zj xs % Zj ys)) (Qw _) (by omega)
 have e1:rv (!(na==nb)) (lz (Zj xs / Zj ys))=Int.tdiv (rv na xs) (rv nb ys):=by
  unfold rv
  rw[Zk8 hq0,← Int.tdiv_eq_ediv_of_nonneg hX]
  cases na <;> cases nb <;> simp[Int.neg_tdiv,Int.tdiv_neg]
 have e2:rv na (lz (Zj xs % Zj ys))=Int.tmod (rv na xs) (rv nb ys):=by
  unfold rv
  rw[Zk8 hr0,← Int.tmod_eq_emod_of_nonneg hX]
  cases na <;> cases nb <;> simp[Int.neg_tmod,Int.tmod_neg]
 rw[e1] at m1
 rw[e2] at m2
 exact Yrun75 na nb xs ys _ _ _ _ (Xr (by omega)) (Xr (by omega)) hd m1 m2
theorem Zdz (n:Int):U32 (cn n).2:=Qw _
theorem E0 (n:Int):rv (cn n).1 (cn n).2=n:=Qc n
theorem Zn2:∀ (n X Y:Nat),Y≤n→(Zb X).length<1000000→(Zb Y).length<1000000→Za Yir (.loop Zfk) (M5 (cn (X:Nat)) (cn (Y:Nat))) (.exit 0) (M5 (cn (Nat.gcd X Y:Nat)) (cn 0)):=by
 intro n
 induction n with
 | zero =>
  intro X Y hY _ _
  have:Y=0:=by omega
  subst this
  rw[Nat.gcd_zero_right]
  exact Za.loop_out (Zfa (cn (X:Nat)) (cn 0) (by decide) (Vs (neg:=(cn 0).1) (xs:=(cn 0).2) (Zdz _) (by decide))) (by intro e;cases e)
 | succ n ih =>
  intro X Y hY h1 h2
  by_cases h0:Y=0
  ·subst h0
   rw[Nat.gcd_zero_right]
   exact Za.loop_out (Zfa (cn (X:Nat)) (cn 0) (by decide) (Vs (neg:=(cn 0).1) (xs:=(cn 0).2) (Zdz _) (by decide))) (by intro e;cases e)
  ·have hs:=Vs (neg:=(cn (Y:Nat)).1) (xs:=(cn (Y:Nat)).2) (Qw _) (by rw[Ke,Int.natAbs_natCast];omega)
   have hd:=Sp (na:=(cn (X:Nat)).1) (nb:=(cn (Y:Nat)).1) (xs:=(cn (X:Nat)).2) (ys:=(cn (Y:Nat)).2) (Qw _) (Qw _) (by rw[E0];omega) (by rw[Ke,Int.natAbs_natCast];omega) (by rw[Ke,Int.natAbs_natCast];omega)
   rw[E0,E0] at hd
   rw[E0] at hs
   have em:Int.tmod (X:Int) (Y:Int)=((X % Y:Nat):Int):=by rw[Int.tmod_eq_emod_of_nonneg (by omega)];omega
   rw[em] at hd
   have k:=Zog (cn (X:Nat)) (cn (Y:Nat)) _ _ (by rw[Qc,bne_iff_ne];unfold X2; (repeat' split) <;> omega) (by rw[Qc];exact hs) hd
   have hlt:X % Y<Y:=Nat.mod_lt _ (by omega)
   have hle:(Zb (X % Y)).length≤(Zb Y).length:=by
    apply Bw
    have:=J7 (Q6 Y).1
    rw[Je] at this
    omega
   have r:=ih Y (X % Y) (by omega) h2 (by omega)
   rw[Nat.gcd_comm X Y,Nat.gcd_rec Y X,Nat.gcd_comm (X % Y) Y]
   exact Za.loop k r
theorem L3 {na nb:Bool} {xs ys:List Int} (hx:U32 xs) (hy:U32 ys) (h1:xs.length<1000000) (h2:ys.length<1000000) :
  Ze Yir 92 [.agg [.bool na, .sl xs.length (lm xs)], .agg [.bool nb, .sl ys.length (lm ys)]] (Zn (Int.gcd (rv na xs) (rv nb ys):Nat)):=by
 have m1:=Uu (neg:=false) hx (by omega)
 have m2:=Uu (neg:=false) hy (by omega)
 have l1:=Uq (neg:=na) hx
 have l2:=Uq (neg:=nb) hy
 have e1:rv false xs=(((rv na xs).natAbs:Nat):Int):=by
  have:=Zz hx
  unfold rv;cases na <;> simp <;> omega
 have e2:rv false ys=(((rv nb ys).natAbs:Nat):Int):=by
  have:=Zz hy
  unfold rv;cases nb <;> simp <;> omega
 rw[e1] at m1
 rw[e2] at m2
 exact Yrun92 na nb xs ys _ _ _ _ m1 m2 (Zn2 _ (rv na xs).natAbs (rv nb ys).natAbs (Nat.le_refl _) (by omega) (by omega))
theorem P2 (a b:List Int):Jb (a++b)=Nat.gcd (Jb a) (Jb b):=by
 induction a with
 | nil=>simp[Jb]
 | cons x a ih=>simp only[List.cons_append,Jb,ih,Nat.gcd_assoc]
theorem Ao {rs:List Rn} {i:Nat} (h:i<rs.length):(Zi rs).take (i+1)=(Zi rs).take i++[Zl (rs.getD i z0)]:=by
 rw[List.take_succ_eq_append_getElem (by rw[Zs];exact h)]
 congr 2
 rw[← Q1,List.getD_eq_getElem?_getD,List.getElem?_eq_getElem (by rw[Zs];exact h)];rfl
theorem Zab {K:Nat} {rs:List Rn} (hg:∀ r∈rs,Jw K r) (hK:K<1000000) (hN:rs.length≤1048576):Ze Yir 74 [.sl rs.length (pc rs)] (Zn (Jb (Zi rs):Nat)):=by
 have h:=Za.up (prog:=Yir) (c:=Yc74) (ex := .exit 0) (fin:=Zlo rs (cn (Jb (Zi rs):Nat)) (rs.length:Nat))
  (fun i=>Zlo rs (cn (Jb ((Zi rs).take i):Nat)) (i:Nat)) rs.length (by intro e;cases e) ?_ ?_ 0 (Nat.zero_le _)
 ·exact Yrun74 rs (cn (Jb (Zi rs):Nat)) _ h
 ·intro i hi
  have ei:i64.wrap ((i:Int)+1)=((i+1:Nat):Int):=by rw[w64 (by omega) (by omega)];omega
  obtain⟨g1,g2⟩:=Z9 hg i
  have hf:Ji K ((Jb ((Zi rs).take i):Nat):Int):=Nh fun x hx=>Q8 hg x (List.mem_of_mem_take hx)
  have hl:=hf.len
  have hc:=L3 (na:=(cn (Jb ((Zi rs).take i):Nat)).1) (nb:=(rs.getD i z0).1) (xs:=(cn (Jb ((Zi rs).take i):Nat)).2) (ys:=(rs.getD i z0).2) (Qw _) g1 (by rw[Ke];omega) (by omega)
  rw[E0] at hc
  have k:=Yk74_1 rs (cn (Jb ((Zi rs).take i):Nat)) (i:Nat) _ (by simp;omega) (by omega) (by rw[Int.toNat_natCast];exact hc)
  refine k.to rfl ?_
  rw[ei,Ao hi,P2]
  congr 2
  show ((Nat.gcd (((Jb ((Zi rs).take i):Nat):Int)).natAbs (Zl (rs.getD i z0)).natAbs:Nat):Int)=_
  rw[Int.natAbs_natCast]
  simp[Jb]
 ·rw[List.take_of_length_le (by rw[Zs];omega)]
  exact Yk74_2 rs _ _ (by simp)
theorem Ua (g:Nat→Int) (i:Nat):pc ((List.range i).map fun j=>cn (g j))++([.bool (decide (g i<0)), .sl (Zb (g i).natAbs).length (lm (Zb (g i).natAbs))]:List AV)=pc ((List.range (i+1)).map fun j=>cn (g j)):=by
 rw[Hq (fun j=>cn (g j)),← Zcp];rfl
theorem Zdj {K:Nat} {x:Int} (h:Ji K x) (c:Int):Ji K (Int.tdiv x c):=by
 unfold Ji at *
 have:(Int.tdiv x c).natAbs=x.natAbs / c.natAbs:=Int.natAbs_tdiv x c
 have:=Nat.div_le_self x.natAbs c.natAbs
 omega
theorem Vt {K:Nat} {rs:List Rn} (hg:∀ r∈rs,Jw K r) (hK:K<1000000) (hN:rs.length≤1048576):Ze Yir 40 [.sl rs.length (pc rs)] (.fresh 2 (prim (Zi rs)).length (pk (prim (Zi rs)))):=by
 have hi:=Zab hg hK hN
 have hfc:Ji K ((Jb (Zi rs):Nat):Int):=Nh (Q8 hg)
 have hlc:=hfc.len
 have hs:=Vs (neg:=(cn (Jb (Zi rs):Nat)).1) (xs:=(cn (Jb (Zi rs):Nat)).2) (Qw _) (by rw[Ke];omega)
 rw[E0] at hs
 by_cases h0:Jb (Zi rs)=0
 ·rw[Uz.2 (K0.1 h0)]
  exact Zi1 rs _ (by rw[h0];rfl) hi hs
 ·have h:=Za.up (prog:=Yir) (c:=Yc40) (ex := .exit 0) (fin:=Zlx rs (cn (Jb (Zi rs):Nat)) rs.length (pc ((List.range rs.length).map fun j=>cn (Int.tdiv (Zl (rs.getD j z0)) (Jb (Zi rs):Nat)))) (rs.length:Nat))
   (fun i=>Zlx rs (cn (Jb (Zi rs):Nat)) i (pc ((List.range i).map fun j=>cn (Int.tdiv (Zl (rs.getD j z0)) (Jb (Zi rs):Nat)))) (i:Nat)) rs.length (by intro e;cases e) ?_ ?_ 0 (Nat.zero_le _)
  ·have hgo:∀ r∈(List.range rs.length).map (fun j=>cn (Int.tdiv (Zl (rs.getD j z0)) (Jb (Zi rs):Nat))),Jw 1048576 r:=B1 fun j _=>(Jj (Zdj (Z9 hg j).fits _)).mono (by omega)
   have ht:=Xl hgo (by rw[List.length_map,List.length_range];exact hN)
   have e:Zd (Zi ((List.range rs.length).map (fun j=>cn (Int.tdiv (Zl (rs.getD j z0)) (Jb (Zi rs):Nat)))))=prim (Zi rs):=by
    rw[← Qr (Zi rs)]
    apply V9
    intro i
    rw[K5,Qc,Wr,← Q1]
    by_cases h1:i<rs.length
    ·rw[if_pos h1,K7 (by omega) (Vk _ _)]
    ·rw[if_neg h1,Qt (by rw[Zs];omega),Int.zero_ediv]
   rw[e,List.length_map,List.length_range] at ht
   have hpk:pk (prim (Zi rs))=pc ((prim (Zi rs)).map cn):=rfl
   rw[hpk,← List.length_map (f:=cn)] at ht ⊢
   exact Zi0 rs _ _ _ _ _ (by rw[beq_eq_false_iff_ne];unfold X2; (repeat' split) <;> omega) hi hs h ht
  ·intro i hi2
   have ei:i64.wrap ((i:Int)+1)=((i+1:Nat):Int):=by rw[w64 (by omega) (by omega)];omega
   obtain⟨g1,g2⟩:=Z9 hg i
   have hd:=Sp (na:=(rs.getD i z0).1) (nb:=(cn (Jb (Zi rs):Nat)).1) (xs:=(rs.getD i z0).2) (ys:=(cn (Jb (Zi rs):Nat)).2) g1 (Qw _) (by rw[E0];omega) (by omega) (by rw[Ke];omega)
   rw[E0] at hd
   have k:=Yk40_1 rs (cn (Jb (Zi rs):Nat)) i (pc ((List.range i).map fun j=>cn (Int.tdiv (Zl (rs.getD j z0)) (Jb (Zi rs):Nat)))) (i:Nat) _ _ (by simp;omega) (by omega) (by omega) (by rw[Int.toNat_natCast];exact hd)
   refine k.to rfl ?_
   rw[ei,← Ua (fun j=>Int.tdiv (Zl (rs.getD j z0)) (Jb (Zi rs):Nat)) i]
   rfl
  ·exact Yk40_2 rs _ _ _ _ (by simp)
theorem Ss {K:Nat} {rs:List Rn} (hg:∀ r∈rs,Jw K r) (hK:K+2≤1000000) (hN:rs.length≤1048576):Ze Yir 41 [.sl rs.length (pc rs)] (.fresh 2 (Qu (Zi rs)).length (pk (Qu (Zi rs)))):=by
 have h:=Za.up (prog:=Yir) (c:=Yc41) (ex := .exit 0) (fin:=Zlw rs (rs.length-1) (pc ((List.range (rs.length-1)).map fun j=>cn (((j+1:Nat):Int)*Zl (rs.getD (j+1) z0)))) ((rs.length-1+1:Nat):Int))
  (fun i=>Zlw rs i (pc ((List.range i).map fun j=>cn (((j+1:Nat):Int)*Zl (rs.getD (j+1) z0)))) ((i+1:Nat):Int)) (rs.length-1) (by intro e;cases e) ?_ ?_ 0 (Nat.zero_le _)
 ·have hgo:∀ r∈(List.range (rs.length-1)).map (fun j=>cn (((j+1:Nat):Int)*Zl (rs.getD (j+1) z0))),Jw 1048576 r:=B1 fun j hj=>by
   have h2:Ji 2 ((j+1:Nat):Int):=Du (by omega)
   exact (Jj (h2.mul (Z9 hg (j+1)).fits)).mono (by omega)
  have ht:=Xl hgo (by rw[List.length_map,List.length_range];omega)
  have e:Zd (Zi ((List.range (rs.length-1)).map (fun j=>cn (((j+1:Nat):Int)*Zl (rs.getD (j+1) z0)))))=Qu (Zi rs):=by
   unfold Qu
   apply V9
   intro i
   rw[K5,Wq,Qc,Q1,Zs,Int.mul_comm]
  rw[e,List.length_map,List.length_range] at ht
  have hpk:pk (Qu (Zi rs))=pc ((Qu (Zi rs)).map cn):=rfl
  rw[hpk,← List.length_map (f:=cn)] at ht ⊢
  exact Yrun41 rs _ _ _ _ h ht
 ·intro i hi
  have ei:i64.wrap (((i+1:Nat):Int)+1)=((i+1+1:Nat):Int):=by rw[w64 (by omega) (by omega)];omega
  obtain⟨g1,g2⟩:=Z9 hg (i+1)
  have ho:=Zk6 (n:=((i+1:Nat):Int)) (by omega)
  have hfi:Ji 2 ((i+1:Nat):Int):=Du (by omega)
  have hm:=G6 (na:=(cn ((i+1:Nat):Int)).1) (nb:=(rs.getD (i+1) z0).1) (xs:=(cn ((i+1:Nat):Int)).2) (ys:=(rs.getD (i+1) z0).2) (Zdz _) g1 (by rw[Ke];have:=hfi.len;omega)
  rw[E0] at hm
  have k:=Yk41_1 rs i (pc ((List.range i).map fun j=>cn (((j+1:Nat):Int)*Zl (rs.getD (j+1) z0)))) ((i+1:Nat):Int) (by simp;omega) (by omega) (by omega) ho (by rw[Int.toNat_natCast];exact hm)
  refine k.to rfl ?_
  rw[ei,← Ua (fun j=>((j+1:Nat):Int)*Zl (rs.getD (j+1) z0)) i,Int.toNat_natCast]
 ·exact Yk41_2 rs _ _ _ (by rw[decide_eq_false_iff_not];omega)
theorem Sr {rs:List Rn} (hg:∀ r∈rs,Jw 1048576 r) (hN:rs.length≤1048576):Ze Yir 42 [.sl rs.length (pc rs)] (.fresh 2 (Zd (Vc (Zi rs))).length (pk (Zd (Vc (Zi rs))))):=by
 have h:=Za.up (prog:=Yir) (c:=Yc42) (ex := .exit 0) (fin:=Zlv rs rs.length (pc ((List.range rs.length).map fun j=>cn (-Zl (rs.getD j z0)))) (rs.length:Nat))
  (fun i=>Zlv rs i (pc ((List.range i).map fun j=>cn (-Zl (rs.getD j z0)))) (i:Nat)) rs.length (by intro e;cases e) ?_ ?_ 0 (Nat.zero_le _)
 ·have hgo:∀ r∈(List.range rs.length).map (fun j=>cn (-Zl (rs.getD j z0))),Jw 1048576 r:=B1 fun j _=>Jj (Z9 hg j).fits.neg
  have ht:=Xl hgo (by rw[List.length_map,List.length_range];exact hN)
  have e:Zd (Zi ((List.range rs.length).map (fun j=>cn (-Zl (rs.getD j z0)))))=Zd (Vc (Zi rs)):=by
   apply V9
   intro i
   rw[K5,Qc,U6,← Q1]
   split
   ·rfl
   ·rw[Qt (by rw[Zs];omega)];rfl
  rw[e,List.length_map,List.length_range] at ht
  have hpk:pk (Zd (Vc (Zi rs)))=pc ((Zd (Vc (Zi rs))).map cn):=rfl
  rw[hpk,← List.length_map (f:=cn)] at ht ⊢
  exact Yrun42 rs _ _ _ _ h ht
 ·intro i hi
  have ei:i64.wrap ((i:Int)+1)=((i+1:Nat):Int):=by rw[w64 (by omega) (by omega)];omega
  obtain⟨g1,g2⟩:=Z9 hg i
  have k:=Yk42_1 rs i (pc ((List.range i).map fun j=>cn (-Zl (rs.getD j z0)))) (i:Nat) (by simp;omega) (by omega) (by omega) (by rw[Int.toNat_natCast];exact E1 g1 g2)
  refine k.to rfl ?_
  rw[ei,← Ua (fun j => -Zl (rs.getD j z0)) i,Int.toNat_natCast]
 ·exact Yk42_2 rs _ _ _ (by simp)
end Go.Proofs.YthnnfemologhfaaGreat

namespace Go.Proofs.YthnnfemologhfaaGreat
open Go.IntKind (i64 u64 u32)
open Go.Ai
set_option maxRecDepth 100000
def G1 (qs:List Rn) (k:Nat) (rs:List Rn) (t:Rn) (a:Rn) (b:Rn) (at1:Int) (n:Int) (i:Int):Zk:=(dds 1 (.val (.sl qs.length (pc qs))::(dds 3 (.own 2 k (pc rs)::(.box [.bool t.1, .sl t.2.length (lm t.2)]::(dds 2 (.box [.bool a.1, .sl a.2.length (lm a.2)]::(dds 1 (.box [.bool b.1, .sl b.2.length (lm b.2)]::(dds 1 (.val (.int .i64 at1)::(dds 49 (.val (.int .i64 n)::(.val (.int .i64 i)::(dds 34 [])))))))))))))))
theorem Zpo (qs:List Rn) (k:Nat) (rs:List Rn) (t:Rn) (a:Rn) (b:Rn) (at1:Int) (n:Int) (i:Int)  (c1:(decide (i<n))=true) (c2:(decide (i≥at1))=true) (n1:0≤i∧i<(k:Int)) (n2:rs.length=k) (n3:(rs.set (Int.toNat i) (cn ((Zl (rs.getD (Int.toNat i) z0))*(Zl a)))).length=k) (n4:0≤(i64.wrap (i-at1))∧(i64.wrap (i-at1))<(qs.length:Int)) (n5:Ze Yir 64 [Zt (rs.getD (Int.toNat i) z0),Zt a] (Zn ((Zl (rs.getD (Int.toNat i) z0))*(Zl a)))) (n6:Ze Yir 64 [Zt b,Zt (qs.getD (Int.toNat (i64.wrap (i-at1))) z0)] (Zn ((Zl b)*(Zl (qs.getD (Int.toNat (i64.wrap (i-at1))) z0))))) (n7:Ze Yir 70 [Zt ((rs.set (Int.toNat i) (cn ((Zl (rs.getD (Int.toNat i) z0))*(Zl a)))).getD (Int.toNat i) z0),Zn ((Zl b)*(Zl (qs.getD (Int.toNat (i64.wrap (i-at1))) z0)))] (Zn ((Zl ((rs.set (Int.toNat i) (cn ((Zl (rs.getD (Int.toNat i) z0))*(Zl a)))).getD (Int.toNat i) z0))-((Zl b)*(Zl (qs.getD (Int.toNat (i64.wrap (i-at1))) z0)))))):Za Yir Ld (G1 qs k rs t a b at1 n i) .norm (G1 qs k ((rs.set (Int.toNat i) (cn ((Zl (rs.getD (Int.toNat i) z0))*(Zl a)))).set (Int.toNat i) (cn ((Zl ((rs.set (Int.toNat i) (cn ((Zl (rs.getD (Int.toNat i) z0))*(Zl a)))).getD (Int.toNat i) z0))-((Zl b)*(Zl (qs.getD (Int.toNat (i64.wrap (i-at1))) z0)))))) t a b at1 n (i64.wrap (i+1))):=(Za.go Zr 400 [.b true, .v (Zt (rs.getD (Int.toNat i) z0)), .r (Zn ((Zl (rs.getD (Int.toNat i) z0))*(Zl a))), .l (pc (rs.set (Int.toNat i) (cn ((Zl (rs.getD (Int.toNat i) z0))*(Zl a))))), .b true, .v (Zt ((rs.set (Int.toNat i) (cn ((Zl (rs.getD (Int.toNat i) z0))*(Zl a)))).getD (Int.toNat i) z0)), .v (Zt (qs.getD (Int.toNat (i64.wrap (i-at1))) z0)), .r (Zn ((Zl b)*(Zl (qs.getD (Int.toNat (i64.wrap (i-at1))) z0)))), .r (Zn ((Zl ((rs.set (Int.toNat i) (cn ((Zl (rs.getD (Int.toNat i) z0))*(Zl a)))).getD (Int.toNat i) z0))-((Zl b)*(Zl (qs.getD (Int.toNat (i64.wrap (i-at1))) z0))))), .l (pc ((rs.set (Int.toNat i) (cn ((Zl (rs.getD (Int.toNat i) z0))*(Zl a)))).set (Int.toNat i) (cn ((Zl ((rs.set (Int.toNat i) (cn ((Zl (rs.getD (Int.toNat i) z0))*(Zl a)))).getD (Int.toNat i) z0))-((Zl b)*(Zl (qs.getD (Int.toNat (i64.wrap (i-at1))) z0)))))))] [1,5,6,9,11,13,63,64] (ac c1 (ac n1 (ac (Vw n2 n1) (ac n5 (ac n1 (ac (Wg (r:=cn ((Zl (rs.getD (Int.toNat i) z0))*(Zl a))) n2 n1) (ac c2 (ac n1 (ac (Vw n3 n1) (ac n4 (ac (Qh n4) (ac n6 (ac n7 (ac n1 (ac (Wg (r:=cn ((Zl ((rs.set (Int.toNat i) (cn ((Zl (rs.getD (Int.toNat i) z0))*(Zl a)))).getD (Int.toNat i) z0))-((Zl b)*(Zl (qs.getD (Int.toNat (i64.wrap (i-at1))) z0))))) n3 n1) a0))))))))))))))))
theorem Zpn (qs:List Rn) (k:Nat) (rs:List Rn) (t:Rn) (a:Rn) (b:Rn) (at1:Int) (n:Int) (i:Int)  (c1:(decide (i<n))=true) (c2:(decide (i≥at1))=false) (n1:0≤i∧i<(k:Int)) (n2:rs.length=k) (n3:Ze Yir 64 [Zt (rs.getD (Int.toNat i) z0),Zt a] (Zn ((Zl (rs.getD (Int.toNat i) z0))*(Zl a)))):Za Yir Ld (G1 qs k rs t a b at1 n i) .norm (G1 qs k (rs.set (Int.toNat i) (cn ((Zl (rs.getD (Int.toNat i) z0))*(Zl a)))) t a b at1 n (i64.wrap (i+1))):=(Za.go Zr 400 [.b true, .v (Zt (rs.getD (Int.toNat i) z0)), .r (Zn ((Zl (rs.getD (Int.toNat i) z0))*(Zl a))), .l (pc (rs.set (Int.toNat i) (cn ((Zl (rs.getD (Int.toNat i) z0))*(Zl a))))), .b false] [1,5,6,9,11,13,63,64] (ac c1 (ac n1 (ac (Vw n2 n1) (ac n3 (ac n1 (ac (Wg (r:=cn ((Zl (rs.getD (Int.toNat i) z0))*(Zl a))) n2 n1) (ac c2 a0))))))))
theorem Zpm (qs:List Rn) (k:Nat) (rs:List Rn) (t:Rn) (a:Rn) (b:Rn) (at1:Int) (n:Int) (i:Int)  (c1:(decide (i<n))=false):Za Yir Ld (G1 qs k rs t a b at1 n i) (.exit 2) (G1 qs k rs t a b at1 n i):=(Za.go Zr 400 [.b false] [1,5,6,9,11,13,63,64] (ac c1 a0))
def Zbn (qs:List Rn) (k:Nat) (rs:List Rn) (t:Rn):Zk:=(dds 1 (.val (.sl qs.length (pc qs))::(dds 3 (.own 2 k (pc rs)::(.box [.bool t.1, .sl t.2.length (lm t.2)]::(dds 92 []))))))
theorem Yk37_1 (qs:List Rn) (k:Nat) (rs:List Rn) (t:Rn) (os us:List Rn) (a b:Rn) (g ab x y ny r1 r2 s at1 n i:Int) (c1:(decide ((k:Int)≥(qs.length:Int)))=true) (c2:(decide (s<0))=true) (n1:0≤(i64.wrap ((k:Int)-1))∧(i64.wrap ((k:Int)-1))<(k:Int)) (n2:rs.length=k) (n3:Ze Yir 67 [Zt t,Zt (rs.getD (Int.toNat (i64.wrap ((k:Int)-1))) z0)] (Zn g)) (n4:Ze Yir 68 [Zt t] (Zn ab)) (n5:Ze Yir 60 [Zn ab,Zn g] (.tup [Zn x,Zn r1])) (n6:Ze Yir 60 [Zt (rs.getD (Int.toNat (i64.wrap ((k:Int)-1))) z0),Zn g] (.tup [Zn y,Zn r2])) (n7:Ze Yir 69 [Zt t] (.int .i64 s)) (n8:Ze Yir 66 [Zn y] (Zn ny)) (hl9:Za Yir (.loop Ld) (G1 qs k rs t (cn x) (cn ny) (i64.wrap ((k:Int)-(qs.length:Int))) (k:Int) 0) (.exit 2) (G1 qs k os t a b at1 n i)) (n10:Ze Yir 33 [.sl k (pc os)] (.fresh 2 us.length (pc us))):Za Yir Zs5 (Zbn qs k rs t) .norm (Zbn qs us.length us t):=(Za.seq (Za.go (t:=(dds 1 (vp qs::(dds 3 (.own 2 k (pc rs)::(bR t::(dds 18 (.dup 5::(dds 73 []))))))))) Zr 400 [.b true] [1,5,6,25] (ac c1 a0)) (Za.block_norm (Za.seq (Za.go (t:=(dds 1 (vp qs::(dds 3 (.own 2 k (pc rs)::(bR t::(bR (rs.getD (Int.toNat (i64.wrap ((k:Int)-1))) z0)::(dds 17 (.dup 5::(dds 4 (.dup 5::(.dup 5::(dds 1 (vi (i64.wrap ((k:Int)-1))::(.ptr 5 (Int.toNat (i64.wrap ((k:Int)-1))*2)::(dds 64 [])))))))))))))))) Zr 400 [.v (Zt (rs.getD (Int.toNat (i64.wrap ((k:Int)-1))) z0))] [1,5,6,7,25,30,31,33,34] (ac n1 (ac (Vw n2 n1) a0))) (Za.seq (Za.go (t:=(dds 1 (vp qs::(dds 3 (.own 2 k (pc rs)::(bR t::(bR (rs.getD (Int.toNat (i64.wrap ((k:Int)-1))) z0)::(bN g::(dds 16 (.dup 5::(dds 4 (.dup 5::(.dup 5::(dds 1 (vi (i64.wrap ((k:Int)-1))::(.ptr 5 (Int.toNat (i64.wrap ((k:Int)-1))*2)::(dds 64 []))))))))))))))))) Zr 400 [.r (Zn g)] [1,5,6,7,8,25,30,31,33,34] (ac n3 a0)) (Za.seq (Za.go (t:=(dds 1 (vp qs::(dds 3 (.own 2 k (pc rs)::(bR t::(bR (rs.getD (Int.toNat (i64.wrap ((k:Int)-1))) z0)::(bN g::(bN x::(dds 15 (.dup 5::(dds 4 (.dup 5::(.dup 5::(dds 1 (vi (i64.wrap ((k:Int)-1))::(.ptr 5 (Int.toNat (i64.wrap ((k:Int)-1))*2)::(dds 64 [])))))))))))))))))) Zr 400 [.r (Zn ab), .r (.tup [Zn x,Zn r1])] [1,5,6,7,8,9,25,30,31,33,34] (ac n4 (ac n5 a0))) (Za.seq (Za.go (t:=(dds 1 (vp qs::(dds 3 (.own 2 k (pc rs)::(bR t::(dds 2 (bN x::(dds 1 (bN y::(dds 13 (.dup 5::(dds 4 (.dup 5::(.dup 5::(dds 1 (vi (i64.wrap ((k:Int)-1))::(.ptr 5 (Int.toNat (i64.wrap ((k:Int)-1))*2)::(dds 64 []))))))))))))))))))) Zr 400 [.r (.tup [Zn y,Zn r2])] [1,5,6,9,11,25,30,31,33,34] (ac n6 a0)) (Za.seq (Za.go (t:=(dds 1 (vp qs::(dds 3 (.own 2 k (pc rs)::(bR t::(dds 2 (bN x::(dds 1 (bN ny::(dds 13 (.dup 5::(dds 4 (.dup 5::(.dup 5::(dds 1 (vi (i64.wrap ((k:Int)-1))::(.ptr 5 (Int.toNat (i64.wrap ((k:Int)-1))*2)::(dds 64 []))))))))))))))))))) Zr 400 [.r (.int .i64 s), .b true, .r (Zn ny)] [1,5,6,9,11,25,30,31,33,34] (ac n7 (ac c2 (ac n8 a0)))) (Za.seq (Za.go (t:=(dds 1 (vp qs::(dds 3 (.own 2 k (pc rs)::(bR t::(dds 2 (bN x::(dds 1 (bN ny::(dds 1 (vi (i64.wrap ((k:Int)-(qs.length:Int)))::(dds 11 (.dup 5::(dds 4 (.dup 5::(.dup 5::(dds 1 (vi (i64.wrap ((k:Int)-1))::(.ptr 5 (Int.toNat (i64.wrap ((k:Int)-1))*2)::(dds 22 (.dup 5::(dds 41 []))))))))))))))))))))))) Zr 400 [] [1,5,6,9,11,13,25,30,31,33,34,57] a0) (Za.seq (Za.seq (Za.go Zr 400 [] [1,5,6,9,11,13,63,64] a0) (Za.block hl9)) (Za.go Zr 400 [.r (.fresh 2 us.length (pc us))] [1,5,6] (ac n10 a0)))))))))))
theorem Yk37_2 (qs:List Rn) (k:Nat) (rs:List Rn) (t:Rn) (os us:List Rn) (a b:Rn) (g ab x y r1 r2 s at1 n i:Int) (c1:(decide ((k:Int)≥(qs.length:Int)))=true) (c2:(decide (s<0))=false) (n1:0≤(i64.wrap ((k:Int)-1))∧(i64.wrap ((k:Int)-1))<(k:Int)) (n2:rs.length=k) (n3:Ze Yir 67 [Zt t,Zt (rs.getD (Int.toNat (i64.wrap ((k:Int)-1))) z0)] (Zn g)) (n4:Ze Yir 68 [Zt t] (Zn ab)) (n5:Ze Yir 60 [Zn ab,Zn g] (.tup [Zn x,Zn r1])) (n6:Ze Yir 60 [Zt (rs.getD (Int.toNat (i64.wrap ((k:Int)-1))) z0),Zn g] (.tup [Zn y,Zn r2])) (n7:Ze Yir 69 [Zt t] (.int .i64 s)) (hl8:Za Yir (.loop Ld) (G1 qs k rs t (cn x) (cn y) (i64.wrap ((k:Int)-(qs.length:Int))) (k:Int) 0) (.exit 2) (G1 qs k os t a b at1 n i)) (n9:Ze Yir 33 [.sl k (pc os)] (.fresh 2 us.length (pc us))):Za Yir Zs5 (Zbn qs k rs t) .norm (Zbn qs us.length us t):=(Za.seq (Za.go (t:=(dds 1 (vp qs::(dds 3 (.own 2 k (pc rs)::(bR t::(dds 18 (.dup 5::(dds 73 []))))))))) Zr 400 [.b true] [1,5,6,25] (ac c1 a0)) (Za.block_norm (Za.seq (Za.go (t:=(dds 1 (vp qs::(dds 3 (.own 2 k (pc rs)::(bR t::(bR (rs.getD (Int.toNat (i64.wrap ((k:Int)-1))) z0)::(dds 17 (.dup 5::(dds 4 (.dup 5::(.dup 5::(dds 1 (vi (i64.wrap ((k:Int)-1))::(.ptr 5 (Int.toNat (i64.wrap ((k:Int)-1))*2)::(dds 64 [])))))))))))))))) Zr 400 [.v (Zt (rs.getD (Int.toNat (i64.wrap ((k:Int)-1))) z0))] [1,5,6,7,25,30,31,33,34] (ac n1 (ac (Vw n2 n1) a0))) (Za.seq (Za.go (t:=(dds 1 (vp qs::(dds 3 (.own 2 k (pc rs)::(bR t::(bR (rs.getD (Int.toNat (i64.wrap ((k:Int)-1))) z0)::(bN g::(dds 16 (.dup 5::(dds 4 (.dup 5::(.dup 5::(dds 1 (vi (i64.wrap ((k:Int)-1))::(.ptr 5 (Int.toNat (i64.wrap ((k:Int)-1))*2)::(dds 64 []))))))))))))))))) Zr 400 [.r (Zn g)] [1,5,6,7,8,25,30,31,33,34] (ac n3 a0)) (Za.seq (Za.go (t:=(dds 1 (vp qs::(dds 3 (.own 2 k (pc rs)::(bR t::(bR (rs.getD (Int.toNat (i64.wrap ((k:Int)-1))) z0)::(bN g::(bN x::(dds 15 (.dup 5::(dds 4 (.dup 5::(.dup 5::(dds 1 (vi (i64.wrap ((k:Int)-1))::(.ptr 5 (Int.toNat (i64.wrap ((k:Int)-1))*2)::(dds 64 [])))))))))))))))))) Zr 400 [.r (Zn ab), .r (.tup [Zn x,Zn r1])] [1,5,6,7,8,9,25,30,31,33,34] (ac n4 (ac n5 a0))) (Za.seq (Za.go (t:=(dds 1 (vp qs::(dds 3 (.own 2 k (pc rs)::(bR t::(dds 2 (bN x::(dds 1 (bN y::(dds 13 (.dup 5::(dds 4 (.dup 5::(.dup 5::(dds 1 (vi (i64.wrap ((k:Int)-1))::(.ptr 5 (Int.toNat (i64.wrap ((k:Int)-1))*2)::(dds 64 []))))))))))))))))))) Zr 400 [.r (.tup [Zn y,Zn r2])] [1,5,6,9,11,25,30,31,33,34] (ac n6 a0)) (Za.seq (Za.go (t:=(dds 1 (vp qs::(dds 3 (.own 2 k (pc rs)::(bR t::(dds 2 (bN x::(dds 1 (bN y::(dds 13 (.dup 5::(dds 4 (.dup 5::(.dup 5::(dds 1 (vi (i64.wrap ((k:Int)-1))::(.ptr 5 (Int.toNat (i64.wrap ((k:Int)-1))*2)::(dds 64 []))))))))))))))))))) Zr 400 [.r (.int .i64 s), .b false] [1,5,6,9,11,25,30,31,33,34] (ac n7 (ac c2 a0))) (Za.seq (Za.go (t:=(dds 1 (vp qs::(dds 3 (.own 2 k (pc rs)::(bR t::(dds 2 (bN x::(dds 1 (bN y::(dds 1 (vi (i64.wrap ((k:Int)-(qs.length:Int)))::(dds 11 (.dup 5::(dds 4 (.dup 5::(.dup 5::(dds 1 (vi (i64.wrap ((k:Int)-1))::(.ptr 5 (Int.toNat (i64.wrap ((k:Int)-1))*2)::(dds 22 (.dup 5::(dds 41 []))))))))))))))))))))))) Zr 400 [] [1,5,6,9,11,13,25,30,31,33,34,57] a0) (Za.seq (Za.seq (Za.go Zr 400 [] [1,5,6,9,11,13,63,64] a0) (Za.block hl8)) (Za.go Zr 400 [.r (.fresh 2 us.length (pc us))] [1,5,6] (ac n9 a0)))))))))))
theorem Zma (qs:List Rn) (k:Nat) (rs:List Rn) (t:Rn)  (c1:(decide ((k:Int)≥(qs.length:Int)))=false):Za Yir Zs5 (Zbn qs k rs t) (.exit 0) (Zbn qs k rs t):=(Za.seq_out (Za.go Zr 400 [.b false] [1,5,6] (ac c1 a0)) (by intro e;cases e))
theorem Yrun37 (rs ss ps qs us:List Rn) (t:Rn) (k:Nat) (n1:Ze Yir 33 [.sl rs.length (pc rs)] (.fresh 2 ps.length (pc ps))) (n2:Ze Yir 33 [.sl ss.length (pc ss)] (.fresh 2 qs.length (pc qs))) (n3:0≤(i64.wrap ((qs.length:Int)-1))∧(i64.wrap ((qs.length:Int)-1))<(qs.length:Int)) (hl4:Za Yir (.loop Zs5) (Zbn qs ps.length ps (qs.getD (Int.toNat (i64.wrap ((qs.length:Int)-1))) z0)) (.exit 0) (Zbn qs k us t)):Ze Yir 37 [.sl rs.length (pc rs), .sl ss.length (pc ss)] (.fresh 2 k (pc us)):=Ze.of_bodyW (fn:=Yi37) (s:=(dds 4 (.own 2 k (pc us)::(dds 94 [])))) (ex := .ret) rfl rfl (Za.seq (Za.go (t:=(vp rs::(vp ss::(dds 2 (.own 2 0 []::(dds 94 [])))))) Zr 400 [] [0,1,4] a0) (Za.seq (Za.go (t:=(vp rs::(vp qs::(dds 2 (.own 2 0 []::(.own 2 ps.length (pc ps)::(dds 93 []))))))) Zr 400 [.r (.fresh 2 ps.length (pc ps)), .r (.fresh 2 qs.length (pc qs))] [0,1,4,5] (ac n1 (ac n2 a0))) (Za.seq (Za.go Zr 400 [.v (Zt (qs.getD (Int.toNat (i64.wrap ((qs.length:Int)-1))) z0))] [1,5,6] (ac n3 (ac (Qh n3) a0))) (Za.seq (Za.block hl4) (Za.go Zr 400 [] [4] a0))))) (by intro i e;cases e) rfl
def Zbl (as1:List Rn) (bs:List Rn):Zk:=(dds 5 (.val (.sl as1.length (pc as1))::(.val (.sl bs.length (pc bs))::(dds 13 []))))
theorem Zl7 (as1:List Rn) (bs:List Rn) (us:List Rn) (c1:(decide ((bs.length:Int)>0))=true) (n1:Ze Yir 37 [.sl as1.length (pc as1), .sl bs.length (pc bs)] (.fresh 2 us.length (pc us))):Za Yir Zs3 (Zbl as1 bs) .norm (Zbl bs us):=(Za.go Zr 400 [.b true, .r (.fresh 2 us.length (pc us))] [5,6] (ac c1 (ac n1 a0)))
theorem Zl6 (as1:List Rn) (bs:List Rn)  (c1:(decide ((bs.length:Int)>0))=false):Za Yir Zs3 (Zbl as1 bs) (.exit 0) (Zbl as1 bs):=(Za.go Zr 400 [.b false] [5,6] (ac c1 a0))
theorem Zio (rs ss ps qs as1 bs ts:List Rn) (n1:Ze Yir 33 [.sl rs.length (pc rs)] (.fresh 2 ps.length (pc ps))) (n2:Ze Yir 33 [.sl ss.length (pc ss)] (.fresh 2 qs.length (pc qs))) (hl3:Za Yir (.loop Zs3) (Zbl ps qs) (.exit 0) (Zbl as1 bs)) (n4:Ze Yir 61 [.sl as1.length (pc as1)] (.fresh 2 ts.length (pc ts))):Ze Yir 62 [.sl rs.length (pc rs), .sl ss.length (pc ss)] (.fresh 2 ts.length (pc ts)):=Ze.of_bodyW (fn:=Ztj) (s:=(dds 4 (.own 2 ts.length (pc ts)::(dds 15 [])))) (ex := .ret) rfl rfl (Za.seq (Za.go (t:=(vp rs::(vp ss::(dds 2 (.own 2 0 []::(dds 15 [])))))) Zr 400 [] [0,1,4] a0) (Za.seq (Za.go Zr 400 [.r (.fresh 2 ps.length (pc ps)), .r (.fresh 2 qs.length (pc qs))] [5,6] (ac n1 (ac n2 a0))) (Za.seq (Za.block hl3) (Za.go Zr 400 [.r (.fresh 2 ts.length (pc ts))] [4] (ac n4 a0))))) (by intro i e;cases e) rfl
theorem Zin (rs ss ps qs as1 bs:List Rn) (n1:Ze Yir 33 [.sl rs.length (pc rs)] (.fresh 2 ps.length (pc ps))) (n2:Ze Yir 33 [.sl ss.length (pc ss)] (.fresh 2 qs.length (pc qs))) (hl3:Za Yir (.loop Zs3) (Zbl ps qs) (.exit 0) (Zbl as1 bs)) (n4:Ze Yir 61 [.sl as1.length (pc as1)] (.sl as1.length (pc as1))):Ze Yir 62 [.sl rs.length (pc rs), .sl ss.length (pc ss)] (.sl as1.length (pc as1)):=Ze.of_bodyW (fn:=Ztj) (s:=(dds 4 (.val (.sl as1.length (pc as1))::(dds 15 [])))) (ex := .ret) rfl rfl (Za.seq (Za.go (t:=(vp rs::(vp ss::(dds 2 (.own 2 0 []::(dds 15 [])))))) Zr 400 [] [0,1,4] a0) (Za.seq (Za.go Zr 400 [.r (.fresh 2 ps.length (pc ps)), .r (.fresh 2 qs.length (pc qs))] [5,6] (ac n1 (ac n2 a0))) (Za.seq (Za.block hl3) (Za.go Zr 400 [.r (.sl as1.length (pc as1))] [4] (ac n4 a0))))) (by intro i e;cases e) rfl
def Ay (qs:List Rn) (k:Nat) (rs:List Rn) (t:Rn) (kq:Nat) (os:List Rn) (j:Int) (l:Rn) (n:Int) (i:Int):Zk:=(dds 1 (.val (.sl qs.length (pc qs))::(dds 3 (.own 2 k (pc rs)::(.box [.bool t.1, .sl t.2.length (lm t.2)]::(.own 2 kq (pc os)::(.val (.int .i64 j)::(.box [.bool l.1, .sl l.2.length (lm l.2)]::(dds 34 (.val (.int .i64 n)::(.val (.int .i64 i)::(dds 57 []))))))))))))
theorem Zpi (qs:List Rn) (k:Nat) (rs:List Rn) (t:Rn) (kq:Nat) (os:List Rn) (j:Int) (l:Rn) (n:Int) (i:Int)  (c1:(decide (i<n))=true) (n1:0≤i∧i<(k:Int)) (n2:rs.length=k) (n3:Ze Yir 64 [Zt (rs.getD (Int.toNat i) z0),Zt t] (Zn ((Zl (rs.getD (Int.toNat i) z0))*(Zl t)))):Za Yir Zbe (Ay qs k rs t kq os j l n i) .norm (Ay qs k (rs.set (Int.toNat i) (cn ((Zl (rs.getD (Int.toNat i) z0))*(Zl t)))) t kq os j l n (i64.wrap (i+1))):=(Za.go Zr 400 [.b true, .v (Zt (rs.getD (Int.toNat i) z0)), .r (Zn ((Zl (rs.getD (Int.toNat i) z0))*(Zl t))), .l (pc (rs.set (Int.toNat i) (cn ((Zl (rs.getD (Int.toNat i) z0))*(Zl t)))))] [1,5,6,7,8,9,44,45] (ac c1 (ac n1 (ac (Vw n2 n1) (ac n3 (ac n1 (ac (Wg (r:=cn ((Zl (rs.getD (Int.toNat i) z0))*(Zl t))) n2 n1) a0)))))))
theorem Zph (qs:List Rn) (k:Nat) (rs:List Rn) (t:Rn) (kq:Nat) (os:List Rn) (j:Int) (l:Rn) (n:Int) (i:Int)  (c1:(decide (i<n))=false):Za Yir Zbe (Ay qs k rs t kq os j l n i) (.exit 2) (Ay qs k rs t kq os j l n i):=(Za.go Zr 400 [.b false] [1,5,6,7,8,9,44,45] (ac c1 a0))
def Ax (qs:List Rn) (k:Nat) (rs:List Rn) (t:Rn) (kq:Nat) (os:List Rn) (j:Int) (l:Rn) (n:Int) (i:Int):Zk:=(dds 1 (.val (.sl qs.length (pc qs))::(dds 3 (.own 2 k (pc rs)::(.box [.bool t.1, .sl t.2.length (lm t.2)]::(.own 2 kq (pc os)::(.val (.int .i64 j)::(.box [.bool l.1, .sl l.2.length (lm l.2)]::(dds 49 (.val (.int .i64 n)::(.val (.int .i64 i)::(dds 42 []))))))))))))
theorem Zpg (qs:List Rn) (k:Nat) (rs:List Rn) (t:Rn) (kq:Nat) (os:List Rn) (j:Int) (l:Rn) (n:Int) (i:Int)  (c1:(decide (i<n))=true) (n1:0≤i∧i<(kq:Int)) (n2:os.length=kq) (n3:Ze Yir 64 [Zt (os.getD (Int.toNat i) z0),Zt t] (Zn ((Zl (os.getD (Int.toNat i) z0))*(Zl t)))):Za Yir Zbd (Ax qs k rs t kq os j l n i) .norm (Ax qs k rs t kq (os.set (Int.toNat i) (cn ((Zl (os.getD (Int.toNat i) z0))*(Zl t)))) j l n (i64.wrap (i+1))):=(Za.go Zr 400 [.b true, .v (Zt (os.getD (Int.toNat i) z0)), .r (Zn ((Zl (os.getD (Int.toNat i) z0))*(Zl t))), .l (pc (os.set (Int.toNat i) (cn ((Zl (os.getD (Int.toNat i) z0))*(Zl t)))))] [1,5,6,7,8,9,59,60] (ac c1 (ac n1 (ac (Vw n2 n1) (ac n3 (ac n1 (ac (Wg (r:=cn ((Zl (os.getD (Int.toNat i) z0))*(Zl t))) n2 n1) a0)))))))
theorem Zpf (qs:List Rn) (k:Nat) (rs:List Rn) (t:Rn) (kq:Nat) (os:List Rn) (j:Int) (l:Rn) (n:Int) (i:Int)  (c1:(decide (i<n))=false):Za Yir Zbd (Ax qs k rs t kq os j l n i) (.exit 4) (Ax qs k rs t kq os j l n i):=(Za.go Zr 400 [.b false] [1,5,6,7,8,9,59,60] (ac c1 a0))
def Aw (qs:List Rn) (k:Nat) (rs:List Rn) (t:Rn) (kq:Nat) (os:List Rn) (j:Int) (l:Rn) (n:Int) (i:Int):Zk:=(dds 1 (.val (.sl qs.length (pc qs))::(dds 3 (.own 2 k (pc rs)::(.box [.bool t.1, .sl t.2.length (lm t.2)]::(.own 2 kq (pc os)::(.val (.int .i64 j)::(.box [.bool l.1, .sl l.2.length (lm l.2)]::(dds 68 (.val (.int .i64 n)::(.val (.int .i64 i)::(dds 23 []))))))))))))
theorem Zpe (qs:List Rn) (k:Nat) (rs:List Rn) (t:Rn) (kq:Nat) (os:List Rn) (j:Int) (l:Rn) (n:Int) (i:Int)  (c1:(decide (i<n))=true) (n1:0≤(i64.wrap (j+i))∧(i64.wrap (j+i))<(k:Int)) (n2:rs.length=k) (n3:0≤i∧i<(qs.length:Int)) (n4:Ze Yir 64 [Zt l,Zt (qs.getD (Int.toNat i) z0)] (Zn ((Zl l)*(Zl (qs.getD (Int.toNat i) z0))))) (n5:Ze Yir 70 [Zt (rs.getD (Int.toNat (i64.wrap (j+i))) z0),Zn ((Zl l)*(Zl (qs.getD (Int.toNat i) z0)))] (Zn ((Zl (rs.getD (Int.toNat (i64.wrap (j+i))) z0))-((Zl l)*(Zl (qs.getD (Int.toNat i) z0)))))):Za Yir Zbc (Aw qs k rs t kq os j l n i) .norm (Aw qs k (rs.set (Int.toNat (i64.wrap (j+i))) (cn ((Zl (rs.getD (Int.toNat (i64.wrap (j+i))) z0))-((Zl l)*(Zl (qs.getD (Int.toNat i) z0)))))) t kq os j l n (i64.wrap (i+1))):=(Za.go Zr 400 [.b true, .v (Zt (rs.getD (Int.toNat (i64.wrap (j+i))) z0)), .v (Zt (qs.getD (Int.toNat i) z0)), .r (Zn ((Zl l)*(Zl (qs.getD (Int.toNat i) z0)))), .r (Zn ((Zl (rs.getD (Int.toNat (i64.wrap (j+i))) z0))-((Zl l)*(Zl (qs.getD (Int.toNat i) z0))))), .l (pc (rs.set (Int.toNat (i64.wrap (j+i))) (cn ((Zl (rs.getD (Int.toNat (i64.wrap (j+i))) z0))-((Zl l)*(Zl (qs.getD (Int.toNat i) z0)))))))] [1,5,6,7,8,9,78,79] (ac c1 (ac n1 (ac (Vw n2 n1) (ac n3 (ac (Qh n3) (ac n4 (ac n5 (ac n1 (ac (Wg (r:=cn ((Zl (rs.getD (Int.toNat (i64.wrap (j+i))) z0))-((Zl l)*(Zl (qs.getD (Int.toNat i) z0))))) n2 n1) a0))))))))))
theorem Zpd (qs:List Rn) (k:Nat) (rs:List Rn) (t:Rn) (kq:Nat) (os:List Rn) (j:Int) (l:Rn) (n:Int) (i:Int)  (c1:(decide (i<n))=false):Za Yir Zbc (Aw qs k rs t kq os j l n i) (.exit 6) (Aw qs k rs t kq os j l n i):=(Za.go Zr 400 [.b false] [1,5,6,7,8,9,78,79] (ac c1 a0))
def Znj (qs:List Rn) (k:Nat) (rs:List Rn) (t:Rn) (kq:Nat) (os:List Rn) (j:Int):Zk:=(dds 1 (.val (.sl qs.length (pc qs))::(dds 3 (.own 2 k (pc rs)::(.box [.bool t.1, .sl t.2.length (lm t.2)]::(.own 2 kq (pc os)::(.val (.int .i64 j)::(dds 94 []))))))))
theorem Yk63_1 (qs:List Rn) (k:Nat) (rs:List Rn) (t:Rn) (kq:Nat) (os:List Rn) (j:Int) (rs1 rs2 os1:List Rn) (m1 i1 m2 i2 m3 i3:Int) (c1:(decide (j≥0))=true) (n1:0≤(i64.wrap ((i64.wrap (j+(qs.length:Int)))-1))∧(i64.wrap ((i64.wrap (j+(qs.length:Int)))-1))<(k:Int)) (n2:rs.length=k) (hl3:Za Yir (.loop Zbe) (Ay qs k rs t kq os j (rs.getD (Int.toNat (i64.wrap ((i64.wrap (j+(qs.length:Int)))-1))) z0) (k:Int) 0) (.exit 2) (Ay qs k rs1 t kq os j (rs.getD (Int.toNat (i64.wrap ((i64.wrap (j+(qs.length:Int)))-1))) z0) m1 i1)) (hl4:Za Yir (.loop Zbd) (Ax qs k rs1 t kq os j (rs.getD (Int.toNat (i64.wrap ((i64.wrap (j+(qs.length:Int)))-1))) z0) (kq:Int) 0) (.exit 4) (Ax qs k rs1 t kq os1 j (rs.getD (Int.toNat (i64.wrap ((i64.wrap (j+(qs.length:Int)))-1))) z0) m2 i2)) (n5:0≤j∧j<(kq:Int)) (n6:os1.length=kq) (hl7:Za Yir (.loop Zbc) (Aw qs k rs1 t kq (os1.set (Int.toNat j) (rs.getD (Int.toNat (i64.wrap ((i64.wrap (j+(qs.length:Int)))-1))) z0)) j (rs.getD (Int.toNat (i64.wrap ((i64.wrap (j+(qs.length:Int)))-1))) z0) (qs.length:Int) 0) (.exit 6) (Aw qs k rs2 t kq (os1.set (Int.toNat j) (rs.getD (Int.toNat (i64.wrap ((i64.wrap (j+(qs.length:Int)))-1))) z0)) j (rs.getD (Int.toNat (i64.wrap ((i64.wrap (j+(qs.length:Int)))-1))) z0) m3 i3)):Za Yir Yc63 (Znj qs k rs t kq os j) .norm (Znj qs k rs2 t kq (os1.set (Int.toNat j) (rs.getD (Int.toNat (i64.wrap ((i64.wrap (j+(qs.length:Int)))-1))) z0)) (i64.wrap (j-1))):=(Za.seq (Za.go (t:=(dds 1 (vp qs::(dds 3 (.own 2 k (pc rs)::(bR t::(.own 2 kq (pc os)::(vi j::(dds 94 []))))))))) Zr 400 [.b true] [1,5,6,7,8] (ac c1 a0)) (Za.seq (Za.block_norm (Za.seq (Za.go (t:=(dds 1 (vp qs::(dds 3 (.own 2 k (pc rs)::(bR t::(.own 2 kq (pc os)::(vi j::(bR (rs.getD (Int.toNat (i64.wrap ((i64.wrap (j+(qs.length:Int)))-1))) z0)::(dds 93 [])))))))))) Zr 400 [.v (Zt (rs.getD (Int.toNat (i64.wrap ((i64.wrap (j+(qs.length:Int)))-1))) z0))] [1,5,6,7,8,9] (ac n1 (ac (Vw n2 n1) a0))) (Za.seq (Za.seq (Za.go Zr 400 [] [1,5,6,7,8,9,44,45] a0) (Za.block hl3)) (Za.seq (Za.seq (Za.go Zr 400 [] [1,5,6,7,8,9,59,60] a0) (Za.block hl4)) (Za.seq (Za.go (t:=(dds 1 (vp qs::(dds 3 (.own 2 k (pc rs1)::(bR t::(.own 2 kq (pc (os1.set (Int.toNat j) (rs.getD (Int.toNat (i64.wrap ((i64.wrap (j+(qs.length:Int)))-1))) z0)))::(vi j::(bR (rs.getD (Int.toNat (i64.wrap ((i64.wrap (j+(qs.length:Int)))-1))) z0)::(dds 93 [])))))))))) Zr 400 [.l (pc (os1.set (Int.toNat j) (rs.getD (Int.toNat (i64.wrap ((i64.wrap (j+(qs.length:Int)))-1))) z0)))] [1,5,6,7,8,9] (ac n5 (ac (Wg (r:=rs.getD (Int.toNat (i64.wrap ((i64.wrap (j+(qs.length:Int)))-1))) z0) n6 n5) a0))) (Za.seq (Za.go Zr 400 [] [1,5,6,7,8,9,78,79] a0) (Za.block hl7))))))) (Za.go Zr 400 [] [1,5,6,7,8] a0)))
theorem Yk63_2 (qs:List Rn) (k:Nat) (rs:List Rn) (t:Rn) (kq:Nat) (os:List Rn) (j:Int)  (c1:(decide (j≥0))=false):Za Yir Yc63 (Znj qs k rs t kq os j) (.exit 0) (Znj qs k rs t kq os j):=(Za.seq_out (Za.go Zr 400 [.b false] [1,5,6,7,8] (ac c1 a0)) (by intro e;cases e))
theorem Yrun63 (rs qs ps us xs os:List Rn) (t:Rn) (k kq:Nat) (j:Int) (n1:Ze Yir 58 [.sl rs.length (pc rs)] (.fresh 2 ps.length (pc ps))) (n2:0≤(i64.wrap ((qs.length:Int)-1))∧(i64.wrap ((qs.length:Int)-1))<(qs.length:Int)) (n3:0≤(i64.wrap ((i64.wrap ((ps.length:Int)-(qs.length:Int)))+1))∧(i64.wrap ((i64.wrap ((ps.length:Int)-(qs.length:Int)))+1))≤1048576) (hl4:Za Yir (.loop Yc63) ((dds 1 (.val (.sl qs.length (pc qs))::(dds 3 (.own 2 ps.length (pc ps)::(.box [.bool ((qs.getD (Int.toNat (i64.wrap ((qs.length:Int)-1))) z0).1), .sl ((qs.getD (Int.toNat (i64.wrap ((qs.length:Int)-1))) z0).2.length) (lm (qs.getD (Int.toNat (i64.wrap ((qs.length:Int)-1))) z0).2)]::(.own 2 (Int.toNat (i64.wrap ((i64.wrap ((ps.length:Int)-(qs.length:Int)))+1))) (Q5 [.bool false, .sl 0 []] (Int.toNat (i64.wrap ((i64.wrap ((ps.length:Int)-(qs.length:Int)))+1))))::(.val (.int .i64 (i64.wrap ((((Int.toNat (i64.wrap ((i64.wrap ((ps.length:Int)-(qs.length:Int)))+1))):Nat):Int)-1)))::(dds 94 []))))))))) (.exit 0) (Znj qs k xs t kq os j)) (n5:Ze Yir 33 [.sl kq (pc os)] (.fresh 2 us.length (pc us))):Ze Yir 63 [.sl rs.length (pc rs), .sl qs.length (pc qs)] (.fresh 2 us.length (pc us)):=Ze.of_bodyW (fn:=Yi63) (s:=(dds 4 (.own 2 us.length (pc us)::(dds 98 [])))) (ex := .ret) rfl rfl (Za.seq (Za.go (t:=(vp rs::(vp qs::(dds 2 (.own 2 0 []::(dds 98 [])))))) Zr 400 [] [0,1,4] a0) (Za.seq (Za.go (t:=(vp rs::(vp qs::(dds 2 (.own 2 0 []::(.own 2 ps.length (pc ps)::(dds 97 []))))))) Zr 400 [.r (.fresh 2 ps.length (pc ps))] [0,1,4,5] (ac n1 a0)) (Za.seq (Za.go (t:=(vp rs::(vp qs::(dds 2 (.own 2 0 []::(.own 2 ps.length (pc ps)::(bR (qs.getD (Int.toNat (i64.wrap ((qs.length:Int)-1))) z0)::(dds 96 [])))))))) Zr 400 [.v (Zt (qs.getD (Int.toNat (i64.wrap ((qs.length:Int)-1))) z0))] [0,1,4,5,6] (ac n2 (ac (Qh n2) a0))) (Za.seq (Za.go (t:=(vp rs::(vp qs::(dds 2 (.own 2 0 []::(.own 2 ps.length (pc ps)::(bR (qs.getD (Int.toNat (i64.wrap ((qs.length:Int)-1))) z0)::(.own 2 (Int.toNat (i64.wrap ((i64.wrap ((ps.length:Int)-(qs.length:Int)))+1))) (Q5 [.bool false, .sl 0 []] (Int.toNat (i64.wrap ((i64.wrap ((ps.length:Int)-(qs.length:Int)))+1))))::(dds 95 []))))))))) Zr 400 [] [0,1,4,5,6,7] (ac n3 a0)) (Za.seq (Za.seq (Za.go Zr 400 [] [1,5,6,7,8] a0) (Za.block hl4)) (Za.go Zr 400 [.r (.fresh 2 us.length (pc us))] [4] (ac n5 a0))))))) (by intro i e;cases e) rfl
theorem Rw (rs ps xs:List Rn) (c1:(decide ((xs.length:Int)<2))=true) (n1:Ze Yir 33 [.sl rs.length (pc rs)] (.fresh 2 ps.length (pc ps))) (n2:Ze Yir 61 [.sl ps.length (pc ps)] (.fresh 2 xs.length (pc xs))):Ze Yir 34 [.sl rs.length (pc rs)] (.sl xs.length (pc xs)):=Ze.go (fn:=Tw) Zr rfl 400 rfl [.r (.fresh 2 ps.length (pc ps)), .r (.fresh 2 xs.length (pc xs)), .b true] (ac n1 (ac n2 (ac c1 a0)))
theorem Rv (rs ps xs ds gs:List Rn) (c1:(decide ((xs.length:Int)<2))=false) (c2:(decide ((gs.length:Int)<2))=true) (n1:Ze Yir 33 [.sl rs.length (pc rs)] (.fresh 2 ps.length (pc ps))) (n2:Ze Yir 61 [.sl ps.length (pc ps)] (.fresh 2 xs.length (pc xs))) (n3:Ze Yir 35 [.sl xs.length (pc xs)] (.fresh 2 ds.length (pc ds))) (n4:Ze Yir 62 [.sl xs.length (pc xs), .sl ds.length (pc ds)] (.fresh 2 gs.length (pc gs))):Ze Yir 34 [.sl rs.length (pc rs)] (.sl xs.length (pc xs)):=Ze.go (fn:=Tw) Zr rfl 400 rfl [.r (.fresh 2 ps.length (pc ps)), .r (.fresh 2 xs.length (pc xs)), .b false, .r (.fresh 2 ds.length (pc ds)), .r (.fresh 2 gs.length (pc gs)), .b true] (ac n1 (ac n2 (ac c1 (ac n3 (ac n4 (ac c2 a0))))))
theorem Ru (rs ps xs ds gs us:List Rn) (c1:(decide ((xs.length:Int)<2))=false) (c2:(decide ((gs.length:Int)<2))=false) (n1:Ze Yir 33 [.sl rs.length (pc rs)] (.fresh 2 ps.length (pc ps))) (n2:Ze Yir 61 [.sl ps.length (pc ps)] (.fresh 2 xs.length (pc xs))) (n3:Ze Yir 35 [.sl xs.length (pc xs)] (.fresh 2 ds.length (pc ds))) (n4:Ze Yir 62 [.sl xs.length (pc xs), .sl ds.length (pc ds)] (.fresh 2 gs.length (pc gs))) (n5:Ze Yir 63 [.sl xs.length (pc xs), .sl gs.length (pc gs)] (.fresh 2 us.length (pc us))):Ze Yir 34 [.sl rs.length (pc rs)] (.fresh 2 us.length (pc us)):=Ze.go (fn:=Tw) Zr rfl 400 rfl [.r (.fresh 2 ps.length (pc ps)), .r (.fresh 2 xs.length (pc xs)), .b false, .r (.fresh 2 ds.length (pc ds)), .r (.fresh 2 gs.length (pc gs)), .b false, .r (.fresh 2 us.length (pc us))] (ac n1 (ac n2 (ac c1 (ac n3 (ac n4 (ac c2 (ac n5 a0)))))))
theorem Rt (rs ps xs ds gs:List Rn) (c1:(decide ((xs.length:Int)<2))=false) (c2:(decide ((gs.length:Int)<2))=true) (n1:Ze Yir 33 [.sl rs.length (pc rs)] (.fresh 2 ps.length (pc ps))) (n2:Ze Yir 61 [.sl ps.length (pc ps)] (.fresh 2 xs.length (pc xs))) (n3:Ze Yir 35 [.sl xs.length (pc xs)] (.fresh 2 ds.length (pc ds))) (n4:Ze Yir 62 [.sl xs.length (pc xs), .sl ds.length (pc ds)] (.sl gs.length (pc gs))):Ze Yir 34 [.sl rs.length (pc rs)] (.sl xs.length (pc xs)):=Ze.go (fn:=Tw) Zr rfl 400 rfl [.r (.fresh 2 ps.length (pc ps)), .r (.fresh 2 xs.length (pc xs)), .b false, .r (.fresh 2 ds.length (pc ds)), .r (.sl gs.length (pc gs)), .b true] (ac n1 (ac n2 (ac c1 (ac n3 (ac n4 (ac c2 a0))))))
theorem Rs (rs ps xs ds gs us:List Rn) (c1:(decide ((xs.length:Int)<2))=false) (c2:(decide ((gs.length:Int)<2))=false) (n1:Ze Yir 33 [.sl rs.length (pc rs)] (.fresh 2 ps.length (pc ps))) (n2:Ze Yir 61 [.sl ps.length (pc ps)] (.fresh 2 xs.length (pc xs))) (n3:Ze Yir 35 [.sl xs.length (pc xs)] (.fresh 2 ds.length (pc ds))) (n4:Ze Yir 62 [.sl xs.length (pc xs), .sl ds.length (pc ds)] (.sl gs.length (pc gs))) (n5:Ze Yir 63 [.sl xs.length (pc xs), .sl gs.length (pc gs)] (.fresh 2 us.length (pc us))):Ze Yir 34 [.sl rs.length (pc rs)] (.fresh 2 us.length (pc us)):=Ze.go (fn:=Tw) Zr rfl 400 rfl [.r (.fresh 2 ps.length (pc ps)), .r (.fresh 2 xs.length (pc xs)), .b false, .r (.fresh 2 ds.length (pc ds)), .r (.sl gs.length (pc gs)), .b false, .r (.fresh 2 us.length (pc us))] (ac n1 (ac n2 (ac c1 (ac n3 (ac n4 (ac c2 (ac n5 a0)))))))
theorem Rr (rs ps ds gs:List Rn) (c1:(decide ((ps.length:Int)<2))=false) (c2:(decide ((gs.length:Int)<2))=true) (n1:Ze Yir 33 [.sl rs.length (pc rs)] (.fresh 2 ps.length (pc ps))) (n2:Ze Yir 61 [.sl ps.length (pc ps)] (.sl ps.length (pc ps))) (n3:Ze Yir 35 [.sl ps.length (pc ps)] (.fresh 2 ds.length (pc ds))) (n4:Ze Yir 62 [.sl ps.length (pc ps), .sl ds.length (pc ds)] (.fresh 2 gs.length (pc gs))):Ze Yir 34 [.sl rs.length (pc rs)] (.sl ps.length (pc ps)):=Ze.go (fn:=Tw) Zr rfl 400 rfl [.r (.fresh 2 ps.length (pc ps)), .r (.sl ps.length (pc ps)), .b false, .r (.fresh 2 ds.length (pc ds)), .r (.fresh 2 gs.length (pc gs)), .b true] (ac n1 (ac n2 (ac c1 (ac n3 (ac n4 (ac c2 a0))))))
theorem Rq (rs ps ds gs us:List Rn) (c1:(decide ((ps.length:Int)<2))=false) (c2:(decide ((gs.length:Int)<2))=false) (n1:Ze Yir 33 [.sl rs.length (pc rs)] (.fresh 2 ps.length (pc ps))) (n2:Ze Yir 61 [.sl ps.length (pc ps)] (.sl ps.length (pc ps))) (n3:Ze Yir 35 [.sl ps.length (pc ps)] (.fresh 2 ds.length (pc ds))) (n4:Ze Yir 62 [.sl ps.length (pc ps), .sl ds.length (pc ds)] (.fresh 2 gs.length (pc gs))) (n5:Ze Yir 63 [.sl ps.length (pc ps), .sl gs.length (pc gs)] (.fresh 2 us.length (pc us))):Ze Yir 34 [.sl rs.length (pc rs)] (.fresh 2 us.length (pc us)):=Ze.go (fn:=Tw) Zr rfl 400 rfl [.r (.fresh 2 ps.length (pc ps)), .r (.sl ps.length (pc ps)), .b false, .r (.fresh 2 ds.length (pc ds)), .r (.fresh 2 gs.length (pc gs)), .b false, .r (.fresh 2 us.length (pc us))] (ac n1 (ac n2 (ac c1 (ac n3 (ac n4 (ac c2 (ac n5 a0)))))))
theorem Rp (rs ps:List Rn) (c1:(decide ((ps.length:Int)<2))=true) (n1:Ze Yir 33 [.sl rs.length (pc rs)] (.fresh 2 ps.length (pc ps))) (n2:Ze Yir 61 [.sl ps.length (pc ps)] (.sl ps.length (pc ps))):Ze Yir 34 [.sl rs.length (pc rs)] (.sl ps.length (pc ps)):=Ze.go (fn:=Tw) Zr rfl 400 rfl [.r (.fresh 2 ps.length (pc ps)), .r (.sl ps.length (pc ps)), .b true] (ac n1 (ac n2 (ac c1 a0)))
theorem Ro (rs ps ds gs:List Rn) (c1:(decide ((ps.length:Int)<2))=false) (c2:(decide ((gs.length:Int)<2))=true) (n1:Ze Yir 33 [.sl rs.length (pc rs)] (.fresh 2 ps.length (pc ps))) (n2:Ze Yir 61 [.sl ps.length (pc ps)] (.sl ps.length (pc ps))) (n3:Ze Yir 35 [.sl ps.length (pc ps)] (.fresh 2 ds.length (pc ds))) (n4:Ze Yir 62 [.sl ps.length (pc ps), .sl ds.length (pc ds)] (.sl gs.length (pc gs))):Ze Yir 34 [.sl rs.length (pc rs)] (.sl ps.length (pc ps)):=Ze.go (fn:=Tw) Zr rfl 400 rfl [.r (.fresh 2 ps.length (pc ps)), .r (.sl ps.length (pc ps)), .b false, .r (.fresh 2 ds.length (pc ds)), .r (.sl gs.length (pc gs)), .b true] (ac n1 (ac n2 (ac c1 (ac n3 (ac n4 (ac c2 a0))))))
theorem Rm (rs ps ds gs us:List Rn) (c1:(decide ((ps.length:Int)<2))=false) (c2:(decide ((gs.length:Int)<2))=false) (n1:Ze Yir 33 [.sl rs.length (pc rs)] (.fresh 2 ps.length (pc ps))) (n2:Ze Yir 61 [.sl ps.length (pc ps)] (.sl ps.length (pc ps))) (n3:Ze Yir 35 [.sl ps.length (pc ps)] (.fresh 2 ds.length (pc ds))) (n4:Ze Yir 62 [.sl ps.length (pc ps), .sl ds.length (pc ds)] (.sl gs.length (pc gs))) (n5:Ze Yir 63 [.sl ps.length (pc ps), .sl gs.length (pc gs)] (.fresh 2 us.length (pc us))):Ze Yir 34 [.sl rs.length (pc rs)] (.fresh 2 us.length (pc us)):=Ze.go (fn:=Tw) Zr rfl 400 rfl [.r (.fresh 2 ps.length (pc ps)), .r (.sl ps.length (pc ps)), .b false, .r (.fresh 2 ds.length (pc ds)), .r (.sl gs.length (pc gs)), .b false, .r (.fresh 2 us.length (pc us))] (ac n1 (ac n2 (ac c1 (ac n3 (ac n4 (ac c2 (ac n5 a0)))))))
end Go.Proofs.YthnnfemologhfaaGreat

namespace Go.Ai
open Go.IntKind (i64 u64 u32)
theorem Zc6 (c:Nat) (hc:1<c):∃ p,1<p∧p∣c∧∀ d,d∣p→d=1∨d=p:=by
 have h:∀ n,∀ m,m≤n→1<m→m∣c→∃ p,1<p∧p∣c∧∀ d,d∣p→d=1∨d=p:=by
  intro n
  induction n with
  | zero=>intro m h1 h2;omega
  | succ n ih =>
   intro m h1 h2 h3
   by_cases h:∀ d,d∣m→d=1∨d=m
   ·exact⟨m,h2,h3,h⟩
   ·obtain⟨d,hd⟩:=Classical.not_forall.1 h
    obtain⟨hd1,hd2⟩:=Classical.not_imp.1 hd
    have h5:=Nat.le_of_dvd (by omega) hd1
    have h6:d ≠ 0:=by intro h0;subst h0;have:=Nat.zero_dvd.1 hd1;omega
    exact ih d (by omega) (by omega) (Nat.dvd_trans hd1 h3)
 exact h c c (Nat.le_refl _) hc (Nat.dvd_refl _)
theorem Zcl {p:Nat} (hp:∀ d,d∣p→d=1∨d=p) {a b:Int} (h:(p:Int)∣a*b):(p:Int)∣a∨(p:Int)∣b:=by
 rcases hp (Nat.gcd p a.natAbs) (Nat.gcd_dvd_left _ _) with g | g
 ·right
  have h1:p∣a.natAbs*b.natAbs:=by rw[← Int.natAbs_mul];exact Int.ofNat_dvd_left.1 h
  exact Int.ofNat_dvd_left.2 (Nat.Coprime.dvd_of_dvd_mul_left g h1)
 ·left
  have:p∣a.natAbs:=by rw[← g];exact Nat.gcd_dvd_right _ _
  exact Int.ofNat_dvd_left.2 this
theorem Bn (g:List Int) (b:Int) (k:List Int) (i:Nat):(Uo g (b::k)).getD i 0=b*g.getD i 0+(Vr 1 (Uo g k)).getD i 0:=by
 have h:=Ud (p:=Uo g (b::k)) (q:=Dq (Zx b g) (Vr 1 (Uo g k))) (fun x=>by
  rw[Qb,Jh,Zq,Wc,Qb]
  simp only[Zg,Int.pow_succ,Int.pow_zero]
  grind) i
 rw[h,X5,Z7]
theorem B5 {p:Nat} (hp:∀ d,d∣p→d=1∨d=p):∀ (g k:List Int),(∀ i,(p:Int)∣(Uo g k).getD i 0)→(¬ ∀ i,(p:Int)∣g.getD i 0)→∀ i,(p:Int)∣k.getD i 0
 | [],k,_,h=>absurd (fun i=>by simp) h
 | a::g,k,h,hn=>by
  by_cases ha:(p:Int)∣a
  ·refine B5 hp g k (fun i => ?_) (fun h2=>hn fun i => ?_)
   ·have h1:=h (i+1)
    rw[Xn,Jn,if_pos (by omega)] at h1
    exact (Int.dvd_add_right (Int.dvd_trans ha (Int.dvd_mul_right _ _))).1 h1
   ·cases i with
    | zero=>simpa using ha
    | succ i=>simpa using h2 i
  ·clear hn
   induction k with
   | nil=>intro i;simp
   | cons b k ih =>
    have h0:=h 0
    rw[Xn,Jn,if_neg (by omega),Int.add_zero] at h0
    have hb:(p:Int)∣b:=by
     rcases Zcl hp h0 with g1 | g1
     ·exact absurd g1 ha
     ·simpa using g1
    have h2:=ih (fun i=>by
     have h1:=h (i+1)
     rw[Bn,Jn,if_pos (by omega)] at h1
     exact (Int.dvd_add_right (Int.dvd_trans hb (Int.dvd_mul_right _ _))).1 h1)
    intro i
    cases i with
    | zero=>simpa using hb
    | succ i=>simpa using h2 i
theorem gauss {g : List Int} (hg :   Jb g = 1) : ∀ (c : Nat) (k : List Int), 0 < c → (∀ i, (c : Int) ∣ (  Uo g k).getD i 0) → ∀ i, (c : Int) ∣ k.getD i 0 := by
  intro c
  induction c using Nat.strongRecOn with
  | ind c ih =>
    intro k hc h
    by_cases h1 : c = 1
    · intro i; rw [h1]; exact Int.one_dvd _
    · obtain ⟨p, p1, ⟨d, hd⟩, p3⟩ :=       Zc6 c (by omega)
      have hd0 : 0 < d := by rcases Nat.eq_zero_or_pos d with g | g
                             · rw [g, Nat.mul_zero] at hd; omega
                             · exact g
      have hdc : d < c := by rw [hd]; exact (Nat.lt_mul_iff_one_lt_left hd0).2 p1
      have hpk :=          B5 p3 g k (fun i => Int.dvd_trans ⟨(d : Int), by rw [hd]; push_cast; rfl⟩ (h i)) (fun h2 => by
        have := (      Hg p g).2 h2
        rw [hg] at this
        have := Nat.le_of_dvd (by decide) this
        omega)
      have hk :    Zx (p : Int) (k.map fun x => x / (p : Int)) = k := by
        apply       He (by simp [   Zx])
        intro i
        rw [        Z7]
        have e : (k.map fun x => x / (p : Int)).getD i 0 = k.getD i 0 / (p : Int) := by
          simp only [List.getD_eq_getElem?_getD, List.getElem?_map]
          cases k[i]? <;> simp
        rw [e]
        exact Int.mul_ediv_cancel' (hpk i)
      generalize k.map (fun x => x / (p : Int)) = k1 at hk
      subst hk
      have h3 := ih d hdc k1 hd0 (fun i => by
        have h2 := h i
        have e : (  Uo g (   Zx (p : Int) k1)).getD i 0 = (p : Int) * (  Uo g k1).getD i 0 := by
          rw [←         Z7]
          exact         Ud (fun x => by rw [        Qb,          Zq,          Zq,         Qb]; grind) i
        rw [e, hd, Int.natCast_mul] at h2
        exact Int.dvd_of_mul_dvd_mul_left (by omega) h2)
      intro i
      rw [        Z7, hd, Int.natCast_mul]
      exact Int.mul_dvd_mul_left _ (h3 i)
def syn:List Int→Int→List Int
 | [],_=>[]
 | _::p,a=>Dq p (Zx a (syn p a))
theorem Dm:∀ (p:List Int) (a x:Int),Zg p x-Zg p a=(x-a)*Zg (syn p a) x
 | [],a,x=>by simp[syn,Zg]
 | c::p,a,x=>by
  have ih:=Dm p a x
  simp only[syn,Zg]
  rw[Jh,Zq]
  grind
theorem Lt:∀ (p:List Int) (a:Int),(syn p a).length≤p.length-1
 | [],a=>by simp[syn]
 | c::p,a=>by
  have ih:=Lt p a
  have:=Zg0 p (Zx a (syn p a))
  rw[Zw] at this
  simp only[syn,List.length_cons]
  omega
theorem Se (p:List Int) (a:Int) (i:Nat):p.getD i 0=(Zg p a::syn p a).getD i 0-a*(syn p a).getD i 0:=by
 have h:=Ud (p:=p) (q:=Zad (Zg p a::syn p a) (Zx a (syn p a))) (fun x=>by
  rw[Xy,Zq]
  simp only[Zg]
  have:=Dm p a x
  grind) i
 rw[h,B3,Z7]
theorem Zcb:∀ (n:Nat) (p:List Int) (l:List Int),p.length≤n→l.Nodup→(∀ x∈l,Zg p x=0)→n≤l.length→∀ i,p.getD i 0=0:=by
 intro n
 induction n with
 | zero =>
  intro p l h _ _ _ i
  rw[List.eq_nil_of_length_eq_zero (by omega:p.length=0)];simp
 | succ n ih =>
  intro p l h1 h2 h3 h4 i
  cases l with
  | nil=>simp at h4
  | cons a l =>
   have ha:=h3 a List.mem_cons_self
   have hq:=ih (syn p a) l (by have:=Lt p a;omega) (List.nodup_cons.1 h2).2 (fun x hx=>by
    have h5:=Dm p a x
    rw[ha,h3 x (List.mem_cons_of_mem _ hx)] at h5
    rcases Int.mul_eq_zero.1 (h5.symm.trans (by omega)) with g | g
    ·have hxa:x=a:=by omega
     subst hxa
     exact absurd hx (List.nodup_cons.1 h2).1
    ·exact g) (by simp at h4;omega)
   rw[Se p a i,ha,hq i]
   cases i with
   | zero=>simp
   | succ i=>simpa using hq i
theorem Ty {R:Nat}:∀ (n:Nat) (g:List Int) (l:List Int) (M:Nat),g.length≤n+1→l.Nodup→l.length=n+1→(∀ x∈l,x.natAbs≤R∧(Zg g x).natAbs≤M)→(∀ x∈l,∀ y∈l,x ≠ y→1≤(x-y).natAbs)→∀ i,(g.getD i 0).natAbs≤M*(2*R+3)^n:=by
 intro n
 induction n with
 | zero =>
  intro g l M h1 h2 h3 h4 _ i
  cases l with
  | nil=>simp at h3
  | cons a l =>
   have ha:=h4 a List.mem_cons_self
   cases g with
   | nil=>simp
   | cons c g =>
    have:g=[]:=by simpa using h1
    subst this
    simp only[Zg,Int.mul_zero,Int.add_zero] at ha
    rw[Nat.pow_zero,Nat.mul_one]
    cases i with
    | zero=>simpa using ha.2
    | succ i=>simp
 | succ n ih =>
  intro g l M h1 h2 h3 h4 h6 i
  cases l with
  | nil=>simp at h3
  | cons a l =>
   obtain⟨ha1,ha2⟩:=h4 a List.mem_cons_self
   have hq:=ih (syn g a) l (2*M) (by have:=Lt g a;omega) (List.nodup_cons.1 h2).2 (by simpa using h3) (fun x hx=>by
    obtain⟨hx1,hx2⟩:=h4 x (List.mem_cons_of_mem _ hx)
    refine⟨hx1,?_⟩
    have h5:=congrArg Int.natAbs (Dm g a x)
    rw[Int.natAbs_mul] at h5
    have hne:x ≠ a:=by intro e;subst e;exact absurd hx (List.nodup_cons.1 h2).1
    have h7:1≤(x-a).natAbs:=by omega
    have h8:=Nat.le_mul_of_pos_left (Zg (syn g a) x).natAbs h7
    have h9:(Zg g x-Zg g a).natAbs≤2*M:=by omega
    omega) (fun x hx y hy=>h6 x (List.mem_cons_of_mem _ hx) y (List.mem_cons_of_mem _ hy))
   rw[Se g a i]
   have hX:1≤(2*R+3)^n:=Nat.pow_pos (by omega)
   have e1:M*(2*R+3)^(n+1)=R*(2*M*(2*R+3)^n)+2*M*(2*R+3)^n+M*(2*R+3)^n:=by rw[Nat.pow_succ];grind
   have e2:M*1≤M*(2*R+3)^n:=Nat.mul_le_mul_left _ hX
   have b1:=hq i
   have b2:(a*(syn g a).getD i 0).natAbs≤R*(2*M*(2*R+3)^n):=by rw[Int.natAbs_mul];exact Nat.mul_le_mul ha1 b1
   have b3:((Zg g a::syn g a).getD i 0).natAbs≤2*M*(2*R+3)^n+M*(2*R+3)^n:=by
    cases i with
    | zero=>simp only[List.getD_cons_zero];omega
    | succ i=>have:=hq i;simp only[List.getD_cons_succ];omega
   rw[e1]
   generalize R*(2*M*(2*R+3)^n)=A at *
   generalize 2*M*(2*R+3)^n=B at *
   generalize M*(2*R+3)^n=C at *
   omega
theorem Sx {R B:Nat}:∀ (t:List Int) (x:Int),(∀ i,(t.getD i 0).natAbs≤B)→x.natAbs≤R→(Zg t x).natAbs≤B*(R+1)^t.length
 | [],x,_,_=>by simp[Zg]
 | c::t,x,h,hx=>by
  have ih:=Sx t x (fun i=>by simpa using h (i+1)) hx
  have h0:c.natAbs≤B:=by simpa using h 0
  simp only[Zg,List.length_cons]
  have h1:(x*Zg t x).natAbs≤R*(B*(R+1)^t.length):=by rw[Int.natAbs_mul];exact Nat.mul_le_mul hx ih
  have h2:B*1≤B*(R+1)^t.length:=Nat.mul_le_mul_left _ (Nat.pow_pos (by omega))
  have e:B*(R+1)^(t.length+1)=R*(B*(R+1)^t.length)+B*(R+1)^t.length:=by rw[Nat.pow_succ];grind
  rw[e]
  generalize R*(B*(R+1)^t.length)=X at *
  omega
theorem Zg2 {t:List Int} {n:Nat} (ht:Zd t ≠ []) (hl:t.length≤n+1):∃ l:List Int,l.Nodup∧l.length=n+1∧∀ x∈l,x.natAbs≤2*n∧Zg t x ≠ 0:=by
 have hnd:((List.range (2*n+1)).map fun i:Nat=>(i:Int)).Nodup:=by
  rw[List.nodup_iff_pairwise_ne,List.pairwise_map]
  exact (List.nodup_iff_pairwise_ne.1 List.nodup_range).imp (fun h=>by omega)
 have hmem:∀ x∈(List.range (2*n+1)).map fun i:Nat=>(i:Int),x.natAbs≤2*n:=by
  intro x hx
  obtain⟨i,hi,rfl⟩:=List.mem_map.1 hx
  have:=List.mem_range.1 hi
  omega
 have hlen:((List.range (2*n+1)).map fun i:Nat=>(i:Int)).length=2*n+1:=by simp
 generalize ((List.range (2*n+1)).map fun i:Nat=>(i:Int))=L at *
 have hsum:=List.length_eq_countP_add_countP (fun x=>decide (Zg t x=0)) (l:=L)
 rw[List.countP_eq_length_filter,List.countP_eq_length_filter] at hsum
 have hA:(L.filter fun x=>decide (Zg t x=0)).length≤n:=by
  apply Nat.le_of_not_lt
  intro h
  apply ht
  rw[Xg]
  exact Zcb (n+1) t (L.filter fun x=>decide (Zg t x=0)) hl (hnd.filter _) (fun x hx=>by simpa using (List.mem_filter.1 hx).2) (by omega)
 refine⟨(L.filter fun x=>decide ¬ (decide (Zg t x=0))=true).take (n+1),(hnd.filter _).sublist (List.take_sublist _ _),?_,?_⟩
 ·rw[List.length_take];omega
 ·intro x hx
  obtain⟨h1,h2⟩:=List.mem_filter.1 (List.mem_of_mem_take hx)
  exact⟨hmem x h1,by simpa using h2⟩
theorem Ng {t g k:List Int} {K:Nat} (ht:Zd t ≠ []) (hl:t.length≤9) (hg:g.length≤9) (hK:Kb K t) (h:∀ x,Zg t x=Zg g x*Zg k x):Kb (K+3) g:=by
 obtain⟨l,l1,l2,l3⟩:=Zg2 (n:=8) ht hl
 have hb:∀ i,(t.getD i 0).natAbs≤4294967296^K:=fun i=>Nat.le_of_lt (hK i)
 have h1:=Ty (R:=16) 8 g l (4294967296^K*17^9) hg l1 l2 (fun x hx=>by
  obtain⟨a,b⟩:=l3 x hx
  refine⟨a,?_⟩
  have h2:=Sx (R:=16) t x hb a
  have h3:=congrArg Int.natAbs (h x)
  rw[Int.natAbs_mul] at h3
  have h4:1≤(Zg k x).natAbs:=by
   rcases Nat.eq_zero_or_pos (Zg k x).natAbs with g | g
   ·rw[g,Nat.mul_zero] at h3;omega
   ·exact g
  have h5:=Nat.le_mul_of_pos_right (Zg g x).natAbs h4
  have h6:4294967296^K*17^t.length≤4294967296^K*17^9:=Nat.mul_le_mul_left _ (Nat.pow_le_pow_right (by decide) hl)
  exact Nat.le_trans (Nat.le_trans h5 (Nat.le_of_eq h3.symm)) (Nat.le_trans h2 h6)) (fun x _ y _ hne=>by omega)
 intro i
 have h2:=h1 i
 unfold Ji
 refine Nat.lt_of_le_of_lt h2 ?_
 rw[Nat.mul_assoc,Nat.pow_add]
 exact Nat.mul_lt_mul_of_pos_left (by decide) (Nat.pow_pos (by decide))
theorem Zap {t g k:List Int} {c:Int} (hc:c ≠ 0) (hg:Jb g=1) (h:∀ x,c*Zg t x=Zg g x*Zg k x):∃ k',∀ x,Zg t x=Zg g x*Zg k' x:=by
 have h1:=Ud (p:=Uo g k) (q:=Zx c t) (fun x=>by rw[Qb,Zq];exact (h x).symm)
 have h2:=gauss hg c.natAbs k (by omega) (fun i=>by rw[h1,Z7];exact Int.dvd_trans (Int.natAbs_dvd.2 (Int.dvd_refl _)) (Int.dvd_mul_right _ _))
 have hk:Zx c (k.map fun x=>x / c)=k:=by
  apply He (by simp[Zx])
  intro i
  rw[Z7]
  have e:(k.map fun x=>x / c).getD i 0=k.getD i 0 / c:=by
   simp only[List.getD_eq_getElem?_getD,List.getElem?_map]
   cases k[i]? <;> simp
  rw[e]
  exact Int.mul_ediv_cancel' (Int.natAbs_dvd.1 (h2 i))
 refine⟨k.map fun x=>x / c,fun x => ?_⟩
 have h3:=h x
 rw[← hk,Zq] at h3
 apply Int.eq_of_mul_eq_mul_left hc
 rw[h3];grind
theorem B4 {t g k:List Int} {c:Int} {K:Nat} (hc:c ≠ 0) (hg:Jb g=1) (ht:Zd t ≠ []) (hl:t.length≤9) (hgl:g.length≤9) (hK:Kb K t) (h:∀ x,c*Zg t x=Zg g x*Zg k x):Kb (K+3) g:=by
 obtain⟨k',hk⟩:=Zap hc hg h
 exact Ng ht hl hgl hK hk
end Go.Ai

namespace Go.Ai
open Go.IntKind (i64 u64 u32)
def Dv (g t:List Int):Prop:=∃ (c:Int) (k:List Int),c ≠ 0∧∀ x,c*Zg t x=Zg g x*Zg k x
theorem Dv.refl (g:List Int):Dv g g:=⟨1,[1],by decide,fun x=>by simp [Zg]⟩
theorem Dv.zero (g:List Int):Dv g []:=⟨1,[],by decide,fun x=>by simp [Zg]⟩
theorem Dv.trans {a b c:List Int} (h1:Dv a b) (h2:Dv b c):Dv a c:=by
 obtain⟨m,k,hm,h⟩:=h1
 obtain⟨n,l,hn,g⟩:=h2
 refine⟨m*n,Uo k l,Int.mul_ne_zero hm hn,fun x => ?_⟩
 have h':=h x;have g':=g x
 rw[Qb,Int.mul_assoc,g']
 rw[← Int.mul_assoc,h']
 grind
theorem Dv.comb {g s t r:List Int} {m:Int} (u v:List Int) (hm:m ≠ 0) (h1:Dv g s) (h2:Dv g t) (h:∀ x,m*Zg r x=Zg u x*Zg s x+Zg v x*Zg t x):Dv g r:=by
 obtain⟨c,k,hc,hk⟩:=h1
 obtain⟨d,l,hd,hl⟩:=h2
 refine⟨c*d*m,Dq (Zx d (Uo u k)) (Zx c (Uo v l)),Int.mul_ne_zero (Int.mul_ne_zero hc hd) hm,fun x => ?_⟩
 rw[Jh,Zq,Zq,Qb,Qb]
 have a:=hk x;have b:=hl x;have e:=h x
 rw[Int.mul_assoc,e]
 generalize Zg s x=s at *
 generalize Zg t x=t at *
 generalize Zg g x=g at *
 generalize Zg k x=k at *
 generalize Zg l x=l at *
 generalize Zg u x=u at *
 generalize Zg v x=v at *
 have e1:c*d*(u*s+v*t)=d*u*(c*s)+c*v*(d*t):=by grind
 rw[e1,a,b];grind
theorem Dv.scaled {g s r:List Int} {m n:Int} (hm:m ≠ 0) (h1:Dv g s) (h:∀ x,m*Zg r x=n*Zg s x):Dv g r :=
 Dv.comb [n] [] hm h1 h1 fun x=>by rw[h x];simp[Zg]
theorem Dv.left {g f t:List Int} {m n:Int} (_:m ≠ 0) (hn:n ≠ 0) (h1:Dv g t) (h:∀ x,m*Zg f x=n*Zg g x):Dv f t:=by
 obtain⟨c,k,hc,hk⟩:=h1
 refine⟨n*c,Zx m k,Int.mul_ne_zero hn hc,fun x => ?_⟩
 have a:=hk x;have b:=h x
 rw[Zq]
 have e1:n*c*Zg t x=n*(c*Zg t x):=by grind
 rw[e1,a]
 have e2:n*(Zg g x*Zg k x)=(n*Zg g x)*Zg k x:=by grind
 rw[e2,← b];grind
theorem Dv.mul_right {g s:List Int} (t:List Int) (h:Dv g s) {r:List Int} (hr:∀ x,Zg r x=Zg s x*Zg t x):Dv g r :=
 Dv.comb (m:=1) t [] (by decide) h h fun x=>by rw[hr x];simp[Zg];grind
theorem Ue {p:List Int} (h:Vl p) (h0:p ≠ []):Zd p ≠ []:=by rw [h];exact h0
theorem E7 {p q:List Int} (hp:Zd p ≠ []) (hq:Zd q ≠ []):(Zd (Uo p q)).length=(Zd p).length+(Zd q).length-1:=by
 have e:Zd (Uo p q)=Zd (Uo (Zd p) (Zd q)):=Wl fun x=>by rw[Qb,Qb,Vn,Vn]
 rw[e]
 have lp:=Kw p
 have lq:=Kw q
 generalize Zd p=P at *
 generalize Zd q=Q at *
 have h1:=List.length_pos_iff.2 hp
 have h2:=List.length_pos_iff.2 hq
 obtain⟨t1,t2⟩:=Dp P Q hp hq
 have t3:(Uo P Q).getD (P.length+Q.length-2) 0 ≠ 0:=by rw[t1];exact Int.mul_ne_zero (Vi lp hp) (Vi lq hq)
 rw[N7]
 have a1:¬ (Uo P Q).length≤P.length+Q.length-2:=fun h=>t3 (Qt h)
 have a2:¬ P.length+Q.length-1<(Uo P Q).length:=fun h=>by
  have hne:Uo P Q ≠ []:=by intro h0;rw[h0] at h;simp at h
  exact Vi (show Vl (Uo P Q) from N7 P Q) hne (t2 _ (by omega))
 omega
theorem Pg {p q:List Int} (hp:Zd p ≠ []) (h:∀ x,Zg p x*Zg q x=0):∀ x,Zg q x=0:=by
 intro x
 by_cases hq:Zd q=[]
 ·exact Js hq x
 ·have h1:=E7 hp hq
  have h2:Zd (Uo p q)=Zd []:=Wl fun x=>by rw[Qb,h x];rfl
  rw[h2] at h1
  have:=List.length_pos_iff.2 hp
  have:=List.length_pos_iff.2 hq
  have h0:(Zd []).length=0:=rfl
  rw[h0] at h1
  omega
theorem Mx {p:List Int} (hp:Zd p ≠ []) (q r:List Int) (h:∀ x,Zg p x*Zg q x=Zg p x*Zg r x):∀ x,Zg q x=Zg r x:=by
 intro x
 have:=Pg (q:=Zad q r) hp (fun x=>by rw[Xy,Int.mul_sub,h x];omega) x
 rw[Xy] at this
 omega
theorem Dv.length {g t:List Int} (h:Dv g t) (ht:Zd t ≠ []):(Zd g).length≤(Zd t).length∧Zd g ≠ []:=by
 obtain⟨c,k,hc,hk⟩:=h
 have e:Zd (Zx c t)=Zd (Uo g k):=Wl fun x=>by rw[Zq,Qb];exact hk x
 rw[K6 hc] at e
 have e2:=congrArg List.length e
 rw[Zw] at e2
 have ht1:=List.length_pos_iff.2 ht
 by_cases hg:Zd g=[]
 ·have:Zd (Uo g k)=Zd []:=Wl fun x=>by rw[Qb,Js hg];simp[Zg]
  have h0:(Zd []).length=0:=rfl
  rw[this,h0] at e2
  omega
 ·by_cases hk0:Zd k=[]
  ·have:Zd (Uo g k)=Zd []:=Wl fun x=>by rw[Qb,Js hk0];simp[Zg]
   have h0:(Zd []).length=0:=rfl
   rw[this,h0] at e2
   omega
  ·rw[E7 hg hk0] at e2
   have:=List.length_pos_iff.2 hk0
   exact⟨by omega,hg⟩
def IsG (g s t:List Int):Prop:=Dv g s∧Dv g t∧∃ (c:Int) (u v:List Int),c ≠ 0∧∀ x,c*Zg g x=Zg u x*Zg s x+Zg v x*Zg t x
theorem IsG.comm {g s t:List Int} (h:IsG g s t):IsG g t s:=by
 obtain⟨a,b,c,u,v,hc,h⟩:=h
 exact⟨b,a,c,v,u,hc,fun x=>by rw[h x];omega⟩
theorem IsG.dv {g s t f:List Int} (h:IsG g s t) (h1:Dv f s) (h2:Dv f t):Dv f g:=by
 obtain⟨_,_,c,u,v,hc,h⟩:=h
 exact Dv.comb u v hc h1 h2 h
theorem IsG.start (s:List Int):IsG s s []:=⟨Dv.refl s,Dv.zero s,1,[1],[],by decide,fun x=>by simp [Zg]⟩
theorem IsG.length {f g s t:List Int} (h1:IsG f s t) (h2:IsG g s t) (hf:Zd f ≠ []):(Zd f).length=(Zd g).length:=by
 have a:=(h1.dv h2.1 h2.2.1).length hf
 have b:=(h2.dv h1.1 h1.2.1).length a.2
 omega
theorem IsG.step {g r d e q:List Int} {a m:Int} (ha:a ≠ 0) (hm:m ≠ 0) (hr:∀ x,a*Zg r x=Zg q x*Zg d x+m*Zg e x) (h:IsG g d e):IsG g r d:=by
 obtain⟨h1,h2,c,u,v,hc,h⟩:=h
 refine⟨Dv.comb q [m] ha h1 h2 (fun x=>by rw[hr x];simp[Zg]),h1,c*m,Zx a v,Zad (Zx m u) (Uo v q),Int.mul_ne_zero hc hm,fun x => ?_⟩
 have e1:=hr x;have e2:=h x
 rw[Zq,Xy,Zq,Qb]
 generalize Zg g x=g at *
 generalize Zg d x=d at *
 generalize Zg e x=e at *
 generalize Zg r x=r at *
 generalize Zg q x=q at *
 generalize Zg u x=u at *
 generalize Zg v x=v at *
 have e3:c*m*g=m*(c*g):=by grind
 rw[e3,e2]
 have e4:a*v*r=v*(a*r):=by grind
 rw[e4,e1];grind
theorem IsG.scaled {g s t s' t':List Int} {m n k l:Int} (hm:m ≠ 0) (hn:n ≠ 0) (hk:k ≠ 0) (hl:l ≠ 0) (h1:∀ x,m*Zg s' x=n*Zg s x) (h2:∀ x,k*Zg t' x=l*Zg t x) (h:IsG g s t):IsG g s' t':=by
 obtain⟨a,b,c,u,v,hc,h⟩:=h
 refine⟨a.scaled hm h1,b.scaled hk h2,c*(n*l),Zx (m*l) u,Zx (k*n) v,Int.mul_ne_zero hc (Int.mul_ne_zero hn hl),fun x => ?_⟩
 have e1:=h1 x;have e2:=h2 x;have e3:=h x
 rw[Zq,Zq]
 generalize Zg g x=g at *
 generalize Zg s x=s at *
 generalize Zg t x=t at *
 generalize Zg s' x=s' at *
 generalize Zg t' x=t' at *
 generalize Zg u x=u at *
 generalize Zg v x=v at *
 have e4:c*(n*l)*g=n*l*(c*g):=by grind
 rw[e4,e3]
 have e5:m*l*u*s'=l*u*(m*s'):=by grind
 have e6:k*n*v*t'=n*v*(k*t'):=by grind
 rw[e5,e6,e1,e2];grind
theorem IsG.gscaled {g g' s t:List Int} {m n:Int} (hm:m ≠ 0) (hn:n ≠ 0) (h1:∀ x,m*Zg g' x=n*Zg g x) (h:IsG g s t):IsG g' s t:=by
 obtain⟨a,b,c,u,v,hc,h⟩:=h
 refine⟨a.left hm hn h1,b.left hm hn h1,c*m,Zx n u,Zx n v,Int.mul_ne_zero hc hm,fun x => ?_⟩
 have e1:=h1 x;have e2:=h x
 rw[Zq,Zq,Int.mul_assoc,e1]
 have e3:c*(n*Zg g x)=n*(c*Zg g x):=by grind
 rw[e3,e2];grind
theorem IsG.mul {d p q:List Int} (c:List Int) {d' p' q':List Int} (hd:∀ x,Zg d' x=Zg c x*Zg d x) (hp:∀ x,Zg p' x=Zg c x*Zg p x) (hq:∀ x,Zg q' x=Zg c x*Zg q x) (h:IsG d p q):IsG d' p' q':=by
 obtain⟨⟨m,k,hm,hk⟩,⟨n,l,hn,hl⟩,e,u,v,he,h⟩:=h
 refine⟨⟨m,k,hm,fun x => ?_⟩,⟨n,l,hn,fun x => ?_⟩,e,u,v,he,fun x => ?_⟩
 ·have:=hk x;rw[hd,hp];grind
 ·have:=hl x;rw[hd,hq];grind
 ·have:=h x;rw[hd,hp,hq];grind
theorem Kt (p:List Int):∃ m:Int,m ≠ 0∧∀ x,Zg p x=m*Zg (prim p) x:=by
 by_cases h:Zd p=[]
 ·refine⟨1,by decide,fun x => ?_⟩
  rw[Js h,Uz.2 (Xg.1 h)];rfl
 ·have:=Hj h
  refine⟨(Jb p:Int),by omega,fun x => ?_⟩
  rw[← Zq,K8,Vn]
theorem Zae {r d:List Int} (hl:d.length≤r.length) (ht:top d ≠ 0):∃ (a m:Int) (q:List Int),a ≠ 0∧m ≠ 0∧∀ x,a*Zg r x=Zg q x*Zg d x+m*Zg (Ui r d) x:=by
 obtain⟨m,hm,h⟩:=Kt (Um r d ((top d).natAbs:Int) (sg (top d)*top r) r.length)
 refine⟨((top d).natAbs:Int),m,Vr (r.length-d.length) [sg (top d)*top r],by omega,hm,fun x => ?_⟩
 have h1:=h x
 rw[Mq hl] at h1
 have e:Zg (Ui r d) x=Zg (prim (Um r d ((top d).natAbs:Int) (sg (top d)*top r) r.length)) x:=rfl
 rw[e,← h1,Wc]
 simp only[Zg]
 grind
theorem T4 {d:List Int} (ht:top d ≠ 0):∀ (f:Nat) (r:List Int),∃ (a m:Int) (q:List Int),a ≠ 0∧m ≠ 0∧∀ x,a*Zg r x=Zg q x*Zg d x+m*Zg (Vh f r d) x:=by
 intro f
 induction f with
 | zero=>intro r;exact⟨1,1,[],by decide,by decide,fun x=>by simp[Zg,Vh]⟩
 | succ f ih =>
  intro r
  simp only[Vh]
  split
  ·rename_i hl
   obtain⟨a,m,q,ha,hm,h⟩:=Zae hl ht
   obtain⟨b,n,s,hb,hn,g⟩:=ih (Ui r d)
   refine⟨b*a,m*n,Dq (Zx b q) (Zx m s),Int.mul_ne_zero hb ha,Int.mul_ne_zero hm hn,fun x => ?_⟩
   have h':=h x;have g':=g x
   rw[Jh,Zq,Zq,Int.mul_assoc,h']
   generalize Zg (Vh f (Ui r d) d) x=z at *
   generalize Zg (Ui r d) x=y at *
   have e:b*(Zg q x*Zg d x+m*y)=b*(Zg q x*Zg d x)+m*(b*y):=by grind
   rw[e,g'];grind
  ·exact⟨1,1,[],by decide,by decide,fun x=>by simp[Zg]⟩
theorem Mb:∀ (f:Nat) (x y:List Int),y.length≤f→y.length≤x.length→Vl x→Vl y→IsG (Hz f x y) x y:=by
 intro f
 induction f with
 | zero =>
  intro x y h1 _ _ _
  have:y=[]:=List.eq_nil_of_length_eq_zero (by omega)
  subst this
  exact IsG.start x
 | succ f ih =>
  intro x y h1 h2 lx ly
  simp only[Hz]
  split
  ·rename_i h;subst h;exact IsG.start x
  ·rename_i h
   have ht:top y ≠ 0:=Vi ly h
   obtain⟨r1,r2,_⟩:=Sn h (K:=Nat.max 1 (y.map Int.natAbs).sum) (fun i=>by
    have h3:(y.getD i 0).natAbs≤(y.map Int.natAbs).sum:=by
     clear ht h h1 h2 ly ih
     induction y generalizing i with
     | nil=>simp
     | cons c y ih => 
      cases i with
      | zero=>simp
      | succ i=>have:=ih i;simp at this ⊢;omega
    unfold Ji
    have h4:(y.map Int.natAbs).sum≤Nat.max 1 (y.map Int.natAbs).sum:=Nat.le_max_right _ _
    exact Nat.lt_of_le_of_lt (Nat.le_trans h3 h4) (Nat.lt_pow_self (by decide))) x.length x (Nat.max 1 (x.map Int.natAbs).sum) (Nat.le_refl _) lx (fun i=>by
    have h3:(x.getD i 0).natAbs≤(x.map Int.natAbs).sum:=by
     clear ht h h1 h2 lx ih
     induction x generalizing i with
     | nil=>simp
     | cons c y ih => 
      cases i with
      | zero=>simp
      | succ i=>have:=ih i;simp at this ⊢;omega
    unfold Ji
    have h4:(x.map Int.natAbs).sum≤Nat.max 1 (x.map Int.natAbs).sum:=Nat.le_max_right _ _
    exact Nat.lt_of_le_of_lt (Nat.le_trans h3 h4) (Nat.lt_pow_self (by decide)))
   obtain⟨a,m,q,ha,hm,e⟩:=T4 ht x.length x
   exact IsG.step ha hm e (ih y (J3 x y) (by unfold J3;omega) (by unfold J3;omega) ly r1)
def Zbh (x y:List Int):List Int:=if y.length≤x.length then Hz y.length x y else Hz x.length y x
theorem Zgx {x y:List Int} (lx:Vl x) (ly:Vl y):IsG (Zbh x y) x y:=by
 unfold Zbh
 split
 ·exact Mb _ _ _ (Nat.le_refl _) (by assumption) lx ly
 ·exact (Mb _ _ _ (Nat.le_refl _) (by omega) ly lx).comm
theorem N6 (p:List Int):∃ m:Int,m ≠ 0∧∀ x,Zg (Qv p) x=m*Zg p x:=by
 unfold Qv
 split
 ·exact⟨-1,by decide,fun x=>by rw[Hc];omega⟩
 ·exact⟨1,by decide,fun x=>by omega⟩
theorem Wy (p:List Int):(Qv p).length=p.length:=by
 unfold Qv;split
 ·exact Xx p
 ·rfl
def V4 (s t:List Int):List Int:=Qv (Zbh (prim s) (prim t))
theorem Gd (s t:List Int):IsG (V4 s t) s t:=by
 have h:=Zgx (Qr s) (Qr t)
 obtain⟨m,hm,h1⟩:=Kt s
 obtain⟨n,hn,h2⟩:=Kt t
 obtain⟨k,hk,h3⟩:=N6 (Zbh (prim s) (prim t))
 have h4:=h.scaled (s':=s) (t':=t) (m:=1) (n:=m) (k:=1) (l:=n) (by decide) hm (by decide) hn (fun x=>by rw[h1 x];omega) (fun x=>by rw[h2 x];omega)
 exact h4.gscaled (m:=1) (n:=k) (by decide) hk (fun x=>by unfold V4;rw[h3 x];omega)
theorem Gp {p:List Int} (h:Vl p):Vl (Vc p):=by
 have e:Vc p=Zx (-1) p:=by
  unfold Vc Zx
  apply List.map_congr_left
  intro x _;omega
 rw[e];exact Zam (by decide) h
theorem Gn {p:List Int} (h:Vl p):Vl (Qv p):=by
 unfold Qv;split
 ·exact Gp h
 ·exact h
theorem K9:∀ (f:Nat) (x y:List Int),prim x=x→prim y=y→prim (Hz f x y)=Hz f x y:=by
 intro f
 induction f with
 | zero=>intro x y h _;exact h
 | succ f ih =>
  intro x y hx hy
  simp only[Hz]
  split
  ·exact hx
  ·exact ih y _ hy (Vm _ _ _ hx)
theorem Bl {x y:List Int} (hx:prim x=x) (hy:prim y=y):prim (Zbh x y)=Zbh x y:=by
 unfold Zbh;split
 ·exact K9 _ _ _ hx hy
 ·exact K9 _ _ _ hy hx
theorem Mv (p:List Int):Jb (Vc p)=Jb p:=by
 have e:Vc p=Zx (-1) p:=by
  unfold Vc Zx
  apply List.map_congr_left
  intro x _;omega
 rw[e,Hi];simp
theorem Mu (p:List Int):Jb (Qv p)=Jb p:=by
 unfold Qv;split
 ·exact Mv p
 ·rfl
theorem Kx (s t:List Int):Vl (V4 s t):=Gn (Ql (Bl (Qi s) (Qi t)))
theorem Ks {p:List Int} (h:Vl p) (hc:Jb p=1):prim p=p:=by rw [E5 hc];exact h
theorem Fe {s t:List Int} (h:Zd s ≠ []):V4 s t ≠ []:=by
 have:=((Gd s t).1.length h).2
 intro h0;rw[h0] at this;exact this rfl
theorem Zdx {s t:List Int} (h:Zd s ≠ []):Jb (V4 s t)=1:=by
 have h1:=Fe (t:=t) h
 unfold V4 at *
 rw[Mu]
 have h2:Zbh (prim s) (prim t) ≠ []:=by
  intro h0;rw[h0] at h1;exact h1 rfl
 have h3:=Bl (Qi s) (Qi t)
 rw[← h3]
 exact K1 (by rw[Ql h3];exact h2)
theorem R7 {p:List Int} (h:Vl p) (h0:p ≠ []):0<top (Qv p):=by
 have h1:=Vi h h0
 unfold Qv;split
 ·rename_i hn
  unfold top at *
  rw[Xx,U6];omega
 ·rename_i hn
  unfold top at *;omega
theorem R8 {s t:List Int} (h:Zd s ≠ []):0<top (V4 s t):=by
 have h1:=Fe (t:=t) h
 unfold V4 at *
 refine R7 (Ql (Bl (Qi s) (Qi t))) ?_
 intro h0;rw[h0] at h1;exact h1 rfl
theorem Zdb {s t:List Int} {K:Nat} (h:Zd s ≠ []) (hl:s.length≤9) (hK:Kb K s):Kb (K+3) (V4 s t)∧(V4 s t).length≤(Zd s).length:=by
 have hg:=(Gd s t).1
 have h1:=(hg.length h).1
 have hle:=Kx s t
 rw[hle] at h1
 obtain⟨c,k,hc,hk⟩:=hg
 have:=Qg s
 exact⟨B4 hc (Zdx h) h hl (by omega) hK hk,h1⟩
end Go.Ai

namespace Go.Proofs.YthnnfemologhfaaGreat
open Go.IntKind (i64 u64 u32)
open Go.Ai
set_option maxRecDepth 100000
def Gm (E rs:List Rn) (i:Nat):List Rn:=E.take i++rs.drop i
theorem Gi (E rs:List Rn):Gm E rs 0=rs:=by simp [Gm]
theorem Gl {E rs:List Rn} (h:E.length=rs.length):Gm E rs rs.length=E:=by
 unfold Gm;rw[List.drop_length,List.append_nil,List.take_of_length_le (by omega)]
theorem Uv {E rs:List Rn} (h:E.length=rs.length) (i:Nat):(Gm E rs i).length=rs.length:=by
 unfold Gm;rw[List.length_append,List.length_take,List.length_drop];omega
theorem Gk {E rs:List Rn} (h:E.length=rs.length) {i:Nat} (hi:i<rs.length):(Gm E rs i).getD i z0=rs.getD i z0:=by
 unfold Gm
 rw[List.getD_eq_getElem?_getD,List.getD_eq_getElem?_getD,List.getElem?_append_right (by rw[List.length_take];omega),List.length_take,List.getElem?_drop]
 congr 2;omega
theorem Gj {E rs:List Rn} (h:E.length=rs.length) {i:Nat} (hi:i<rs.length):(Gm E rs i).set i (E.getD i z0)=Gm E rs (i+1):=by
 have hpi:E[i]?=some (E.getD i z0):=by rw[List.getD_eq_getElem?_getD,List.getElem?_eq_getElem (by omega)];rfl
 apply List.ext_getElem?
 intro t
 have hl:=Uv h i
 unfold Gm at *
 rcases Nat.lt_trichotomy t i with g | g | g
 ·rw[List.getElem?_set_ne (by omega),List.getElem?_append_left (by rw[List.length_take];omega),List.getElem?_append_left (by rw[List.length_take];omega),List.getElem?_take_of_lt g,List.getElem?_take_of_lt (by omega)]
 ·subst g
  rw[List.getElem?_set_self (by omega),List.getElem?_append_left (by rw[List.length_take];omega),List.getElem?_take_of_lt (by omega),hpi]
 ·rw[List.getElem?_set_ne (by omega),List.getElem?_append_right (by rw[List.length_take];omega),List.getElem?_append_right (by rw[List.length_take];omega),List.length_take,List.length_take,List.getElem?_drop,List.getElem?_drop]
  congr 1;omega
theorem Uw (p:List Int) (i:Nat):Zl ((p.map cn).getD i z0)=p.getD i 0:=by rw [← Q1,Z3]
theorem Xz {p:List Int} {i:Nat} (h:i<p.length):(p.map cn).getD i z0=cn (p.getD i 0):=by
 rw[List.getD_eq_getElem?_getD,List.getElem?_map,List.getD_eq_getElem?_getD,List.getElem?_eq_getElem h];rfl
theorem Z0 {K:Nat} {p:List Int} (h:Kb K p):∀ r∈p.map cn,Jw K r:=Ds h.mem
theorem Sl {rs:List Rn} {i:Nat} {r:Rn} (h:i<rs.length):(rs.set i r).getD i z0=r:=by
 simp[List.getD_eq_getElem?_getD,h]
theorem G3 {x y:Rn} {J K:Nat} (hx:Jw J x) (hy:Jw K y) (h:J+K≤1048576):Ze Yir 64 [Zt x,Zt y] (Zn (Zl x*Zl y)):=Eu hx.1 hy.1 (by have:=hx.2;have:=hy.2;omega)
theorem Zbq {x y:Rn} {J K:Nat} (hx:Jw J x) (hy:Jw K y) (h:J<1048576) (h2:K<1048576):Ze Yir 70 [Zt x,Zt y] (Zn (Zl x-Zl y)):=Zga hx.1 hy.1 (by have:=hx.2;omega) (by have:=hy.2;omega)
section
variable {p d:List Int} {J Kd:Nat}
theorem Nz {a b:Int} {t:Rn} (hp:Kb J p) (hd:Kb Kd d) (ha:Ji Kd a) (hb:Ji J b) (hS:J+Kd+1<1048576) (hl:d.length≤p.length) (hN:p.length≤1048576) :
  Za Yir (.loop Ld) (G1 (d.map cn) p.length (p.map cn) t (cn a) (cn b) ((p.length-d.length:Nat):Int) (p.length:Nat) 0) (.exit 2)
   (G1 (d.map cn) p.length ((Um p d a b p.length).map cn) t (cn a) (cn b) ((p.length-d.length:Nat):Int) (p.length:Nat) (p.length:Nat)):=by
 have hE:((Um p d a b p.length).map cn).length=(p.map cn).length:=by rw[List.length_map,List.length_map,J9]
 have hpl:(p.map cn).length=p.length:=List.length_map ..
 have h:=Za.up (prog:=Yir) (c:=Ld) (ex := .exit 2) (fin:=G1 (d.map cn) p.length ((Um p d a b p.length).map cn) t (cn a) (cn b) ((p.length-d.length:Nat):Int) (p.length:Nat) (p.length:Nat))
  (fun i=>G1 (d.map cn) p.length (Gm ((Um p d a b p.length).map cn) (p.map cn) i) t (cn a) (cn b) ((p.length-d.length:Nat):Int) (p.length:Nat) (i:Nat)) p.length (by intro e;cases e) ?_ ?_ 0 (Nat.zero_le _)
 ·rw[Gi] at h;exact h
 ·intro i hi
  have ei:i64.wrap ((i:Int)+1)=((i+1:Nat):Int):=by rw[w64 (by omega) (by omega)];omega
  have hml:=Uv hE i
  have hget:=Gk hE (i:=i) (by omega)
  have hEi:((Um p d a b p.length).map cn).getD i z0=cn ((Um p d a b p.length).getD i 0):=Xz (by rw[J9];exact hi)
  have hest:=Uj p d a b p.length i
  rw[if_pos hi] at hest
  have hset:=Gj hE (i:=i) (by omega)
  rw[hEi] at hset
  have gp:=Z9 (Z0 hp) i
  have ga:=Jj ha
  have gb:=Jj hb
  have vi:=Uw p i
  generalize Gm ((Um p d a b p.length).map cn) (p.map cn) i=M at *
  by_cases hat:p.length-d.length≤i
  ·rw[if_pos hat] at hest
   have ea:i64.wrap ((i:Int)-((p.length-d.length:Nat):Int))=((i-(p.length-d.length):Nat):Int):=by rw[w64 (by omega) (by omega)];omega
   have gq:=Z9 (Z0 hd) (i-(p.length-d.length))
   have vq:=Uw d (i-(p.length-d.length))
   have m1:=G3 gp ga (by omega)
   have m2:=G3 gb gq (by omega)
   have f1:Ji (J+Kd) (Zl ((p.map cn).getD i z0)*Zl (cn a)):=gp.fits.mul (by rw[Qc];exact ha)
   have f2:Ji (J+Kd) (Zl (cn b)*Zl ((d.map cn).getD (i-(p.length-d.length)) z0)):=Ji.mul (by rw[Qc];exact hb) gq.fits
   have m3:=Zbq (Jj f1) (Jj f2) (by omega) (by omega)
   rw[Qc (Zl (cn b)*Zl ((d.map cn).getD (i-(p.length-d.length)) z0))] at m3
   have k:=Zpo (d.map cn) p.length M t (cn a) (cn b) ((p.length-d.length:Nat):Int) (p.length:Nat) (i:Nat) (by simp;omega) (by rw[decide_eq_true_eq];omega) (by omega) (by omega) (by rw[List.length_set];omega) (by rw[ea,List.length_map];omega)
    (by rw[Int.toNat_natCast,hget];exact m1) (by rw[ea,Int.toNat_natCast];exact m2) (by
     simp only[ea,Int.toNat_natCast,hget]
     rw[Sl (by omega)]
     exact m3)
   refine k.to rfl ?_
   simp only[ea,ei,Int.toNat_natCast,hget]
   rw[Sl (by omega),List.set_set,Qc (Zl ((p.map cn).getD i z0)*Zl (cn a)),vi,vq,Qc,Qc,Int.mul_comm (p.getD i 0) a,← hest]
   rw[hset]
  ·rw[if_neg hat] at hest
   have m1:=G3 gp ga (by omega)
   have k:=Zpn (d.map cn) p.length M t (cn a) (cn b) ((p.length-d.length:Nat):Int) (p.length:Nat) (i:Nat) (by simp;omega) (by rw[decide_eq_false_iff_not];omega) (by omega) (by omega) (by rw[Int.toNat_natCast,hget];exact m1)
   refine k.to rfl ?_
   simp only[ei,Int.toNat_natCast,hget]
   rw[vi,Qc,Int.mul_comm (p.getD i 0) a,← hest,hset]
 ·rw[show Gm ((Um p d a b p.length).map cn) (p.map cn) p.length=(Um p d a b p.length).map cn by have h:=Gl hE;rw[hpl] at h;exact h]
  exact Zpm (d.map cn) p.length _ t _ _ _ _ _ (by simp)
theorem gcd_ne {a b:Int} (h:a ≠ 0):0<Int.gcd a b:=by
 rw[Int.gcd];exact Nat.gcd_pos_of_pos_left _ (by omega)
theorem Zgs (hp:Kb J p) (hd:Kb Kd d) (hS:J+Kd+1<1048576) (hd0:d ≠ []) (ht:top d ≠ 0) (hl:d.length≤p.length) (hN:p.length≤1048576) :
  Za Yir Zs5 (Zbn (d.map cn) p.length (p.map cn) (cn (top d))) .norm (Zbn (d.map cn) (Ui p d).length ((Ui p d).map cn) (cn (top d))):=by
 have hdl:=List.length_pos_iff.2 hd0
 have e1:i64.wrap ((p.length:Int)-1)=((p.length-1:Nat):Int):=by rw[w64 (by omega) (by omega)];omega
 have e2:i64.wrap ((p.length:Int)-(((d.map cn).length:Nat):Int))=((p.length-d.length:Nat):Int):=by rw[List.length_map,w64 (by omega) (by omega)];omega
 have gt:=Jj (X3 hd)
 have gl:=Z9 (Z0 hp) (p.length-1)
 have vl:Zl ((p.map cn).getD (p.length-1) z0)=top p:=Uw p (p.length-1)
 have hgp:=gcd_ne (a:=top d) (b:=top p) ht
 have hgcd:=R2 (na:=(cn (top d)).1) (nb:=((p.map cn).getD (p.length-1) z0).1) gt.1 gl.1 (by have:=gt.2;omega) (by have:=gl.2;omega)
 rw[show rv (cn (top d)).1 (cn (top d)).2=top d from Qc _,show rv ((p.map cn).getD (p.length-1) z0).1 ((p.map cn).getD (p.length-1) z0).2=top p from vl] at hgcd
 have hd1:((Int.gcd (top d) (top p):Nat):Int)∣top d:=Int.gcd_dvd_left ..
 have hd2:((Int.gcd (top d) (top p):Nat):Int)∣top p:=Int.gcd_dvd_right ..
 have hd3:((Int.gcd (top d) (top p):Nat):Int)∣(((top d).natAbs:Nat):Int):=Int.dvd_natAbs.2 hd1
 have hgle:Ji Kd ((Int.gcd (top d) (top p):Nat):Int):=by
  have:=X3 hd
  unfold Ji at *
  rw[Int.natAbs_natCast]
  have:=Nat.le_of_dvd (by omega) (Int.ofNat_dvd_left.1 hd1)
  omega
 have gg:=Jj hgle
 have habs:=Ev (neg:=(cn (top d)).1) gt.1 (by have:=gt.2;omega)
 rw[show rv (cn (top d)).1 (cn (top d)).2=top d from Qc _] at habs
 have gab:=Jj (Dw (X3 hd))
 have q1:=Dk (na:=(cn (((top d).natAbs:Nat):Int)).1) (nb:=(cn ((Int.gcd (top d) (top p):Nat):Int)).1) gab.1 gg.1 (by rw[show rv (cn ((Int.gcd (top d) (top p):Nat):Int)).1 (cn ((Int.gcd (top d) (top p):Nat):Int)).2=(Int.gcd (top d) (top p):Nat) from Qc _];omega) (by have:=gab.2;omega) (by have:=gg.2;omega)
 rw[show rv (cn ((Int.gcd (top d) (top p):Nat):Int)).1 (cn ((Int.gcd (top d) (top p):Nat):Int)).2=(Int.gcd (top d) (top p):Nat) from Qc _,show rv (cn (((top d).natAbs:Nat):Int)).1 (cn (((top d).natAbs:Nat):Int)).2=((top d).natAbs:Nat) from Qc _] at q1
 have q2:=Dk (na:=((p.map cn).getD (p.length-1) z0).1) (nb:=(cn ((Int.gcd (top d) (top p):Nat):Int)).1) gl.1 gg.1 (by rw[show rv (cn ((Int.gcd (top d) (top p):Nat):Int)).1 (cn ((Int.gcd (top d) (top p):Nat):Int)).2=(Int.gcd (top d) (top p):Nat) from Qc _];omega) (by have:=gl.2;omega) (by have:=gg.2;omega)
 rw[show rv (cn ((Int.gcd (top d) (top p):Nat):Int)).1 (cn ((Int.gcd (top d) (top p):Nat):Int)).2=(Int.gcd (top d) (top p):Nat) from Qc _,show rv ((p.map cn).getD (p.length-1) z0).1 ((p.map cn).getD (p.length-1) z0).2=top p from vl] at q2
 have hG:(0:Int)<((Int.gcd (top d) (top p):Nat):Int):=by omega
 have x1:=Int.mul_ediv_cancel' hd3
 have x2:=Int.mul_ediv_cancel' hd2
 rw[K7 hG hd3] at q1
 rw[K7 hG hd2] at q2
 have hsg:=H5 (neg:=(cn (top d)).1) gt.1 (by have:=gt.2;omega)
 rw[show rv (cn (top d)).1 (cn (top d)).2=top d from Qc _] at hsg
 -- sizes of the factors
 have fa:Ji Kd ((((top d).natAbs:Nat):Int) / ((Int.gcd (top d) (top p):Nat):Int)):=by
  rcases Nf (Dw (X3 hd)) (Int.gcd (top d) (top p)) with g | g
  ·exact g
  ·exact absurd hd3 g
 have fb:Ji J (top p / ((Int.gcd (top d) (top p):Nat):Int)):=by
  rcases Nf (X3 hp) (Int.gcd (top d) (top p)) with g | g
  ·exact g
  ·exact absurd hd2 g
 generalize hGd:((Int.gcd (top d) (top p):Nat):Int)=G at *
 generalize hx:(((top d).natAbs:Nat):Int) / G=x at *
 generalize hy:top p / G=y at *
 have pst:∀ b:Int,G*b=sg (top d)*top p→Ui p d=prim (Um p d x b p.length):=by
  intro b hb
  have h:=Ea (r:=p) (d:=d) (c:=1) (g:=G) (a:=x) (b:=b) (by decide) hG x1 hb
  rwa [show Zx 1 d=d by unfold Zx;simp] at h
 have fin:∀ b:Int,G*b=sg (top d)*top p→Ji J b→Ze Yir 33 [.sl p.length (pc ((Um p d x b p.length).map cn))] (.fresh 2 ((Ui p d).map cn).length (pc ((Ui p d).map cn))):=by
  intro b hb fb'
  have hK:=Nd hp hd fa fb' p.length
  have h:=Jc (rs:=(Um p d x b p.length).map cn) (Z0 hK) (by omega) (by rw[List.length_map,J9];exact hN)
  rw[Z3,← pst b hb,List.length_map,J9] at h
  rw[List.length_map]
  exact h
 by_cases hneg:top d<0
 ·have hng:=R1 (neg:=(cn y).1) (xs:=(cn y).2) (Qw _) (by have:=fb.len;rw[Ke];omega)
  rw[show rv (cn y).1 (cn y).2=y from Qc _] at hng
  have hb:G * -y=sg (top d)*top p:=by unfold sg;rw[if_pos hneg,Int.mul_neg,x2];omega
  have hin:=Nz (t:=cn (top d)) hp hd fa fb.neg hS hl hN
  have k:=Yk37_1 (d.map cn) p.length (p.map cn) (cn (top d)) _ _ _ _ G _ x y (-y) _ _ (X2 (top d)) _ _ _ (by rw[decide_eq_true_eq,List.length_map];omega) (by unfold X2;rw[if_pos hneg];rfl) (by rw[e1];omega) (by rw[List.length_map]) (by rw[e1,Int.toNat_natCast];exact hgcd) habs q1 (by rw[e1,Int.toNat_natCast];exact q2) hsg hng (by rw[e2];exact hin) (fin (-y) hb fb.neg)
  rw[List.length_map] at k
  exact k
 ·have hb:G*y=sg (top d)*top p:=by unfold sg;rw[if_neg hneg,x2];omega
  have hin:=Nz (t:=cn (top d)) hp hd fa fb hS hl hN
  have k:=Yk37_2 (d.map cn) p.length (p.map cn) (cn (top d)) _ _ _ _ G _ x y _ _ (X2 (top d)) _ _ _ (by rw[decide_eq_true_eq,List.length_map];omega) (by unfold X2;rw[if_neg hneg];split <;> rfl) (by rw[e1];omega) (by rw[List.length_map]) (by rw[e1,Int.toNat_natCast];exact hgcd) habs q1 (by rw[e1,Int.toNat_natCast];exact q2) hsg (by rw[e2];exact hin) (fin y hb fb)
  rw[List.length_map] at k
  exact k
end
theorem Zgt {d:List Int} {Kd:Nat} (hd:Kb Kd d) (hd0:d ≠ []) (ht:top d ≠ 0):∀ (f:Nat) (p:List Int) (J:Nat),p.length≤f→Kb J p→J+(p.length+1-d.length)*(Kd+1)<1048576→p.length≤1048576 →
  Za Yir (.loop Zs5) (Zbn (d.map cn) p.length (p.map cn) (cn (top d))) (.exit 0) (Zbn (d.map cn) (Vh f p d).length ((Vh f p d).map cn) (cn (top d))):=by
 have hdl:=List.length_pos_iff.2 hd0
 intro f
 induction f with
 | zero =>
  intro p J hf _ _ _
  exact Za.loop_out (Zma (d.map cn) p.length (p.map cn) (cn (top d)) (by rw[decide_eq_false_iff_not,List.length_map];omega)) (by intro e;cases e)
 | succ f ih =>
  intro p J hf hJ hS hN
  simp only[Vh]
  split
  ·rename_i hl
   have hplen:=Kr hd0 hl
   have e:((Ui p d).length+1-d.length)+1≤p.length+1-d.length:=by omega
   have:=Nat.mul_le_mul_right (Kd+1) e
   rw[Nat.add_mul,Nat.one_mul] at this
   have h1:=Zgs hJ hd (by
    have h2:1*(Kd+1)≤(p.length+1-d.length)*(Kd+1):=Nat.mul_le_mul_right _ (by omega)
    omega) hd0 ht hl hN
   exact Za.loop h1 (ih (Ui p d) (J+Kd+1) (by omega) (Nb hJ hd) (by omega) (by omega))
  ·rename_i hl
   exact Za.loop_out (Zma (d.map cn) p.length (p.map cn) (cn (top d)) (by rw[decide_eq_false_iff_not,List.length_map];omega)) (by intro e;cases e)
theorem Wi {rs ss:List Rn} {J K:Nat} (hr:∀ r∈rs,Jw J r) (hs:∀ r∈ss,Jw K r) (hJ:J<1048576) (hK:K<1048576) (hn:rs.length≤1048576) (hm:ss.length≤1048576) (h0:prim (Zi ss) ≠ []) (hS:J+((prim (Zi rs)).length+1-(prim (Zi ss)).length)*(K+1)<1048576) :
  Ze Yir 37 [.sl rs.length (pc rs), .sl ss.length (pc ss)] (.fresh 2 (J3 (prim (Zi rs)) (prim (Zi ss))).length (pk (J3 (prim (Zi rs)) (prim (Zi ss))))):=by
 have p1:=Jc hr hJ hn
 have p2:=Jc hs hK hm
 have k1:Kb J (prim (Zi rs)):=(Bz (Q8 hr)).prim
 have k2:Kb K (prim (Zi ss)):=(Bz (Q8 hs)).prim
 have l1:(prim (Zi rs)).length≤rs.length:=by rw[Qq];have:=Qg (Zi rs);rwa [Zs] at this
 have l2:(prim (Zi ss)).length≤ss.length:=by rw[Qq];have:=Qg (Zi ss);rwa [Zs] at this
 have hl:=List.length_pos_iff.2 h0
 have ht:top (prim (Zi ss)) ≠ 0:=Vi (Qr _) h0
 have hlp:=Zgt k2 h0 ht (prim (Zi rs)).length (prim (Zi rs)) J (Nat.le_refl _) k1 hS (by omega)
 have e1:i64.wrap (((((prim (Zi ss)).map cn).length:Nat):Int)-1)=(((prim (Zi ss)).length-1:Nat):Int):=by rw[List.length_map,w64 (by omega) (by omega)];omega
 have p1':Ze Yir 33 [.sl rs.length (pc rs)] (.fresh 2 ((prim (Zi rs)).map cn).length (pc ((prim (Zi rs)).map cn))):=by rw[List.length_map];exact p1
 have p2':Ze Yir 33 [.sl ss.length (pc ss)] (.fresh 2 ((prim (Zi ss)).map cn).length (pc ((prim (Zi ss)).map cn))):=by rw[List.length_map];exact p2
 have k:=Yrun37 rs ss _ _ ((J3 (prim (Zi rs)) (prim (Zi ss))).map cn) (cn (top (prim (Zi ss)))) (J3 (prim (Zi rs)) (prim (Zi ss))).length p1' p2' (by rw[e1,List.length_map];omega) (by
  rw[e1,Int.toNat_natCast,Xz (show (prim (Zi ss)).length-1<(prim (Zi ss)).length by omega),List.length_map]
  exact hlp)
 exact k
theorem Ti:∀ (f:Nat) (x y:List Int) (M:Nat),0<M→y.length≤f→y.length≤x.length→x.length≤1048576→prim x=x→prim y=y→Kb (M-1) x→Kb (M-1) y→M*phi x.length y.length≤500000 →
  ∃ bs,Za Yir (.loop Zs3) (Zbl (x.map cn) (y.map cn)) (.exit 0) (Zbl ((Hz f x y).map cn) bs):=by
 intro f
 induction f with
 | zero =>
  intro x y M _ h1 _ _ _ _ _ _ _
  have:y=[]:=List.eq_nil_of_length_eq_zero (by omega)
  subst this
  exact⟨_,Za.loop_out (Zl6 _ _ (by simp)) (by intro e;cases e)⟩
 | succ f ih =>
  intro x y M hM h1 h2 h3 px py kx ky hphi
  simp only[Hz]
  split
  ·rename_i h
   subst h
   exact⟨_,Za.loop_out (Zl6 _ _ (by simp)) (by intro e;cases e)⟩
  ·rename_i h
   have hyl:=List.length_pos_iff.2 h
   obtain⟨r1,r2,r3⟩:=Ha hM (Ql px) h kx ky h2
   have hM':0<M*(x.length-y.length+2):=Nat.mul_pos hM (by omega)
   have hMle:M≤M*(x.length-y.length+2):=Nat.le_mul_of_pos_right M (by omega)
   have hbig:M*(x.length-y.length+2)≤500000:=by
    refine Nat.le_trans (Nat.mul_le_mul_left _ ?_) hphi
    unfold phi
    exact Nat.le_mul_of_pos_right _ (Nat.pow_pos (by decide))
   have hrem:=Wi (rs:=x.map cn) (ss:=y.map cn) (Z0 kx) (Z0 ky) (by omega) (by omega) (by rw[List.length_map];exact h3) (by rw[List.length_map];omega) (by rw[Z3,py];exact h) (by
    rw[Z3,Z3,px,py,Nat.sub_add_cancel hM,show x.length+1-y.length=x.length-y.length+1 by omega,Nat.mul_comm _ M]
    have:M*(x.length-y.length+2)=M*(x.length-y.length+1)+M:=by rw[← Nat.mul_succ]
    omega)
   rw[Z3,Z3,px,py] at hrem
   have hrem':Ze Yir 37 [.sl (x.map cn).length (pc (x.map cn)), .sl (y.map cn).length (pc (y.map cn))] (.fresh 2 ((J3 x y).map cn).length (pc ((J3 x y).map cn))):=by
    have hlm:((J3 x y).map cn).length=(J3 x y).length:=List.length_map ..
    rw[hlm];exact hrem
   have k:=Zl7 (x.map cn) (y.map cn) _ (by simp;omega) hrem'
   obtain⟨bs,hb⟩:=ih y (J3 x y) (M*(x.length-y.length+2)) hM' (by omega) (by omega) (by omega) py (Vm _ _ _ px) (ky.mono (by omega)) r3 (Hb r2 hphi)
   exact⟨bs,Za.loop k hb⟩
def R0 (f:Nat) (args:List AV) (p:List Int):Prop:=Ze Yir f args (.fresh 2 (p.map cn).length (pc (p.map cn)))∨Ze Yir f args (.sl (p.map cn).length (pc (p.map cn)))
theorem Ah {p:List Int} {K:Nat} (hk:Kb K p) (hK:K≤1048576) (hN:p.length≤1048576) :
  (top p<0→Ze Yir 61 [.sl (p.map cn).length (pc (p.map cn))] (.fresh 2 ((Qv p).map cn).length (pc ((Qv p).map cn))))∧(¬ top p<0→Ze Yir 61 [.sl (p.map cn).length (pc (p.map cn))] (.sl (p.map cn).length (pc (p.map cn)))):=by
 have h:=Nn (rs:=p.map cn) (fun r hr=>(Z0 hk r hr).mono hK) (by rw[List.length_map];exact hN)
 rw[Z3] at h
 refine⟨fun hn => ?_,h.2⟩
 have h1:=h.1 hn
 have e:Qv p=Vc p:=by unfold Qv;rw[if_pos hn]
 have hl:((Vc p).map cn).length=(p.map cn).length:=by rw[List.length_map,List.length_map,Xx]
 rw[e,hl]
 exact h1
theorem Do {p:List Int} (h:¬ top p<0):Qv p=p:=by unfold Qv;rw [if_neg h]
theorem Hd:∀ (f:Nat) (x y:List Int) (M:Nat),0<M→y.length≤f→y.length≤x.length→Vl x→Vl y→Kb (M-1) x→Kb (M-1) y→Kb (M*phi x.length y.length-1) (Hz f x y)∧(Hz f x y).length≤x.length:=by
 intro f
 induction f with
 | zero =>
  intro x y M hM _ h2 _ _ kx _
  refine⟨kx.mono ?_,Nat.le_refl _⟩
  have:M*1≤M*phi x.length y.length:=Nat.mul_le_mul_left _ (by unfold phi;exact Nat.mul_pos (by omega) (Nat.pow_pos (by decide)))
  omega
 | succ f ih =>
  intro x y M hM h1 h2 lx ly kx ky
  simp only[Hz]
  split
  ·refine⟨kx.mono ?_,Nat.le_refl _⟩
   have:M*1≤M*phi x.length y.length:=Nat.mul_le_mul_left _ (by unfold phi;exact Nat.mul_pos (by omega) (Nat.pow_pos (by decide)))
   omega
  ·rename_i h
   have hyl:=List.length_pos_iff.2 h
   obtain⟨r1,r2,r3⟩:=Ha hM lx h kx ky h2
   have hM':0<M*(x.length-y.length+2):=Nat.mul_pos hM (by omega)
   have hMle:M≤M*(x.length-y.length+2):=Nat.le_mul_of_pos_right M (by omega)
   obtain⟨a,b⟩:=ih y (J3 x y) (M*(x.length-y.length+2)) hM' (by omega) (by omega) ly r1 (ky.mono (by omega)) r3
   exact⟨a.mono (Nat.sub_le_sub_right (Hb r2 (Nat.le_refl _)) 1),by omega⟩
theorem Da {rs ss:List Rn} {g:List Int} {bs:List Rn} {K:Nat} (hr:∀ r∈rs,Jw K r) (hs:∀ r∈ss,Jw K r) (hK:K<1048576) (hn:rs.length≤1048576) (hm:ss.length≤1048576) {Kg:Nat} (hg:Kb Kg g) (hKg:Kg≤1048576) (hgl:g.length≤1048576)
  (hl:Za Yir (.loop Zs3) (Zbl ((prim (Zi rs)).map cn) ((prim (Zi ss)).map cn)) (.exit 0) (Zbl (g.map cn) bs)) :
  R0 62 [.sl rs.length (pc rs), .sl ss.length (pc ss)] (Qv g):=by
 have p1:=Jc hr hK hn
 have p2:=Jc hs hK hm
 have p1':Ze Yir 33 [.sl rs.length (pc rs)] (.fresh 2 ((prim (Zi rs)).map cn).length (pc ((prim (Zi rs)).map cn))):=by rw[List.length_map];exact p1
 have p2':Ze Yir 33 [.sl ss.length (pc ss)] (.fresh 2 ((prim (Zi ss)).map cn).length (pc ((prim (Zi ss)).map cn))):=by rw[List.length_map];exact p2
 obtain⟨q1,q2⟩:=Ah hg hKg hgl
 by_cases h:top g<0
 ·exact .inl (Zio rs ss _ _ (g.map cn) bs _ p1' p2' hl (q1 h))
 ·rw[Do h]
  exact .inr (Zin rs ss _ _ (g.map cn) bs p1' p2' hl (q2 h))
theorem P9 {rs ss:List Rn} {K c:Nat} (hr:∀ r∈rs,Jw K r) (hs:∀ r∈ss,Jw K r) (hn:rs.length≤c) (hm:ss.length≤c) (hc:c≤1048576) (hS:(K+1)*(2*3^c)≤500000) :
  R0 62 [.sl rs.length (pc rs), .sl ss.length (pc ss)] (Qv (Zbh (prim (Zi rs)) (prim (Zi ss)))):=by
 have h3:0<3^c:=Nat.pow_pos (by decide)
 have hK:K+1≤500000:=by
  have:(K+1)*1≤(K+1)*(2*3^c):=Nat.mul_le_mul_left _ (by omega)
  omega
 have k1:Kb K (prim (Zi rs)):=(Bz (Q8 hr)).prim
 have k2:Kb K (prim (Zi ss)):=(Bz (Q8 hs)).prim
 have l1:(prim (Zi rs)).length≤rs.length:=by rw[Qq];have:=Qg (Zi rs);rwa [Zs] at this
 have l2:(prim (Zi ss)).length≤ss.length:=by rw[Qq];have:=Qg (Zi ss);rwa [Zs] at this
 unfold Zbh
 split
 ·rename_i hl
  have hphi:(K+1)*phi (prim (Zi rs)).length (prim (Zi ss)).length≤500000:=Nat.le_trans (Nat.mul_le_mul_left _ (Bo hl (by omega))) hS
  obtain⟨bs,hb⟩:=Ti (prim (Zi ss)).length (prim (Zi rs)) (prim (Zi ss)) (K+1) (by omega) (Nat.le_refl _) hl (by omega) (Qi _) (Qi _) k1 k2 hphi
  obtain⟨s1,s2⟩:=Hd (prim (Zi ss)).length (prim (Zi rs)) (prim (Zi ss)) (K+1) (by omega) (Nat.le_refl _) hl (Qr _) (Qr _) k1 k2
  exact Da hr hs (by omega) (by omega) (by omega) s1 (by omega) (by omega) hb
 ·rename_i hl
  have hphi:(K+1)*phi (prim (Zi ss)).length (prim (Zi rs)).length≤500000:=Nat.le_trans (Nat.mul_le_mul_left _ (Bo (by omega) (by omega))) hS
  obtain⟨bs,hb⟩:=Ti (prim (Zi rs)).length (prim (Zi ss)) (prim (Zi rs)) (K+1) (by omega) (Nat.le_refl _) (by omega) (by omega) (Qi _) (Qi _) k2 k1 hphi
  obtain⟨s1,s2⟩:=Hd (prim (Zi rs)).length (prim (Zi ss)) (prim (Zi rs)) (K+1) (by omega) (Nat.le_refl _) (by omega) (Qr _) (Qr _) k2 k1
  -- one step that changes their places
  have hy0:prim (Zi ss) ≠ []:=by intro h;rw[h] at hl;simp at hl
  have hsw:J3 (prim (Zi rs)) (prim (Zi ss))=prim (Zi rs):=by
   unfold J3
   cases hx:(prim (Zi rs)).length with
   | zero=>rfl
   | succ n=>simp only[Vh];rw[if_neg hl]
  have hrem:=Wi (rs:=(prim (Zi rs)).map cn) (ss:=(prim (Zi ss)).map cn) (Z0 k1) (Z0 k2) (by omega) (by omega) (by rw[List.length_map];omega) (by rw[List.length_map];omega) (by rw[Z3,Qi];exact hy0) (by
   rw[Z3,Z3,Qi,Qi,show (prim (Zi rs)).length+1-(prim (Zi ss)).length=0 by omega,Nat.zero_mul];omega)
  rw[Z3,Z3,Qi,Qi,hsw] at hrem
  have hrem':Ze Yir 37 [.sl ((prim (Zi rs)).map cn).length (pc ((prim (Zi rs)).map cn)), .sl ((prim (Zi ss)).map cn).length (pc ((prim (Zi ss)).map cn))] (.fresh 2 ((prim (Zi rs)).map cn).length (pc ((prim (Zi rs)).map cn))):=by
   have hlm:((prim (Zi rs)).map cn).length=(prim (Zi rs)).length:=List.length_map ..
   rw[hlm] at hrem ⊢;exact hrem
  have k:=Zl7 ((prim (Zi rs)).map cn) ((prim (Zi ss)).map cn) _ (by rw[decide_eq_true_eq,List.length_map];omega) hrem'
  exact Da hr hs (by omega) (by omega) (by omega) s1 (by omega) (by omega) (Za.loop k hb)
end Go.Proofs.YthnnfemologhfaaGreat
