/- Texts of the proof of PolyRemainders, packed by pack.py: part 14 of 20. -/
import Derived.Test.YthnnfemologhfaaPme13
namespace Go.Proofs.Ythnnfemologhfaa
open Go.IntKind (i64 u64 u32)
open Go.Ai
set_option maxRecDepth 100000
theorem tdiv_sign (a b q r:Int) (hq:q=(a.natAbs:Int) / (b.natAbs:Int)) (hr:r=(a.natAbs:Int) % (b.natAbs:Int)) :
  (if (!(decide (a<0)==decide (b<0)))=true then -q else q)=Int.tdiv a b∧(if decide (a<0)=true then -r else r)=Int.tmod a b:=by
 subst hq hr
 have hA:(0:Int)≤(a.natAbs:Int):=by omega
 by_cases ha:a<0 <;> by_cases hb:b<0
 ·have ea:a = -(a.natAbs:Int):=by omega
  have eb:b = -(b.natAbs:Int):=by omega
  have h1:Int.tdiv a b=(a.natAbs:Int) / (b.natAbs:Int):=by
   rw [← Int.tdiv_eq_ediv_of_nonneg hA]
   conv=>lhs;rw [ea,eb,Int.neg_tdiv,Int.tdiv_neg,Int.neg_neg]
  have h2:Int.tmod a b = -((a.natAbs:Int) % (b.natAbs:Int)):=by
   rw [← Int.tmod_eq_emod_of_nonneg hA]
   conv=>lhs;rw [ea,eb,Int.neg_tmod,Int.tmod_neg]
  rw [h1,h2,decide_eq_true ha,decide_eq_true hb]
  simp
 ·have ea:a = -(a.natAbs:Int):=by omega
  have eb:b=(b.natAbs:Int):=by omega
  have h1:Int.tdiv a b = -((a.natAbs:Int) / (b.natAbs:Int)):=by
   rw [← Int.tdiv_eq_ediv_of_nonneg hA]
   conv=>lhs;rw [ea,eb,Int.neg_tdiv]
  have h2:Int.tmod a b = -((a.natAbs:Int) % (b.natAbs:Int)):=by
   rw [← Int.tmod_eq_emod_of_nonneg hA]
   conv=>lhs;rw [ea,eb,Int.neg_tmod]
  rw [h1,h2,decide_eq_true ha,decide_eq_false hb]
  simp
 ·have ea:a=(a.natAbs:Int):=by omega
  have eb:b = -(b.natAbs:Int):=by omega
  have h1:Int.tdiv a b = -((a.natAbs:Int) / (b.natAbs:Int)):=by
   rw [← Int.tdiv_eq_ediv_of_nonneg hA]
   conv=>lhs;rw [ea,eb,Int.tdiv_neg]
  have h2:Int.tmod a b=(a.natAbs:Int) % (b.natAbs:Int):=by
   rw [← Int.tmod_eq_emod_of_nonneg hA]
   conv=>lhs;rw [ea,eb,Int.tmod_neg]
  rw [h1,h2,decide_eq_false ha,decide_eq_true hb]
  simp
 ·have ea:a=(a.natAbs:Int):=by omega
  have eb:b=(b.natAbs:Int):=by omega
  have h1:Int.tdiv a b=(a.natAbs:Int) / (b.natAbs:Int):=by
   rw [← Int.tdiv_eq_ediv_of_nonneg hA]
   conv=>lhs;rw [ea,eb]
  have h2:Int.tmod a b=(a.natAbs:Int) % (b.natAbs:Int):=by
   rw [← Int.tmod_eq_emod_of_nonneg hA]
   conv=>lhs;rw [ea,eb]
  rw [h1,h2,decide_eq_false ha,decide_eq_false hb]
  simp
theorem wquo_run {na nb:Bool} {xs ys:List Int} (hx:U32 xs) (hy:U32 ys) (h0:rv nb ys ≠ 0) (h1:xs.length<1048576) (h2:ys.length<1048576) :
  Runs Yir 110 [.agg [.bool na, .sl xs.length (lm xs)], .agg [.bool nb, .sl ys.length (lm ys)]] (.tup [bigAV (Int.tdiv (rv na xs) (rv nb ys)),bigAV (Int.tmod (rv na xs) (rv nb ys))]):=by
 have l1:=rv_len (neg:=na) hx
 have l2:=rv_len (neg:=nb) hy
 have r1:=limbs_run (neg:=na) hx (by omega)
 have r2:=limbs_run (neg:=nb) hy (by omega)
 generalize rv na xs=a at *
 generalize rv nb ys=b at *
 have hb0:limbs b.natAbs ≠ []:=by rw [Ne,limbs_nil];omega
 obtain ⟨qs,rs,q1,q2,q3,q4,q5,q6,q7⟩:=quoLimbs_run (limbs_canon a.natAbs) (limbs_canon b.natAbs) hb0 (by omega) (by omega)
 rw [limbs_val,limbs_val] at q5 q6
 obtain ⟨e1,e2⟩:=tdiv_sign a b _ _ q5 q6
 have m1:=made_run (neg := !(decide (a<0)==decide (b<0))) q1 q3
 have m2:=made_run (neg:=decide (a<0)) q2 q4
 have f1:rv (!(decide (a<0)==decide (b<0))) qs=Int.tdiv a b:=e1
 have f2:rv (decide (a<0)) rs=Int.tmod a b:=e2
 rw [f1] at m1
 rw [f2] at m2
 exact Yrun110 na nb _ _ xs ys _ _ qs rs _ _ r1 r2 q7 m1 m2
theorem asUint_run {n:Nat} {b:Bool} (h:(limbs n).length≤2):Runs Yir 146 [.agg [.bool b, .sl (limbs n).length (lm (limbs n))]] (.int .u64 (n:Nat)):=by
 have hu:=big_u32 n
 have hv:=limbs_val n
 generalize hxs:limbs n=xs at *
 have hl:=RunsW.up (prog:=Yir) (c:=Yc146) (ex := .exit 0) (fin:=Ys146 xs (n:Nat) (xs.length:Nat) (xs.length:Nat))
  (fun i=>Ys146 xs (valL (xs.take i)) (xs.length:Nat) (i:Nat)) xs.length (by intro e;cases e) ?_ ?_ 0 (Nat.zero_le _)
 ·exact Yrun146 b xs (n:Nat) (xs.length:Nat) (xs.length:Nat) (by simpa [valL] using hl)
 ·intro i hi
  have ei:i64.wrap ((i:Int)+1)=((i+1:Nat):Int):=by rw [w64 (by omega) (by omega)];omega
  have e32:u64.wrap (i64.wrap (32*(i:Int)))=((32*i:Nat):Int):=by rw [w64 (by omega) (by omega),wu64 (by omega)];omega
  have em:min (Int.toNat ((32*i:Nat):Int)) (IntKind.bits .u64)=32*i:=by rw [Int.toNat_natCast];show min (32*i) 64=32*i;omega
  have hxi:=getD_u32 hu i
  have k:=Yk146_1 xs (valL (xs.take i)) (xs.length:Nat) (i:Nat) (by simp;omega) (by omega) (by rw [e32];omega)
  rw [ei,e32,em,Int.toNat_natCast,wu64 (n:=xs.getD i 0) (by omega)] at k
  have hp:xs.getD i 0*2^(32*i)<18446744073709551616:=by
   have:=pow2_le (show 32*i≤32 by omega)
   rw [show (2:Int)^32=4294967296 by decide] at this
   have:=Int.mul_le_mul (show xs.getD i 0≤4294967295 by omega) this (by have:=pow2_pos (32*i);omega) (by omega)
   omega
  have h0:=Int.mul_nonneg hxi.1 (show (0:Int)≤2^(32*i) by have:=pow2_pos (32*i);omega)
  have hlt:=take_lt hu i
  rw [pow32_two] at hlt
  rw [wu64 ⟨h0,hp⟩,BitVec.or_comm,or64 hxi.1 hp (by omega) ⟨valL_nonneg (u32_take hu i),hlt⟩] at k
  refine k.to rfl ?_
  rw [take_succ_val xs i hi,pow32_two]
  congr 1
  rw [Int.mul_comm];omega
 ·rw [List.take_length,hv]
  exact Yk146_2 xs (n:Nat) (xs.length:Nat) (xs.length:Nat) (by simp)
theorem gcdUint_run:∀ (f a b:Nat),b≤f→RunsW Yir (.loop Yc145) (Ys145 (a:Nat) (b:Nat)) (.exit 0) (Ys145 (Nat.gcd a b:Nat) 0):=by
 intro f
 induction f with
 | zero =>
  intro a b hb
  have:b=0:=by omega
  subst this
  rw [Nat.gcd_zero_right]
  exact RunsW.loop_out (Yk145_2 _ _ (by simp)) (by intro e;cases e)
 | succ f ih =>
  intro a b hb
  by_cases h0:b=0
  ·subst h0
   rw [Nat.gcd_zero_right]
   exact RunsW.loop_out (Yk145_2 _ _ (by simp)) (by intro e;cases e)
  ·have k:=Yk145_1 (a:Nat) (b:Nat) (by simp;omega) (by omega)
   rw [Int.tmod_eq_emod_of_nonneg (by omega),← Int.natCast_emod] at k
   have hm:=Nat.mod_lt a (show 0<b by omega)
   have:=ih b (a % b) (by omega)
   rw [Nat.gcd_comm b,← Nat.gcd_rec,Nat.gcd_comm b a] at this
   exact RunsW.loop k this
theorem two_cn {n:Nat} (h:(limbs n).length≤2):(n:Int)<18446744073709551616:=by
 have h1:=valL_lt (big_u32 n)
 rw [limbs_val] at h1
 have h2:=pow32_mono h
 rw [show (4294967296:Int)^2=18446744073709551616 by decide] at h2
 omega
theorem ofUint_run {n:Nat} (h:(n:Int)<18446744073709551616):Runs Yir 144 [.int .u64 (n:Nat)] (bigAV (n:Nat)):=by
 obtain ⟨h1,h2⟩:=of_limbs (u:=(n:Nat)) (by omega)
 have m:=made_run (neg:=false) h1 (by simp)
 have e:rv false [u32.wrap (n:Int),u32.wrap (Int.fdiv (n:Int) (2^(min (Int.toNat 32) (IntKind.bits .u64))))]=(n:Nat):=h2
 rw [e] at m
 exact Yrun144 (n:Nat) _ m
theorem cn_nat (n:Nat):cn (n:Nat)=(false,limbs n):=by
 unfold cn
 rw [Int.natAbs_natCast,decide_eq_false (by omega)]
theorem cnlen (n:Nat):(cn (n:Nat)).2.length=(limbs n).length:=by rw [cn_nat]
theorem gcd_loop {K:Nat} (hK:K<1048576):∀ (f a b:Nat),b≤f→Fits K (a:Nat)→Fits K (b:Nat) →
  (∃ y z,RunsW Yir (.loop Yc109) (Ys109 (cn (a:Nat)) (cn (b:Nat)) (false,[])) (.exit 0) (Ys109 (cn (Nat.gcd a b:Nat)) y z)) ∨
  (∃ x y,RunsW Yir (.loop Yc109) (Ys109 (cn (a:Nat)) (cn (b:Nat)) (false,[])) .ret (Ys109 x y (cn (Nat.gcd a b:Nat)))):=by
 intro f
 induction f with
 | zero =>
  intro a b hb _ _
  have:b=0:=by omega
  subst this
  rw [Nat.gcd_zero_right]
  exact Or.inl ⟨_,_,RunsW.loop_out (Yk109_4 _ _ _ (by rw [cnlen];rfl)) (by intro e;cases e)⟩
 | succ f ih =>
  intro a b hb ka kb
  by_cases h0:b=0
  ·subst h0
   rw [Nat.gcd_zero_right]
   exact Or.inl ⟨_,_,RunsW.loop_out (Yk109_4 _ _ _ (by rw [cnlen];rfl)) (by intro e;cases e)⟩
  ·have hbl:0<(limbs b).length:=List.length_pos_iff.2 (by rw [Ne,limbs_nil];exact h0)
   have la:=ka.len
   have lb:=kb.len
   rw [Int.natAbs_natCast] at la lb
   by_cases h2:(limbs a).length≤2∧(limbs b).length≤2
   ·right
    have ta:=two_cn h2.1
    have tb:=two_cn h2.2
    have hg:((Nat.gcd a b:Nat):Int)<18446744073709551616:=by
     have:=Nat.le_of_dvd (by omega) (Nat.gcd_dvd_right a b)
     omega
    have u1:=asUint_run (b:=(cn (a:Nat)).1) h2.1
    have u2:=asUint_run (b:=(cn (b:Nat)).1) h2.2
    have u3:=Yrun145 (a:Nat) (b:Nat) _ _ (gcdUint_run b a b (Nat.le_refl _))
    have u4:=ofUint_run hg
    have k:=Yk109_1 (cn (a:Nat)) (cn (b:Nat)) (false,[]) (a:Nat) (b:Nat) (Nat.gcd a b:Nat) (Nat.gcd a b:Nat) (by rw [cnlen];simp;omega) (by rw [cnlen];simp;omega) (by rw [cnlen];simp;omega) u1 u2 u3 u4
    exact ⟨_,_,RunsW.loop_out k (by intro e;cases e)⟩
   ·have hq:=wquo_run (na:=(cn (a:Nat)).1) (nb:=(cn (b:Nat)).1) (xs:=(cn (a:Nat)).2) (ys:=(cn (b:Nat)).2) (big_u32 _) (big_u32 _) (by have:=rval_cn (b:Nat);unfold rval at this;rw [this];omega) (by rw [cnlen];omega) (by rw [cnlen];omega)
    rw [show rv (cn (a:Nat)).1 (cn (a:Nat)).2=(a:Nat) from rval_cn _,show rv (cn (b:Nat)).1 (cn (b:Nat)).2=(b:Nat) from rval_cn _,Int.tmod_eq_emod_of_nonneg (by omega),← Int.natCast_emod] at hq
    have hm:=Nat.mod_lt a (show 0<b by omega)
    have step:RunsW Yir Yc109 (Ys109 (cn (a:Nat)) (cn (b:Nat)) (false,[])) .norm (Ys109 (cn (b:Nat)) (cn ((a % b:Nat):Int)) (false,[])):=by
     by_cases h3:(limbs a).length≤2
     ·exact Yk109_2 (cn (a:Nat)) (cn (b:Nat)) (false,[]) _ _ (by rw [cnlen];simp;omega) (by rw [cnlen];simp;omega) (by rw [cnlen];simp;omega) hq
     ·exact Yk109_3 (cn (a:Nat)) (cn (b:Nat)) (false,[]) _ _ (by rw [cnlen];simp;omega) (by rw [cnlen];simp;omega) hq
    have kr:Fits K ((a % b:Nat):Int):=by
     unfold Fits at *
     rw [Int.natAbs_natCast] at *
     exact Nat.lt_of_le_of_lt (Nat.le_of_lt hm) kb
    have e:Nat.gcd b (a % b)=Nat.gcd a b:=by rw [Nat.gcd_comm b,← Nat.gcd_rec,Nat.gcd_comm b a]
    rcases ih b (a % b) (by omega) kb kr with ⟨y,z,h⟩ | ⟨x,y,h⟩
    ·rw [e] at h
     exact Or.inl ⟨y,z,RunsW.loop step h⟩
    ·rw [e] at h
     exact Or.inr ⟨x,y,RunsW.loop step h⟩
theorem wgcd_run {na nb:Bool} {xs ys:List Int} (hx:U32 xs) (hy:U32 ys) (h1:xs.length<1048576) (h2:ys.length<1048576) :
  Runs Yir 109 [.agg [.bool na, .sl xs.length (lm xs)], .agg [.bool nb, .sl ys.length (lm ys)]] (bigAV (Int.gcd (rv na xs) (rv nb ys):Nat)):=by
 have a1:=wabs_run (neg:=na) hx (by omega)
 have a2:=wabs_run (neg:=nb) hy (by omega)
 have f1:=rv_fits (neg:=na) hx
 have f2:=rv_fits (neg:=nb) hy
 have g1:Fits (max xs.length ys.length) (((rv na xs).natAbs:Nat):Int):=by
  unfold Fits at *;rw [Int.natAbs_natCast];exact Nat.lt_of_lt_of_le f1 (Nat.pow_le_pow_right (by decide) (by omega))
 have g2:Fits (max xs.length ys.length) (((rv nb ys).natAbs:Nat):Int):=by
  unfold Fits at *;rw [Int.natAbs_natCast];exact Nat.lt_of_lt_of_le f2 (Nat.pow_le_pow_right (by decide) (by omega))
 rcases gcd_loop (K:=max xs.length ys.length) (by omega) _ _ _ (Nat.le_refl _) g1 g2 with ⟨y,z,h⟩ | ⟨x,y,h⟩
 ·exact Yrun109_n na nb xs ys _ _ _ _ _ a1 a2 h
 ·exact Yrun109_r na nb xs ys _ _ _ _ _ a1 a2 h
def TQE:Table:=TQD
theorem TQE_holds:THolds Yir TQE:=TQD_holds
end Go.Proofs.Ythnnfemologhfaa

namespace Go.Proofs.Ythnnfemologhfaa
open Go.IntKind (i64 u64 u32)
open Go.Ai
set_option maxRecDepth 100000
def Ys113i (na:Bool) (nb:Bool) (la:Nat) (xa:List AV) (lb:Nat) (xb:List AV) (n:Nat) (cs:List AV) (i:Int) (x:Int) (c:Int) (k:Int):State:=(dds 4 (.box [.bool false, .sl 0 []]::(.val (.bool na)::(dds 1 (.val (.bool nb)::(.val (.sl lb xb)::(.own 1 n cs::(.val (.int .i64 i)::(.val (.int .u32 x)::(.val (.int .u64 c)::(dds 28 (.val (.sl la xa)::(.val (.int .i64 (la:Int))::(.val (.int .i64 i)::(dds 4 (.val (.sl lb xb)::(.val (.int .i64 (lb:Int))::(.val (.int .i64 k)::(dds 43 [])))))))))))))))))))
theorem Yk113i_1 (na:Bool) (nb:Bool) (la:Nat) (xa:List AV) (lb:Nat) (xb:List AV) (n:Nat) (cs:List AV) (i:Int) (x:Int) (c:Int) (k:Int) (ds:List AV) (y z:Int) (c1:(decide (k<(lb:Int)))=true) (n1:0≤k∧k<(lb:Int)) (n2:takeA (List.drop (Int.toNat k*1) xb) 0 1 true=some (.int .u32 y)) (n3:0≤(i64.wrap (i+k))∧(i64.wrap (i+k))<(n:Int)) (n4:takeA cs (Int.toNat (i64.wrap (i+k))*1) 1 true=some (.int .u32 z)) (n5:0≤(i64.wrap (i+k))∧(i64.wrap (i+k))<(n:Int)) (n6:layA cs (Int.toNat (i64.wrap (i+k))*1) [.int .u32 (u32.wrap (u64.wrap ((u64.wrap ((u64.wrap ((u64.wrap x)*(u64.wrap y)))+(u64.wrap z)))+c)))]=some ds):RunsW Yir Yc113i (Ys113i na nb la xa lb xb n cs i x c k) .norm (Ys113i na nb la xa lb xb n ds i x (Int.fdiv (u64.wrap ((u64.wrap ((u64.wrap ((u64.wrap x)*(u64.wrap y)))+(u64.wrap z)))+c)) (2^(min (Int.toNat 32) (IntKind.bits .u64)))) (i64.wrap (k+1))):=RunsW.script (ps:=[(decide (k<(lb:Int)))=true,0≤k∧k<(lb:Int),takeA (List.drop (Int.toNat k*1) xb) 0 1 true=some (.int .u32 y),0≤(i64.wrap (i+k))∧(i64.wrap (i+k))<(n:Int),takeA cs (Int.toNat (i64.wrap (i+k))*1) 1 true=some (.int .u32 z),¬ (32:Int)<0,0≤(i64.wrap (i+k))∧(i64.wrap (i+k))<(n:Int),layA cs (Int.toNat (i64.wrap (i+k))*1) [.int .u32 (u32.wrap (u64.wrap ((u64.wrap ((u64.wrap ((u64.wrap x)*(u64.wrap y)))+(u64.wrap z)))+c)))]=some ds]) TWB_holds 300 [.b true, .v (.int .u32 y), .v (.int .u32 z), .l ds] [4,5,7,8,9,10,11,12,41,42,43,48,49,50] (by kernel_rfl) ⟨c1,n1,n2,n3,n4,(by decide),n5,n6,trivial⟩
theorem Yk113i_2 (na:Bool) (nb:Bool) (la:Nat) (xa:List AV) (lb:Nat) (xb:List AV) (n:Nat) (cs:List AV) (i:Int) (x:Int) (c:Int) (k:Int) (c1:(decide (k<(lb:Int)))=false):RunsW Yir Yc113i (Ys113i na nb la xa lb xb n cs i x c k) (.exit 2) (Ys113i na nb la xa lb xb n cs i x c k):=RunsW.script (ps:=[(decide (k<(lb:Int)))=false]) TWB_holds 300 [.b false] [4,5,7,8,9,10,11,12,41,42,43,48,49,50] (by kernel_rfl) ⟨c1,trivial⟩
def Ys113 (na:Bool) (nb:Bool) (la:Nat) (xa:List AV) (lb:Nat) (xb:List AV) (n:Nat) (cs:List AV) (i:Int):State:=(dds 4 (.box [.bool false, .sl 0 []]::(.val (.bool na)::(dds 1 (.val (.bool nb)::(.val (.sl lb xb)::(.own 1 n cs::(dds 31 (.val (.sl la xa)::(.val (.int .i64 (la:Int))::(.val (.int .i64 i)::(dds 50 []))))))))))))
theorem Yko113_no (na nb:Bool) (la:Nat) (xa:List AV) (lb:Nat) (xb:List AV) (n:Nat) (cs:List AV) (i:Int) (h:(decide (i<(la:Int)))=false):RunsW Yir Yc113 (Ys113 na nb la xa lb xb n cs i) (.exit 0) (Ys113 na nb la xa lb xb n cs i):=RunsW.script (ps:=[(decide (i<(la:Int)))=false]) TWB_holds 300 [.b false] [4,5,7,8,9,41,42,43] (by kernel_rfl) ⟨h,trivial⟩
theorem Yko113_yes (na nb:Bool) (la:Nat) (xa:List AV) (lb:Nat) (xb:List AV) (n:Nat) (cs ds es:List AV) (i x c k:Int) (h:(decide (i<(la:Int)))=true) (hi:0≤i∧i<(la:Int)) (hx:takeA (List.drop (Int.toNat i*1) xa) 0 1 true=some (.int .u32 x)) (hl:RunsW Yir (.loop Yc113i) (Ys113i na nb la xa lb xb n cs i x 0 0) (.exit 2) (Ys113i na nb la xa lb xb n ds i x c k)) (hix:0≤i64.wrap (i+(lb:Int))∧i64.wrap (i+(lb:Int))<(n:Int)) (hst:layA ds (Int.toNat (i64.wrap (i+(lb:Int)))*1) [.int .u32 (u32.wrap c)]=some es):RunsW Yir Yc113 (Ys113 na nb la xa lb xb n cs i) .norm (Ys113 na nb la xa lb xb n es (i64.wrap (i+1))):=(RunsW.seq (RunsW.script (t:=(dds 4 (.box [.bool false, .sl 0 []]::(.val (.bool na)::(dds 1 (.val (.bool nb)::(.val (.sl lb xb)::(.own 1 n cs::(dds 31 (.val (.sl la xa)::(vi (la:Int)::(vi i::(.val (.bool (decide (i<(la:Int))))::(dds 49 [])))))))))))))) (ex := .norm) (ps:=[]) TWB_holds 300 [] [4,5,7,8,9,41,42,43,44] (by kernel_rfl) trivial) (RunsW.seq (RunsW.script (t:=(dds 4 (.box [.bool false, .sl 0 []]::(.val (.bool na)::(dds 1 (.val (.bool nb)::(.val (.sl lb xb)::(.own 1 n cs::(dds 31 (.val (.sl la xa)::(vi (la:Int)::(vi i::(.val (.bool (decide (i<(la:Int))))::(dds 49 [])))))))))))))) (ex := .norm) (ps:=[(decide (i<(la:Int)))=true]) TWB_holds 300 [.b true] [4,5,7,8,9,41,42,43,44] (by kernel_rfl) ⟨h,trivial⟩) (RunsW.seq (RunsW.block_norm (RunsW.seq (RunsW.script (t:=(dds 4 (.box [.bool false, .sl 0 []]::(.val (.bool na)::(dds 1 (.val (.bool nb)::(.val (.sl lb xb)::(.own 1 n cs::(vi i::(.val (.int .u32 x)::(dds 29 (.val (.sl la xa)::(vi (la:Int)::(vi i::(.val (.bool (decide (i<(la:Int))))::(vi i::(.mem (List.drop (Int.toNat i*1) xa)::(.val (.int .u32 x)::(dds 46 []))))))))))))))))))) (ex := .norm) (ps:=[0≤i∧i<(la:Int),takeA (List.drop (Int.toNat i*1) xa) 0 1 true=some (.int .u32 x)]) TWB_holds 300 [.v (.int .u32 x)] [4,5,7,8,9,10,11,41,42,43,44,45,46,47] (by kernel_rfl) ⟨hi,hx,trivial⟩) (RunsW.seq (RunsW.script (t:=(dds 4 (.box [.bool false, .sl 0 []]::(.val (.bool na)::(dds 1 (.val (.bool nb)::(.val (.sl lb xb)::(.own 1 n cs::(vi i::(.val (.int .u32 x)::(.val (.int .u64 0)::(dds 28 (.val (.sl la xa)::(vi (la:Int)::(vi i::(.val (.bool (decide (i<(la:Int))))::(vi i::(.mem (List.drop (Int.toNat i*1) xa)::(.val (.int .u32 x)::(dds 46 [])))))))))))))))))))) (ex := .norm) (ps:=[]) TWB_holds 300 [] [4,5,7,8,9,10,11,12,41,42,43,44,45,46,47] (by kernel_rfl) trivial) (RunsW.seq (RunsW.seq (RunsW.script (t:=(dds 4 (.box [.bool false, .sl 0 []]::(.val (.bool na)::(dds 1 (.val (.bool nb)::(.val (.sl lb xb)::(.own 1 n cs::(vi i::(.val (.int .u32 x)::(.val (.int .u64 0)::(dds 28 (.val (.sl la xa)::(vi (la:Int)::(vi i::(dds 4 (.val (.sl lb xb)::(vi (lb:Int)::(vi 0::(dds 43 [])))))))))))))))))))) (ex := .norm) (ps:=[]) TWB_holds 300 [] [4,5,7,8,9,10,11,12,41,42,43,48,49,50] (by kernel_rfl) trivial) (RunsW.block hl)) (RunsW.script (t:=(dds 4 (.box [.bool false, .sl 0 []]::(.val (.bool na)::(dds 1 (.val (.bool nb)::(.val (.sl lb xb)::(.own 1 n es::(vi i::(.val (.int .u32 x)::(.val (.int .u64 c)::(dds 28 (.val (.sl la xa)::(vi (la:Int)::(vi i::(dds 4 (.val (.sl lb xb)::(vi (lb:Int)::(vi k::(dds 29 (.dup 9::(vi i::(.val (.sl lb xb)::(vi (lb:Int)::(vi (i64.wrap (i+(lb:Int)))::(.val (.int .u64 c)::(.val (.int .u32 (u32.wrap c))::(.ptr 9 (Int.toNat (i64.wrap (i+(lb:Int)))*1)::(dds 6 []))))))))))))))))))))))))))))) (ex := .norm) (ps:=[0≤(i64.wrap (i+(lb:Int)))∧(i64.wrap (i+(lb:Int)))<(n:Int),layA ds (Int.toNat (i64.wrap (i+(lb:Int)))*1) [.int .u32 (u32.wrap c)]=some es]) TWB_holds 300 [.l es] [4,5,7,8,9,10,11,12,41,42,43,48,49,50,80,81,82,83,84,85,86,87] (by kernel_rfl) ⟨hix,hst,trivial⟩))))) (RunsW.script (t:=(dds 4 (.box [.bool false, .sl 0 []]::(.val (.bool na)::(dds 1 (.val (.bool nb)::(.val (.sl lb xb)::(.own 1 n es::(dds 31 (.val (.sl la xa)::(vi (la:Int)::(vi (i64.wrap (i+1))::(dds 50 []))))))))))))) (ex := .norm) (ps:=[]) TWB_holds 300 [] [4,5,7,8,9,41,42,43] (by kernel_rfl) trivial))))
theorem Yloop113i (na nb:Bool) (xs ys:List Int) (hx:U32 xs) (hy:U32 ys) (n i:Nat) (hn:n≤1048576) (hib:i+ys.length≤n):∀ (r k:Nat) (out:List Int) (c:Int),r+k=ys.length→out.length=n→U32 out→0≤c∧c<4294967296 →
  RunsW Yir (.loop Yc113i) (Ys113i na nb xs.length (lm xs) ys.length (lm ys) n (lm out) (i:Int) (xs.getD i 0) c (k:Int)) (.exit 2)
   (Ys113i na nb xs.length (lm xs) ys.length (lm ys) n (lm (innGo (xs.getD i 0) ys i r k out c).1) (i:Int) (xs.getD i 0) (innGo (xs.getD i 0) ys i r k out c).2 (ys.length:Int)):=by
 intro r
 induction r with
 | zero =>
  intro k out c hk _ _ _
  have hk':k=ys.length:=by omega
  subst hk'
  exact RunsW.loop_out (Yk113i_2 na nb xs.length (lm xs) ys.length (lm ys) n (lm out) (i:Int) (xs.getD i 0) c (ys.length:Int) (by simp)) (by intro e;cases e)
 | succ r ih =>
  intro k out c hk hl hu hc
  have hai:=getD_u32 hx i
  have hbk:=getD_u32 hy k
  have hok:=getD_u32 hu (i+k)
  obtain ⟨w1,w2,w3,w4⟩:=word_bd hai hbk hc hok
  have ei:i64.wrap ((i:Int)+(k:Int))=((i+k:Nat):Int):=by rw [w64 (by omega) (by omega)];omega
  have ek:i64.wrap ((k:Int)+1)=((k+1:Nat):Int):=by rw [w64 (by omega) (by omega)];omega
  have hz:=own_lim (xs:=out) (i:=i+k) (by omega)
  have hyk:=take_lim (xs:=ys) (i:=k) (by omega)
  have hst:=lay_lim (xs:=out) (i:=i+k) (v:=(c+(out.getD (i+k) 0+xs.getD i 0*ys.getD k 0)) % 4294967296) (by omega)
  have eW:u64.wrap (u64.wrap (u64.wrap (u64.wrap (xs.getD i 0)*u64.wrap (ys.getD k 0))+u64.wrap (out.getD (i+k) 0))+c)=c+(out.getD (i+k) 0+xs.getD i 0*ys.getD k 0):=by
   have q1:u64.wrap (xs.getD i 0)=xs.getD i 0:=by rw [wu64m];omega
   have q2:u64.wrap (ys.getD k 0)=ys.getD k 0:=by rw [wu64m];omega
   have q3:u64.wrap (out.getD (i+k) 0)=out.getD (i+k) 0:=by rw [wu64m];omega
   rw [q1,q2,q3,wu64m,wu64m,wu64m]
   omega
  have eS:Int.fdiv (c+(out.getD (i+k) 0+xs.getD i 0*ys.getD k 0)) (2^(min (Int.toNat 32) (IntKind.bits .u64)))=(c+(out.getD (i+k) 0+xs.getD i 0*ys.getD k 0)) / 4294967296:=by
   show Int.fdiv _ 4294967296=_
   rw [Int.fdiv_eq_ediv_of_nonneg _ (by omega)]
  have h1:=Yk113i_1 na nb xs.length (lm xs) ys.length (lm ys) n (lm out) (i:Int) (xs.getD i 0) c (k:Int) (lm (out.set (i+k) ((c+(out.getD (i+k) 0+xs.getD i 0*ys.getD k 0)) % 4294967296))) (ys.getD k 0) (out.getD (i+k) 0)
   (by simp;omega) (by omega) (by rw [Int.toNat_natCast];exact hyk) (by rw [ei];omega) (by rw [ei,Int.toNat_natCast];exact hz) (by rw [ei];omega) (by rw [ei,Int.toNat_natCast,eW,wu32];exact hst)
  rw [eW,eS,ek] at h1
  exact RunsW.loop h1 (ih (k+1) _ _ (by omega) (by simpa using hl) (u32_set hu (by omega)) (by omega))
theorem Yloop113 (na nb:Bool) (xs ys:List Int) (hx:U32 xs) (hy:U32 ys) (hN:xs.length+ys.length≤1048576):∀ (r i:Nat) (out:List Int),r+i=xs.length→out.length=xs.length+ys.length→U32 out→(∀ j,i+ys.length≤j→out.getD j 0=0) →
  ∃ out',out'.length=xs.length+ys.length∧U32 out'∧valL out'=valL out+4294967296^i*(valL (xs.drop i)*valL ys) ∧
   RunsW Yir (.loop Yc113) (Ys113 na nb xs.length (lm xs) ys.length (lm ys) (xs.length+ys.length) (lm out) (i:Int)) (.exit 0) (Ys113 na nb xs.length (lm xs) ys.length (lm ys) (xs.length+ys.length) (lm out') (xs.length:Int)):=by
 intro r
 induction r with
 | zero =>
  intro i out hi hl hu _
  have hi':i=xs.length:=by omega
  subst hi'
  refine ⟨out,hl,hu,by simp [valL],?_⟩
  exact RunsW.loop_out (Yko113_no na nb xs.length (lm xs) ys.length (lm ys) (xs.length+ys.length) (lm out) (xs.length:Int) (by simp)) (by intro e;cases e)
 | succ r ih =>
  intro i out hi hl hu hz
  have hai:=getD_u32 hx i
  have hlt:i<xs.length:=by omega
  have hin:=Yloop113i na nb xs ys hx hy (xs.length+ys.length) i hN (by omega) ys.length 0 out 0 (by omega) hl hu (by omega)
  obtain ⟨g1,g2,g3,g4,g5⟩:=innGo_ok (i:=i) hai hy ys.length 0 out 0 (by omega) (by omega) hu (by omega)
  generalize innGo (xs.getD i 0) ys i ys.length 0 out 0=q at *
  obtain ⟨ds,c⟩:=q
  dsimp only at g1 g2 g3 g4 g5 hin
  have ei:i64.wrap ((i:Int)+(ys.length:Int))=((i+ys.length:Nat):Int):=by rw [w64 (by omega) (by omega)];omega
  have ei1:i64.wrap ((i:Int)+1)=((i+1:Nat):Int):=by rw [w64 (by omega) (by omega)];omega
  have ec:u32.wrap c=c:=by rw [wu32];omega
  have hst:=lay_lim (xs:=ds) (i:=i+ys.length) (v:=c) (by omega)
  have hxi:=take_lim (xs:=xs) (i:=i) hlt
  have h1:=Yko113_yes na nb xs.length (lm xs) ys.length (lm ys) (xs.length+ys.length) (lm out) (lm ds) (lm (ds.set (i+ys.length) c)) (i:Int) (xs.getD i 0) c (ys.length:Int) (by simp;omega) (by omega) (by rw [Int.toNat_natCast];exact hxi) hin (by rw [ei];omega) (by rw [ei,Int.toNat_natCast,ec];exact hst)
  rw [ei1] at h1
  obtain ⟨out',k1,k2,k3,k4⟩:=ih (i+1) (ds.set (i+ys.length) c) (by omega) (by simp;omega) (u32_set g2 g3) (fun j hj=>by rw [getD_set_ne (by omega),g5 j (by omega),hz j (by omega)])
  refine ⟨out',k1,k2,?_,RunsW.loop h1 k4⟩
  have hv:valL (ds.set (i+ys.length) c)=valL out+4294967296^i*(xs.getD i 0*valL ys):=by
   rw [valL_set ds _ _ (by omega),g5 _ (Nat.le_refl _),hz _ (Nat.le_refl _)]
   simp only [Nat.add_zero,List.drop_zero,Int.zero_add,Int.sub_zero] at g4 ⊢
   exact g4
  have hd:valL (xs.drop i)=xs.getD i 0+4294967296*valL (xs.drop (i+1)):=drop_val xs i
  rw [k3,hv,hd,Int.pow_succ]
  generalize (4294967296:Int)^i=p at *
  generalize valL (xs.drop (i+1))=V at *
  grind
theorem Yrun113_a (na:Bool) (xs:List Int) (nb:Bool) (ys:List Int) (a b:Int) (h1:Runs Yir 122 [.agg [.bool na, .sl xs.length (lm xs)]] (.tup [.bool (decide (a<0)), .sl (limbs (Int.natAbs a)).length (lm (limbs (Int.natAbs a)))])) (h2:Runs Yir 122 [.agg [.bool nb, .sl ys.length (lm ys)]] (.tup [.bool (decide (b<0)), .sl (limbs (Int.natAbs b)).length (lm (limbs (Int.natAbs b)))])) (z:((((limbs (Int.natAbs a)).length:Nat):Int)==0)=true):Runs Yir 113 [.agg [.bool na, .sl xs.length (lm xs)], .agg [.bool nb, .sl ys.length (lm ys)]] (.agg [.bool false, .sl 0 []]):=Runs.script (ps:=[Runs Yir 122 [.agg [.bool na, .sl xs.length (lm xs)]] (.tup [.bool (decide (a<0)), .sl ((limbs (Int.natAbs a)).length) (lm (limbs (Int.natAbs a)))]),Runs Yir 122 [.agg [.bool nb, .sl ys.length (lm ys)]] (.tup [.bool (decide (b<0)), .sl ((limbs (Int.natAbs b)).length) (lm (limbs (Int.natAbs b)))]),((((limbs (Int.natAbs a)).length:Nat):Int)==0)=true,true=true]) TWB_holds rfl 300 rfl [.r (.tup [.bool (decide (a<0)), .sl ((limbs (Int.natAbs a)).length) (lm (limbs (Int.natAbs a)))]), .r (.tup [.bool (decide (b<0)), .sl ((limbs (Int.natAbs b)).length) (lm (limbs (Int.natAbs b)))]), .b true, .b true] (by kernel_rfl) ⟨h1,h2,z,rfl,trivial⟩
theorem Yrun113_b (na:Bool) (xs:List Int) (nb:Bool) (ys:List Int) (a b:Int) (h1:Runs Yir 122 [.agg [.bool na, .sl xs.length (lm xs)]] (.tup [.bool (decide (a<0)), .sl (limbs (Int.natAbs a)).length (lm (limbs (Int.natAbs a)))])) (h2:Runs Yir 122 [.agg [.bool nb, .sl ys.length (lm ys)]] (.tup [.bool (decide (b<0)), .sl (limbs (Int.natAbs b)).length (lm (limbs (Int.natAbs b)))])) (y:((((limbs (Int.natAbs a)).length:Nat):Int)==0)=false) (z:((((limbs (Int.natAbs b)).length:Nat):Int)==0)=true):Runs Yir 113 [.agg [.bool na, .sl xs.length (lm xs)], .agg [.bool nb, .sl ys.length (lm ys)]] (.agg [.bool false, .sl 0 []]):=Runs.script (ps:=[Runs Yir 122 [.agg [.bool na, .sl xs.length (lm xs)]] (.tup [.bool (decide (a<0)), .sl ((limbs (Int.natAbs a)).length) (lm (limbs (Int.natAbs a)))]),Runs Yir 122 [.agg [.bool nb, .sl ys.length (lm ys)]] (.tup [.bool (decide (b<0)), .sl ((limbs (Int.natAbs b)).length) (lm (limbs (Int.natAbs b)))]),((((limbs (Int.natAbs a)).length:Nat):Int)==0)=false,((((limbs (Int.natAbs b)).length:Nat):Int)==0)=true]) TWB_holds rfl 300 rfl [.r (.tup [.bool (decide (a<0)), .sl ((limbs (Int.natAbs a)).length) (lm (limbs (Int.natAbs a)))]), .r (.tup [.bool (decide (b<0)), .sl ((limbs (Int.natAbs b)).length) (lm (limbs (Int.natAbs b)))]), .b false, .b true] (by kernel_rfl) ⟨h1,h2,y,z,trivial⟩
theorem Yrun113_c (na:Bool) (xs:List Int) (nb:Bool) (ys:List Int) (a b:Int) (h1:Runs Yir 122 [.agg [.bool na, .sl xs.length (lm xs)]] (.tup [.bool (decide (a<0)), .sl (limbs (Int.natAbs a)).length (lm (limbs (Int.natAbs a)))])) (h2:Runs Yir 122 [.agg [.bool nb, .sl ys.length (lm ys)]] (.tup [.bool (decide (b<0)), .sl (limbs (Int.natAbs b)).length (lm (limbs (Int.natAbs b)))])) (out:List Int) (r:Int) (y:((((limbs (Int.natAbs a)).length:Nat):Int)==0)=false) (z:((((limbs (Int.natAbs b)).length:Nat):Int)==0)=false) (hmk:0≤i64.wrap ((((limbs (Int.natAbs a)).length:Nat):Int)+(((limbs (Int.natAbs b)).length:Nat):Int))∧i64.wrap ((((limbs (Int.natAbs a)).length:Nat):Int)+(((limbs (Int.natAbs b)).length:Nat):Int))≤1048576) (hl:RunsW Yir (.loop Yc113) (Ys113 (decide (a<0)) (decide (b<0)) (limbs (Int.natAbs a)).length (lm (limbs (Int.natAbs a))) (limbs (Int.natAbs b)).length (lm (limbs (Int.natAbs b))) (Int.toNat (i64.wrap ((((limbs (Int.natAbs a)).length:Nat):Int)+(((limbs (Int.natAbs b)).length:Nat):Int)))) (replA [.int .u32 0] (Int.toNat (i64.wrap ((((limbs (Int.natAbs a)).length:Nat):Int)+(((limbs (Int.natAbs b)).length:Nat):Int))))) 0) (.exit 0) (Ys113 (decide (a<0)) (decide (b<0)) (limbs (Int.natAbs a)).length (lm (limbs (Int.natAbs a))) (limbs (Int.natAbs b)).length (lm (limbs (Int.natAbs b))) (Int.toNat (i64.wrap ((((limbs (Int.natAbs a)).length:Nat):Int)+(((limbs (Int.natAbs b)).length:Nat):Int)))) (lm out) (((limbs (Int.natAbs a)).length:Nat):Int))) (h3:Runs Yir 133 [.bool (!((decide (a<0))==(decide (b<0)))), .sl (Int.toNat (i64.wrap ((((limbs (Int.natAbs a)).length:Nat):Int)+(((limbs (Int.natAbs b)).length:Nat):Int)))) (lm out)] (.agg [.bool (decide (r<0)), .sl ((limbs (Int.natAbs r)).length) (lm (limbs (Int.natAbs r)))])):Runs Yir 113 [.agg [.bool na, .sl xs.length (lm xs)], .agg [.bool nb, .sl ys.length (lm ys)]] (.agg [.bool (decide (r<0)), .sl ((limbs (Int.natAbs r)).length) (lm (limbs (Int.natAbs r)))]):=Runs.of_bodyW (fn:=Yi113) (s:=(dds 4 (.box [.bool (decide (r<0)), .sl ((limbs (Int.natAbs r)).length) (lm (limbs (Int.natAbs r)))]::(.val (.bool (decide (a<0)))::(dds 1 (.val (.bool (decide (b<0)))::(.val (.sl ((limbs (Int.natAbs b)).length) (lm (limbs (Int.natAbs b))))::(.val (.sl (Int.toNat (i64.wrap ((((limbs (Int.natAbs a)).length:Nat):Int)+(((limbs (Int.natAbs b)).length:Nat):Int)))) (lm out))::(dds 31 (.val (.sl ((limbs (Int.natAbs a)).length) (lm (limbs (Int.natAbs a))))::(.val (.int .i64 (((limbs (Int.natAbs a)).length:Nat):Int))::(.val (.int .i64 (((limbs (Int.natAbs a)).length:Nat):Int))::(dds 45 (.val (.bool (decide (a<0)))::(.val (.bool (decide (b<0)))::(.val (.bool (!((decide (a<0))==(decide (b<0)))))::(.val (.sl (Int.toNat (i64.wrap ((((limbs (Int.natAbs a)).length:Nat):Int)+(((limbs (Int.natAbs b)).length:Nat):Int)))) (lm out))::(.val (.agg [.bool (decide (r<0)), .sl ((limbs (Int.natAbs r)).length) (lm (limbs (Int.natAbs r)))])::[])))))))))))))))))) (ex := .ret) rfl rfl (RunsW.seq (RunsW.script (t:=(.val (.agg [.bool na, .sl xs.length (lm xs)])::(.val (.agg [.bool nb, .sl ys.length (lm ys)])::(.box [.bool na, .sl xs.length (lm xs)]::(.box [.bool nb, .sl ys.length (lm ys)]::(.box [.bool false, .sl 0 []]::(dds 89 []))))))) (ex := .norm) (ps:=[]) TWB_holds 300 [] [0,1,2,3,4] (by kernel_rfl) trivial) (RunsW.seq (RunsW.script (t:=(.val (.agg [.bool na, .sl xs.length (lm xs)])::(.val (.agg [.bool nb, .sl ys.length (lm ys)])::(.box [.bool na, .sl xs.length (lm xs)]::(.box [.bool nb, .sl ys.length (lm ys)]::(.box [.bool false, .sl 0 []]::(.val (.bool (decide (a<0)))::(.val (.sl ((limbs (Int.natAbs a)).length) (lm (limbs (Int.natAbs a))))::(dds 9 (.val (.tup [.bool (decide (a<0)), .sl ((limbs (Int.natAbs a)).length) (lm (limbs (Int.natAbs a)))])::(.val (.agg [.bool na, .sl xs.length (lm xs)])::(.val (.tup [.bool (decide (a<0)), .sl ((limbs (Int.natAbs a)).length) (lm (limbs (Int.natAbs a)))])::(.val (.bool (decide (a<0)))::(.val (.sl ((limbs (Int.natAbs a)).length) (lm (limbs (Int.natAbs a))))::(dds 73 []))))))))))))))) (ex := .norm) (ps:=[Runs Yir 122 [.agg [.bool na, .sl xs.length (lm xs)]] (.tup [.bool (decide (a<0)), .sl ((limbs (Int.natAbs a)).length) (lm (limbs (Int.natAbs a)))])]) TWB_holds 300 [.r (.tup [.bool (decide (a<0)), .sl ((limbs (Int.natAbs a)).length) (lm (limbs (Int.natAbs a)))])] [0,1,2,3,4,5,6,16,17,18,19,20] (by kernel_rfl) ⟨h1,trivial⟩) (RunsW.seq (RunsW.script (t:=(.val (.agg [.bool na, .sl xs.length (lm xs)])::(.val (.agg [.bool nb, .sl ys.length (lm ys)])::(.box [.bool na, .sl xs.length (lm xs)]::(.box [.bool nb, .sl ys.length (lm ys)]::(.box [.bool false, .sl 0 []]::(.val (.bool (decide (a<0)))::(.val (.sl ((limbs (Int.natAbs a)).length) (lm (limbs (Int.natAbs a))))::(.val (.bool (decide (b<0)))::(.val (.sl ((limbs (Int.natAbs b)).length) (lm (limbs (Int.natAbs b))))::(dds 7 (.val (.tup [.bool (decide (a<0)), .sl ((limbs (Int.natAbs a)).length) (lm (limbs (Int.natAbs a)))])::(.val (.agg [.bool na, .sl xs.length (lm xs)])::(.val (.tup [.bool (decide (a<0)), .sl ((limbs (Int.natAbs a)).length) (lm (limbs (Int.natAbs a)))])::(.val (.bool (decide (a<0)))::(.val (.sl ((limbs (Int.natAbs a)).length) (lm (limbs (Int.natAbs a))))::(.val (.tup [.bool (decide (b<0)), .sl ((limbs (Int.natAbs b)).length) (lm (limbs (Int.natAbs b)))])::(.val (.agg [.bool nb, .sl ys.length (lm ys)])::(.val (.tup [.bool (decide (b<0)), .sl ((limbs (Int.natAbs b)).length) (lm (limbs (Int.natAbs b)))])::(.val (.bool (decide (b<0)))::(.val (.sl ((limbs (Int.natAbs b)).length) (lm (limbs (Int.natAbs b))))::(dds 68 [])))))))))))))))))))))) (ex := .norm) (ps:=[Runs Yir 122 [.agg [.bool nb, .sl ys.length (lm ys)]] (.tup [.bool (decide (b<0)), .sl ((limbs (Int.natAbs b)).length) (lm (limbs (Int.natAbs b)))])]) TWB_holds 300 [.r (.tup [.bool (decide (b<0)), .sl ((limbs (Int.natAbs b)).length) (lm (limbs (Int.natAbs b)))])] [0,1,2,3,4,5,6,7,8,16,17,18,19,20,21,22,23,24,25] (by kernel_rfl) ⟨h2,trivial⟩) (RunsW.seq (RunsW.script (t:=(.val (.agg [.bool na, .sl xs.length (lm xs)])::(.val (.agg [.bool nb, .sl ys.length (lm ys)])::(.box [.bool na, .sl xs.length (lm xs)]::(.box [.bool nb, .sl ys.length (lm ys)]::(.box [.bool false, .sl 0 []]::(.val (.bool (decide (a<0)))::(.val (.sl ((limbs (Int.natAbs a)).length) (lm (limbs (Int.natAbs a))))::(.val (.bool (decide (b<0)))::(.val (.sl ((limbs (Int.natAbs b)).length) (lm (limbs (Int.natAbs b))))::(dds 7 (.val (.tup [.bool (decide (a<0)), .sl ((limbs (Int.natAbs a)).length) (lm (limbs (Int.natAbs a)))])::(.val (.agg [.bool na, .sl xs.length (lm xs)])::(.val (.tup [.bool (decide (a<0)), .sl ((limbs (Int.natAbs a)).length) (lm (limbs (Int.natAbs a)))])::(.val (.bool (decide (a<0)))::(.val (.sl ((limbs (Int.natAbs a)).length) (lm (limbs (Int.natAbs a))))::(.val (.tup [.bool (decide (b<0)), .sl ((limbs (Int.natAbs b)).length) (lm (limbs (Int.natAbs b)))])::(.val (.agg [.bool nb, .sl ys.length (lm ys)])::(.val (.tup [.bool (decide (b<0)), .sl ((limbs (Int.natAbs b)).length) (lm (limbs (Int.natAbs b)))])::(.val (.bool (decide (b<0)))::(.val (.sl ((limbs (Int.natAbs b)).length) (lm (limbs (Int.natAbs b))))::(.val (.sl ((limbs (Int.natAbs a)).length) (lm (limbs (Int.natAbs a))))::(vi (((limbs (Int.natAbs a)).length:Nat):Int)::(.val (.bool ((((limbs (Int.natAbs a)).length:Nat):Int)==0))::(.val (.bool ((((limbs (Int.natAbs a)).length:Nat):Int)==0))::(.val (.sl ((limbs (Int.natAbs b)).length) (lm (limbs (Int.natAbs b))))::(vi (((limbs (Int.natAbs b)).length:Nat):Int)::(.val (.bool ((((limbs (Int.natAbs b)).length:Nat):Int)==0))::(.val (.bool ((((limbs (Int.natAbs b)).length:Nat):Int)==0))::(dds 60 [])))))))))))))))))))))))))))))) (ex := .norm) (ps:=[((((limbs (Int.natAbs a)).length:Nat):Int)==0)=false,((((limbs (Int.natAbs b)).length:Nat):Int)==0)=false]) TWB_holds 300 [.b false, .b false] [0,1,2,3,4,5,6,7,8,16,17,18,19,20,21,22,23,24,25,26,27,28,29,30,31,32,33] (by kernel_rfl) ⟨y,z,trivial⟩) (RunsW.seq (RunsW.script (t:=(.val (.agg [.bool na, .sl xs.length (lm xs)])::(.val (.agg [.bool nb, .sl ys.length (lm ys)])::(.box [.bool na, .sl xs.length (lm xs)]::(.box [.bool nb, .sl ys.length (lm ys)]::(.box [.bool false, .sl 0 []]::(.val (.bool (decide (a<0)))::(.val (.sl ((limbs (Int.natAbs a)).length) (lm (limbs (Int.natAbs a))))::(.val (.bool (decide (b<0)))::(.val (.sl ((limbs (Int.natAbs b)).length) (lm (limbs (Int.natAbs b))))::(.own 1 (Int.toNat (i64.wrap ((((limbs (Int.natAbs a)).length:Nat):Int)+(((limbs (Int.natAbs b)).length:Nat):Int)))) (replA [.int .u32 0] (Int.toNat (i64.wrap ((((limbs (Int.natAbs a)).length:Nat):Int)+(((limbs (Int.natAbs b)).length:Nat):Int)))))::(dds 6 (.val (.tup [.bool (decide (a<0)), .sl ((limbs (Int.natAbs a)).length) (lm (limbs (Int.natAbs a)))])::(.val (.agg [.bool na, .sl xs.length (lm xs)])::(.val (.tup [.bool (decide (a<0)), .sl ((limbs (Int.natAbs a)).length) (lm (limbs (Int.natAbs a)))])::(.val (.bool (decide (a<0)))::(.val (.sl ((limbs (Int.natAbs a)).length) (lm (limbs (Int.natAbs a))))::(.val (.tup [.bool (decide (b<0)), .sl ((limbs (Int.natAbs b)).length) (lm (limbs (Int.natAbs b)))])::(.val (.agg [.bool nb, .sl ys.length (lm ys)])::(.val (.tup [.bool (decide (b<0)), .sl ((limbs (Int.natAbs b)).length) (lm (limbs (Int.natAbs b)))])::(.val (.bool (decide (b<0)))::(.val (.sl ((limbs (Int.natAbs b)).length) (lm (limbs (Int.natAbs b))))::(.val (.sl ((limbs (Int.natAbs a)).length) (lm (limbs (Int.natAbs a))))::(vi (((limbs (Int.natAbs a)).length:Nat):Int)::(.val (.bool ((((limbs (Int.natAbs a)).length:Nat):Int)==0))::(.val (.bool ((((limbs (Int.natAbs a)).length:Nat):Int)==0))::(.val (.sl ((limbs (Int.natAbs b)).length) (lm (limbs (Int.natAbs b))))::(vi (((limbs (Int.natAbs b)).length:Nat):Int)::(.val (.bool ((((limbs (Int.natAbs b)).length:Nat):Int)==0))::(.val (.bool ((((limbs (Int.natAbs b)).length:Nat):Int)==0))::(dds 1 (.val (.sl ((limbs (Int.natAbs a)).length) (lm (limbs (Int.natAbs a))))::(vi (((limbs (Int.natAbs a)).length:Nat):Int)::(.val (.sl ((limbs (Int.natAbs b)).length) (lm (limbs (Int.natAbs b))))::(vi (((limbs (Int.natAbs b)).length:Nat):Int)::(vi (i64.wrap ((((limbs (Int.natAbs a)).length:Nat):Int)+(((limbs (Int.natAbs b)).length:Nat):Int)))::(dds 54 []))))))))))))))))))))))))))))))))))))) (ex := .norm) (ps:=[0≤(i64.wrap ((((limbs (Int.natAbs a)).length:Nat):Int)+(((limbs (Int.natAbs b)).length:Nat):Int)))∧(i64.wrap ((((limbs (Int.natAbs a)).length:Nat):Int)+(((limbs (Int.natAbs b)).length:Nat):Int)))≤1048576]) TWB_holds 300 [] ((0)::(1)::(2)::(3)::(4)::(5)::(6)::(7)::(8)::(9)::(16)::(17)::(18)::(19)::(20)::(21)::(22)::(23)::(24)::(25)::(26)::(27)::(28)::(29)::(30)::(31)::(32)::(33)::(35)::(36)::(37)::(38)::(39)::[]) (by kernel_rfl) ⟨hmk,trivial⟩) (RunsW.seq (RunsW.seq (RunsW.script (t:=(dds 4 (.box [.bool false, .sl 0 []]::(.val (.bool (decide (a<0)))::(dds 1 (.val (.bool (decide (b<0)))::(.val (.sl ((limbs (Int.natAbs b)).length) (lm (limbs (Int.natAbs b))))::(.own 1 (Int.toNat (i64.wrap ((((limbs (Int.natAbs a)).length:Nat):Int)+(((limbs (Int.natAbs b)).length:Nat):Int)))) (replA [.int .u32 0] (Int.toNat (i64.wrap ((((limbs (Int.natAbs a)).length:Nat):Int)+(((limbs (Int.natAbs b)).length:Nat):Int)))))::(dds 31 (.val (.sl ((limbs (Int.natAbs a)).length) (lm (limbs (Int.natAbs a))))::(vi (((limbs (Int.natAbs a)).length:Nat):Int)::(vi 0::(dds 50 []))))))))))))) (ex := .norm) (ps:=[]) TWB_holds 300 [] [4,5,7,8,9,41,42,43] (by kernel_rfl) trivial) (RunsW.block hl)) (RunsW.script (t:=(dds 4 (bN r::(.val (.bool (decide (a<0)))::(dds 1 (.val (.bool (decide (b<0)))::(.val (.sl ((limbs (Int.natAbs b)).length) (lm (limbs (Int.natAbs b))))::(.val (.sl (Int.toNat (i64.wrap ((((limbs (Int.natAbs a)).length:Nat):Int)+(((limbs (Int.natAbs b)).length:Nat):Int)))) (lm out))::(dds 31 (.val (.sl ((limbs (Int.natAbs a)).length) (lm (limbs (Int.natAbs a))))::(vi (((limbs (Int.natAbs a)).length:Nat):Int)::(vi (((limbs (Int.natAbs a)).length:Nat):Int)::(dds 45 (.val (.bool (decide (a<0)))::(.val (.bool (decide (b<0)))::(.val (.bool (!((decide (a<0))==(decide (b<0)))))::(.val (.sl (Int.toNat (i64.wrap ((((limbs (Int.natAbs a)).length:Nat):Int)+(((limbs (Int.natAbs b)).length:Nat):Int)))) (lm out))::(.val (.agg [.bool (decide (r<0)), .sl ((limbs (Int.natAbs r)).length) (lm (limbs (Int.natAbs r)))])::[])))))))))))))))))) (ex := .ret) (ps:=[Runs Yir 133 [.bool (!((decide (a<0))==(decide (b<0)))), .sl (Int.toNat (i64.wrap ((((limbs (Int.natAbs a)).length:Nat):Int)+(((limbs (Int.natAbs b)).length:Nat):Int)))) (lm out)] (.agg [.bool (decide (r<0)), .sl ((limbs (Int.natAbs r)).length) (lm (limbs (Int.natAbs r)))])]) TWB_holds 300 [.r (.agg [.bool (decide (r<0)), .sl ((limbs (Int.natAbs r)).length) (lm (limbs (Int.natAbs r)))])] [4,5,7,8,9,41,42,43,89,90,91,92,93] (by kernel_rfl) ⟨h3,trivial⟩))))))) (by intro i e;cases e) rfl
theorem rv_times (a b:Int) (zs:List Int) (h:valL zs=(a.natAbs:Int)*(b.natAbs:Int)):rv (!(decide (a<0)==decide (b<0))) zs=a*b:=by
 unfold rv
 rw [h]
 by_cases g1:a<0 <;> by_cases g2:b<0
 ·have e1:(a.natAbs:Int) = -a:=by omega
  have e2:(b.natAbs:Int) = -b:=by omega
  rw [e1,e2];simp [g1,g2] <;> grind
 ·have e1:(a.natAbs:Int) = -a:=by omega
  have e2:(b.natAbs:Int)=b:=by omega
  rw [e1,e2];simp [g1,g2] <;> grind
 ·have e1:(a.natAbs:Int)=a:=by omega
  have e2:(b.natAbs:Int) = -b:=by omega
  rw [e1,e2];simp [g1,g2] <;> grind
 ·have e1:(a.natAbs:Int)=a:=by omega
  have e2:(b.natAbs:Int)=b:=by omega
  rw [e1,e2];simp [g1,g2]
theorem wmul_run {na nb:Bool} {xs ys:List Int} (hx:U32 xs) (hy:U32 ys) (hN:xs.length+ys.length≤1048576):Runs Yir 113 [.agg [.bool na, .sl xs.length (lm xs)], .agg [.bool nb, .sl ys.length (lm ys)]] (bigAV (rv na xs*rv nb ys)):=by
 have l1:=rv_len (neg:=na) hx
 have l2:=rv_len (neg:=nb) hy
 have k1:=limbs_run (neg:=na) hx (by omega)
 have k2:=limbs_run (neg:=nb) hy (by omega)
 generalize rv na xs=a at *
 generalize rv nb ys=b at *
 have z1:=limbs_zero_len a.natAbs
 have z2:=limbs_zero_len b.natAbs
 by_cases ha:a=0
 ·have h:=Yrun113_a na xs nb ys a b k1 k2 (by rw [beq_iff_eq];omega)
  rw [ha,Int.zero_mul]
  exact h
 by_cases hb:b=0
 ·have h:=Yrun113_b na xs nb ys a b k1 k2 (by rw [beq_eq_false_iff_ne];omega) (by rw [beq_iff_eq];omega)
  rw [hb,Int.mul_zero]
  exact h
 have e1:i64.wrap ((((limbs (Int.natAbs a)).length:Nat):Int)+(((limbs (Int.natAbs b)).length:Nat):Int))=(((limbs (Int.natAbs a)).length+(limbs (Int.natAbs b)).length:Nat):Int):=by rw [w64 (by omega) (by omega)];omega
 have e2:(Int.toNat (i64.wrap ((((limbs (Int.natAbs a)).length:Nat):Int)+(((limbs (Int.natAbs b)).length:Nat):Int))))=(limbs (Int.natAbs a)).length+(limbs (Int.natAbs b)).length:=by rw [e1,Int.toNat_natCast]
 obtain ⟨out,o1,o2,o3,o4⟩:=Yloop113 (decide (a<0)) (decide (b<0)) (limbs (Int.natAbs a)) (limbs (Int.natAbs b)) (big_u32 _) (big_u32 _) (by omega) (limbs (Int.natAbs a)).length 0 (List.replicate ((limbs (Int.natAbs a)).length+(limbs (Int.natAbs b)).length) 0) (by omega) (by simp) (u32_zeros _) (fun j _=>getD_zeros _ j)
 have hv:valL out=(a.natAbs:Int)*(b.natAbs:Int):=by rw [o3,valL_zeros];simp [limbs_val]
 have h3:=made_run (neg := !(decide (a<0)==decide (b<0))) o2 (by omega)
 rw [rv_times a b out hv,o1] at h3
 exact Yrun113_c na xs nb ys a b k1 k2 out _ (by rw [beq_eq_false_iff_ne];omega) (by rw [beq_eq_false_iff_ne];omega) (by rw [e1];omega) (by rw [e2,repl_lim];exact o4) (by rw [e2];exact h3)
def TWC:Table:=TWB
theorem TWC_holds:THolds Yir TWC:=TWB_holds
end Go.Proofs.Ythnnfemologhfaa

namespace Go.Proofs.Ythnnfemologhfaa
open Go.IntKind (i64 u64 u32)
open Go.Ai
set_option maxRecDepth 100000
def Ys62 (N:Nat) (cs:List AV) (i:Int):State:=(.val (.sl N cs)::(dds 1 (.val (.int .i64 0)::(.val (.int .i64 i)::(dds 16 [])))))
theorem Yk62_1 (N:Nat) (cs:List AV) (i:Int) (r:Rn) (v:Int) (c1:(decide (i≥0))=true) (c2:(v==0)=true) (n1:0≤i∧i<(N:Int)) (n2:takeA (List.drop (Int.toNat i*2) cs) 0 2 false=some (.agg [.bool r.1, .sl r.2.length (lm r.2)])) (n3:Runs Yir 73 [.agg [.bool r.1, .sl r.2.length (lm r.2)]] (.int .i64 v)):RunsW Yir Yc62 (Ys62 N cs i) .norm (Ys62 N cs (i64.wrap (i-1))):=RunsW.script (ps:=[(decide (i≥0))=true,0≤i∧i<(N:Int),takeA (List.drop (Int.toNat i*2) cs) 0 2 false=some (.agg [.bool r.1, .sl r.2.length (lm r.2)]),Runs Yir 73 [.agg [.bool r.1, .sl r.2.length (lm r.2)]] (.int .i64 v),(v==0)=true]) TWC_holds 300 [.b true, .v (.agg [.bool r.1, .sl r.2.length (lm r.2)]), .r (.int .i64 v), .b true] [0,2,3] (by kernel_rfl) ⟨c1,n1,n2,n3,c2,trivial⟩
theorem Yk62_2 (N:Nat) (cs:List AV) (i:Int) (r:Rn) (v:Int) (c1:(decide (i≥0))=true) (c2:(v==0)=false) (n1:0≤i∧i<(N:Int)) (n2:takeA (List.drop (Int.toNat i*2) cs) 0 2 false=some (.agg [.bool r.1, .sl r.2.length (lm r.2)])) (n3:Runs Yir 73 [.agg [.bool r.1, .sl r.2.length (lm r.2)]] (.int .i64 v)):RunsW Yir Yc62 (Ys62 N cs i) (.exit 0) (Ys62 N cs i):=RunsW.script (ps:=[(decide (i≥0))=true,0≤i∧i<(N:Int),takeA (List.drop (Int.toNat i*2) cs) 0 2 false=some (.agg [.bool r.1, .sl r.2.length (lm r.2)]),Runs Yir 73 [.agg [.bool r.1, .sl r.2.length (lm r.2)]] (.int .i64 v),(v==0)=false]) TWC_holds 300 [.b true, .v (.agg [.bool r.1, .sl r.2.length (lm r.2)]), .r (.int .i64 v), .b false] [0,2,3] (by kernel_rfl) ⟨c1,n1,n2,n3,c2,trivial⟩
theorem Yk62_3 (N:Nat) (cs:List AV) (i:Int) (c1:(decide (i≥0))=false):RunsW Yir Yc62 (Ys62 N cs i) (.exit 0) (Ys62 N cs i):=RunsW.script (ps:=[(decide (i≥0))=false,false=false]) TWC_holds 300 [.b false, .b false] [0,2,3] (by kernel_rfl) ⟨c1,rfl,trivial⟩
theorem sgn_zero {n:Int}:sgnI n=0↔n=0:=by unfold sgnI;split <;> (try split) <;> omega
theorem Yloop62 (rs:List Rn) (hg:∀ r∈rs,Good 1048576 r) (hN:rs.length≤1048576):∀ m,m≤rs.length→RunsW Yir (.loop Yc62) (Ys62 rs.length (pc rs) ((m:Int)-1)) (.exit 0) (Ys62 rs.length (pc rs) (((topN (vals rs) m:Nat):Int)-1)):=by
 intro m
 induction m with
 | zero =>
  intro _
  exact RunsW.loop_out (Yk62_3 rs.length (pc rs) (((0:Nat):Int)-1) (by simp)) (by intro e;cases e)
 | succ m ih =>
  intro hm
  have e0:((m+1:Nat):Int)-1=(m:Int):=by omega
  have e1:i64.wrap ((m:Int)-1)=(m:Int)-1:=w64 (by omega) (by omega)
  have hx:=take_pc (rs:=rs) (i:=m) (by omega)
  have gm:=good_getD hg m
  have hs:=wsign_run (neg:=(rs.getD m z0).1) gm.1 gm.2
  rw [e0]
  simp only [topN]
  rw [vals_getD]
  by_cases h0:rval (rs.getD m z0)=0
  ·rw [if_pos h0]
   have h1:=Yk62_1 rs.length (pc rs) (m:Int) (rs.getD m z0) (sgnI (rval (rs.getD m z0))) (by simp) (by rw [beq_iff_eq];exact sgn_zero.2 h0) (by omega) (by rw [Int.toNat_natCast];exact hx) hs
   rw [e1] at h1
   exact RunsW.loop h1 (ih (by omega))
  ·rw [if_neg h0,e0]
   exact RunsW.loop_out (Yk62_2 rs.length (pc rs) (m:Int) (rs.getD m z0) (sgnI (rval (rs.getD m z0))) (by simp) (by rw [beq_eq_false_iff_ne];exact fun h=>h0 (sgn_zero.1 h)) (by omega) (by rw [Int.toNat_natCast];exact hx) hs) (by intro e;cases e)
theorem degree_run {rs:List Rn} (hg:∀ r∈rs,Good 1048576 r) (hN:rs.length≤1048576):Runs Yir 62 [.sl rs.length (pc rs)] (.int .i64 (((topN (vals rs) rs.length:Nat):Int)-1)):=by
 have e1:i64.wrap ((rs.length:Int)-1)=(rs.length:Int)-1:=w64 (by omega) (by omega)
 have hl:RunsW Yir (.loop Yc62) (Ys62 rs.length (pc rs) (i64.wrap ((rs.length:Int)-1))) (.exit 0) (Ys62 rs.length (pc rs) (((topN (vals rs) rs.length:Nat):Int)-1)):=by
  rw [e1];exact Yloop62 rs hg hN rs.length (Nat.le_refl _)
 exact Runs.of_bodyW (fn:=Yi62) (s:=(.val (.sl rs.length (pc rs))::(dds 1 (.val (.int .i64 (((topN (vals rs) rs.length:Nat):Int)-1))::(.val (.int .i64 (((topN (vals rs) rs.length:Nat):Int)-1))::(dds 15 (.val (.int .i64 (((topN (vals rs) rs.length:Nat):Int)-1))::[]))))))) (ex := .ret) rfl rfl
  (RunsW.seq (RunsW.script (t:=(.val (.sl rs.length (pc rs))::(dds 1 (.val (.int .i64 0)::(dds 17 []))))) (ex := .norm) (ps:=[]) TWC_holds 300 [] [0,2] (by kernel_rfl) trivial)
  (RunsW.seq (RunsW.script (t:=(.val (.sl rs.length (pc rs))::(dds 1 (.val (.int .i64 0)::(.val (.int .i64 (i64.wrap ((rs.length:Int)-1)))::(dds 16 [])))))) (ex := .norm) (ps:=[]) TWC_holds 300 [] [0,2,3] (by kernel_rfl) trivial)
  (RunsW.seq (RunsW.block hl)
  (RunsW.script (t:=(.val (.sl rs.length (pc rs))::(dds 1 (.val (.int .i64 (((topN (vals rs) rs.length:Nat):Int)-1))::(.val (.int .i64 (((topN (vals rs) rs.length:Nat):Int)-1))::(dds 15 (.val (.int .i64 (((topN (vals rs) rs.length:Nat):Int)-1))::[]))))))) (ex := .ret) (ps:=[]) TWC_holds 300 [] [0,2,3,19] (by kernel_rfl) trivial)))) (by intro i e;cases e) rfl
def Ys92 (N:Nat) (cs:List AV) (n:Nat) (os:List AV) (m:Int) (i:Int):State:=(.val (.sl N cs)::(dds 1 (.own 2 0 []::(dds 1 (.own 2 n os::(dds 9 (.val (.int .i64 m)::(.val (.int .i64 i)::(dds 12 [])))))))))
theorem Yk92_1 (N:Nat) (cs:List AV) (n:Nat) (os:List AV) (m:Int) (i:Int) (ds:List AV) (r:Rn) (v:Int) (c1:(decide (i<m))=true) (n1:0≤i∧i<(N:Int)) (n2:takeA (List.drop (Int.toNat i*2) cs) 0 2 false=some (.agg [.bool r.1, .sl r.2.length (lm r.2)])) (n3:Runs Yir 132 [.agg [.bool r.1, .sl r.2.length (lm r.2)]] (.agg [.bool (decide (v<0)), .sl ((limbs (Int.natAbs v)).length) (lm (limbs (Int.natAbs v)))])) (n4:0≤i∧i<(n:Int)) (n5:layA os (Int.toNat i*2) [.bool (decide (v<0)), .sl ((limbs (Int.natAbs v)).length) (lm (limbs (Int.natAbs v)))]=some ds):RunsW Yir Yc92 (Ys92 N cs n os m i) .norm (Ys92 N cs n ds m (i64.wrap (i+1))):=RunsW.script (ps:=[(decide (i<m))=true,0≤i∧i<(N:Int),takeA (List.drop (Int.toNat i*2) cs) 0 2 false=some (.agg [.bool r.1, .sl r.2.length (lm r.2)]),Runs Yir 132 [.agg [.bool r.1, .sl r.2.length (lm r.2)]] (.agg [.bool (decide (v<0)), .sl ((limbs (Int.natAbs v)).length) (lm (limbs (Int.natAbs v)))]),0≤i∧i<(n:Int),layA os (Int.toNat i*2) [.bool (decide (v<0)), .sl ((limbs (Int.natAbs v)).length) (lm (limbs (Int.natAbs v)))]=some ds]) TWC_holds 300 [.b true, .v (.agg [.bool r.1, .sl r.2.length (lm r.2)]), .r (.agg [.bool (decide (v<0)), .sl ((limbs (Int.natAbs v)).length) (lm (limbs (Int.natAbs v)))]), .l ds] [0,2,4,14,15] (by kernel_rfl) ⟨c1,n1,n2,n3,n4,n5,trivial⟩
theorem Yk92_2 (N:Nat) (cs:List AV) (n:Nat) (os:List AV) (m:Int) (i:Int) (c1:(decide (i<m))=false):RunsW Yir Yc92 (Ys92 N cs n os m i) (.exit 0) (Ys92 N cs n os m i):=RunsW.script (ps:=[(decide (i<m))=false]) TWC_holds 300 [.b false] [0,2,4,14,15] (by kernel_rfl) ⟨c1,trivial⟩
theorem Yloop92 (rs:List Rn) (hg:∀ r∈rs,Good 1048576 r) (hN:rs.length≤1048576) (n:Nat) (hn:n≤rs.length):∀ (r i:Nat),i+r=n →
  RunsW Yir (.loop Yc92) (Ys92 rs.length (pc rs) n (pc (fillTo (fun j=>cn (rval (rs.getD j z0))) i r)) (n:Int) (i:Int)) (.exit 0) (Ys92 rs.length (pc rs) n (pc (fillTo (fun j=>cn (rval (rs.getD j z0))) n 0)) (n:Int) (n:Int)):=by
 intro r
 induction r with
 | zero =>
  intro i hi
  have hi':i=n:=by omega
  subst hi'
  exact RunsW.loop_out (Yk92_2 rs.length (pc rs) i _ (i:Int) (i:Int) (by simp)) (by intro e;cases e)
 | succ r ih =>
  intro i hi
  have ei:i64.wrap ((i:Int)+1)=((i+1:Nat):Int):=by rw [w64 (by omega) (by omega)];omega
  have hx:=take_pc (rs:=rs) (i:=i) (by omega)
  have gm:=good_getD hg i
  have hs:=wtrim_run (neg:=(rs.getD i z0).1) gm.1 gm.2
  have hst:=lay_pc (rs:=fillTo (fun j=>cn (rval (rs.getD j z0))) i (r+1)) (i:=i) (r:=cn (rval (rs.getD i z0))) (by rw [fillTo_length];omega)
  rw [fillTo_set (fun j=>cn (rval (rs.getD j z0))) i r] at hst
  have h1:=Yk92_1 rs.length (pc rs) n _ (n:Int) (i:Int) _ (rs.getD i z0) (rval (rs.getD i z0)) (by simp;omega) (by omega) (by rw [Int.toNat_natCast];exact hx) hs (by omega) (by rw [Int.toNat_natCast];exact hst)
  rw [ei] at h1
  exact RunsW.loop h1 (ih (i+1) (by omega))
theorem Yrun92_z (rs:List Rn) (hd:Runs Yir 62 [.sl rs.length (pc rs)] (.int .i64 (((topN (vals rs) rs.length:Nat):Int)-1))) (hz:((i64.wrap ((((topN (vals rs) rs.length:Nat):Int)-1)+1))==0)=true):Runs Yir 92 [.sl rs.length (pc rs)] (.fresh 2 0 []):=Runs.script (ps:=[Runs Yir 62 [.sl rs.length (pc rs)] (.int .i64 (((topN (vals rs) rs.length:Nat):Int)-1)),((i64.wrap ((((topN (vals rs) rs.length:Nat):Int)-1)+1))==0)=true]) TWC_holds rfl 300 rfl [.r (.int .i64 (((topN (vals rs) rs.length:Nat):Int)-1)), .b true] (by kernel_rfl) ⟨hd,hz,trivial⟩
theorem Yrun92_p (rs ss:List Rn) (hd:Runs Yir 62 [.sl rs.length (pc rs)] (.int .i64 (((topN (vals rs) rs.length:Nat):Int)-1))) (hz:((i64.wrap ((((topN (vals rs) rs.length:Nat):Int)-1)+1))==0)=false) (hmk:0≤i64.wrap ((((topN (vals rs) rs.length:Nat):Int)-1)+1)∧i64.wrap ((((topN (vals rs) rs.length:Nat):Int)-1)+1)≤1048576) (hl:RunsW Yir (.loop Yc92) (Ys92 rs.length (pc rs) (Int.toNat (i64.wrap ((((topN (vals rs) rs.length:Nat):Int)-1)+1))) (replA [.bool false, .sl 0 []] (Int.toNat (i64.wrap ((((topN (vals rs) rs.length:Nat):Int)-1)+1)))) (((Int.toNat (i64.wrap ((((topN (vals rs) rs.length:Nat):Int)-1)+1))):Nat):Int) 0) (.exit 0) (Ys92 rs.length (pc rs) (Int.toNat (i64.wrap ((((topN (vals rs) rs.length:Nat):Int)-1)+1))) (pc ss) (((Int.toNat (i64.wrap ((((topN (vals rs) rs.length:Nat):Int)-1)+1))):Nat):Int) (((Int.toNat (i64.wrap ((((topN (vals rs) rs.length:Nat):Int)-1)+1))):Nat):Int))):Runs Yir 92 [.sl rs.length (pc rs)] (.fresh 2 (Int.toNat (i64.wrap ((((topN (vals rs) rs.length:Nat):Int)-1)+1))) (pc ss)):=Runs.of_bodyW (fn:=Yi92) (s:=(.val (.sl rs.length (pc rs))::(dds 1 (.own 2 (Int.toNat (i64.wrap ((((topN (vals rs) rs.length:Nat):Int)-1)+1))) (pc ss)::(dds 11 (.val (.int .i64 (((Int.toNat (i64.wrap ((((topN (vals rs) rs.length:Nat):Int)-1)+1))):Nat):Int))::(.val (.int .i64 (((Int.toNat (i64.wrap ((((topN (vals rs) rs.length:Nat):Int)-1)+1))):Nat):Int))::(dds 12 [])))))))) (ex := .ret) rfl rfl (RunsW.seq (RunsW.script (t:=(vp rs::(dds 1 (.own 2 0 []::(dds 25 []))))) (ex := .norm) (ps:=[]) TWC_holds 300 [] [0,2] (by kernel_rfl) trivial) (RunsW.seq (RunsW.script (t:=(vp rs::(dds 1 (.own 2 0 []::(vi (i64.wrap ((((topN (vals rs) rs.length:Nat):Int)-1)+1))::(dds 2 (vp rs::(vi (((topN (vals rs) rs.length:Nat):Int)-1)::(vi (i64.wrap ((((topN (vals rs) rs.length:Nat):Int)-1)+1))::(dds 19 [])))))))))) (ex := .norm) (ps:=[Runs Yir 62 [.sl rs.length (pc rs)] (.int .i64 (((topN (vals rs) rs.length:Nat):Int)-1))]) TWC_holds 300 [.r (.int .i64 (((topN (vals rs) rs.length:Nat):Int)-1))] [0,2,3,6,7,8] (by kernel_rfl) ⟨hd,trivial⟩) (RunsW.seq (RunsW.script (t:=(vp rs::(dds 1 (.own 2 0 []::(vi (i64.wrap ((((topN (vals rs) rs.length:Nat):Int)-1)+1))::(dds 2 (vp rs::(vi (((topN (vals rs) rs.length:Nat):Int)-1)::(vi (i64.wrap ((((topN (vals rs) rs.length:Nat):Int)-1)+1))::(vi (i64.wrap ((((topN (vals rs) rs.length:Nat):Int)-1)+1))::(.val (.bool ((i64.wrap ((((topN (vals rs) rs.length:Nat):Int)-1)+1))==0))::(dds 17 [])))))))))))) (ex := .norm) (ps:=[((i64.wrap ((((topN (vals rs) rs.length:Nat):Int)-1)+1))==0)=false]) TWC_holds 300 [.b false] [0,2,3,6,7,8,9,10] (by kernel_rfl) ⟨hz,trivial⟩) (RunsW.seq (RunsW.script (t:=(vp rs::(dds 1 (.own 2 0 []::(vi (i64.wrap ((((topN (vals rs) rs.length:Nat):Int)-1)+1))::(.own 2 (Int.toNat (i64.wrap ((((topN (vals rs) rs.length:Nat):Int)-1)+1))) (replA [.bool false, .sl 0 []] (Int.toNat (i64.wrap ((((topN (vals rs) rs.length:Nat):Int)-1)+1))))::(dds 1 (vp rs::(vi (((topN (vals rs) rs.length:Nat):Int)-1)::(vi (i64.wrap ((((topN (vals rs) rs.length:Nat):Int)-1)+1))::(vi (i64.wrap ((((topN (vals rs) rs.length:Nat):Int)-1)+1))::(.val (.bool ((i64.wrap ((((topN (vals rs) rs.length:Nat):Int)-1)+1))==0))::(vi (i64.wrap ((((topN (vals rs) rs.length:Nat):Int)-1)+1))::(dds 16 [])))))))))))))) (ex := .norm) (ps:=[0≤(i64.wrap ((((topN (vals rs) rs.length:Nat):Int)-1)+1))∧(i64.wrap ((((topN (vals rs) rs.length:Nat):Int)-1)+1))≤1048576]) TWC_holds 300 [] [0,2,3,4,6,7,8,9,10,11] (by kernel_rfl) ⟨hmk,trivial⟩) (RunsW.seq (RunsW.seq (RunsW.script (t:=(vp rs::(dds 1 (.own 2 0 []::(dds 1 (.own 2 (Int.toNat (i64.wrap ((((topN (vals rs) rs.length:Nat):Int)-1)+1))) (replA [.bool false, .sl 0 []] (Int.toNat (i64.wrap ((((topN (vals rs) rs.length:Nat):Int)-1)+1))))::(dds 9 (vi (((Int.toNat (i64.wrap ((((topN (vals rs) rs.length:Nat):Int)-1)+1))):Nat):Int)::(vi 0::(dds 12 [])))))))))) (ex := .norm) (ps:=[]) TWC_holds 300 [] [0,2,4,14,15] (by kernel_rfl) trivial) (RunsW.block hl)) (RunsW.script (t:=(vp rs::(dds 1 (.own 2 (Int.toNat (i64.wrap ((((topN (vals rs) rs.length:Nat):Int)-1)+1))) (pc ss)::(dds 11 (vi (((Int.toNat (i64.wrap ((((topN (vals rs) rs.length:Nat):Int)-1)+1))):Nat):Int)::(vi (((Int.toNat (i64.wrap ((((topN (vals rs) rs.length:Nat):Int)-1)+1))):Nat):Int)::(dds 12 [])))))))) (ex := .ret) (ps:=[]) TWC_holds 300 [] [0,2,14,15] (by kernel_rfl) trivial)))))) (by intro i e;cases e) rfl
theorem atrim_run {rs:List Rn} (hg:∀ r∈rs,Good 1048576 r) (hN:rs.length≤1048576):Runs Yir 92 [.sl rs.length (pc rs)] (.fresh 2 (trimL (vals rs)).length (pk (trimL (vals rs)))):=by
 have hle:=topN_le (vals rs) rs.length
 have hlen:(trimL (vals rs)).length=topN (vals rs) rs.length:=by rw [trim_length,vals_length]
 have hd:=degree_run hg hN
 have e1:i64.wrap ((((topN (vals rs) rs.length:Nat):Int)-1)+1)=((topN (vals rs) rs.length:Nat):Int):=by rw [w64 (by omega) (by omega)];omega
 have e2:(Int.toNat (i64.wrap ((((topN (vals rs) rs.length:Nat):Int)-1)+1)))=topN (vals rs) rs.length:=by rw [e1,Int.toNat_natCast]
 by_cases h0:topN (vals rs) rs.length=0
 ·have h:=Yrun92_z rs hd (by rw [e1,h0];rfl)
  have:trimL (vals rs)=[]:=List.eq_nil_of_length_eq_zero (by omega)
  rw [this]
  exact h
 ·have hl:=Yloop92 rs hg hN (topN (vals rs) rs.length) hle (topN (vals rs) rs.length) 0 (by omega)
  rw [fillTo_zero,← repl_pc] at hl
  have h:=Yrun92_p rs _ hd (by rw [e1,beq_eq_false_iff_ne];omega) (by rw [e1];omega) (by rw [e2];exact hl)
  rw [e2,fillTo_full] at h
  have e3:(List.range (topN (vals rs) rs.length)).map (fun j=>cn (rval (rs.getD j z0)))=(trimL (vals rs)).map cn:=by
   rw [← range_cn,hlen]
   apply List.map_congr_left
   intro i _
   rw [getD_trim,vals_getD]
  rw [e3] at h
  rw [hlen]
  exact h
def Ys127 (N:Nat) (cs:List AV) (n:Nat) (os:List AV) (m:Int) (i:Int):State:=(.val (.sl N cs)::(dds 1 (.own 2 0 []::(.own 2 n os::(dds 5 (.val (.int .i64 m)::(.val (.int .i64 i)::(dds 12 []))))))))
theorem Yk127_1 (N:Nat) (cs:List AV) (n:Nat) (os:List AV) (m:Int) (i:Int) (ds:List AV) (r:Rn) (v:Int) (c1:(decide (i<m))=true) (n1:0≤i∧i<(N:Int)) (n2:takeA (List.drop (Int.toNat i*2) cs) 0 2 false=some (.agg [.bool r.1, .sl r.2.length (lm r.2)])) (n3:Runs Yir 112 [.agg [.bool r.1, .sl r.2.length (lm r.2)]] (.agg [.bool (decide (v<0)), .sl ((limbs (Int.natAbs v)).length) (lm (limbs (Int.natAbs v)))])) (n4:0≤i∧i<(n:Int)) (n5:layA os (Int.toNat i*2) [.bool (decide (v<0)), .sl ((limbs (Int.natAbs v)).length) (lm (limbs (Int.natAbs v)))]=some ds):RunsW Yir Yc127 (Ys127 N cs n os m i) .norm (Ys127 N cs n ds m (i64.wrap (i+1))):=RunsW.script (ps:=[(decide (i<m))=true,0≤i∧i<(N:Int),takeA (List.drop (Int.toNat i*2) cs) 0 2 false=some (.agg [.bool r.1, .sl r.2.length (lm r.2)]),Runs Yir 112 [.agg [.bool r.1, .sl r.2.length (lm r.2)]] (.agg [.bool (decide (v<0)), .sl ((limbs (Int.natAbs v)).length) (lm (limbs (Int.natAbs v)))]),0≤i∧i<(n:Int),layA os (Int.toNat i*2) [.bool (decide (v<0)), .sl ((limbs (Int.natAbs v)).length) (lm (limbs (Int.natAbs v)))]=some ds]) TWC_holds 300 [.b true, .v (.agg [.bool r.1, .sl r.2.length (lm r.2)]), .r (.agg [.bool (decide (v<0)), .sl ((limbs (Int.natAbs v)).length) (lm (limbs (Int.natAbs v)))]), .l ds] [0,2,3,9,10] (by kernel_rfl) ⟨c1,n1,n2,n3,n4,n5,trivial⟩
theorem Yk127_2 (N:Nat) (cs:List AV) (n:Nat) (os:List AV) (m:Int) (i:Int) (c1:(decide (i<m))=false):RunsW Yir Yc127 (Ys127 N cs n os m i) (.exit 0) (Ys127 N cs n os m i):=RunsW.script (ps:=[(decide (i<m))=false]) TWC_holds 300 [.b false] [0,2,3,9,10] (by kernel_rfl) ⟨c1,trivial⟩
theorem Yloop127 (rs:List Rn) (hg:∀ r∈rs,Good 1048576 r) (hN:rs.length≤1048576) (n:Nat) (hn:n≤rs.length):∀ (r i:Nat),i+r=n →
  RunsW Yir (.loop Yc127) (Ys127 rs.length (pc rs) n (pc (fillTo (fun j=>cn (-(rval (rs.getD j z0)))) i r)) (n:Int) (i:Int)) (.exit 0) (Ys127 rs.length (pc rs) n (pc (fillTo (fun j=>cn (-(rval (rs.getD j z0)))) n 0)) (n:Int) (n:Int)):=by
 intro r
 induction r with
 | zero =>
  intro i hi
  have hi':i=n:=by omega
  subst hi'
  exact RunsW.loop_out (Yk127_2 rs.length (pc rs) i _ (i:Int) (i:Int) (by simp)) (by intro e;cases e)
 | succ r ih =>
  intro i hi
  have ei:i64.wrap ((i:Int)+1)=((i+1:Nat):Int):=by rw [w64 (by omega) (by omega)];omega
  have hx:=take_pc (rs:=rs) (i:=i) (by omega)
  have gm:=good_getD hg i
  have hs:=wneg_run (neg:=(rs.getD i z0).1) gm.1 gm.2
  have hst:=lay_pc (rs:=fillTo (fun j=>cn (-(rval (rs.getD j z0)))) i (r+1)) (i:=i) (r:=cn (-(rval (rs.getD i z0)))) (by rw [fillTo_length];omega)
  rw [fillTo_set (fun j=>cn (-(rval (rs.getD j z0)))) i r] at hst
  have h1:=Yk127_1 rs.length (pc rs) n _ (n:Int) (i:Int) _ (rs.getD i z0) (-(rval (rs.getD i z0))) (by simp;omega) (by omega) (by rw [Int.toNat_natCast];exact hx) hs (by omega) (by rw [Int.toNat_natCast];exact hst)
  rw [ei] at h1
  exact RunsW.loop h1 (ih (i+1) (by omega))
theorem Yrun127 (rs ss:List Rn) (hmk:0≤(rs.length:Int)∧(rs.length:Int)≤1048576) (hl:RunsW Yir (.loop Yc127) (Ys127 rs.length (pc rs) (Int.toNat (rs.length:Int)) (replA [.bool false, .sl 0 []] (Int.toNat (rs.length:Int))) (rs.length:Int) 0) (.exit 0) (Ys127 rs.length (pc rs) (Int.toNat (rs.length:Int)) (pc ss) (rs.length:Int) (rs.length:Int))):Runs Yir 127 [.sl rs.length (pc rs)] (.fresh 2 (Int.toNat (rs.length:Int)) (pc ss)):=Runs.of_bodyW (fn:=Yi127) (s:=(.val (.sl rs.length (pc rs))::(dds 1 (.own 2 (Int.toNat (rs.length:Int)) (pc ss)::(dds 6 (.val (.int .i64 (rs.length:Int))::(.val (.int .i64 (rs.length:Int))::(dds 12 [])))))))) (ex := .ret) rfl rfl (RunsW.seq (RunsW.script (t:=(vp rs::(dds 1 (.own 2 0 []::(dds 20 []))))) (ex := .norm) (ps:=[]) TWC_holds 300 [] [0,2] (by kernel_rfl) trivial) (RunsW.seq (RunsW.script (t:=(vp rs::(dds 1 (.own 2 0 []::(.own 2 (Int.toNat (rs.length:Int)) (replA [.bool false, .sl 0 []] (Int.toNat (rs.length:Int)))::(dds 1 (vp rs::(vi (rs.length:Int)::(dds 16 []))))))))) (ex := .norm) (ps:=[0≤(rs.length:Int)∧(rs.length:Int)≤1048576]) TWC_holds 300 [] [0,2,3,5,6] (by kernel_rfl) ⟨hmk,trivial⟩) (RunsW.seq (RunsW.seq (RunsW.script (t:=(vp rs::(dds 1 (.own 2 0 []::(.own 2 (Int.toNat (rs.length:Int)) (replA [.bool false, .sl 0 []] (Int.toNat (rs.length:Int)))::(dds 5 (vi (rs.length:Int)::(vi 0::(dds 12 []))))))))) (ex := .norm) (ps:=[]) TWC_holds 300 [] [0,2,3,9,10] (by kernel_rfl) trivial) (RunsW.block hl)) (RunsW.script (t:=(vp rs::(dds 1 (.own 2 (Int.toNat (rs.length:Int)) (pc ss)::(dds 6 (vi (rs.length:Int)::(vi (rs.length:Int)::(dds 12 [])))))))) (ex := .ret) (ps:=[]) TWC_holds 300 [] [0,2,9,10] (by kernel_rfl) trivial)))) (by intro i e;cases e) rfl
theorem anegative_run {rs:List Rn} (hg:∀ r∈rs,Good 1048576 r) (hN:rs.length≤1048576):Runs Yir 127 [.sl rs.length (pc rs)] (.fresh 2 rs.length (pk (pneg (vals rs)))):=by
 have hl:=Yloop127 rs hg hN rs.length (Nat.le_refl _) rs.length 0 (by omega)
 rw [fillTo_zero,← repl_pc] at hl
 have h:=Yrun127 rs _ (by omega) (by rw [Int.toNat_natCast];exact hl)
 rw [Int.toNat_natCast,fillTo_full] at h
 have e3:(List.range rs.length).map (fun j=>cn (-(rval (rs.getD j z0))))=(pneg (vals rs)).map cn:=by
  have hq:(pneg (vals rs)).length=rs.length:=by simp [pneg,vals]
  rw [← range_cn,hq]
  apply List.map_congr_left
  intro i _
  rw [getD_pneg,vals_getD]
 rw [e3] at h
 exact h
def TAA:Table:=TWC
theorem TAA_holds:THolds Yir TAA:=TWC_holds
end Go.Proofs.Ythnnfemologhfaa

namespace Go.Proofs.Ythnnfemologhfaa
open Go.IntKind (i64 u64 u32)
open Go.Ai
set_option maxRecDepth 100000
def Ys85 (rs:List Rn) (w:Rn) (i:Int) (z:Rn):State:=(.val (.sl rs.length (pc rs))::(dds 1 (.box [.bool z.1, .sl z.2.length (lm z.2)]::(.box [.bool w.1, .sl w.2.length (lm w.2)]::(.val (.int .i64 i)::(dds 19 []))))))
theorem Yk85_1 (rs:List Rn) (w:Rn) (i:Int) (z:Rn) (b g:Int) (c1:(decide (i≥0))=true) (c2:(b != 1)=true) (n1:0≤i∧i<(rs.length:Int)) (n2:Runs Yir 77 [rawAV w] (.int .i64 b)) (n3:Runs Yir 109 [rawAV w,rawAV (rs.getD (Int.toNat i) z0)] (bigAV g)):RunsW Yir Yc85 (Ys85 rs w i z) .norm (Ys85 rs (cn g) (i64.wrap (i-1)) z):=(RunsW.go TQE_holds 400 [.b true, .r (.int .i64 b), .b true, .v (rawAV (rs.getD (Int.toNat i) z0)), .r (bigAV g)] [0,2,3,4] (ac c1 (ac n2 (ac c2 (ac n1 (ac (take_pcI n1) (ac n3 a0)))))) (by kernel_rfl))
theorem Yk85_2 (rs:List Rn) (w:Rn) (i:Int) (z:Rn) (b:Int) (c1:(decide (i≥0))=true) (c2:(b != 1)=false) (n1:Runs Yir 77 [rawAV w] (.int .i64 b)):RunsW Yir Yc85 (Ys85 rs w i z) (.exit 0) (Ys85 rs w i z):=(RunsW.go TQE_holds 400 [.b true, .r (.int .i64 b), .b false] [0,2,3,4] (ac c1 (ac n1 (ac c2 a0))) (by kernel_rfl))
theorem Yk85_3 (rs:List Rn) (w:Rn) (i:Int) (z:Rn)  (c1:(decide (i≥0))=false):RunsW Yir Yc85 (Ys85 rs w i z) (.exit 0) (Ys85 rs w i z):=(RunsW.go TQE_holds 400 [.b false, .b false] [0,2,3,4] (ac c1 (ac (show false=false from rfl) a0)) (by kernel_rfl))
theorem Yrun85 (rs:List Rn) (w z:Rn) (i:Int) (hl1:RunsW Yir (.loop Yc85) (Ys85 rs (false,[]) (i64.wrap ((rs.length:Int)-1)) (false,[])) (.exit 0) (Ys85 rs w i z)):Runs Yir 85 [.sl rs.length (pc rs)] (rawAV w):=Runs.of_bodyW (fn:=Yi85) (s:=(dds 2 (.box [.bool w.1, .sl w.2.length (lm w.2)]::(dds 21 [])))) (ex := .ret) rfl rfl (RunsW.seq (RunsW.go (t:=(vp rs::(dds 1 (.box [.bool false, .sl 0 []]::(dds 21 []))))) (ex := .norm) TQE_holds 400 [] [0,2] a0 (by kernel_rfl)) (RunsW.seq (RunsW.go (t:=(vp rs::(dds 1 (.box [.bool false, .sl 0 []]::(.box [.bool false, .sl 0 []]::(dds 20 [])))))) (ex := .norm) TQE_holds 400 [] [0,2,3] a0 (by kernel_rfl)) (RunsW.seq (RunsW.seq (RunsW.go TQE_holds 400 [] [0,2,3,4] a0 (by kernel_rfl)) (RunsW.block hl1)) (RunsW.go TQE_holds 400 [] [2] a0 (by kernel_rfl))))) (by intro i e;cases e) rfl
def Ys86 (k:Nat) (os:List Rn) (w:Rn) (n:Int) (i:Int):State:=(dds 3 (.own 2 k (pc os)::(.box [.bool w.1, .sl w.2.length (lm w.2)]::(dds 9 (.val (.int .i64 n)::(.val (.int .i64 i)::(dds 16 [])))))))
theorem Yk86_1 (k:Nat) (os:List Rn) (w:Rn) (n:Int) (i:Int) (q r:Int) (c1:(decide (i<n))=true) (n1:0≤i∧i<(k:Int)) (n2:os.length=k) (n3:Runs Yir 110 [rawAV (os.getD (Int.toNat i) z0),rawAV w] (.tup [bigAV q,bigAV r])):RunsW Yir Yc86 (Ys86 k os w n i) .norm (Ys86 k (os.set (Int.toNat i) (cn q)) w n (i64.wrap (i+1))):=(RunsW.go TQE_holds 400 [.b true, .v (rawAV (os.getD (Int.toNat i) z0)), .r (.tup [bigAV q,bigAV r]), .l (pc (os.set (Int.toNat i) (cn q)))] [3,4,14,15] (ac c1 (ac n1 (ac (own_pcI n2 n1) (ac n3 (ac n1 (ac (lay_pcI (r:=cn q) n2 n1) a0)))))) (by kernel_rfl))
theorem Yk86_2 (k:Nat) (os:List Rn) (w:Rn) (n:Int) (i:Int)  (c1:(decide (i<n))=false):RunsW Yir Yc86 (Ys86 k os w n i) (.exit 0) (Ys86 k os w n i):=(RunsW.go TQE_holds 400 [.b false] [3,4,14,15] (ac c1 a0) (by kernel_rfl))
theorem Yrun86_1 (rs ts os:List Rn) (w:Rn) (g b n i:Int) (k:Nat) (c1:(decide (b>1))=true) (n1:Runs Yir 92 [.sl rs.length (pc rs)] (.fresh 2 ts.length (pc ts))) (n2:List.all (pc ts) (fun c => !isI c)=true) (n3:intsOnly (bigAV g)=true) (n4:Runs Yir 85 [.sl ts.length (pc ts)] (bigAV g)) (n5:Runs Yir 77 [bigAV g] (.int .i64 b)) (hl6:RunsW Yir (.loop Yc86) (Ys86 ts.length ts (cn g) (ts.length:Int) 0) (.exit 0) (Ys86 k os w n i)):Runs Yir 86 [.sl rs.length (pc rs)] (.fresh 2 k (pc os)):=Runs.of_bodyW (fn:=Yi86) (s:=(dds 2 (.own 2 k (pc os)::(dds 29 [])))) (ex := .ret) rfl rfl (RunsW.seq (RunsW.go (t:=(vp rs::(dds 1 (.own 2 0 []::(dds 29 []))))) (ex := .norm) TQE_holds 400 [] [0,2] a0 (by kernel_rfl)) (RunsW.seq (RunsW.go (t:=(vp rs::(dds 1 (.own 2 0 []::(.own 2 ts.length (pc ts)::(dds 28 [])))))) (ex := .norm) TQE_holds 400 [.r (.fresh 2 ts.length (pc ts))] [0,2,3] (ac n1 a0) (by kernel_rfl)) (RunsW.seq (RunsW.go (t:=(vp rs::(dds 1 (.own 2 0 []::(.own 2 ts.length (pc ts)::(bN g::(dds 27 []))))))) (ex := .norm) TQE_holds 400 [.r (bigAV g)] [0,2,3,4] (ac n2 (ac n3 (ac n4 a0))) (by kernel_rfl)) (RunsW.seq (RunsW.seq (RunsW.go (t:=(vp rs::(dds 1 (.own 2 0 []::(.own 2 ts.length (pc ts)::(bN g::(dds 7 (.val (.bool (decide (b>1)))::(dds 19 []))))))))) (ex := .norm) TQE_holds 400 [.r (.int .i64 b)] [0,2,3,4,12] (ac n5 a0) (by kernel_rfl)) (RunsW.cond_t (by rfl) c1 (RunsW.seq (RunsW.go TQE_holds 400 [] [3,4,14,15] a0 (by kernel_rfl)) (RunsW.block hl6)))) (RunsW.go TQE_holds 400 [] [2] a0 (by kernel_rfl)))))) (by intro i e;cases e) rfl
theorem Yrun86_2 (rs ts:List Rn) (g b:Int) (c1:(decide (b>1))=false) (n1:Runs Yir 92 [.sl rs.length (pc rs)] (.fresh 2 ts.length (pc ts))) (n2:List.all (pc ts) (fun c => !isI c)=true) (n3:intsOnly (bigAV g)=true) (n4:Runs Yir 85 [.sl ts.length (pc ts)] (bigAV g)) (n5:Runs Yir 77 [bigAV g] (.int .i64 b)):Runs Yir 86 [.sl rs.length (pc rs)] (.fresh 2 ts.length (pc ts)):=Runs.of_bodyW (fn:=Yi86) (s:=(dds 2 (.own 2 ts.length (pc ts)::(dds 29 [])))) (ex := .ret) rfl rfl (RunsW.seq (RunsW.go (t:=(vp rs::(dds 1 (.own 2 0 []::(dds 29 []))))) (ex := .norm) TQE_holds 400 [] [0,2] a0 (by kernel_rfl)) (RunsW.seq (RunsW.go (t:=(vp rs::(dds 1 (.own 2 0 []::(.own 2 ts.length (pc ts)::(dds 28 [])))))) (ex := .norm) TQE_holds 400 [.r (.fresh 2 ts.length (pc ts))] [0,2,3] (ac n1 a0) (by kernel_rfl)) (RunsW.seq (RunsW.go (t:=(vp rs::(dds 1 (.own 2 0 []::(.own 2 ts.length (pc ts)::(bN g::(dds 27 []))))))) (ex := .norm) TQE_holds 400 [.r (bigAV g)] [0,2,3,4] (ac n2 (ac n3 (ac n4 a0))) (by kernel_rfl)) (RunsW.seq (RunsW.seq (RunsW.go (t:=(vp rs::(dds 1 (.own 2 0 []::(.own 2 ts.length (pc ts)::(bN g::(dds 7 (.val (.bool (decide (b>1)))::(dds 19 []))))))))) (ex := .norm) TQE_holds 400 [.r (.int .i64 b)] [0,2,3,4,12] (ac n5 a0) (by kernel_rfl)) (RunsW.cond_f (by rfl) c1 (RunsW.go (t:=(dds 2 (.own 2 0 []::(.own 2 ts.length (pc ts)::(dds 28 []))))) (ex := .norm) TQE_holds 400 [] [2,3] a0 (by kernel_rfl)))) (RunsW.go TQE_holds 400 [] [2] a0 (by kernel_rfl)))))) (by intro i e;cases e) rfl
theorem Yrun115_1 (rs ts:List Rn) (s:Int) (c1:(decide ((rs.length:Int)>0))=true) (c2:(decide (s<0))=true) (n1:0≤(i64.wrap ((rs.length:Int)-1))∧(i64.wrap ((rs.length:Int)-1))<(rs.length:Int)) (n2:Runs Yir 73 [rawAV (rs.getD (Int.toNat (i64.wrap ((rs.length:Int)-1))) z0)] (.int .i64 s)) (n3:Runs Yir 127 [.sl rs.length (pc rs)] (.fresh 2 ts.length (pc ts))):Runs Yir 115 [.sl rs.length (pc rs)] (.fresh 2 ts.length (pc ts)):=Runs.go (fn:=Yi115) TQE_holds rfl 400 rfl [.b true, .v (rawAV (rs.getD (Int.toNat (i64.wrap ((rs.length:Int)-1))) z0)), .r (.int .i64 s), .b true, .r (.fresh 2 ts.length (pc ts))] (ac c1 (ac n1 (ac (take_pcI n1) (ac n2 (ac c2 (ac n3 a0)))))) (by kernel_rfl)
theorem Yrun115_2 (rs:List Rn) (s:Int) (c1:(decide ((rs.length:Int)>0))=true) (c2:(decide (s<0))=false) (n1:0≤(i64.wrap ((rs.length:Int)-1))∧(i64.wrap ((rs.length:Int)-1))<(rs.length:Int)) (n2:Runs Yir 73 [rawAV (rs.getD (Int.toNat (i64.wrap ((rs.length:Int)-1))) z0)] (.int .i64 s)):Runs Yir 115 [.sl rs.length (pc rs)] (.sl rs.length (pc rs)):=Runs.go (fn:=Yi115) TQE_holds rfl 400 rfl [.b true, .v (rawAV (rs.getD (Int.toNat (i64.wrap ((rs.length:Int)-1))) z0)), .r (.int .i64 s), .b false] (ac c1 (ac n1 (ac (take_pcI n1) (ac n2 (ac c2 a0))))) (by kernel_rfl)
theorem Yrun115_3 (rs:List Rn) (c1:(decide ((rs.length:Int)>0))=false):Runs Yir 115 [.sl rs.length (pc rs)] (.sl rs.length (pc rs)):=Runs.go (fn:=Yi115) TQE_holds rfl 400 rfl [.b false, .b false] (ac c1 (ac (show false=false from rfl) a0)) (by kernel_rfl)
def Ys75 (rs:List Rn) (k:Nat) (cs:List AV) (i:Int):State:=(.val (.sl rs.length (pc rs))::(dds 2 (.own 2 k cs::(.val (.int .i64 i)::(dds 18 [])))))
theorem Yk75_1 (rs:List Rn) (k:Nat) (cs:List AV) (i:Int) (d v:Int) (c1:(decide (i≤d))=true) (n1:0≤i∧i<(rs.length:Int)) (n2:k+1≤1048576) (n3:Runs Yir 62 [.sl rs.length (pc rs)] (.int .i64 d)) (n4:Runs Yir 94 [.int .i64 i] (bigAV i)) (n5:Runs Yir 113 [rawAV (rs.getD (Int.toNat i) z0),bigAV i] (bigAV v)):RunsW Yir Yc75 (Ys75 rs k cs i) .norm (Ys75 rs (k+1) (cs++([.bool (decide (v<0)), .sl ((limbs (Int.natAbs v)).length) (lm (limbs (Int.natAbs v)))]:List AV)) (i64.wrap (i+1))):=(RunsW.go TQE_holds 400 [.r (.int .i64 d), .b true, .v (rawAV (rs.getD (Int.toNat i) z0)), .r (bigAV i), .r (bigAV v)] [0,3,4] (ac n3 (ac c1 (ac n1 (ac (take_pcI n1) (ac n4 (ac n5 (ac (show List.length ([.bool (decide (v<0)), .sl ((limbs (Int.natAbs v)).length) (lm (limbs (Int.natAbs v)))]:List AV)=1*2 from rfl) (ac n2 a0)))))))) (by kernel_rfl))
theorem Yk75_2 (rs:List Rn) (k:Nat) (cs:List AV) (i:Int) (d:Int) (c1:(decide (i≤d))=false) (n1:Runs Yir 62 [.sl rs.length (pc rs)] (.int .i64 d)):RunsW Yir Yc75 (Ys75 rs k cs i) (.exit 0) (Ys75 rs k cs i):=(RunsW.go TQE_holds 400 [.r (.int .i64 d), .b false] [0,3,4] (ac n1 (ac c1 a0)) (by kernel_rfl))
theorem Yrun75 (rs os ts:List Rn) (k:Nat) (i:Int) (hl1:RunsW Yir (.loop Yc75) (Ys75 rs 0 [] 1) (.exit 0) (Ys75 rs k (pc os) i)) (n2:Runs Yir 92 [.sl k (pc os)] (.fresh 2 ts.length (pc ts))):Runs Yir 75 [.sl rs.length (pc rs)] (.fresh 2 ts.length (pc ts)):=Runs.of_bodyW (fn:=Yi75) (s:=(dds 2 (.own 2 ts.length (pc ts)::(dds 20 [])))) (ex := .ret) rfl rfl (RunsW.seq (RunsW.go (t:=(vp rs::(dds 1 (.own 2 0 []::(dds 20 []))))) (ex := .norm) TQE_holds 400 [] [0,2] a0 (by kernel_rfl)) (RunsW.seq (RunsW.go (t:=(vp rs::(dds 1 (.own 2 0 []::(.own 2 0 []::(dds 19 [])))))) (ex := .norm) TQE_holds 400 [] [0,2,3] a0 (by kernel_rfl)) (RunsW.seq (RunsW.seq (RunsW.go TQE_holds 400 [] [0,3,4] a0 (by kernel_rfl)) (RunsW.block hl1)) (RunsW.go TQE_holds 400 [.r (.fresh 2 ts.length (pc ts))] [2] (ac n2 a0) (by kernel_rfl))))) (by intro i e;cases e) rfl
def TRA:Table:=TQE
theorem TRA_holds:THolds Yir TRA:=TQE_holds
end Go.Proofs.Ythnnfemologhfaa

namespace Go.Ai
open Go.IntKind (i64 u64 u32)
def cont:List Int→Nat
 | []=>0
 | x::xs=>Nat.gcd x.natAbs (cont xs)
theorem dvd_cont (d:Nat):∀ xs:List Int,d∣cont xs↔∀ i,(d:Int)∣xs.getD i 0
 | []=>by simp [cont]
 | x::xs=>by
  have ih:=dvd_cont d xs
  simp only [cont,Nat.dvd_gcd_iff,ih]
  constructor
  ·rintro ⟨h1,h2⟩ i
   cases i with
   | zero=>simpa using Int.ofNat_dvd_left.2 h1
   | succ i=>simpa using h2 i
  ·intro h
   refine ⟨Int.ofNat_dvd_left.1 (by simpa using h 0),fun i=>by simpa using h (i+1)⟩
theorem cont_dvd (xs:List Int) (i:Nat):(cont xs:Int)∣xs.getD i 0:=(dvd_cont _ xs).1 (Nat.dvd_refl _) i
theorem cont_ext {xs ys:List Int} (h:∀ i,xs.getD i 0=ys.getD i 0):cont xs=cont ys :=
 Nat.dvd_antisymm ((dvd_cont _ _).2 fun i=>h i ▸ cont_dvd xs i) ((dvd_cont _ _).2 fun i=>h i ▸ cont_dvd ys i)
theorem cont_trim (xs:List Int):cont (trimL xs)=cont xs:=cont_ext (getD_trim xs)
theorem cont_zero {xs:List Int}:cont xs=0↔∀ i,xs.getD i 0=0:=by
 constructor
 ·intro h i
  have:=cont_dvd xs i
  rw [h] at this
  exact Int.zero_dvd.1 this
 ·intro h
  have:cont xs=cont []:=cont_ext fun i=>by rw [h i];simp
  rw [this];rfl
theorem cont_psmul (k:Int):∀ xs:List Int,cont (psmul k xs)=k.natAbs*cont xs
 | []=>rfl
 | x::xs=>by
  have ih:=cont_psmul k xs
  simp only [psmul,List.map_cons,cont] at *
  rw [ih,Int.natAbs_mul,Nat.gcd_mul_left]
theorem trim_nil {xs:List Int}:trimL xs=[]↔∀ i,xs.getD i 0=0:=by
 constructor
 ·intro h i
  rw [← getD_trim,h];simp
 ·intro h
  have:trimL xs=trimL []:=trim_ext fun i=>by rw [h i];simp
  rw [this];rfl
theorem cont_pos {xs:List Int} (h:trimL xs ≠ []):0<cont xs:=by
 rcases Nat.eq_zero_or_pos (cont xs) with g | g
 ·exact absurd (trim_nil.2 (cont_zero.1 g)) h
 ·exact g
theorem trim_psmul {k:Int} (hk:k ≠ 0) (xs:List Int):trimL (psmul k xs)=psmul k (trimL xs):=by
 have e:∀ n,topN (psmul k xs) n=topN xs n:=by
  intro n
  induction n with
  | zero=>rfl
  | succ n ih =>
   simp only [topN,ih,getD_psmul]
   by_cases h:xs.getD n 0=0
   ·rw [h,Int.mul_zero]
   ·rw [if_neg h,if_neg (Int.mul_ne_zero hk h)]
 simp only [trimL]
 rw [e,show (psmul k xs).length=xs.length by simp [psmul]]
 simp [psmul,List.map_take]
def prim (xs:List Int):List Int:=(trimL xs).map fun x=>x / (cont xs:Int)
theorem getD_prim (xs:List Int) (i:Nat):(prim xs).getD i 0=xs.getD i 0 / (cont xs:Int):=by
 rw [← getD_trim xs i]
 simp only [prim,List.getD_eq_getElem?_getD,List.getElem?_map]
 cases (trimL xs)[i]? <;> simp
theorem prim_length (xs:List Int):(prim xs).length=(trimL xs).length:=by simp [prim]
theorem prim_mul (xs:List Int) (i:Nat):(cont xs:Int)*(prim xs).getD i 0=xs.getD i 0:=by
 rw [getD_prim];exact Int.mul_ediv_cancel' (cont_dvd xs i)
theorem prim_ext {xs ys:List Int} (h:∀ i,xs.getD i 0=ys.getD i 0):prim xs=prim ys:=by
 simp only [prim];rw [trim_ext h,cont_ext h]
theorem prim_nil {xs:List Int}:prim xs=[]↔∀ i,xs.getD i 0=0:=by
 rw [← trim_nil];simp [prim]
theorem prim_scale {k:Int} (hk:0<k) (xs:List Int):prim (psmul k xs)=prim xs:=by
 simp only [prim]
 rw [trim_psmul (by omega),cont_psmul]
 simp only [psmul,List.map_map]
 apply List.map_congr_left
 intro x _
 simp only [Function.comp]
 rw [Int.natCast_mul,Int.natAbs_of_nonneg (by omega),Int.mul_ediv_mul_of_pos _ _ hk]
theorem prim_scale' {k:Int} (hk:0<k) {xs ys:List Int} (h:∀ i,ys.getD i 0=k*xs.getD i 0):prim ys=prim xs:=by
 rw [← prim_scale hk xs]
 exact prim_ext fun i=>by rw [h,getD_psmul]
theorem topN_last {xs:List Int} (h:topN xs xs.length=xs.length):trimL xs=xs:=by simp [trimL,h]
def Lead (xs:List Int):Prop:=trimL xs=xs
theorem lead_trim (xs:List Int):Lead (trimL xs):=trim_trim xs
theorem lead_top {xs:List Int} (h:Lead xs) (hn:xs ≠ []):xs.getD (xs.length-1) 0 ≠ 0:=by
 have e:=congrArg List.length h
 rw [trim_length] at e
 rcases topN_top xs xs.length with g | g
 ·rw [g] at e
  exact absurd (List.eq_nil_of_length_eq_zero e.symm) hn
 ·rw [e] at g;exact g
theorem lead_of {xs:List Int} (h:xs=[]∨xs.getD (xs.length-1) 0 ≠ 0):Lead xs:=by
 rcases h with rfl | h
 ·rfl
 ·cases hl:xs.length with
  | zero=>rw [List.eq_nil_of_length_eq_zero hl];rfl
  | succ n =>
   apply topN_last
   rw [hl]
   simp only [topN]
   rw [if_neg (by rw [hl] at h;simpa using h)]
theorem lead_psmul {k:Int} (hk:k ≠ 0) {xs:List Int} (h:Lead xs):Lead (psmul k xs):=by
 unfold Lead;rw [trim_psmul hk,h]
theorem psmul_prim (xs:List Int):psmul (cont xs) (prim xs)=trimL xs:=by
 apply list_ext
 ·simp [psmul,prim_length]
 ·intro i
  rw [getD_psmul,prim_mul,getD_trim]
theorem lead_prim (xs:List Int):Lead (prim xs):=by
 by_cases h:trimL xs=[]
 ·rw [prim_nil.2 (trim_nil.1 h)];rfl
 ·have hc:=cont_pos h
  have h1:=lead_trim xs
  rw [← psmul_prim] at h1
  unfold Lead at h1 ⊢
  rw [trim_psmul (by omega)] at h1
  have hinj:∀ a b:List Int,psmul (cont xs) a=psmul (cont xs) b→a=b:=by
   intro a b hab
   have hl:=congrArg List.length hab
   simp only [psmul,List.length_map] at hl
   apply list_ext hl
   intro i
   have:=congrArg (fun l:List Int=>l.getD i 0) hab
   simp only [getD_psmul] at this
   exact Int.eq_of_mul_eq_mul_left (by omega) this
  exact hinj _ _ h1
theorem cont_prim {xs:List Int} (h:trimL xs ≠ []):cont (prim xs)=1:=by
 have hc:=cont_pos h
 have h1:=cont_psmul (cont xs) (prim xs)
 rw [psmul_prim,cont_trim,Int.natAbs_natCast] at h1
 have h2:cont xs*1=cont xs*cont (prim xs):=by rw [Nat.mul_one];exact h1
 exact (Nat.eq_of_mul_eq_mul_left hc h2).symm
theorem prim_one {xs:List Int} (h:cont xs=1):prim xs=trimL xs:=by
 simp only [prim,h]
 rw [show (fun x:Int=>x / ((1:Nat):Int))=id by funext x;simp]
 simp
theorem prim_prim (xs:List Int):prim (prim xs)=prim xs:=by
 by_cases h:trimL xs=[]
 ·rw [prim_nil.2 (trim_nil.1 h)];rfl
 ·rw [prim_one (cont_prim h)];exact lead_prim xs
theorem fits_div {K:Nat} {x:Int} (h:Fits K x) (c:Nat):Fits K (x / (c:Int))∨¬ (c:Int)∣x:=by
 by_cases hd:(c:Int)∣x
 ·left
  obtain ⟨y,rfl⟩:=hd
  rcases Nat.eq_zero_or_pos c with h0 | h0
  ·subst h0;simpa using h
  ·rw [Int.mul_ediv_cancel_left _ (by omega)]
   unfold Fits at *
   rw [Int.natAbs_mul,Int.natAbs_natCast] at h
   have:=Nat.le_mul_of_pos_left y.natAbs h0
   omega
 ·exact Or.inr hd
theorem fits_prim {K:Nat} {xs:List Int} (h:∀ i,Fits K (xs.getD i 0)) (i:Nat):Fits K ((prim xs).getD i 0):=by
 rw [getD_prim]
 rcases fits_div (h i) (cont xs) with g | g
 ·exact g
 ·exact absurd (cont_dvd xs i) g
end Go.Ai

namespace Go.Ai
open Go.IntKind (i64 u64 u32)
def Kb (K:Nat) (r:List Int):Prop:=∀ i,Fits K (r.getD i 0)
theorem Kb.mono {J K:Nat} {r:List Int} (h:Kb J r) (hk:J≤K):Kb K r:=fun i=>(h i).mono hk
theorem Kb.mem {K:Nat} {r:List Int} (h:Kb K r):∀ x∈r,Fits K x:=fun x hx=>by
 obtain ⟨i,hi,rfl⟩:=List.mem_iff_getElem.1 hx
 have:=h i
 rwa [List.getD_eq_getElem?_getD,List.getElem?_eq_getElem hi] at this
theorem kb_of {K:Nat} {r:List Int} (h:∀ x∈r,Fits K x):Kb K r:=fits_getD h
theorem Kb.prim {K:Nat} {r:List Int} (h:Kb K r):Kb K (prim r):=fits_prim h
theorem Kb.trim {K:Nat} {r:List Int} (h:Kb K r):Kb K (trimL r):=fun i=>by rw [getD_trim];exact h i
def top (r:List Int):Int:=r.getD (r.length-1) 0
def estN (r d:List Int) (a b:Int) (n:Nat):List Int:=(List.range n).map fun i=>if r.length-d.length≤i then a*r.getD i 0-b*d.getD (i-(r.length-d.length)) 0 else a*r.getD i 0
theorem estN_length (r d:List Int) (a b:Int) (n:Nat):(estN r d a b n).length=n:=by simp [estN]
theorem getD_range (f:Nat→Int) (n i:Nat):((List.range n).map f).getD i 0=if i<n then f i else 0:=by
 rw [List.getD_eq_getElem?_getD,List.getElem?_map]
 by_cases h:i<n
 ·rw [List.getElem?_range h,if_pos h];rfl
 ·rw [List.getElem?_eq_none (by simpa using h),if_neg h];rfl
theorem getD_estN (r d:List Int) (a b:Int) (n i:Nat):(estN r d a b n).getD i 0=if i<n then (if r.length-d.length≤i then a*r.getD i 0-b*d.getD (i-(r.length-d.length)) 0 else a*r.getD i 0) else 0:=getD_range _ _ _
theorem kb_estN {J K:Nat} {r d:List Int} {a b:Int} (hr:Kb J r) (hd:Kb K d) (ha:Fits K a) (hb:Fits J b) (n:Nat):Kb (J+K+1) (estN r d a b n):=by
 intro i
 rw [getD_estN]
 have h1:=(Fits.mul ha (hr i))
 have h2:=(Fits.mul hb (hd (i-(r.length-d.length))))
 rw [Nat.add_comm] at h1
 split
 ·split
  ·exact h1.add h2.neg
  ·exact h1.mono (by omega)
 ·exact fits_zero _
theorem estN_last {r d:List Int} {a b:Int} (hd:d ≠ []) (hl:d.length≤r.length) (h:a*top r=b*top d) (i:Nat):(estN r d a b r.length).getD i 0=(estN r d a b (r.length-1)).getD i 0:=by
 have:=List.length_pos_iff.2 hd
 rw [getD_estN,getD_estN]
 by_cases h1:i<r.length-1
 ·rw [if_pos h1,if_pos (by omega)]
 ·rw [if_neg h1]
  split
  ·have:i=r.length-1:=by omega
   subst this
   rw [if_pos (by omega),show r.length-1-(r.length-d.length)=d.length-1 by omega]
   unfold top at h
   omega
  ·rfl
theorem estN_scale (r d:List Int) (k a b:Int) (n i:Nat):(estN r d (k*a) (k*b) n).getD i 0=k*(estN r d a b n).getD i 0:=by
 rw [getD_estN,getD_estN]
 split
 ·split
  ·rw [Int.mul_sub,Int.mul_assoc,Int.mul_assoc]
  ·rw [Int.mul_assoc]
 ·simp
theorem estN_psmul (r d:List Int) (c a b:Int) (n:Nat):estN r (psmul c d) a b n=estN r d a (b*c) n:=by
 apply list_ext (by rw [estN_length,estN_length])
 intro i
 rw [getD_estN,getD_estN,getD_psmul,show (psmul c d).length=d.length by simp [psmul]]
 rw [Int.mul_assoc]
def sg (n:Int):Int:=if n<0 then -1 else 1
theorem sg_mul (n:Int):sg n*n=(n.natAbs:Int):=by unfold sg;split <;> omega
def pstep (r d:List Int):List Int:=prim (estN r d ((top d).natAbs:Int) (sg (top d)*top r) r.length)
def restN:Nat→List Int→List Int→List Int
 | 0,r,_=>r
 | f+1,r,d=>if d.length≤r.length then restN f (pstep r d) d else r
theorem pstep_cancel (r d:List Int):((top d).natAbs:Int)*top r=sg (top d)*top r*top d:=by
 rw [← sg_mul];grind
theorem pstep_ref {r d:List Int} (hd:d ≠ []) (hl:d.length≤r.length):pstep r d=prim (estN r d ((top d).natAbs:Int) (sg (top d)*top r) (r.length-1)) :=
 prim_ext (estN_last hd hl (pstep_cancel r d))
theorem pstep_length {r d:List Int} (hd:d ≠ []) (hl:d.length≤r.length):(pstep r d).length<r.length:=by
 have:=List.length_pos_iff.2 hd
 rw [pstep_ref hd hl,prim_length]
 have:=trim_len (estN r d ((top d).natAbs:Int) (sg (top d)*top r) (r.length-1))
 rw [estN_length] at this
 omega
theorem top_psmul (c:Int) (d:List Int):top (psmul c d)=c*top d:=by
 unfold top;rw [getD_psmul,show (psmul c d).length=d.length by simp [psmul]]
theorem sg_pos_mul {c:Int} (hc:0<c) (n:Int):sg (c*n)=sg n:=by
 unfold sg
 have:c*n<0↔n<0:=by
  constructor
  ·intro h
   apply Int.not_le.1
   intro hn
   have:=Int.mul_nonneg (show 0≤c by omega) hn
   omega
  ·intro h;exact Int.mul_neg_of_pos_of_neg hc h
 simp only [this]
theorem pstep_prog {r d:List Int} {c g a b:Int} (hc:0<c) (hg:0<g) (ha:g*a=((top d).natAbs:Int)) (hb:g*b=sg (top d)*top r):pstep r (psmul c d)=prim (estN r d a b r.length):=by
 unfold pstep
 rw [estN_psmul,top_psmul,sg_pos_mul hc,Int.natAbs_mul]
 apply prim_scale' (k:=c*g) (Int.mul_pos hc hg)
 intro i
 rw [← estN_scale]
 congr 2
 ·rw [Int.mul_assoc,ha,Int.natCast_mul,Int.natAbs_of_nonneg (by omega)]
 ·rw [Int.mul_assoc c g b,hb];grind
theorem pstep_scale {c:Int} (hc:0<c) (r d:List Int):pstep r (psmul c d)=pstep r d:=by
 rw [pstep_prog (g:=1) (a:=((top d).natAbs:Int)) (b:=sg (top d)*top r) hc (by decide) (by omega) (by omega)];rfl
theorem restN_scale {c:Int} (hc:0<c) (d:List Int):∀ (f:Nat) (r:List Int),restN f r (psmul c d)=restN f r d:=by
 intro f
 induction f with
 | zero=>intro r;rfl
 | succ f ih =>
  intro r
  simp only [restN]
  rw [show (psmul c d).length=d.length by simp [psmul],pstep_scale hc,ih]
theorem lead_pstep (r d:List Int):Lead (pstep r d):=lead_prim _
theorem kb_top {K:Nat} {d:List Int} (h:Kb K d):Fits K (top d):=h _
theorem fits_abs {K:Nat} {n:Int} (h:Fits K n):Fits K (n.natAbs:Int):=by unfold Fits at *;rwa [Int.natAbs_natCast]
theorem fits_sg {K:Nat} {m n:Int} (h:Fits K n):Fits K (sg m*n):=by
 unfold Fits sg at *;split <;> simpa using h
theorem kb_pstep {J K:Nat} {r d:List Int} (hr:Kb J r) (hd:Kb K d):Kb (J+K+1) (pstep r d) :=
 (kb_estN hr hd (fits_abs (kb_top hd)) (fits_sg (kb_top hr)) _).prim
theorem restN_ok {d:List Int} (hd:d ≠ []) {K:Nat} (hK:Kb K d):∀ (f:Nat) (r:List Int) (J:Nat),r.length≤f→Lead r→Kb J r →
  Lead (restN f r d)∧(restN f r d).length<d.length∧Kb (J+(r.length+1-d.length)*(K+1)) (restN f r d):=by
 have hd1:=List.length_pos_iff.2 hd
 intro f
 induction f with
 | zero =>
  intro r J h1 h2 h3
  exact ⟨h2,by simp only [restN];omega,h3.mono (Nat.le_add_right _ _)⟩
 | succ f ih =>
  intro r J h1 h2 h3
  simp only [restN]
  split
  ·rename_i hl
   have hp:=pstep_length hd hl
   obtain ⟨a1,a2,a3⟩:=ih (pstep r d) (J+K+1) (by omega) (lead_pstep r d) (kb_pstep h3 hK)
   refine ⟨a1,a2,a3.mono ?_⟩
   have e:((pstep r d).length+1-d.length)+1≤r.length+1-d.length:=by omega
   have:=Nat.mul_le_mul_right (K+1) e
   rw [Nat.add_mul,Nat.one_mul] at this
   omega
  ·exact ⟨h2,by omega,h3.mono (Nat.le_add_right _ _)⟩
def prest (x y:List Int):List Int:=restN x.length x y
def pcomN:Nat→List Int→List Int→List Int
 | 0,x,_=>x
 | f+1,x,y=>if y=[] then x else pcomN f y (prest x y)
def ppos (x:List Int):List Int:=if top x<0 then pneg x else x
theorem prim_restN (d:List Int):∀ (f:Nat) (r:List Int),prim r=r→prim (restN f r d)=restN f r d:=by
 intro f
 induction f with
 | zero=>intro r h;exact h
 | succ f ih =>
  intro r h
  simp only [restN]
  split
  ·exact ih _ (prim_prim _)
  ·exact h
theorem lead_of_prim {r:List Int} (h:prim r=r):Lead r:=h ▸ lead_prim r
theorem three_pow {m l:Nat} (h:l<m):(m-l+2)*3^l≤3^m:=by
 obtain ⟨k,rfl⟩:∃ k,m=l+1+k:=⟨m-l-1,by omega⟩
 rw [show l+1+k-l+2=k+3 by omega,show l+1+k=(k+1)+l by omega,Nat.pow_add]
 apply Nat.mul_le_mul_right
 clear h
 induction k with
 | zero=>decide
 | succ k ih=>rw [Nat.pow_succ];omega
def phi (n m:Nat):Nat:=(n-m+2)*3^m
theorem prest_ok {x y:List Int} {M:Nat} (hM:0<M) (hx:Lead x) (hy:y ≠ []) (kx:Kb (M-1) x) (ky:Kb (M-1) y) (hl:y.length≤x.length) :
  Lead (prest x y)∧(prest x y).length<y.length∧Kb (M*(x.length-y.length+2)-1) (prest x y):=by
 obtain ⟨a,b,c⟩:=restN_ok hy ky x.length x (M-1) (Nat.le_refl _) hx kx
 refine ⟨a,b,c.mono ?_⟩
 rw [Nat.sub_add_cancel hM,show x.length+1-y.length=x.length-y.length+1 by omega,Nat.mul_comm _ M]
 have:M*(x.length-y.length+2)=M*(x.length-y.length+1)+M:=by rw [← Nat.mul_succ]
 omega
theorem phi_next {n m l M T:Nat} (hl:l<m) (h:M*phi n m≤T):M*(n-m+2)*phi m l≤T:=by
 refine Nat.le_trans ?_ h
 unfold phi
 rw [Nat.mul_assoc]
 apply Nat.mul_le_mul_left
 apply Nat.mul_le_mul_left
 exact three_pow hl
theorem phi_max {n m c:Nat} (h:m≤n) (hn:n≤c):phi n m≤2*3^c:=by
 have h1:phi n m≤2*3^n:=by
  unfold phi
  obtain ⟨k,rfl⟩:∃ k,n=m+k:=⟨n-m,by omega⟩
  rw [show m+k-m+2=k+2 by omega,Nat.pow_add,Nat.mul_comm (3^m),← Nat.mul_assoc]
  apply Nat.mul_le_mul_right
  clear h hn
  induction k with
  | zero=>decide
  | succ k ih=>rw [Nat.pow_succ];omega
 exact Nat.le_trans h1 (Nat.mul_le_mul_left _ (Nat.pow_le_pow_right (by decide) hn))
def pder (p:List Int):List Int:=trimL ((List.range (p.length-1)).map fun j=>p.getD (j+1) 0*((j+1:Nat):Int))
theorem getD_pder (p:List Int) (i:Nat):(pder p).getD i 0=p.getD (i+1) 0*((i+1:Nat):Int):=by
 unfold pder
 rw [getD_trim,getD_range]
 split
 ·rfl
 ·rw [getD_end (xs:=p) (by omega),Int.zero_mul]
end Go.Ai

namespace Go.Ai
open Go.IntKind (i64 u64 u32)
theorem peval_lin {a b:Int} {us bs cs:List Int} (h:∀ i,cs.getD i 0=a*us.getD i 0+b*bs.getD i 0) (x:Int):peval cs x=a*peval us x+b*peval bs x:=by
 have e:peval cs x=peval (padd (psmul a us) (psmul b bs)) x:=peval_ext (fun i=>by rw [h,getD_padd,getD_psmul,getD_psmul]) x
 rw [e,peval_padd,peval_psmul,peval_psmul]
def shiftP (k:Nat) (q:List Int):List Int:=List.replicate k 0++q
theorem getD_shiftP (k:Nat) (q:List Int) (i:Nat):(shiftP k q).getD i 0=if k≤i then q.getD (i-k) 0 else 0:=by
 simp only [shiftP,List.getD_eq_getElem?_getD,List.getElem?_append,List.length_replicate]
 split
 ·rename_i h
  rw [if_neg (by omega),List.getElem?_replicate_of_lt h];rfl
 ·rename_i h
  rw [if_pos (by omega)]
theorem peval_shiftP (k:Nat) (q:List Int) (x:Int):peval (shiftP k q) x=x^k*peval q x:=by
 induction k with
 | zero=>simp [shiftP]
 | succ k ih =>
  have:shiftP (k+1) q=0::shiftP k q:=by simp [shiftP,List.replicate_succ]
  rw [this]
  simp only [peval]
  rw [ih,Int.pow_succ];grind
theorem estN_eval {r d:List Int} (hl:d.length≤r.length) (a b x:Int):peval (estN r d a b r.length) x=a*peval r x-b*(x^(r.length-d.length)*peval d x):=by
 rw [← peval_shiftP]
 have:=peval_lin (a:=a) (b := -b) (us:=r) (bs:=shiftP (r.length-d.length) d) (cs:=estN r d a b r.length) (fun i=>by
  rw [getD_estN,getD_shiftP]
  by_cases h:i<r.length
  ·rw [if_pos h];split
   ·rw [Int.neg_mul];omega
   ·simp
  ·rw [if_neg h,getD_end (show r.length≤i by omega)]
   have:d.getD (i-(r.length-d.length)) 0=0:=getD_end (by omega)
   split
   ·rw [this];simp
   ·simp) x
 rw [this,Int.neg_mul];omega
theorem getD_pmul_cons (a:Int) (p q:List Int) (i:Nat):(pmul (a::p) q).getD i 0=a*q.getD i 0+(shiftP 1 (pmul p q)).getD i 0:=by
 simp only [pmul]
 rw [getD_padd,getD_psmul];rfl
theorem pmul_top:∀ (p q:List Int),p ≠ []→q ≠ []→(pmul p q).getD (p.length+q.length-2) 0=top p*top q∧∀ i,p.length+q.length-1≤i→(pmul p q).getD i 0=0
 | [],q,h,_=>absurd rfl h
 | [a],q,_,hq=>by
  have hq1:=List.length_pos_iff.2 hq
  refine ⟨?_,fun i hi => ?_⟩
  ·rw [getD_pmul_cons,getD_shiftP,show [a].length+q.length-2=q.length-1 by simp;omega]
   simp [pmul,top]
  ·rw [getD_pmul_cons,getD_shiftP,getD_end (show q.length≤i by simp at hi;omega)]
   simp [pmul]
 | a::b::p,q,_,hq=>by
  have hq1:=List.length_pos_iff.2 hq
  obtain ⟨h1,h2⟩:=pmul_top (b::p) q (by simp) hq
  refine ⟨?_,fun i hi => ?_⟩
  ·rw [getD_pmul_cons,getD_shiftP,if_pos (by simp;omega)]
   simp only [List.length_cons] at *
   rw [getD_end (show q.length≤p.length+1+1+q.length-2 by omega),show p.length+1+1+q.length-2-1=p.length+1+q.length-2 by omega,h1]
   simp [top]
  ·rw [getD_pmul_cons,getD_shiftP]
   simp only [List.length_cons] at *
   rw [getD_end (show q.length≤i by omega)]
   split
   ·rw [h2 _ (by omega)];simp
   ·simp
theorem peval_zero_of_trim {p:List Int} (h:trimL p=[]) (x:Int):peval p x=0:=by rw [← peval_trim,h];rfl
theorem quot_unique {p q o1 r1 o2 r2:List Int} {c1 c2:Int} (hq:Lead q) (hq0:q ≠ []) (h1:∀ x,c1*peval p x=peval q x*peval o1 x+peval r1 x) (h2:∀ x,c2*peval p x=peval q x*peval o2 x+peval r2 x)
  (z1:∀ i,q.length-1≤i→r1.getD i 0=0) (z2:∀ i,q.length-1≤i→r2.getD i 0=0) (i:Nat):c2*o1.getD i 0=c1*o2.getD i 0:=by
 have hql:=List.length_pos_iff.2 hq0
 have hD:trimL (psub (psmul c2 o1) (psmul c1 o2))=[]:=by
  apply Classical.byContradiction
  intro hD
  have hev:∀ x,peval (pmul q (trimL (psub (psmul c2 o1) (psmul c1 o2)))) x=peval (psub (psmul c1 r2) (psmul c2 r1)) x:=by
   intro x
   rw [peval_pmul,peval_trim,peval_psub,peval_psub,peval_psmul,peval_psmul,peval_psmul,peval_psmul]
   have a:=h1 x;have b:=h2 x
   grind
  generalize hDD:trimL (psub (psmul c2 o1) (psmul c1 o2))=D at *
  have hDl:Lead D:=hDD ▸ lead_trim _
  have hD1:=List.length_pos_iff.2 hD
  have h3:=(pmul_top q D hq0 hD).1
  rw [peval_inj' hev,getD_psub,getD_psmul,getD_psmul,z1 _ (by omega),z2 _ (by omega)] at h3
  have t1:=lead_top hq hq0
  have t2:=lead_top hDl hD
  rw [Int.mul_zero,Int.mul_zero,Int.sub_zero] at h3
  exact Int.mul_ne_zero t1 t2 h3.symm
 have:=trim_nil.1 hD i
 rw [getD_psub,getD_psmul,getD_psmul] at this
 omega
theorem prim_unique {o1 o2:List Int} {c1 c2:Int} (hc1:0<c1) (hc2:0<c2) (h:∀ i,c2*o1.getD i 0=c1*o2.getD i 0):prim o1=prim o2:=by
 rw [← prim_scale hc2 o1,← prim_scale hc1 o2]
 exact prim_ext fun i=>by rw [getD_psmul,getD_psmul];exact h i
def subAt (r q:List Int) (l:Int) (k:Nat):List Int:=(List.range r.length).map fun i=>if k≤i then r.getD i 0-l*q.getD (i-k) 0 else r.getD i 0
theorem getD_subAt (r q:List Int) (l:Int) (k i:Nat) (hk:k+q.length≤r.length):(subAt r q l k).getD i 0=r.getD i 0-l*(shiftP k q).getD i 0:=by
 rw [subAt,getD_range,getD_shiftP]
 split
 ·split <;> simp
 ·rw [getD_end (show r.length≤i by omega),getD_end (xs:=q) (show q.length≤i-k by omega)];simp
theorem subAt_length (r q:List Int) (l:Int) (k:Nat):(subAt r q l k).length=r.length:=by simp [subAt]
def divN (q:List Int):Nat→List Int→List Int→List Int
 | 0,_,out=>out
 | k+1,r,out=>divN q k (subAt (psmul (top q) r) q (r.getD (k+q.length-1) 0) k) ((psmul (top q) out).set k (r.getD (k+q.length-1) 0))
theorem psmul_length (a:Int) (q:List Int):(psmul a q).length=q.length:=by simp [psmul]
theorem divN_ok {p q:List Int} (hq0:q ≠ []) (ht:0<top q):∀ (k:Nat) (r out:List Int) (c:Int),0<c→k≤out.length→out.length+q.length=r.length+1→(∀ i,k+q.length-1≤i→r.getD i 0=0)→(∀ i,i<k→out.getD i 0=0) →
  (∀ x,c*peval p x=peval q x*peval out x+peval r x) →
  ∃ c' r',0<c'∧(∀ i,q.length-1≤i→r'.getD i 0=0)∧(divN q k r out).length=out.length∧∀ x,c'*peval p x=peval q x*peval (divN q k r out) x+peval r' x:=by
 have hql:=List.length_pos_iff.2 hq0
 intro k
 induction k with
 | zero =>
  intro r out c hc _ _ hz _ he
  exact ⟨c,r,hc,fun i hi=>hz i (by omega),rfl,he⟩
 | succ k ih =>
  intro r out c hc hk hl hz hz2 he
  simp only [divN]
  generalize hlead:r.getD (k+q.length-1) 0=l at *
  have hkr:k+q.length≤(psmul (top q) r).length:=by rw [psmul_length];omega
  obtain ⟨c',r',a1,a2,a3,a4⟩:=ih (subAt (psmul (top q) r) q l k) ((psmul (top q) out).set k l) (top q*c) (Int.mul_pos ht hc) (by rw [List.length_set,psmul_length];omega) (by rw [List.length_set,psmul_length,subAt_length,psmul_length];exact hl)
   (fun i hi=>by
    rw [getD_subAt _ _ _ _ _ hkr,getD_psmul,getD_shiftP]
    by_cases h1:i=k+q.length-1
    ·subst h1
     rw [hlead,if_pos (by omega),show k+q.length-1-k=q.length-1 by omega]
     unfold top;grind
    ·rw [hz i (by omega),getD_end (xs:=q) (show q.length≤i-k by omega)];simp)
   (fun i hi=>by rw [getD_other (by omega),getD_psmul,hz2 i (by omega),Int.mul_zero])
   (fun x=>by
    rw [peval_set _ _ _ _ (by rw [psmul_length];omega),getD_psmul,hz2 k (by omega),peval_psmul]
    have e:=peval_lin (a:=1) (b := -l) (us:=psmul (top q) r) (bs:=shiftP k q) (cs:=subAt (psmul (top q) r) q l k) (fun i=>by rw [getD_subAt _ _ _ _ _ hkr,Int.neg_mul];omega) x
    rw [e,peval_psmul,peval_shiftP]
    have:=he x
    grind)
  exact ⟨c',r',a1,a2,by rw [a3,List.length_set,psmul_length],a4⟩
theorem divN_start {p q:List Int} (hq0:q ≠ []) (ht:0<top q) (hl:q.length≤p.length):∃ c' r',0<c'∧(∀ i,q.length-1≤i→r'.getD i 0=0)∧(divN q (p.length-q.length+1) p (List.replicate (p.length-q.length+1) 0)).length=p.length-q.length+1 ∧
  ∀ x,c'*peval p x=peval q x*peval (divN q (p.length-q.length+1) p (List.replicate (p.length-q.length+1) 0)) x+peval r' x:=by
 have hql:=List.length_pos_iff.2 hq0
 have h:=divN_ok (p:=p) hq0 ht (p.length-q.length+1) p (List.replicate (p.length-q.length+1) 0) 1 (by decide) (by simp) (by simp;omega) (fun i hi=>getD_end (by omega)) (fun i _=>getD_zeros _ _) (fun x=>by rw [peval_zeros];omega)
 rw [List.length_replicate] at h
 exact h
def ovrN (d:List Int):Nat→List Int→List Int→List Int
 | 0,_,out=>out
 | f+1,r,out=>if d.length≤r.length then ovrN d f (trimL (estN r d (top d) (top r) (r.length-1))) ((psmul (top d) out).set (r.length-d.length) (top r)) else out
theorem ovr_step_length {r d:List Int} (hd0:d ≠ []) (hl:d.length≤r.length):(trimL (estN r d (top d) (top r) (r.length-1))).length<r.length:=by
 have:=List.length_pos_iff.2 hd0
 have:=trim_len (estN r d (top d) (top r) (r.length-1))
 rw [estN_length] at this
 omega
theorem ovrN_ok {p d:List Int} (hd0:d ≠ []) (ht:0<top d):∀ (f:Nat) (r out:List Int) (c:Int),r.length≤f→0<c→r.length+1≤out.length+d.length→(∀ i,i+d.length≤r.length→out.getD i 0=0) →
  (∀ x,c*peval p x=peval d x*peval out x+peval r x) →
  ∃ c' r',0<c'∧(∀ i,d.length-1≤i→r'.getD i 0=0)∧(ovrN d f r out).length=out.length∧∀ x,c'*peval p x=peval d x*peval (ovrN d f r out) x+peval r' x:=by
 have hdl:=List.length_pos_iff.2 hd0
 intro f
 induction f with
 | zero =>
  intro r out c hf hc _ _ he
  exact ⟨c,r,hc,fun i hi=>getD_end (by omega),rfl,he⟩
 | succ f ih =>
  intro r out c hf hc hl hz he
  simp only [ovrN]
  split
  ·rename_i hg
   have hlen:=ovr_step_length hd0 hg
   obtain ⟨c',r',a1,a2,a3,a4⟩:=ih (trimL (estN r d (top d) (top r) (r.length-1))) ((psmul (top d) out).set (r.length-d.length) (top r)) (top d*c) (by omega) (Int.mul_pos ht hc) (by rw [List.length_set,psmul_length];omega)
    (fun i hi=>by rw [getD_other (by omega),getD_psmul,hz i (by omega),Int.mul_zero])
    (fun x=>by
     rw [peval_set _ _ _ _ (by rw [psmul_length];omega),getD_psmul,hz _ (by omega),peval_psmul,peval_trim]
     have e1:peval (estN r d (top d) (top r) (r.length-1)) x=peval (estN r d (top d) (top r) r.length) x:=peval_ext (fun i=>(estN_last hd0 hg (Int.mul_comm _ _) i).symm) x
     rw [e1,estN_eval hg]
     have:=he x
     grind)
   exact ⟨c',r',a1,a2,by rw [a3,List.length_set,psmul_length],a4⟩
  ·rename_i hg
   exact ⟨c,r,hc,fun i hi=>getD_end (by omega),rfl,he⟩
theorem ovrN_start {p d:List Int} (hd0:d ≠ []) (ht:0<top d) (hl:d.length≤p.length):∃ c' r',0<c'∧(∀ i,d.length-1≤i→r'.getD i 0=0)∧(ovrN d p.length p (List.replicate (p.length-d.length+1) 0)).length=p.length-d.length+1 ∧
  ∀ x,c'*peval p x=peval d x*peval (ovrN d p.length p (List.replicate (p.length-d.length+1) 0)) x+peval r' x:=by
 have h:=ovrN_ok (p:=p) hd0 ht p.length p (List.replicate (p.length-d.length+1) 0) 1 (Nat.le_refl _) (by decide) (by simp;omega) (fun i _=>getD_zeros _ _) (fun x=>by rw [peval_zeros];omega)
 rw [List.length_replicate] at h
 exact h
theorem div_ovr {p q:List Int} (hq:Lead q) (hq0:q ≠ []) (ht:0<top q) (hl:q.length≤p.length):prim (divN q (p.length-q.length+1) p (List.replicate (p.length-q.length+1) 0))=prim (ovrN q p.length p (List.replicate (p.length-q.length+1) 0)):=by
 obtain ⟨c1,r1,a1,a2,_,a4⟩:=divN_start hq0 ht hl
 obtain ⟨c2,r2,b1,b2,_,b4⟩:=ovrN_start hq0 ht hl
 exact prim_unique a1 b1 (quot_unique hq hq0 a4 b4 a2 b2)
theorem quot_top {p q o r:List Int} {c:Int} (hc:0<c) (hp:0<top p) (hq0:q ≠ []) (ht:0<top q) (hl:q.length≤p.length) (ho:o.length=p.length-q.length+1) (h:∀ x,c*peval p x=peval q x*peval o x+peval r x) (z:∀ i,q.length-1≤i→r.getD i 0=0):0<top o:=by
 have hql:=List.length_pos_iff.2 hq0
 have ho0:o ≠ []:=by intro h0;rw [h0] at ho;simp at ho
 have h3:=(pmul_top q o hq0 ho0).1
 have hev:∀ x,peval (psmul c p) x=peval (padd (pmul q o) r) x:=fun x=>by rw [peval_psmul,peval_padd,peval_pmul];exact h x
 have h4:=peval_inj' hev (p.length-1)
 rw [getD_psmul,getD_padd,z _ (by omega),show p.length-1=q.length+o.length-2 by omega,h3,Int.add_zero] at h4
 have h5:0<top q*top o:=by
  rw [← h4,show q.length+o.length-2=p.length-1 by omega]
  exact Int.mul_pos hc hp
 exact Int.pos_of_mul_pos_right h5 ht |> fun h=>h
theorem top_prim_pos {o:List Int} (h:0<top o):0<top (prim o):=by
 have hl:Lead o:=lead_of (Or.inr (by unfold top at h;omega))
 unfold top
 rw [prim_length,hl,getD_prim]
 have hc:0<cont o:=cont_pos (by rw [hl];intro h0;rw [h0] at h;simp [top] at h)
 have hd:=prim_mul o (o.length-1)
 rw [getD_prim] at hd
 unfold top at h
 rw [← hd] at h
 exact Int.pos_of_mul_pos_right h (by omega)
end Go.Ai
