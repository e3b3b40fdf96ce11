/- Texts of the proof of SturmDyadics, packed by pack.py: part 11 of 15. -/
import Derived.Test.YthnnfemologhfaaSdy10
namespace Go.Proofs.Ythnnfemologhfaa
open Go.IntKind (i64 u64 u32)
open Go.Ai
set_option maxRecDepth 100000
def Ys124 (na:Bool) (xs:List Int) (w:Int) (s:Int) (k:Nat) (os:List Int) (n:Int) (i:Int) (z:Rn):State:=(dds 4 (.box [.bool z.1, .sl z.2.length (lm z.2)]::(.val (.bool na)::(dds 1 (.val (.int .i64 w)::(.val (.int .u64 s)::(.own 1 k (lm os)::(dds 23 (.val (.sl xs.length (lm xs))::(.val (.int .i64 n)::(.val (.int .i64 i)::(dds 31 []))))))))))))
theorem Yk124_1 (na:Bool) (xs:List Int) (w:Int) (s:Int) (k:Nat) (os:List Int) (n:Int) (i:Int) (z:Rn)  (c1:(decide (i<n))=true) (n1:0≤i∧i<(xs.length:Int)) (n2:¬ s<0) (n3:0≤(i64.wrap (i+w))∧(i64.wrap (i+w))<(k:Int)) (n4:os.length=k) (n5:0≤(i64.wrap ((i64.wrap (i+w))+1))∧(i64.wrap ((i64.wrap (i+w))+1))<(k:Int)) (n6:(os.set (Int.toNat (i64.wrap (i+w))) (u32.wrap ((BitVec.ofInt (IntKind.bits .u32) (os.getD (Int.toNat (i64.wrap (i+w))) 0) ||| BitVec.ofInt (IntKind.bits .u32) (u32.wrap (u64.wrap ((u64.wrap (xs.getD (Int.toNat i) 0))*2^(min (Int.toNat s) (IntKind.bits .u64)))))).toNat))).length=k):RunsW Yir Yc124 (Ys124 na xs w s k os n i z) .norm (Ys124 na xs w s k ((os.set (Int.toNat (i64.wrap (i+w))) (u32.wrap ((BitVec.ofInt (IntKind.bits .u32) (os.getD (Int.toNat (i64.wrap (i+w))) 0) ||| BitVec.ofInt (IntKind.bits .u32) (u32.wrap (u64.wrap ((u64.wrap (xs.getD (Int.toNat i) 0))*2^(min (Int.toNat s) (IntKind.bits .u64)))))).toNat))).set (Int.toNat (i64.wrap ((i64.wrap (i+w))+1))) (u32.wrap (Int.fdiv (u64.wrap ((u64.wrap (xs.getD (Int.toNat i) 0))*2^(min (Int.toNat s) (IntKind.bits .u64)))) (2^(min (Int.toNat 32) (IntKind.bits .u64)))))) n (i64.wrap (i+1)) z):=(RunsW.go TWC_holds 400 [.b true, .v (.int .u32 (xs.getD (Int.toNat i) 0)), .v (.int .u32 (os.getD (Int.toNat (i64.wrap (i+w))) 0)), .l (lm (os.set (Int.toNat (i64.wrap (i+w))) (u32.wrap ((BitVec.ofInt (IntKind.bits .u32) (os.getD (Int.toNat (i64.wrap (i+w))) 0) ||| BitVec.ofInt (IntKind.bits .u32) (u32.wrap (u64.wrap ((u64.wrap (xs.getD (Int.toNat i) 0))*2^(min (Int.toNat s) (IntKind.bits .u64)))))).toNat)))), .l (lm ((os.set (Int.toNat (i64.wrap (i+w))) (u32.wrap ((BitVec.ofInt (IntKind.bits .u32) (os.getD (Int.toNat (i64.wrap (i+w))) 0) ||| BitVec.ofInt (IntKind.bits .u32) (u32.wrap (u64.wrap ((u64.wrap (xs.getD (Int.toNat i) 0))*2^(min (Int.toNat s) (IntKind.bits .u64)))))).toNat))).set (Int.toNat (i64.wrap ((i64.wrap (i+w))+1))) (u32.wrap (Int.fdiv (u64.wrap ((u64.wrap (xs.getD (Int.toNat i) 0))*2^(min (Int.toNat s) (IntKind.bits .u64)))) (2^(min (Int.toNat 32) (IntKind.bits .u64)))))))] [4,5,7,8,9,33,34,35] (ac c1 (ac n1 (ac (take_limI n1) (ac n2 (ac n3 (ac (own_limI n4 n3) (ac n3 (ac (show layA (lm os) (Int.toNat (i64.wrap (i+w))*1) [.int .u32 (u32.wrap ((BitVec.ofInt (IntKind.bits .u32) (os.getD (Int.toNat (i64.wrap (i+w))) 0) ||| BitVec.ofInt (IntKind.bits .u32) (u32.wrap (u64.wrap ((u64.wrap (xs.getD (Int.toNat i) 0))*2^(min (Int.toNat s) (IntKind.bits .u64)))))).toNat))]=some (lm (os.set (Int.toNat (i64.wrap (i+w))) (u32.wrap ((BitVec.ofInt (IntKind.bits .u32) (os.getD (Int.toNat (i64.wrap (i+w))) 0) ||| BitVec.ofInt (IntKind.bits .u32) (u32.wrap (u64.wrap ((u64.wrap (xs.getD (Int.toNat i) 0))*2^(min (Int.toNat s) (IntKind.bits .u64)))))).toNat)))) from (lay_limI n4 n3)) (ac (show ¬ (32:Int)<0 from (by decide)) (ac n5 (ac (show layA (lm (os.set (Int.toNat (i64.wrap (i+w))) (u32.wrap ((BitVec.ofInt (IntKind.bits .u32) (os.getD (Int.toNat (i64.wrap (i+w))) 0) ||| BitVec.ofInt (IntKind.bits .u32) (u32.wrap (u64.wrap ((u64.wrap (xs.getD (Int.toNat i) 0))*2^(min (Int.toNat s) (IntKind.bits .u64)))))).toNat)))) (Int.toNat (i64.wrap ((i64.wrap (i+w))+1))*1) [.int .u32 (u32.wrap (Int.fdiv (u64.wrap ((u64.wrap (xs.getD (Int.toNat i) 0))*2^(min (Int.toNat s) (IntKind.bits .u64)))) (2^(min (Int.toNat 32) (IntKind.bits .u64)))))]=some (lm ((os.set (Int.toNat (i64.wrap (i+w))) (u32.wrap ((BitVec.ofInt (IntKind.bits .u32) (os.getD (Int.toNat (i64.wrap (i+w))) 0) ||| BitVec.ofInt (IntKind.bits .u32) (u32.wrap (u64.wrap ((u64.wrap (xs.getD (Int.toNat i) 0))*2^(min (Int.toNat s) (IntKind.bits .u64)))))).toNat))).set (Int.toNat (i64.wrap ((i64.wrap (i+w))+1))) (u32.wrap (Int.fdiv (u64.wrap ((u64.wrap (xs.getD (Int.toNat i) 0))*2^(min (Int.toNat s) (IntKind.bits .u64)))) (2^(min (Int.toNat 32) (IntKind.bits .u64))))))) from (lay_limI n6 n5)) a0))))))))))) (by kernel_rfl))
theorem Yk124_2 (na:Bool) (xs:List Int) (w:Int) (s:Int) (k:Nat) (os:List Int) (n:Int) (i:Int) (z:Rn)  (c1:(decide (i<n))=false):RunsW Yir Yc124 (Ys124 na xs w s k os n i z) (.exit 0) (Ys124 na xs w s k os n i z):=(RunsW.go TWC_holds 400 [.b false] [4,5,7,8,9,33,34,35] (ac c1 a0) (by kernel_rfl))
theorem Yrun124_1 (b na:Bool) (xs as1:List Int) (m:Int) (c1:((as1.length:Int)==0)=true) (n1:Runs Yir 122 [.agg [.bool b, .sl xs.length (lm xs)]] (.tup [.bool na, .sl as1.length (lm as1)])):Runs Yir 124 [.agg [.bool b, .sl xs.length (lm xs)], .int .i64 m] (.agg [.bool false, .sl 0 []]):=Runs.of_bodyW (fn:=Yi124) (s:=(dds 4 (.box [.bool false, .sl 0 []]::(dds 62 [])))) (ex := .ret) rfl rfl (RunsW.seq (RunsW.go (t:=(.val (.agg [.bool b, .sl xs.length (lm xs)])::(vi m::(.box [.bool b, .sl xs.length (lm xs)]::(dds 1 (.box [.bool false, .sl 0 []]::(dds 62 []))))))) (ex := .norm) TWC_holds 400 [] [0,1,2,4] a0 (by kernel_rfl)) (RunsW.seq (RunsW.go (t:=(.val (.agg [.bool b, .sl xs.length (lm xs)])::(vi m::(.box [.bool b, .sl xs.length (lm xs)]::(dds 1 (.box [.bool false, .sl 0 []]::(.val (.bool na)::(vl as1::(dds 60 []))))))))) (ex := .norm) TWC_holds 400 [.r (.tup [.bool na, .sl as1.length (lm as1)])] [0,1,2,4,5,6] (ac n1 a0) (by kernel_rfl)) (RunsW.seq_out (RunsW.go TWC_holds 400 [.b true] [4] (ac c1 a0) (by kernel_rfl)) (by intro e;cases e)))) (by intro i e;cases e) rfl
theorem Yrun124_2 (b na:Bool) (xs as1 os:List Int) (m w s n i v:Int) (k:Nat) (z:Rn) (c1:((as1.length:Int)==0)=false) (n1:Runs Yir 122 [.agg [.bool b, .sl xs.length (lm xs)]] (.tup [.bool na, .sl as1.length (lm as1)])) (n2:0≤(i64.wrap ((i64.wrap ((as1.length:Int)+(i64.wrap (Int.tdiv m 32))))+1))∧(i64.wrap ((i64.wrap ((as1.length:Int)+(i64.wrap (Int.tdiv m 32))))+1))≤1048576) (hl3:RunsW Yir (.loop Yc124) ((dds 4 (.box [.bool false, .sl 0 []]::(.val (.bool na)::(dds 1 (.val (.int .i64 (i64.wrap (Int.tdiv m 32)))::(.val (.int .u64 (u64.wrap (Int.tmod m 32)))::(.own 1 (Int.toNat (i64.wrap ((i64.wrap ((as1.length:Int)+(i64.wrap (Int.tdiv m 32))))+1))) (replA [.int .u32 0] (Int.toNat (i64.wrap ((i64.wrap ((as1.length:Int)+(i64.wrap (Int.tdiv m 32))))+1))))::(dds 23 (.val (.sl as1.length (lm as1))::(.val (.int .i64 (as1.length:Int))::(.val (.int .i64 0)::(dds 31 []))))))))))))) (.exit 0) (Ys124 na as1 w s k os n i z)) (n4:Runs Yir 133 [.bool na, .sl k (lm os)] (bigAV v)):Runs Yir 124 [.agg [.bool b, .sl xs.length (lm xs)], .int .i64 m] (bigAV v):=Runs.of_bodyW (fn:=Yi124) (s:=(dds 4 (.box [.bool (decide (v<0)), .sl ((limbs (Int.natAbs v)).length) (lm (limbs (Int.natAbs v)))]::(dds 62 [])))) (ex := .ret) rfl rfl (RunsW.seq (RunsW.go (t:=(.val (.agg [.bool b, .sl xs.length (lm xs)])::(vi m::(.box [.bool b, .sl xs.length (lm xs)]::(dds 1 (.box [.bool false, .sl 0 []]::(dds 62 []))))))) (ex := .norm) TWC_holds 400 [] [0,1,2,4] a0 (by kernel_rfl)) (RunsW.seq (RunsW.go (t:=(.val (.agg [.bool b, .sl xs.length (lm xs)])::(vi m::(.box [.bool b, .sl xs.length (lm xs)]::(dds 1 (.box [.bool false, .sl 0 []]::(.val (.bool na)::(vl as1::(dds 60 []))))))))) (ex := .norm) TWC_holds 400 [.r (.tup [.bool na, .sl as1.length (lm as1)])] [0,1,2,4,5,6] (ac n1 a0) (by kernel_rfl)) (RunsW.seq (RunsW.go (t:=(.val (.agg [.bool b, .sl xs.length (lm xs)])::(vi m::(.box [.bool b, .sl xs.length (lm xs)]::(dds 1 (.box [.bool false, .sl 0 []]::(.val (.bool na)::(vl as1::(dds 60 []))))))))) (ex := .norm) TWC_holds 400 [.b false] [0,1,2,4,5,6] (ac c1 a0) (by kernel_rfl)) (RunsW.seq (RunsW.go (t:=(.val (.agg [.bool b, .sl xs.length (lm xs)])::(vi m::(.box [.bool b, .sl xs.length (lm xs)]::(dds 1 (.box [.bool false, .sl 0 []]::(.val (.bool na)::(vl as1::(vi (i64.wrap (Int.tdiv m 32))::(.val (.int .u64 (u64.wrap (Int.tmod m 32)))::(dds 58 []))))))))))) (ex := .norm) TWC_holds 400 [] [0,1,2,4,5,6,7,8] (ac (show ¬ (32:Int)=0 from (by decide)) (ac (show ¬ (32:Int)=0 from (by decide)) a0)) (by kernel_rfl)) (RunsW.seq (RunsW.go (t:=(.val (.agg [.bool b, .sl xs.length (lm xs)])::(vi m::(.box [.bool b, .sl xs.length (lm xs)]::(dds 1 (.box [.bool false, .sl 0 []]::(.val (.bool na)::(vl as1::(vi (i64.wrap (Int.tdiv m 32))::(.val (.int .u64 (u64.wrap (Int.tmod m 32)))::(.own 1 (Int.toNat (i64.wrap ((i64.wrap ((as1.length:Int)+(i64.wrap (Int.tdiv m 32))))+1))) (replA [.int .u32 0] (Int.toNat (i64.wrap ((i64.wrap ((as1.length:Int)+(i64.wrap (Int.tdiv m 32))))+1))))::(dds 57 [])))))))))))) (ex := .norm) TWC_holds 400 [] [0,1,2,4,5,6,7,8,9] (ac n2 a0) (by kernel_rfl)) (RunsW.seq (RunsW.seq (RunsW.go TWC_holds 400 [] [4,5,7,8,9,33,34,35] a0 (by kernel_rfl)) (RunsW.block hl3)) (RunsW.go TWC_holds 400 [.r (bigAV v)] [4] (ac n4 a0) (by kernel_rfl)))))))) (by intro i e;cases e) rfl
end Go.Proofs.Ythnnfemologhfaa

namespace Go.Proofs.Ythnnfemologhfaa
open Go.IntKind (i64 u64 u32)
open Go.Ai
set_option maxRecDepth 100000
theorem Yloop124 {na:Bool} {xs:List Int} {z:Rn} {w s:Nat} (hx:U32 xs) (hs:s<32) (hN:w+xs.length<1048576):∀ (r i:Nat) (os:List Int),i+r=xs.length→os.length=w+xs.length+1→U32 os→valL os=4294967296^w*(2^s*valL (xs.take i))→os.getD (i+w) 0<2^s→(∀ t,i+w<t→os.getD t 0=0) →
  ∃ os',RunsW Yir (.loop Yc124) (Ys124 na xs (w:Nat) (s:Nat) (w+xs.length+1) os (xs.length:Nat) (i:Nat) z) (.exit 0) (Ys124 na xs (w:Nat) (s:Nat) (w+xs.length+1) os' (xs.length:Nat) (xs.length:Nat) z)∧os'.length=w+xs.length+1∧U32 os'∧valL os'=4294967296^w*(2^s*valL xs):=by
 intro r
 induction r with
 | zero =>
  intro i os hi hl hu hv _ _
  have:i=xs.length:=by omega
  subst this
  exact ⟨os,RunsW.loop_out (Yk124_2 na xs _ _ _ os _ _ z (by simp)) (by intro e;cases e),hl,hu,by rw [hv,List.take_length]⟩
 | succ r ih =>
  intro i os hi hl hu hv hc hz
  have ei:i64.wrap ((i:Int)+1)=((i+1:Nat):Int):=by rw [w64 (by omega) (by omega)];omega
  have ew:i64.wrap ((i:Int)+(w:Int))=((i+w:Nat):Int):=by rw [w64 (by omega) (by omega)];omega
  have ew1:i64.wrap (((i+w:Nat):Int)+1)=((i+w+1:Nat):Int):=by rw [w64 (by omega) (by omega)];omega
  have hxi:=getD_u32 hx i
  have hoi:=getD_u32 hu (i+w)
  obtain ⟨p0,p1,p2,q,q0,q1⟩:=shl_parts hxi hs
  have es:(2:Int)^(min (Int.toNat (s:Int)) (IntKind.bits .u64))=2^s:=by
   rw [Int.toNat_natCast]
   congr 1
   show min s 64=s
   omega
  have hk:=Yk124_1 na xs (w:Nat) (s:Nat) (w+xs.length+1) os (xs.length:Nat) (i:Nat) z (by simp;omega) (by omega) (by omega) (by rw [ew];omega) hl (by rw [ew,ew1];omega) (by simpa using hl)
  rw [ei,ew,ew1,es,Int.toNat_natCast,Int.toNat_natCast,Int.toNat_natCast,wu64 (n:=xs.getD i 0) (by omega),wu64 ⟨p0,p1⟩,fd32,wu32 (xs.getD i 0*2^s),q1] at hk
  have hqs:q*2^s<4294967296:=by rw [← q1];omega
  rw [or32 q0 hqs (by omega) ⟨hoi.1,hc⟩] at hk
  have hhi:0≤xs.getD i 0*2^s / 4294967296:=by omega
  have hp2:(2:Int)^s≤4294967296:=by have:=pow2_le (show s≤32 by omega);rwa [show (2:Int)^32=4294967296 by decide] at this
  rw [w32 ⟨hhi,by omega⟩] at hk
  have hsum:0≤q*2^s+os.getD (i+w) 0∧q*2^s+os.getD (i+w) 0<4294967296:=by
   have hq2:0≤q*2^s:=by rw [← q1];omega
   refine ⟨by omega,?_⟩
   have e:=p32s (show s≤32 by omega)
   rw [e] at hqs ⊢
   have hp:=pow2_pos s
   have:=Int.lt_of_mul_lt_mul_right hqs (by omega)
   have:=Int.mul_le_mul_of_nonneg_right (show q+1≤2^(32-s) by omega) (show (0:Int)≤2^s by omega)
   rw [Int.add_mul,Int.one_mul] at this
   omega
  obtain ⟨os',g1,g2,g3,g4⟩:=ih (i+1) ((os.set (i+w) (q*2^s+os.getD (i+w) 0)).set (i+w+1) (xs.getD i 0*2^s / 4294967296)) (by omega) (by simpa using hl) (u32_set (u32_set hu hsum) ⟨hhi,by omega⟩) (by
    rw [valL_set _ _ _ (by simp;omega),valL_set _ _ _ (by omega),getD_other (by omega),hz (i+w+1) (by omega),hv,take_succ_val xs i (by omega),Int.pow_succ,Int.pow_add]
    have e3:xs.getD i 0*2^s=4294967296*(xs.getD i 0*2^s / 4294967296)+q*2^s:=by omega
    generalize (4294967296:Int)^i=P at *
    generalize (4294967296:Int)^w=V at *
    generalize xs.getD i 0*2^s / 4294967296=H at *
    generalize os.getD (i+w) 0=o at *
    generalize q*2^s=Q at *
    have e4:(2:Int)^s*(valL (xs.take i)+P*xs.getD i 0)=2^s*valL (xs.take i)+P*(xs.getD i 0*2^s):=by grind
    rw [e4,e3]
    grind) (by
    rw [show i+1+w=i+w+1 by omega,show ((os.set (i+w) (q*2^s+os.getD (i+w) 0)).set (i+w+1) (xs.getD i 0*2^s / 4294967296)).getD (i+w+1) 0=xs.getD i 0*2^s / 4294967296 by simp [List.getD_eq_getElem?_getD,show i+w+1<os.length by omega]]
    exact p2) (fun t ht=>by rw [getD_other (by omega),getD_other (by omega)];exact hz t (by omega))
  exact ⟨os',RunsW.loop hk g1,g2,g3,g4⟩
theorem wshl_run {neg:Bool} {xs:List Int} (hu:U32 xs) (n:Nat) (hn:n≤9223372036854775807) (hN:n / 32+xs.length+1≤1048576):Runs Yir 124 [.agg [.bool neg, .sl xs.length (lm xs)], .int .i64 (n:Nat)] (bigAV (rv neg xs*2^n)):=by
 have l1:=rv_len (neg:=neg) hu
 have r1:=limbs_run (neg:=neg) hu (by omega)
 generalize rv neg xs=a at *
 by_cases h0:(limbs a.natAbs).length=0
 ·have h:=Yrun124_1 neg _ xs (limbs a.natAbs) (n:Nat) (by rw [h0];rfl) r1
  have ha:a=0:=by have:=(limbs_zero_len a.natAbs).1 h0;omega
  rw [ha,Int.zero_mul]
  exact h
 ·have e1:i64.wrap (Int.tdiv (n:Int) 32)=((n / 32:Nat):Int):=by
   rw [Int.tdiv_eq_ediv_of_nonneg (by omega),w64 (by omega) (by omega)];omega
  have e2:u64.wrap (Int.tmod (n:Int) 32)=((n % 32:Nat):Int):=by
   rw [Int.tmod_eq_emod_of_nonneg (by omega),wu64 (by omega)];omega
  have e3:i64.wrap ((((limbs a.natAbs).length:Nat):Int)+((n / 32:Nat):Int))=((n / 32+(limbs a.natAbs).length:Nat):Int):=by rw [w64 (by omega) (by omega)];omega
  have e4:i64.wrap (((n / 32+(limbs a.natAbs).length:Nat):Int)+1)=((n / 32+(limbs a.natAbs).length+1:Nat):Int):=by rw [w64 (by omega) (by omega)];omega
  have hs:n % 32<32:=Nat.mod_lt _ (by decide)
  obtain ⟨os,g1,g2,g3,g4⟩:=Yloop124 (na:=decide (a<0)) (xs:=limbs a.natAbs) (z:=z0) (w:=n / 32) (big_u32 a.natAbs) hs (by omega) (limbs a.natAbs).length 0 (List.replicate (n / 32+(limbs a.natAbs).length+1) 0) (by omega) (by simp) (u32_zeros _) (by rw [valL_zeros];simp [valL]) (by rw [getD_zeros];exact pow2_pos _) (fun t _=>getD_zeros _ _)
  have hm:=made_run (neg:=decide (a<0)) g3 (by omega)
  have hv:rv (decide (a<0)) os=a*2^n:=by
   rw [rv_scale (xs:=limbs a.natAbs) (t:=2^n) (by rw [g4,pow2_split n];grind),rv_big]
  rw [hv,g2] at hm
  exact Yrun124_2 neg _ xs (limbs a.natAbs) os (n:Nat) _ _ _ _ _ _ _ (by rw [beq_eq_false_iff_ne];omega) r1 (by rw [e1,e3,e4];omega) (by rw [e1,e2,e3,e4,Int.toNat_natCast,repl_lim];exact g1) hm
end Go.Proofs.Ythnnfemologhfaa

namespace Go.Proofs.Ythnnfemologhfaa
open Go.IntKind (i64 u64 u32)
open Go.Ai
set_option maxRecDepth 100000
theorem Yrun135_1 (na nb:Bool) (xs ys:List Int) (s t:Int) (c1:(decide (s<t))=true) (n1:Runs Yir 81 [.agg [.bool na, .sl xs.length (lm xs)]] (.int .i64 s)) (n2:Runs Yir 81 [.agg [.bool nb, .sl ys.length (lm ys)]] (.int .i64 t)):Runs Yir 135 [.agg [.bool na, .sl xs.length (lm xs)], .agg [.bool nb, .sl ys.length (lm ys)]] (.int .i64 (-1)):=Runs.go (fn:=Yi135) TDD_holds rfl 400 rfl [.r (.int .i64 s), .r (.int .i64 t), .b true] (ac n1 (ac n2 (ac c1 a0))) (by kernel_rfl)
theorem Yrun135_2 (na nb:Bool) (xs ys:List Int) (s t:Int) (c1:(decide (s<t))=false) (c2:(decide (s>t))=true) (n1:Runs Yir 81 [.agg [.bool na, .sl xs.length (lm xs)]] (.int .i64 s)) (n2:Runs Yir 81 [.agg [.bool nb, .sl ys.length (lm ys)]] (.int .i64 t)):Runs Yir 135 [.agg [.bool na, .sl xs.length (lm xs)], .agg [.bool nb, .sl ys.length (lm ys)]] (.int .i64 1):=Runs.go (fn:=Yi135) TDD_holds rfl 400 rfl [.r (.int .i64 s), .r (.int .i64 t), .b false, .b true] (ac n1 (ac n2 (ac c1 (ac c2 a0)))) (by kernel_rfl)
theorem Yrun135_3 (na nb:Bool) (xs ys:List Int) (s t c:Int) (c1:(decide (s<t))=false) (c2:(decide (s>t))=false) (c3:(decide (s<0))=true) (n1:Runs Yir 81 [.agg [.bool na, .sl xs.length (lm xs)]] (.int .i64 s)) (n2:Runs Yir 81 [.agg [.bool nb, .sl ys.length (lm ys)]] (.int .i64 t)) (n3:Runs Yir 125 [.sl xs.length (lm xs)] (.fresh 1 ((trimL xs).length) (lm (trimL xs)))) (n4:Runs Yir 125 [.sl ys.length (lm ys)] (.fresh 1 ((trimL ys).length) (lm (trimL ys)))) (n5:Runs Yir 139 [.sl ((trimL xs).length) (lm (trimL xs)), .sl ((trimL ys).length) (lm (trimL ys))] (.int .i64 c)):Runs Yir 135 [.agg [.bool na, .sl xs.length (lm xs)], .agg [.bool nb, .sl ys.length (lm ys)]] (.int .i64 (i64.wrap (0-c))):=Runs.go (fn:=Yi135) TDD_holds rfl 400 rfl [.r (.int .i64 s), .r (.int .i64 t), .b false, .b false, .r (.fresh 1 ((trimL xs).length) (lm (trimL xs))), .r (.fresh 1 ((trimL ys).length) (lm (trimL ys))), .r (.int .i64 c), .b true] (ac n1 (ac n2 (ac c1 (ac c2 (ac n3 (ac n4 (ac n5 (ac c3 a0)))))))) (by kernel_rfl)
theorem Yrun135_4 (na nb:Bool) (xs ys:List Int) (s t c:Int) (c1:(decide (s<t))=false) (c2:(decide (s>t))=false) (c3:(decide (s<0))=false) (n1:Runs Yir 81 [.agg [.bool na, .sl xs.length (lm xs)]] (.int .i64 s)) (n2:Runs Yir 81 [.agg [.bool nb, .sl ys.length (lm ys)]] (.int .i64 t)) (n3:Runs Yir 125 [.sl xs.length (lm xs)] (.fresh 1 ((trimL xs).length) (lm (trimL xs)))) (n4:Runs Yir 125 [.sl ys.length (lm ys)] (.fresh 1 ((trimL ys).length) (lm (trimL ys)))) (n5:Runs Yir 139 [.sl ((trimL xs).length) (lm (trimL xs)), .sl ((trimL ys).length) (lm (trimL ys))] (.int .i64 c)):Runs Yir 135 [.agg [.bool na, .sl xs.length (lm xs)], .agg [.bool nb, .sl ys.length (lm ys)]] (.int .i64 c):=Runs.go (fn:=Yi135) TDD_holds rfl 400 rfl [.r (.int .i64 s), .r (.int .i64 t), .b false, .b false, .r (.fresh 1 ((trimL xs).length) (lm (trimL xs))), .r (.fresh 1 ((trimL ys).length) (lm (trimL ys))), .r (.int .i64 c), .b false] (ac n1 (ac n2 (ac c1 (ac c2 (ac n3 (ac n4 (ac n5 (ac c3 a0)))))))) (by kernel_rfl)
theorem Yrun134_1 (na nb m1 m2:Bool) (xs ys us vs:List Int) (d:Int) (c1:(m1)=true) (c2:(m2)=true) (n1:Runs Yir 122 [.agg [.bool na, .sl xs.length (lm xs)]] (.tup [.bool m1, .sl us.length (lm us)])) (n2:Runs Yir 122 [.agg [.bool nb, .sl ys.length (lm ys)]] (.tup [.bool m2, .sl vs.length (lm vs)])) (n3:Runs Yir 150 [.sl vs.length (lm vs), .sl us.length (lm us)] (.int .i64 d)):Runs Yir 134 [.agg [.bool na, .sl xs.length (lm xs)], .agg [.bool nb, .sl ys.length (lm ys)]] (.int .i64 d):=Runs.go (fn:=Yi134) TDD_holds rfl 400 rfl [.r (.tup [.bool m1, .sl us.length (lm us)]), .r (.tup [.bool m2, .sl vs.length (lm vs)]), .b true, .b false, .b true, .b false, .b true, .r (.int .i64 d)] (ac n1 (ac n2 (ac c1 (ac (show (!m2)=false from (by rw [c2];rfl)) (ac c2 (ac (show (!m1)=false from (by rw [c1];rfl)) (ac c1 (ac n3 a0)))))))) (by kernel_rfl)
theorem Yrun134_2 (na nb m1 m2:Bool) (xs ys us vs:List Int) (c1:(m1)=true) (c2:(m2)=false) (n1:Runs Yir 122 [.agg [.bool na, .sl xs.length (lm xs)]] (.tup [.bool m1, .sl us.length (lm us)])) (n2:Runs Yir 122 [.agg [.bool nb, .sl ys.length (lm ys)]] (.tup [.bool m2, .sl vs.length (lm vs)])):Runs Yir 134 [.agg [.bool na, .sl xs.length (lm xs)], .agg [.bool nb, .sl ys.length (lm ys)]] (.int .i64 (-1)):=Runs.go (fn:=Yi134) TDD_holds rfl 400 rfl [.r (.tup [.bool m1, .sl us.length (lm us)]), .r (.tup [.bool m2, .sl vs.length (lm vs)]), .b true, .b true] (ac n1 (ac n2 (ac c1 (ac (show (!m2)=true from (by rw [c2];rfl)) a0)))) (by kernel_rfl)
theorem Yrun134_3 (na nb m1 m2:Bool) (xs ys us vs:List Int) (c1:(m1)=false) (c2:(m2)=true) (n1:Runs Yir 122 [.agg [.bool na, .sl xs.length (lm xs)]] (.tup [.bool m1, .sl us.length (lm us)])) (n2:Runs Yir 122 [.agg [.bool nb, .sl ys.length (lm ys)]] (.tup [.bool m2, .sl vs.length (lm vs)])):Runs Yir 134 [.agg [.bool na, .sl xs.length (lm xs)], .agg [.bool nb, .sl ys.length (lm ys)]] (.int .i64 1):=Runs.go (fn:=Yi134) TDD_holds rfl 400 rfl [.r (.tup [.bool m1, .sl us.length (lm us)]), .r (.tup [.bool m2, .sl vs.length (lm vs)]), .b false, .b false, .b true, .b true] (ac n1 (ac n2 (ac c1 (ac (show false=false from rfl) (ac c2 (ac (show (!m1)=true from (by rw [c1];rfl)) a0)))))) (by kernel_rfl)
theorem Yrun134_4 (na nb m1 m2:Bool) (xs ys us vs:List Int) (c:Int) (c1:(m1)=false) (c2:(m2)=false) (n1:Runs Yir 122 [.agg [.bool na, .sl xs.length (lm xs)]] (.tup [.bool m1, .sl us.length (lm us)])) (n2:Runs Yir 122 [.agg [.bool nb, .sl ys.length (lm ys)]] (.tup [.bool m2, .sl vs.length (lm vs)])) (n3:Runs Yir 150 [.sl us.length (lm us), .sl vs.length (lm vs)] (.int .i64 c)):Runs Yir 134 [.agg [.bool na, .sl xs.length (lm xs)], .agg [.bool nb, .sl ys.length (lm ys)]] (.int .i64 c):=Runs.go (fn:=Yi134) TDD_holds rfl 400 rfl [.r (.tup [.bool m1, .sl us.length (lm us)]), .r (.tup [.bool m2, .sl vs.length (lm vs)]), .b false, .b false, .b false, .b false, .b false, .r (.int .i64 c)] (ac n1 (ac n2 (ac c1 (ac (show false=false from rfl) (ac c2 (ac (show false=false from rfl) (ac c1 (ac n3 a0)))))))) (by kernel_rfl)
def Ys151a (m:Bool) (k:Int) (s:Int) (ms:List Int) (lost:Bool) (i:Int):State:=(dds 4 (.box [.bool false, .sl 0 []]::(.val (.bool m)::(.val (.sl ms.length (lm ms))::(.val (.int .i64 k)::(.val (.int .u64 s)::(.val (.bool lost)::(.val (.int .i64 i)::(dds 92 [])))))))))
theorem Yk151a_2 (m:Bool) (k:Int) (s:Int) (ms:List Int) (lost:Bool) (i:Int)  (c1:(decide (i<k))=true) (c2:(decide (i<(ms.length:Int)))=true) (c3:(lost)=false) (n1:0≤i∧i<(ms.length:Int)):RunsW Yir Yc151a (Ys151a m k s ms lost i) .norm (Ys151a m k s ms ((ms.getD (Int.toNat i) 0) != 0) (i64.wrap (i+1))):=(RunsW.go TDD_holds 400 [.b true, .b true, .b false, .v (.int .u32 (ms.getD (Int.toNat i) 0))] [4,5,6,7,8,9,10] (ac c1 (ac c2 (ac c3 (ac n1 (ac (take_limI n1) a0))))) (by kernel_rfl))
theorem Yk151a_4 (m:Bool) (k:Int) (s:Int) (ms:List Int) (lost:Bool) (i:Int)  (c1:(decide (i<k))=false):RunsW Yir Yc151a (Ys151a m k s ms lost i) (.exit 0) (Ys151a m k s ms lost i):=(RunsW.go TDD_holds 400 [.b false, .b false] [4,5,6,7,8,9,10] (ac c1 (ac (show false=false from rfl) a0)) (by kernel_rfl))
def Ys151b (m:Bool) (k:Int) (s:Int) (ms:List Int) (lost:Bool) (n:Nat) (cs:List AV) (i:Int):State:=(dds 4 (.box [.bool false, .sl 0 []]::(.val (.bool m)::(.val (.sl ms.length (lm ms))::(.val (.int .i64 k)::(.val (.int .u64 s)::(.val (.bool lost)::(dds 1 (.own 1 n cs::(.val (.int .i64 i)::(dds 90 [])))))))))))
theorem Yk151b_1 (m:Bool) (k:Int) (s:Int) (ms:List Int) (lost:Bool) (n:Nat) (cs:List AV) (i:Int)  (c1:(decide (i<(ms.length:Int)))=true) (c2:(decide ((i64.wrap (i+1))<(ms.length:Int)))=true) (n1:0≤i∧i<(ms.length:Int)) (n2:0≤(i64.wrap (i+1))∧(i64.wrap (i+1))<(ms.length:Int)) (n3:¬ s<0) (n4:n+1≤1048576):RunsW Yir Yc151b (Ys151b m k s ms lost n cs i) .norm (Ys151b m k s ms lost (n+1) (cs++([.int .u32 (u32.wrap (Int.fdiv (u64.wrap ((BitVec.ofInt (IntKind.bits .u64) (u64.wrap (ms.getD (Int.toNat i) 0)) ||| BitVec.ofInt (IntKind.bits .u64) (u64.wrap ((u64.wrap (ms.getD (Int.toNat (i64.wrap (i+1))) 0))*2^(min (Int.toNat 32) (IntKind.bits .u64))))).toNat)) (2^(min (Int.toNat s) (IntKind.bits .u64)))))]:List AV)) (i64.wrap (i+1))):=(RunsW.go TDD_holds 400 [.b true, .v (.int .u32 (ms.getD (Int.toNat i) 0)), .b true, .v (.int .u32 (ms.getD (Int.toNat (i64.wrap (i+1))) 0))] [4,5,6,7,8,9,11,12] (ac c1 (ac n1 (ac (take_limI n1) (ac c2 (ac n2 (ac (take_limI n2) (ac (show ¬ (32:Int)<0 from (by decide)) (ac n3 (ac (show List.length ([.int .u32 (u32.wrap (Int.fdiv (u64.wrap ((BitVec.ofInt (IntKind.bits .u64) (u64.wrap (ms.getD (Int.toNat i) 0)) ||| BitVec.ofInt (IntKind.bits .u64) (u64.wrap ((u64.wrap (ms.getD (Int.toNat (i64.wrap (i+1))) 0))*2^(min (Int.toNat 32) (IntKind.bits .u64))))).toNat)) (2^(min (Int.toNat s) (IntKind.bits .u64)))))]:List AV)=1*1 from rfl) (ac n4 a0)))))))))) (by kernel_rfl))
theorem Yk151b_2 (m:Bool) (k:Int) (s:Int) (ms:List Int) (lost:Bool) (n:Nat) (cs:List AV) (i:Int)  (c1:(decide (i<(ms.length:Int)))=true) (c2:(decide ((i64.wrap (i+1))<(ms.length:Int)))=false) (n1:0≤i∧i<(ms.length:Int)) (n2:¬ s<0) (n3:n+1≤1048576):RunsW Yir Yc151b (Ys151b m k s ms lost n cs i) .norm (Ys151b m k s ms lost (n+1) (cs++([.int .u32 (u32.wrap (Int.fdiv (u64.wrap (ms.getD (Int.toNat i) 0)) (2^(min (Int.toNat s) (IntKind.bits .u64)))))]:List AV)) (i64.wrap (i+1))):=(RunsW.go TDD_holds 400 [.b true, .v (.int .u32 (ms.getD (Int.toNat i) 0)), .b false] [4,5,6,7,8,9,11,12] (ac c1 (ac n1 (ac (take_limI n1) (ac c2 (ac n2 (ac (show List.length ([.int .u32 (u32.wrap (Int.fdiv (u64.wrap (ms.getD (Int.toNat i) 0)) (2^(min (Int.toNat s) (IntKind.bits .u64)))))]:List AV)=1*1 from rfl) (ac n3 a0))))))) (by kernel_rfl))
theorem Yk151b_3 (m:Bool) (k:Int) (s:Int) (ms:List Int) (lost:Bool) (n:Nat) (cs:List AV) (i:Int)  (c1:(decide (i<(ms.length:Int)))=false):RunsW Yir Yc151b (Ys151b m k s ms lost n cs i) (.exit 2) (Ys151b m k s ms lost n cs i):=(RunsW.go TDD_holds 400 [.b false] [4,5,6,7,8,9,11,12] (ac c1 a0) (by kernel_rfl))
theorem Yrun151_4 (neg m lost:Bool) (xs ms os:List Int) (sh i1 i2 u:Int) (c1:(decide ((i64.wrap (Int.tdiv sh 32))<(ms.length:Int)))=true) (c2:((u32.wrap ((BitVec.ofInt (IntKind.bits .u32) (ms.getD (Int.toNat (i64.wrap (Int.tdiv sh 32))) 0) &&& BitVec.ofInt (IntKind.bits .u32) (u32.wrap ((u32.wrap (1*2^(min (Int.toNat (u64.wrap (Int.tmod sh 32))) (IntKind.bits .u32))))-1))).toNat)) != 0)=false) (c3:(m)=true) (c4:(lost)=false) (n1:Runs Yir 122 [.agg [.bool neg, .sl xs.length (lm xs)]] (.tup [.bool m, .sl ms.length (lm ms)])) (hl2:RunsW Yir (.loop Yc151a) (Ys151a m (i64.wrap (Int.tdiv sh 32)) (u64.wrap (Int.tmod sh 32)) ms false 0) (.exit 0) (Ys151a m (i64.wrap (Int.tdiv sh 32)) (u64.wrap (Int.tmod sh 32)) ms lost i1)) (hl3:RunsW Yir (.loop Yc151b) (Ys151b m (i64.wrap (Int.tdiv sh 32)) (u64.wrap (Int.tmod sh 32)) ms lost 0 [] (i64.wrap (Int.tdiv sh 32))) (.exit 2) (Ys151b m (i64.wrap (Int.tdiv sh 32)) (u64.wrap (Int.tmod sh 32)) ms lost os.length (lm os) i2)) (n4:0≤(i64.wrap (Int.tdiv sh 32))∧(i64.wrap (Int.tdiv sh 32))<(ms.length:Int)) (n5:¬ (u64.wrap (Int.tmod sh 32))<0) (n6:Runs Yir 133 [.bool m, .sl os.length (lm os)] (bigAV u)):Runs Yir 151 [.agg [.bool neg, .sl xs.length (lm xs)], .int .i64 sh] (bigAV u):=Runs.of_bodyW (fn:=Yi151) (s:=(dds 4 (.box [.bool (decide (u<0)), .sl ((limbs (Int.natAbs u)).length) (lm (limbs (Int.natAbs u)))]::(dds 98 [])))) (ex := .ret) rfl rfl (RunsW.seq (RunsW.go (t:=(.val (.agg [.bool neg, .sl xs.length (lm xs)])::(vi sh::(.box [.bool neg, .sl xs.length (lm xs)]::(dds 1 (.box [.bool false, .sl 0 []]::(dds 98 []))))))) (ex := .norm) TDD_holds 400 [] [0,1,2,4] a0 (by kernel_rfl)) (RunsW.seq (RunsW.go (t:=(.val (.agg [.bool neg, .sl xs.length (lm xs)])::(vi sh::(.box [.bool neg, .sl xs.length (lm xs)]::(dds 1 (.box [.bool false, .sl 0 []]::(.val (.bool m)::(vl ms::(dds 96 []))))))))) (ex := .norm) TDD_holds 400 [.r (.tup [.bool m, .sl ms.length (lm ms)])] [0,1,2,4,5,6] (ac n1 a0) (by kernel_rfl)) (RunsW.seq (RunsW.go (t:=(.val (.agg [.bool neg, .sl xs.length (lm xs)])::(vi sh::(.box [.bool neg, .sl xs.length (lm xs)]::(dds 1 (.box [.bool false, .sl 0 []]::(.val (.bool m)::(vl ms::(vi (i64.wrap (Int.tdiv sh 32))::(.val (.int .u64 (u64.wrap (Int.tmod sh 32)))::(dds 94 []))))))))))) (ex := .norm) TDD_holds 400 [] [0,1,2,4,5,6,7,8] (ac (show ¬ (32:Int)=0 from (by decide)) (ac (show ¬ (32:Int)=0 from (by decide)) a0)) (by kernel_rfl)) (RunsW.seq (RunsW.go (t:=(.val (.agg [.bool neg, .sl xs.length (lm xs)])::(vi sh::(.box [.bool neg, .sl xs.length (lm xs)]::(dds 1 (.box [.bool false, .sl 0 []]::(.val (.bool m)::(vl ms::(vi (i64.wrap (Int.tdiv sh 32))::(.val (.int .u64 (u64.wrap (Int.tmod sh 32)))::(.val (.bool false)::(dds 93 [])))))))))))) (ex := .norm) TDD_holds 400 [] [0,1,2,4,5,6,7,8,9] a0 (by kernel_rfl)) (RunsW.seq (RunsW.seq (RunsW.go TDD_holds 400 [] [4,5,6,7,8,9,10] a0 (by kernel_rfl)) (RunsW.block hl2)) (RunsW.seq (RunsW.go (t:=(dds 4 (.box [.bool false, .sl 0 []]::(.val (.bool m)::(vl ms::(vi (i64.wrap (Int.tdiv sh 32))::(.val (.int .u64 (u64.wrap (Int.tmod sh 32)))::(.val (.bool lost)::(dds 1 (.own 1 0 []::(dds 91 []))))))))))) (ex := .norm) TDD_holds 400 [] [4,5,6,7,8,9,11] a0 (by kernel_rfl)) (RunsW.seq (RunsW.seq (RunsW.go TDD_holds 400 [] [4,5,6,7,8,9,11,12] a0 (by kernel_rfl)) (RunsW.block hl3)) (RunsW.go TDD_holds 400 [.b true, .v (.int .u32 (ms.getD (Int.toNat (i64.wrap (Int.tdiv sh 32))) 0)), .b false, .b true, .b false, .r (bigAV u)] [4] (ac c1 (ac n4 (ac (take_limI n4) (ac n5 (ac c2 (ac c3 (ac c4 (ac n6 a0)))))))) (by kernel_rfl))))))))) (by intro i e;cases e) rfl
theorem Yrun151_5 (neg m lost:Bool) (xs ms os:List Int) (sh i1 i2 u:Int) (c1:(decide ((i64.wrap (Int.tdiv sh 32))<(ms.length:Int)))=true) (c2:((u32.wrap ((BitVec.ofInt (IntKind.bits .u32) (ms.getD (Int.toNat (i64.wrap (Int.tdiv sh 32))) 0) &&& BitVec.ofInt (IntKind.bits .u32) (u32.wrap ((u32.wrap (1*2^(min (Int.toNat (u64.wrap (Int.tmod sh 32))) (IntKind.bits .u32))))-1))).toNat)) != 0)=false) (c3:(m)=false) (n1:Runs Yir 122 [.agg [.bool neg, .sl xs.length (lm xs)]] (.tup [.bool m, .sl ms.length (lm ms)])) (hl2:RunsW Yir (.loop Yc151a) (Ys151a m (i64.wrap (Int.tdiv sh 32)) (u64.wrap (Int.tmod sh 32)) ms false 0) (.exit 0) (Ys151a m (i64.wrap (Int.tdiv sh 32)) (u64.wrap (Int.tmod sh 32)) ms lost i1)) (hl3:RunsW Yir (.loop Yc151b) (Ys151b m (i64.wrap (Int.tdiv sh 32)) (u64.wrap (Int.tmod sh 32)) ms lost 0 [] (i64.wrap (Int.tdiv sh 32))) (.exit 2) (Ys151b m (i64.wrap (Int.tdiv sh 32)) (u64.wrap (Int.tmod sh 32)) ms lost os.length (lm os) i2)) (n4:0≤(i64.wrap (Int.tdiv sh 32))∧(i64.wrap (Int.tdiv sh 32))<(ms.length:Int)) (n5:¬ (u64.wrap (Int.tmod sh 32))<0) (n6:Runs Yir 133 [.bool m, .sl os.length (lm os)] (bigAV u)):Runs Yir 151 [.agg [.bool neg, .sl xs.length (lm xs)], .int .i64 sh] (bigAV u):=Runs.of_bodyW (fn:=Yi151) (s:=(dds 4 (.box [.bool (decide (u<0)), .sl ((limbs (Int.natAbs u)).length) (lm (limbs (Int.natAbs u)))]::(dds 98 [])))) (ex := .ret) rfl rfl (RunsW.seq (RunsW.go (t:=(.val (.agg [.bool neg, .sl xs.length (lm xs)])::(vi sh::(.box [.bool neg, .sl xs.length (lm xs)]::(dds 1 (.box [.bool false, .sl 0 []]::(dds 98 []))))))) (ex := .norm) TDD_holds 400 [] [0,1,2,4] a0 (by kernel_rfl)) (RunsW.seq (RunsW.go (t:=(.val (.agg [.bool neg, .sl xs.length (lm xs)])::(vi sh::(.box [.bool neg, .sl xs.length (lm xs)]::(dds 1 (.box [.bool false, .sl 0 []]::(.val (.bool m)::(vl ms::(dds 96 []))))))))) (ex := .norm) TDD_holds 400 [.r (.tup [.bool m, .sl ms.length (lm ms)])] [0,1,2,4,5,6] (ac n1 a0) (by kernel_rfl)) (RunsW.seq (RunsW.go (t:=(.val (.agg [.bool neg, .sl xs.length (lm xs)])::(vi sh::(.box [.bool neg, .sl xs.length (lm xs)]::(dds 1 (.box [.bool false, .sl 0 []]::(.val (.bool m)::(vl ms::(vi (i64.wrap (Int.tdiv sh 32))::(.val (.int .u64 (u64.wrap (Int.tmod sh 32)))::(dds 94 []))))))))))) (ex := .norm) TDD_holds 400 [] [0,1,2,4,5,6,7,8] (ac (show ¬ (32:Int)=0 from (by decide)) (ac (show ¬ (32:Int)=0 from (by decide)) a0)) (by kernel_rfl)) (RunsW.seq (RunsW.go (t:=(.val (.agg [.bool neg, .sl xs.length (lm xs)])::(vi sh::(.box [.bool neg, .sl xs.length (lm xs)]::(dds 1 (.box [.bool false, .sl 0 []]::(.val (.bool m)::(vl ms::(vi (i64.wrap (Int.tdiv sh 32))::(.val (.int .u64 (u64.wrap (Int.tmod sh 32)))::(.val (.bool false)::(dds 93 [])))))))))))) (ex := .norm) TDD_holds 400 [] [0,1,2,4,5,6,7,8,9] a0 (by kernel_rfl)) (RunsW.seq (RunsW.seq (RunsW.go TDD_holds 400 [] [4,5,6,7,8,9,10] a0 (by kernel_rfl)) (RunsW.block hl2)) (RunsW.seq (RunsW.go (t:=(dds 4 (.box [.bool false, .sl 0 []]::(.val (.bool m)::(vl ms::(vi (i64.wrap (Int.tdiv sh 32))::(.val (.int .u64 (u64.wrap (Int.tmod sh 32)))::(.val (.bool lost)::(dds 1 (.own 1 0 []::(dds 91 []))))))))))) (ex := .norm) TDD_holds 400 [] [4,5,6,7,8,9,11] a0 (by kernel_rfl)) (RunsW.seq (RunsW.seq (RunsW.go TDD_holds 400 [] [4,5,6,7,8,9,11,12] a0 (by kernel_rfl)) (RunsW.block hl3)) (RunsW.go TDD_holds 400 [.b true, .v (.int .u32 (ms.getD (Int.toNat (i64.wrap (Int.tdiv sh 32))) 0)), .b false, .b false, .b false, .r (bigAV u)] [4] (ac c1 (ac n4 (ac (take_limI n4) (ac n5 (ac c2 (ac c3 (ac (show false=false from rfl) (ac n6 a0)))))))) (by kernel_rfl))))))))) (by intro i e;cases e) rfl
theorem Yrun98 (r t:Rn) (e f X Y c:Int) (n1:Runs Yir 124 [rawAV r, .int .i64 (i64.wrap ((if f>e then f else e)-e))] (bigAV X)) (n2:Runs Yir 124 [rawAV t, .int .i64 (i64.wrap ((if f>e then f else e)-f))] (bigAV Y)) (n3:Runs Yir 134 [bigAV X,bigAV Y] (.int .i64 c)):Runs Yir 98 [.agg [.bool r.1, .sl r.2.length (lm r.2), .int .i64 e], .agg [.bool t.1, .sl t.2.length (lm t.2), .int .i64 f]] (.int .i64 c):=Runs.go (fn:=Yi98) TDD_holds rfl 400 rfl [.r (bigAV X), .r (bigAV Y), .r (.int .i64 c)] (ac n1 (ac n2 (ac n3 a0))) (by kernel_rfl)
def Ys142 (n:Rn) (e:Int) (z:Int):State:=(dds 1 (.val (.int .i64 e)::(.box [.bool n.1, .sl n.2.length (lm n.2)]::(dds 1 (.box [.bool false, .sl 0 [], .int .i64 0]::(.val (.int .i64 z)::(dds 33 [])))))))
theorem Yk142_1 (n:Rn) (e:Int) (z:Int)  (c1:(decide (z<e))=true) (c2:((u32.wrap ((BitVec.ofInt (IntKind.bits .u32) (Int.fdiv (n.2.getD (Int.toNat (i64.wrap (Int.tdiv z 32))) 0) (2^(min (Int.toNat (u64.wrap (Int.tmod z 32))) (IntKind.bits .u32)))) &&& BitVec.ofInt (IntKind.bits .u32) 1).toNat))==0)=true) (n1:0≤(i64.wrap (Int.tdiv z 32))∧(i64.wrap (Int.tdiv z 32))<(n.2.length:Int)) (n2:¬ (u64.wrap (Int.tmod z 32))<0):RunsW Yir Yc142 (Ys142 n e z) .norm (Ys142 n e (i64.wrap (z+1))):=(RunsW.go TDD_holds 400 [.b true, .v (.int .u32 (n.2.getD (Int.toNat (i64.wrap (Int.tdiv z 32))) 0)), .b true] [1,2,4,5] (ac c1 (ac (show ¬ (32:Int)=0 from (by decide)) (ac n1 (ac (take_limI n1) (ac (show ¬ (32:Int)=0 from (by decide)) (ac n2 (ac c2 a0))))))) (by kernel_rfl))
theorem Yk142_2 (n:Rn) (e:Int) (z:Int)  (c1:(decide (z<e))=true) (c2:((u32.wrap ((BitVec.ofInt (IntKind.bits .u32) (Int.fdiv (n.2.getD (Int.toNat (i64.wrap (Int.tdiv z 32))) 0) (2^(min (Int.toNat (u64.wrap (Int.tmod z 32))) (IntKind.bits .u32)))) &&& BitVec.ofInt (IntKind.bits .u32) 1).toNat))==0)=false) (n1:0≤(i64.wrap (Int.tdiv z 32))∧(i64.wrap (Int.tdiv z 32))<(n.2.length:Int)) (n2:¬ (u64.wrap (Int.tmod z 32))<0):RunsW Yir Yc142 (Ys142 n e z) (.exit 0) (Ys142 n e z):=(RunsW.go TDD_holds 400 [.b true, .v (.int .u32 (n.2.getD (Int.toNat (i64.wrap (Int.tdiv z 32))) 0)), .b false] [1,2,4,5] (ac c1 (ac (show ¬ (32:Int)=0 from (by decide)) (ac n1 (ac (take_limI n1) (ac (show ¬ (32:Int)=0 from (by decide)) (ac n2 (ac c2 a0))))))) (by kernel_rfl))
theorem Yk142_3 (n:Rn) (e:Int) (z:Int)  (c1:(decide (z<e))=false):RunsW Yir Yc142 (Ys142 n e z) (.exit 0) (Ys142 n e z):=(RunsW.go TDD_holds 400 [.b false, .b false] [1,2,4,5] (ac c1 (ac (show false=false from rfl) a0)) (by kernel_rfl))
theorem Yrun142_1 (r:Rn) (e n:Int) (c1:((((limbs (Int.natAbs n)).length:Nat):Int)==0)=true) (n1:Runs Yir 132 [rawAV r] (bigAV n)):Runs Yir 142 [rawAV r, .int .i64 e] (.agg [.bool false, .sl 0 [], .int .i64 0]):=Runs.of_bodyW (fn:=Yi142) (s:=(dds 4 (.box [.bool false, .sl 0 [], .int .i64 0]::(dds 34 [])))) (ex := .ret) rfl rfl (RunsW.seq (RunsW.go (t:=(.val (rawAV r)::(vi e::(bR r::(dds 1 (.box [.bool false, .sl 0 [], .int .i64 0]::(dds 34 []))))))) (ex := .norm) TDD_holds 400 [] [0,1,2,4] a0 (by kernel_rfl)) (RunsW.seq (RunsW.go (t:=(.val (rawAV r)::(vi e::(bN n::(dds 1 (.box [.bool false, .sl 0 [], .int .i64 0]::(dds 34 []))))))) (ex := .norm) TDD_holds 400 [.r (bigAV n)] [0,1,2,4] (ac n1 a0) (by kernel_rfl)) (RunsW.seq_out (RunsW.go TDD_holds 400 [.b true] [4] (ac c1 a0) (by kernel_rfl)) (by intro e;cases e)))) (by intro i e;cases e) rfl
theorem Yrun142_2 (r:Rn) (e n z u:Int) (c1:((((limbs (Int.natAbs n)).length:Nat):Int)==0)=false) (n1:Runs Yir 132 [rawAV r] (bigAV n)) (hl2:RunsW Yir (.loop Yc142) (Ys142 (cn n) e 0) (.exit 0) (Ys142 (cn n) e z)) (n3:Runs Yir 151 [rawAV (cn n), .int .i64 z] (bigAV u)):Runs Yir 142 [rawAV r, .int .i64 e] (.agg [.bool (decide (u<0)), .sl ((limbs (Int.natAbs u)).length) (lm (limbs (Int.natAbs u))), .int .i64 (i64.wrap (e-z))]):=Runs.of_bodyW (fn:=Yi142) (s:=(dds 4 (.box [.bool (decide (u<0)), .sl ((limbs (Int.natAbs u)).length) (lm (limbs (Int.natAbs u))), .int .i64 (i64.wrap (e-z))]::(dds 34 [])))) (ex := .ret) rfl rfl (RunsW.seq (RunsW.go (t:=(.val (rawAV r)::(vi e::(bR r::(dds 1 (.box [.bool false, .sl 0 [], .int .i64 0]::(dds 34 []))))))) (ex := .norm) TDD_holds 400 [] [0,1,2,4] a0 (by kernel_rfl)) (RunsW.seq (RunsW.go (t:=(.val (rawAV r)::(vi e::(bN n::(dds 1 (.box [.bool false, .sl 0 [], .int .i64 0]::(dds 34 []))))))) (ex := .norm) TDD_holds 400 [.r (bigAV n)] [0,1,2,4] (ac n1 a0) (by kernel_rfl)) (RunsW.seq (RunsW.go (t:=(.val (rawAV r)::(vi e::(bN n::(dds 1 (.box [.bool false, .sl 0 [], .int .i64 0]::(dds 34 []))))))) (ex := .norm) TDD_holds 400 [.b false] [0,1,2,4] (ac c1 a0) (by kernel_rfl)) (RunsW.seq (RunsW.go TDD_holds 400 [] [1,2,4,5] a0 (by kernel_rfl)) (RunsW.seq (RunsW.block hl2) (RunsW.go TDD_holds 400 [.r (bigAV u)] [4] (ac n3 a0) (by kernel_rfl))))))) (by intro i e;cases e) rfl
theorem Yrun107 (r t:Rn) (e f X Y Z n m:Int) (n1:Runs Yir 124 [rawAV r, .int .i64 (i64.wrap ((if f>e then f else e)-e))] (bigAV X)) (n2:Runs Yir 124 [rawAV t, .int .i64 (i64.wrap ((if f>e then f else e)-f))] (bigAV Y)) (n3:Runs Yir 121 [bigAV X,bigAV Y] (bigAV Z)) (n4:Runs Yir 142 [bigAV Z, .int .i64 (i64.wrap ((if f>e then f else e)+1))] (.agg [.bool (decide (n<0)), .sl ((limbs (Int.natAbs n)).length) (lm (limbs (Int.natAbs n))), .int .i64 m])):Runs Yir 107 [.agg [.bool r.1, .sl r.2.length (lm r.2), .int .i64 e], .agg [.bool t.1, .sl t.2.length (lm t.2), .int .i64 f]] (.agg [.bool (decide (n<0)), .sl ((limbs (Int.natAbs n)).length) (lm (limbs (Int.natAbs n))), .int .i64 m]):=Runs.go (fn:=Yi107) TDD_holds rfl 400 rfl [.r (bigAV X), .r (bigAV Y), .r (bigAV Z), .r (.agg [.bool (decide (n<0)), .sl ((limbs (Int.natAbs n)).length) (lm (limbs (Int.natAbs n))), .int .i64 m])] (ac n1 (ac n2 (ac n3 (ac n4 a0)))) (by kernel_rfl)
theorem Yrun97_1 (r:Rn) (e s:Int) (c1:(decide (e≥0))=true) (c2:(decide (e≤4096))=true) (n1:Runs Yir 76 [rawAV r] (.int .i64 s)):Runs Yir 97 [.agg [.bool r.1, .sl r.2.length (lm r.2), .int .i64 e]] (.bool (decide (s≤256))):=Runs.go (fn:=Yi97) TDD_holds rfl 400 rfl [.b true, .b true, .r (.int .i64 s)] (ac c1 (ac c2 (ac n1 a0))) (by kernel_rfl)
theorem Yrun97_2 (r:Rn) (e:Int) (c1:(decide (e≥0))=true) (c2:(decide (e≤4096))=false):Runs Yir 97 [.agg [.bool r.1, .sl r.2.length (lm r.2), .int .i64 e]] (.bool false):=Runs.go (fn:=Yi97) TDD_holds rfl 400 rfl [.b true, .b false] (ac c1 (ac c2 a0)) (by kernel_rfl)
theorem Yrun97_3 (r:Rn) (e:Int) (c1:(decide (e≥0))=false):Runs Yir 97 [.agg [.bool r.1, .sl r.2.length (lm r.2), .int .i64 e]] (.bool false):=Runs.go (fn:=Yi97) TDD_holds rfl 400 rfl [.b false, .b false] (ac c1 (ac (show false=false from rfl) a0)) (by kernel_rfl)
theorem Yrun57_1 (r t:Rn) (e f c:Int) (v1 v2:Bool) (c1:(v1)=true) (c2:(v2)=true) (n1:Runs Yir 97 [.agg [.bool r.1, .sl r.2.length (lm r.2), .int .i64 e]] (.bool v1)) (n2:Runs Yir 97 [.agg [.bool t.1, .sl t.2.length (lm t.2), .int .i64 f]] (.bool v2)) (n3:Runs Yir 98 [.agg [.bool r.1, .sl r.2.length (lm r.2), .int .i64 e], .agg [.bool t.1, .sl t.2.length (lm t.2), .int .i64 f]] (.int .i64 c)):Runs Yir 57 [.agg [.bool r.1, .sl r.2.length (lm r.2), .int .i64 e], .agg [.bool t.1, .sl t.2.length (lm t.2), .int .i64 f]] (.tup [.int .i64 c, .int .i64 0]):=Runs.go (fn:=Yi57) TDD_holds rfl 400 rfl [.r (.bool v1), .b false, .r (.bool v2), .b false, .r (.int .i64 c)] (ac n1 (ac (show (!v1)=false from (by rw [c1];rfl)) (ac n2 (ac (show (!v2)=false from (by rw [c2];rfl)) (ac n3 a0))))) (by kernel_rfl)
theorem Yrun57_2 (r t:Rn) (e f:Int) (v1 v2:Bool) (c1:(v1)=true) (c2:(v2)=false) (n1:Runs Yir 97 [.agg [.bool r.1, .sl r.2.length (lm r.2), .int .i64 e]] (.bool v1)) (n2:Runs Yir 97 [.agg [.bool t.1, .sl t.2.length (lm t.2), .int .i64 f]] (.bool v2)):Runs Yir 57 [.agg [.bool r.1, .sl r.2.length (lm r.2), .int .i64 e], .agg [.bool t.1, .sl t.2.length (lm t.2), .int .i64 f]] (.tup [.int .i64 0, .int .i64 1]):=Runs.go (fn:=Yi57) TDD_holds rfl 400 rfl [.r (.bool v1), .b false, .r (.bool v2), .b true] (ac n1 (ac (show (!v1)=false from (by rw [c1];rfl)) (ac n2 (ac (show (!v2)=true from (by rw [c2];rfl)) a0)))) (by kernel_rfl)
theorem Yrun57_3 (r t:Rn) (e f:Int) (v1:Bool) (c1:(v1)=false) (n1:Runs Yir 97 [.agg [.bool r.1, .sl r.2.length (lm r.2), .int .i64 e]] (.bool v1)):Runs Yir 57 [.agg [.bool r.1, .sl r.2.length (lm r.2), .int .i64 e], .agg [.bool t.1, .sl t.2.length (lm t.2), .int .i64 f]] (.tup [.int .i64 0, .int .i64 1]):=Runs.go (fn:=Yi57) TDD_holds rfl 400 rfl [.r (.bool v1), .b true, .b true] (ac n1 (ac (show (!v1)=true from (by rw [c1];rfl)) (ac (show true=true from rfl) a0))) (by kernel_rfl)
theorem Yrun59_1 (r t:Rn) (e f n m:Int) (v1 v2 v3:Bool) (c1:(v1)=true) (c2:(v2)=true) (c3:(v3)=true) (n1:Runs Yir 97 [.agg [.bool r.1, .sl r.2.length (lm r.2), .int .i64 e]] (.bool v1)) (n2:Runs Yir 97 [.agg [.bool t.1, .sl t.2.length (lm t.2), .int .i64 f]] (.bool v2)) (n3:Runs Yir 107 [.agg [.bool r.1, .sl r.2.length (lm r.2), .int .i64 e], .agg [.bool t.1, .sl t.2.length (lm t.2), .int .i64 f]] (.agg [.bool (decide (n<0)), .sl ((limbs (Int.natAbs n)).length) (lm (limbs (Int.natAbs n))), .int .i64 m])) (n4:Runs Yir 97 [.agg [.bool (decide (n<0)), .sl ((limbs (Int.natAbs n)).length) (lm (limbs (Int.natAbs n))), .int .i64 m]] (.bool v3)):Runs Yir 59 [.agg [.bool r.1, .sl r.2.length (lm r.2), .int .i64 e], .agg [.bool t.1, .sl t.2.length (lm t.2), .int .i64 f]] (.tup [.agg [.bool (decide (n<0)), .sl ((limbs (Int.natAbs n)).length) (lm (limbs (Int.natAbs n))), .int .i64 m], .int .i64 0]):=Runs.go (fn:=Yi59) TDD_holds rfl 400 rfl [.r (.bool v1), .b false, .r (.bool v2), .b false, .r (.agg [.bool (decide (n<0)), .sl ((limbs (Int.natAbs n)).length) (lm (limbs (Int.natAbs n))), .int .i64 m]), .r (.bool v3), .b false] (ac n1 (ac (show (!v1)=false from (by rw [c1];rfl)) (ac n2 (ac (show (!v2)=false from (by rw [c2];rfl)) (ac n3 (ac n4 (ac (show (!v3)=false from (by rw [c3];rfl)) a0))))))) (by kernel_rfl)
theorem Yrun59_2 (r t:Rn) (e f n m:Int) (v1 v2 v3:Bool) (c1:(v1)=true) (c2:(v2)=true) (c3:(v3)=false) (n1:Runs Yir 97 [.agg [.bool r.1, .sl r.2.length (lm r.2), .int .i64 e]] (.bool v1)) (n2:Runs Yir 97 [.agg [.bool t.1, .sl t.2.length (lm t.2), .int .i64 f]] (.bool v2)) (n3:Runs Yir 107 [.agg [.bool r.1, .sl r.2.length (lm r.2), .int .i64 e], .agg [.bool t.1, .sl t.2.length (lm t.2), .int .i64 f]] (.agg [.bool (decide (n<0)), .sl ((limbs (Int.natAbs n)).length) (lm (limbs (Int.natAbs n))), .int .i64 m])) (n4:Runs Yir 97 [.agg [.bool (decide (n<0)), .sl ((limbs (Int.natAbs n)).length) (lm (limbs (Int.natAbs n))), .int .i64 m]] (.bool v3)):Runs Yir 59 [.agg [.bool r.1, .sl r.2.length (lm r.2), .int .i64 e], .agg [.bool t.1, .sl t.2.length (lm t.2), .int .i64 f]] (.tup [.agg [.bool false, .sl 0 [], .int .i64 0], .int .i64 2]):=Runs.go (fn:=Yi59) TDD_holds rfl 400 rfl [.r (.bool v1), .b false, .r (.bool v2), .b false, .r (.agg [.bool (decide (n<0)), .sl ((limbs (Int.natAbs n)).length) (lm (limbs (Int.natAbs n))), .int .i64 m]), .r (.bool v3), .b true] (ac n1 (ac (show (!v1)=false from (by rw [c1];rfl)) (ac n2 (ac (show (!v2)=false from (by rw [c2];rfl)) (ac n3 (ac n4 (ac (show (!v3)=true from (by rw [c3];rfl)) a0))))))) (by kernel_rfl)
theorem Yrun59_3 (r t:Rn) (e f:Int) (v1 v2:Bool) (c1:(v1)=true) (c2:(v2)=false) (n1:Runs Yir 97 [.agg [.bool r.1, .sl r.2.length (lm r.2), .int .i64 e]] (.bool v1)) (n2:Runs Yir 97 [.agg [.bool t.1, .sl t.2.length (lm t.2), .int .i64 f]] (.bool v2)):Runs Yir 59 [.agg [.bool r.1, .sl r.2.length (lm r.2), .int .i64 e], .agg [.bool t.1, .sl t.2.length (lm t.2), .int .i64 f]] (.tup [.agg [.bool false, .sl 0 [], .int .i64 0], .int .i64 1]):=Runs.go (fn:=Yi59) TDD_holds rfl 400 rfl [.r (.bool v1), .b false, .r (.bool v2), .b true] (ac n1 (ac (show (!v1)=false from (by rw [c1];rfl)) (ac n2 (ac (show (!v2)=true from (by rw [c2];rfl)) a0)))) (by kernel_rfl)
theorem Yrun59_4 (r t:Rn) (e f:Int) (v1:Bool) (c1:(v1)=false) (n1:Runs Yir 97 [.agg [.bool r.1, .sl r.2.length (lm r.2), .int .i64 e]] (.bool v1)):Runs Yir 59 [.agg [.bool r.1, .sl r.2.length (lm r.2), .int .i64 e], .agg [.bool t.1, .sl t.2.length (lm t.2), .int .i64 f]] (.tup [.agg [.bool false, .sl 0 [], .int .i64 0], .int .i64 1]):=Runs.go (fn:=Yi59) TDD_holds rfl 400 rfl [.r (.bool v1), .b true, .b true] (ac n1 (ac (show (!v1)=true from (by rw [c1];rfl)) (ac (show true=true from rfl) a0))) (by kernel_rfl)
theorem Yrun101_1 (r:Rn) (e:Int) (b:Bool) (c1:(decide (e≥0))=true) (c2:(decide (e≤4096))=true) (n1:Runs Yir 79 [rawAV r] (.bool b)):Runs Yir 101 [.agg [.bool r.1, .sl r.2.length (lm r.2), .int .i64 e]] (.bool (!b)):=Runs.go (fn:=Yi101) TDD_holds rfl 400 rfl [.b true, .b true, .r (.bool b)] (ac c1 (ac c2 (ac n1 a0))) (by kernel_rfl)
theorem Yrun101_2 (r:Rn) (e:Int) (c1:(decide (e≥0))=true) (c2:(decide (e≤4096))=false):Runs Yir 101 [.agg [.bool r.1, .sl r.2.length (lm r.2), .int .i64 e]] (.bool false):=Runs.go (fn:=Yi101) TDD_holds rfl 400 rfl [.b true, .b false] (ac c1 (ac c2 a0)) (by kernel_rfl)
theorem Yrun101_3 (r:Rn) (e:Int) (c1:(decide (e≥0))=false):Runs Yir 101 [.agg [.bool r.1, .sl r.2.length (lm r.2), .int .i64 e]] (.bool false):=Runs.go (fn:=Yi101) TDD_holds rfl 400 rfl [.b false, .b false] (ac c1 (ac (show false=false from rfl) a0)) (by kernel_rfl)
theorem Yrun102 (r t:Rn) (e f X Y c:Int) (n1:Runs Yir 126 [rawAV r, .int .i64 f] (bigF X)) (n2:Runs Yir 126 [rawAV t, .int .i64 e] (bigF Y)) (n3:Runs Yir 135 [bigAV X,bigAV Y] (.int .i64 c)):Runs Yir 102 [.agg [.bool r.1, .sl r.2.length (lm r.2), .int .i64 e], .agg [.bool t.1, .sl t.2.length (lm t.2), .int .i64 f]] (.int .i64 c):=Runs.go (fn:=Yi102) TDD_holds rfl 400 rfl [.r (bigF X), .r (bigF Y), .r (.int .i64 c)] (ac n1 (ac n2 (ac n3 a0))) (by kernel_rfl)
def Ys143 (n:Rn) (e:Int):State:=(dds 2 (.box [.bool false, .sl 0 [], .int .i64 0]::(.box [.bool n.1, .sl n.2.length (lm n.2)]::(.val (.int .i64 e)::(dds 28 [])))))
theorem Yk143_1 (n:Rn) (e:Int) (u:Int) (c1:(decide (e>0))=true) (c2:((n.2.length:Int)==0)=true) (n1:Runs Yir 152 [rawAV n, .int .i64 1] (bigAV u)):RunsW Yir Yc143 (Ys143 n e) .norm (Ys143 (cn u) (i64.wrap (e-1))):=(RunsW.go TDD_holds 400 [.b true, .b true, .b true, .b true, .b true, .r (bigAV u)] [2,3,4] (ac c1 (ac c2 (ac c1 (ac c2 (ac (show true=true from rfl) (ac n1 a0)))))) (by kernel_rfl))
theorem Yk143_2 (n:Rn) (e:Int) (u:Int) (c1:(decide (e>0))=true) (c2:((n.2.length:Int)==0)=false) (c3:((u32.wrap ((BitVec.ofInt (IntKind.bits .u32) (n.2.getD (Int.toNat 0) 0) &&& BitVec.ofInt (IntKind.bits .u32) 1).toNat))==0)=true) (n1:0≤(0:Int)∧(0:Int)<(n.2.length:Int)) (n2:Runs Yir 152 [rawAV n, .int .i64 1] (bigAV u)):RunsW Yir Yc143 (Ys143 n e) .norm (Ys143 (cn u) (i64.wrap (e-1))):=(RunsW.go TDD_holds 400 [.b true, .b false, .v (.int .u32 (n.2.getD (Int.toNat 0) 0)), .b true, .b false, .b true, .r (bigAV u)] [2,3,4] (ac c1 (ac c2 (ac n1 (ac (take_limI n1) (ac c1 (ac c2 (ac c3 (ac n2 a0)))))))) (by kernel_rfl))
theorem Yk143_3 (n:Rn) (e:Int)  (c1:(decide (e>0))=true) (c2:((n.2.length:Int)==0)=false) (c3:((u32.wrap ((BitVec.ofInt (IntKind.bits .u32) (n.2.getD (Int.toNat 0) 0) &&& BitVec.ofInt (IntKind.bits .u32) 1).toNat))==0)=false) (n1:0≤(0:Int)∧(0:Int)<(n.2.length:Int)):RunsW Yir Yc143 (Ys143 n e) (.exit 0) (Ys143 n e):=(RunsW.go TDD_holds 400 [.b true, .b false, .v (.int .u32 (n.2.getD (Int.toNat 0) 0)), .b true, .b false, .b false] [2,3,4] (ac c1 (ac c2 (ac n1 (ac (take_limI n1) (ac c1 (ac c2 (ac c3 a0))))))) (by kernel_rfl))
theorem Yk143_4 (n:Rn) (e:Int)  (c1:(decide (e>0))=false):RunsW Yir Yc143 (Ys143 n e) (.exit 0) (Ys143 n e):=(RunsW.go TDD_holds 400 [.b false, .b false] [2,3,4] (ac c1 (ac (show false=false from rfl) a0)) (by kernel_rfl))
theorem Yrun143 (r:Rn) (e n u z:Int) (n1:Runs Yir 93 [rawAV r] (bigAV n)) (hl2:RunsW Yir (.loop Yc143) (Ys143 (cn n) e) (.exit 0) (Ys143 (cn u) z)):Runs Yir 143 [.agg [.bool r.1, .sl r.2.length (lm r.2), .int .i64 e]] (.agg [.bool ((cn u).1), .sl ((cn u).2.length) (lm (cn u).2), .int .i64 z]):=Runs.of_bodyW (fn:=Yi143) (s:=(dds 2 (.box [.bool ((cn u).1), .sl ((cn u).2.length) (lm (cn u).2), .int .i64 z]::(dds 30 [])))) (ex := .ret) rfl rfl (RunsW.seq (RunsW.go (t:=(.val (.agg [.bool r.1, .sl r.2.length (lm r.2), .int .i64 e])::(.box [.bool r.1, .sl r.2.length (lm r.2), .int .i64 e]::(.box [.bool false, .sl 0 [], .int .i64 0]::(dds 30 []))))) (ex := .norm) TDD_holds 400 [] [0,1,2] a0 (by kernel_rfl)) (RunsW.seq (RunsW.go TDD_holds 400 [.r (bigAV n)] [2,3,4] (ac n1 a0) (by kernel_rfl)) (RunsW.seq (RunsW.block hl2) (RunsW.go TDD_holds 400 [] [2] a0 (by kernel_rfl))))) (by intro i e;cases e) rfl
theorem Yrun108 (r t:Rn) (e f X Y Z n m:Int) (n1:Runs Yir 126 [rawAV r, .int .i64 (i64.wrap ((if f>e then f else e)-e))] (bigF X)) (n2:Runs Yir 126 [rawAV t, .int .i64 (i64.wrap ((if f>e then f else e)-f))] (bigF Y)) (n3:Runs Yir 104 [bigAV X,bigAV Y] (bigAV Z)) (n4:Runs Yir 143 [.agg [.bool (decide (Z<0)), .sl ((limbs (Int.natAbs Z)).length) (lm (limbs (Int.natAbs Z))), .int .i64 (i64.wrap ((if f>e then f else e)+1))]] (.agg [.bool (decide (n<0)), .sl ((limbs (Int.natAbs n)).length) (lm (limbs (Int.natAbs n))), .int .i64 m])):Runs Yir 108 [.agg [.bool r.1, .sl r.2.length (lm r.2), .int .i64 e], .agg [.bool t.1, .sl t.2.length (lm t.2), .int .i64 f]] (.agg [.bool (decide (n<0)), .sl ((limbs (Int.natAbs n)).length) (lm (limbs (Int.natAbs n))), .int .i64 m]):=Runs.go (fn:=Yi108) TDD_holds rfl 400 rfl [.r (bigF X), .r (bigF Y), .r (bigAV Z), .r (.agg [.bool (decide (n<0)), .sl ((limbs (Int.natAbs n)).length) (lm (limbs (Int.natAbs n))), .int .i64 m])] (ac n1 (ac n2 (ac n3 (ac n4 a0)))) (by kernel_rfl)
theorem Yrun58_1 (r t:Rn) (e f c:Int) (v1 v2:Bool) (c1:(v1)=true) (c2:(v2)=true) (n1:Runs Yir 101 [.agg [.bool r.1, .sl r.2.length (lm r.2), .int .i64 e]] (.bool v1)) (n2:Runs Yir 101 [.agg [.bool t.1, .sl t.2.length (lm t.2), .int .i64 f]] (.bool v2)) (n3:Runs Yir 102 [.agg [.bool r.1, .sl r.2.length (lm r.2), .int .i64 e], .agg [.bool t.1, .sl t.2.length (lm t.2), .int .i64 f]] (.int .i64 c)):Runs Yir 58 [.agg [.bool r.1, .sl r.2.length (lm r.2), .int .i64 e], .agg [.bool t.1, .sl t.2.length (lm t.2), .int .i64 f]] (.tup [.int .i64 c, .int .i64 0]):=Runs.go (fn:=Yi58) TDD_holds rfl 400 rfl [.r (.bool v1), .b false, .r (.bool v2), .b false, .r (.int .i64 c)] (ac n1 (ac (show (!v1)=false from (by rw [c1];rfl)) (ac n2 (ac (show (!v2)=false from (by rw [c2];rfl)) (ac n3 a0))))) (by kernel_rfl)
theorem Yrun58_2 (r t:Rn) (e f:Int) (v1 v2:Bool) (c1:(v1)=true) (c2:(v2)=false) (n1:Runs Yir 101 [.agg [.bool r.1, .sl r.2.length (lm r.2), .int .i64 e]] (.bool v1)) (n2:Runs Yir 101 [.agg [.bool t.1, .sl t.2.length (lm t.2), .int .i64 f]] (.bool v2)):Runs Yir 58 [.agg [.bool r.1, .sl r.2.length (lm r.2), .int .i64 e], .agg [.bool t.1, .sl t.2.length (lm t.2), .int .i64 f]] (.tup [.int .i64 0, .int .i64 1]):=Runs.go (fn:=Yi58) TDD_holds rfl 400 rfl [.r (.bool v1), .b false, .r (.bool v2), .b true] (ac n1 (ac (show (!v1)=false from (by rw [c1];rfl)) (ac n2 (ac (show (!v2)=true from (by rw [c2];rfl)) a0)))) (by kernel_rfl)
theorem Yrun58_3 (r t:Rn) (e f:Int) (v1:Bool) (c1:(v1)=false) (n1:Runs Yir 101 [.agg [.bool r.1, .sl r.2.length (lm r.2), .int .i64 e]] (.bool v1)):Runs Yir 58 [.agg [.bool r.1, .sl r.2.length (lm r.2), .int .i64 e], .agg [.bool t.1, .sl t.2.length (lm t.2), .int .i64 f]] (.tup [.int .i64 0, .int .i64 1]):=Runs.go (fn:=Yi58) TDD_holds rfl 400 rfl [.r (.bool v1), .b true, .b true] (ac n1 (ac (show (!v1)=true from (by rw [c1];rfl)) (ac (show true=true from rfl) a0))) (by kernel_rfl)
theorem Yrun60_1 (r t:Rn) (e f n m:Int) (v1 v2 v3:Bool) (c1:(v1)=true) (c2:(v2)=true) (c3:(v3)=true) (n1:Runs Yir 101 [.agg [.bool r.1, .sl r.2.length (lm r.2), .int .i64 e]] (.bool v1)) (n2:Runs Yir 101 [.agg [.bool t.1, .sl t.2.length (lm t.2), .int .i64 f]] (.bool v2)) (n3:Runs Yir 108 [.agg [.bool r.1, .sl r.2.length (lm r.2), .int .i64 e], .agg [.bool t.1, .sl t.2.length (lm t.2), .int .i64 f]] (.agg [.bool (decide (n<0)), .sl ((limbs (Int.natAbs n)).length) (lm (limbs (Int.natAbs n))), .int .i64 m])) (n4:Runs Yir 101 [.agg [.bool (decide (n<0)), .sl ((limbs (Int.natAbs n)).length) (lm (limbs (Int.natAbs n))), .int .i64 m]] (.bool v3)):Runs Yir 60 [.agg [.bool r.1, .sl r.2.length (lm r.2), .int .i64 e], .agg [.bool t.1, .sl t.2.length (lm t.2), .int .i64 f]] (.tup [.agg [.bool (decide (n<0)), .sl ((limbs (Int.natAbs n)).length) (lm (limbs (Int.natAbs n))), .int .i64 m], .int .i64 0]):=Runs.go (fn:=Yi60) TDD_holds rfl 400 rfl [.r (.bool v1), .b false, .r (.bool v2), .b false, .r (.agg [.bool (decide (n<0)), .sl ((limbs (Int.natAbs n)).length) (lm (limbs (Int.natAbs n))), .int .i64 m]), .r (.bool v3), .b false] (ac n1 (ac (show (!v1)=false from (by rw [c1];rfl)) (ac n2 (ac (show (!v2)=false from (by rw [c2];rfl)) (ac n3 (ac n4 (ac (show (!v3)=false from (by rw [c3];rfl)) a0))))))) (by kernel_rfl)
theorem Yrun60_2 (r t:Rn) (e f n m:Int) (v1 v2 v3:Bool) (c1:(v1)=true) (c2:(v2)=true) (c3:(v3)=false) (n1:Runs Yir 101 [.agg [.bool r.1, .sl r.2.length (lm r.2), .int .i64 e]] (.bool v1)) (n2:Runs Yir 101 [.agg [.bool t.1, .sl t.2.length (lm t.2), .int .i64 f]] (.bool v2)) (n3:Runs Yir 108 [.agg [.bool r.1, .sl r.2.length (lm r.2), .int .i64 e], .agg [.bool t.1, .sl t.2.length (lm t.2), .int .i64 f]] (.agg [.bool (decide (n<0)), .sl ((limbs (Int.natAbs n)).length) (lm (limbs (Int.natAbs n))), .int .i64 m])) (n4:Runs Yir 101 [.agg [.bool (decide (n<0)), .sl ((limbs (Int.natAbs n)).length) (lm (limbs (Int.natAbs n))), .int .i64 m]] (.bool v3)):Runs Yir 60 [.agg [.bool r.1, .sl r.2.length (lm r.2), .int .i64 e], .agg [.bool t.1, .sl t.2.length (lm t.2), .int .i64 f]] (.tup [.agg [.bool false, .sl 0 [], .int .i64 0], .int .i64 2]):=Runs.go (fn:=Yi60) TDD_holds rfl 400 rfl [.r (.bool v1), .b false, .r (.bool v2), .b false, .r (.agg [.bool (decide (n<0)), .sl ((limbs (Int.natAbs n)).length) (lm (limbs (Int.natAbs n))), .int .i64 m]), .r (.bool v3), .b true] (ac n1 (ac (show (!v1)=false from (by rw [c1];rfl)) (ac n2 (ac (show (!v2)=false from (by rw [c2];rfl)) (ac n3 (ac n4 (ac (show (!v3)=true from (by rw [c3];rfl)) a0))))))) (by kernel_rfl)
theorem Yrun60_3 (r t:Rn) (e f:Int) (v1 v2:Bool) (c1:(v1)=true) (c2:(v2)=false) (n1:Runs Yir 101 [.agg [.bool r.1, .sl r.2.length (lm r.2), .int .i64 e]] (.bool v1)) (n2:Runs Yir 101 [.agg [.bool t.1, .sl t.2.length (lm t.2), .int .i64 f]] (.bool v2)):Runs Yir 60 [.agg [.bool r.1, .sl r.2.length (lm r.2), .int .i64 e], .agg [.bool t.1, .sl t.2.length (lm t.2), .int .i64 f]] (.tup [.agg [.bool false, .sl 0 [], .int .i64 0], .int .i64 1]):=Runs.go (fn:=Yi60) TDD_holds rfl 400 rfl [.r (.bool v1), .b false, .r (.bool v2), .b true] (ac n1 (ac (show (!v1)=false from (by rw [c1];rfl)) (ac n2 (ac (show (!v2)=true from (by rw [c2];rfl)) a0)))) (by kernel_rfl)
theorem Yrun60_4 (r t:Rn) (e f:Int) (v1:Bool) (c1:(v1)=false) (n1:Runs Yir 101 [.agg [.bool r.1, .sl r.2.length (lm r.2), .int .i64 e]] (.bool v1)):Runs Yir 60 [.agg [.bool r.1, .sl r.2.length (lm r.2), .int .i64 e], .agg [.bool t.1, .sl t.2.length (lm t.2), .int .i64 f]] (.tup [.agg [.bool false, .sl 0 [], .int .i64 0], .int .i64 1]):=Runs.go (fn:=Yi60) TDD_holds rfl 400 rfl [.r (.bool v1), .b true, .b true] (ac n1 (ac (show (!v1)=true from (by rw [c1];rfl)) (ac (show true=true from rfl) a0))) (by kernel_rfl)
theorem Yrun49 (r:Rn) (e:Int)  : Runs Yir 49 [.agg [.bool r.1, .sl r.2.length (lm r.2), .int .i64 e]] (.bool (decide ((r.2.length:Int)≤8))):=Runs.go (fn:=Yi49) TDD_holds rfl 400 rfl [] a0 (by kernel_rfl)
theorem Yrun12_1 (r t:Rn) (e f c h n m g:Int) (s1 s2:Bool) (c1:(c==c)=true) (c2:(h==h)=true) (c3:(g==g)=true) (c4:(m==m)=true) (c5:(s1)=true) (c6:(s2)=true) (n1:Runs Yir 47 [] (.bool true)) (n2:Runs Yir 49 [.agg [.bool r.1, .sl r.2.length (lm r.2), .int .i64 e]] (.bool s1)) (n3:Runs Yir 49 [.agg [.bool t.1, .sl t.2.length (lm t.2), .int .i64 f]] (.bool s2)) (n4:Runs Yir 57 [.agg [.bool r.1, .sl r.2.length (lm r.2), .int .i64 e], .agg [.bool t.1, .sl t.2.length (lm t.2), .int .i64 f]] (.tup [.int .i64 c, .int .i64 h])) (n5:Runs Yir 58 [.agg [.bool r.1, .sl r.2.length (lm r.2), .int .i64 e], .agg [.bool t.1, .sl t.2.length (lm t.2), .int .i64 f]] (.tup [.int .i64 c, .int .i64 h])) (n6:Runs Yir 59 [.agg [.bool r.1, .sl r.2.length (lm r.2), .int .i64 e], .agg [.bool t.1, .sl t.2.length (lm t.2), .int .i64 f]] (.tup [.agg [.bool (decide (n<0)), .sl ((limbs (Int.natAbs n)).length) (lm (limbs (Int.natAbs n))), .int .i64 m], .int .i64 g])) (n7:Runs Yir 60 [.agg [.bool r.1, .sl r.2.length (lm r.2), .int .i64 e], .agg [.bool t.1, .sl t.2.length (lm t.2), .int .i64 f]] (.tup [.agg [.bool (decide (n<0)), .sl ((limbs (Int.natAbs n)).length) (lm (limbs (Int.natAbs n))), .int .i64 m], .int .i64 g])) (n8:Runs Yir 41 [bigAV n,bigAV n] (.bool true)):Runs Yir 12 [.agg [.bool r.1, .sl r.2.length (lm r.2), .int .i64 e], .agg [.bool t.1, .sl t.2.length (lm t.2), .int .i64 f]] (.bool true):=Runs.go (fn:=Yi12) TDD_holds rfl 400 rfl [.r (.bool true), .b false, .r (.bool s1), .b false, .r (.bool s2), .b false, .r (.tup [.int .i64 c, .int .i64 h]), .r (.tup [.int .i64 c, .int .i64 h]), .r (.tup [.agg [.bool (decide (n<0)), .sl ((limbs (Int.natAbs n)).length) (lm (limbs (Int.natAbs n))), .int .i64 m], .int .i64 g]), .r (.tup [.agg [.bool (decide (n<0)), .sl ((limbs (Int.natAbs n)).length) (lm (limbs (Int.natAbs n))), .int .i64 m], .int .i64 g]), .b true, .b true, .b true, .b true, .r (.bool true)] (ac n1 (ac (show false=false from rfl) (ac n2 (ac (show (!s1)=false from (by rw [c5];rfl)) (ac n3 (ac (show (!s2)=false from (by rw [c6];rfl)) (ac n4 (ac n5 (ac n6 (ac n7 (ac c1 (ac c2 (ac c3 (ac c4 (ac n8 a0))))))))))))))) (by kernel_rfl)
theorem Yrun12_2 (r t:Rn) (e f:Int) (s1 s2:Bool) (c5:(s1)=true) (c6:(s2)=false) (n1:Runs Yir 47 [] (.bool true)) (n2:Runs Yir 49 [.agg [.bool r.1, .sl r.2.length (lm r.2), .int .i64 e]] (.bool s1)) (n3:Runs Yir 49 [.agg [.bool t.1, .sl t.2.length (lm t.2), .int .i64 f]] (.bool s2)):Runs Yir 12 [.agg [.bool r.1, .sl r.2.length (lm r.2), .int .i64 e], .agg [.bool t.1, .sl t.2.length (lm t.2), .int .i64 f]] (.bool true):=Runs.go (fn:=Yi12) TDD_holds rfl 400 rfl [.r (.bool true), .b false, .r (.bool s1), .b false, .r (.bool s2), .b true, .r (.bool true)] (ac n1 (ac (show false=false from rfl) (ac n2 (ac (show (!s1)=false from (by rw [c5];rfl)) (ac n3 (ac (show (!s2)=true from (by rw [c6];rfl)) (ac n1 a0))))))) (by kernel_rfl)
theorem Yrun12_3 (r t:Rn) (e f:Int) (s1:Bool) (c5:(s1)=false) (n1:Runs Yir 47 [] (.bool true)) (n2:Runs Yir 49 [.agg [.bool r.1, .sl r.2.length (lm r.2), .int .i64 e]] (.bool s1)):Runs Yir 12 [.agg [.bool r.1, .sl r.2.length (lm r.2), .int .i64 e], .agg [.bool t.1, .sl t.2.length (lm t.2), .int .i64 f]] (.bool true):=Runs.go (fn:=Yi12) TDD_holds rfl 400 rfl [.r (.bool true), .b false, .r (.bool s1), .b true, .b true, .r (.bool true)] (ac n1 (ac (show false=false from rfl) (ac n2 (ac (show (!s1)=true from (by rw [c5];rfl)) (ac (show true=true from rfl) (ac n1 a0)))))) (by kernel_rfl)
end Go.Proofs.Ythnnfemologhfaa

namespace Go.Proofs.Ythnnfemologhfaa
open Go.IntKind (i64 u64 u32)
open Go.Ai
set_option maxRecDepth 100000
theorem cmp_sg {a b X Y:Int} (ha:a=X∨a = -X) (hb:b=Y∨b = -Y) (hX:0≤X) (hY:0≤Y) :
  (sgnI a<sgnI b→cmpI a b = -1)∧(sgnI a>sgnI b→cmpI a b=1)∧(¬ sgnI a<sgnI b→¬ sgnI a>sgnI b→(sgnI a<0→cmpI a b = -cmpI X Y)∧(¬ sgnI a<0→cmpI a b=cmpI X Y)):=by
 unfold sgnI cmpI
 grind
theorem cmpI_bd (a b:Int) : -1≤cmpI a b∧cmpI a b≤1:=by unfold cmpI;grind
theorem rv_or (neg:Bool) (xs:List Int):rv neg xs=valL xs∨rv neg xs = -valL xs:=by unfold rv;cases neg <;> simp
theorem rcmp_run {na nb:Bool} {xs ys:List Int} (hx:U32 xs) (hy:U32 ys) (h1:xs.length≤1048576) (h2:ys.length≤1048576):Runs Yir 135 [.agg [.bool na, .sl xs.length (lm xs)], .agg [.bool nb, .sl ys.length (lm ys)]] (.int .i64 (cmpI (rv na xs) (rv nb ys))):=by
 obtain ⟨a1,a2,a3⟩:=cmp_sg (rv_or na xs) (rv_or nb ys) (valL_nonneg hx) (valL_nonneg hy)
 have s1:=rsign_run (neg:=na) hx h1
 have s2:=rsign_run (neg:=nb) hy h2
 by_cases c1:sgnI (rv na xs)<sgnI (rv nb ys)
 ·rw [a1 c1]
  exact Yrun135_1 na nb xs ys _ _ (by rw [decide_eq_true_eq];exact c1) s1 s2
 by_cases c2:sgnI (rv na xs)>sgnI (rv nb ys)
 ·rw [a2 c2]
  exact Yrun135_2 na nb xs ys _ _ (by rw [decide_eq_false_iff_not];exact c1) (by rw [decide_eq_true_eq];exact c2) s1 s2
 obtain ⟨a4,a5⟩:=a3 c1 c2
 have t1:=trim_len xs
 have t2:=trim_len ys
 have hc:=cmpMag_run (trimL_canon hx) (trimL_canon hy) (by omega)
 rw [trimL_val,trimL_val] at hc
 by_cases c3:sgnI (rv na xs)<0
 ·have hb:=cmpI_bd (valL xs) (valL ys)
  have k:=Yrun135_3 na nb xs ys _ _ _ (by rw [decide_eq_false_iff_not];exact c1) (by rw [decide_eq_false_iff_not];exact c2) (by rw [decide_eq_true_eq];exact c3) s1 s2 (mag_run h1) (mag_run h2) hc
  rw [w64 (by omega) (by omega),Int.zero_sub] at k
  rw [a4 c3]
  exact k
 ·rw [a5 c3]
  exact Yrun135_4 na nb xs ys _ _ _ (by rw [decide_eq_false_iff_not];exact c1) (by rw [decide_eq_false_iff_not];exact c2) (by rw [decide_eq_false_iff_not];exact c3) s1 s2 (mag_run h1) (mag_run h2) hc
theorem wcmp_run {na nb:Bool} {xs ys:List Int} (hx:U32 xs) (hy:U32 ys) (h1:xs.length≤1048576) (h2:ys.length≤1048576):Runs Yir 134 [.agg [.bool na, .sl xs.length (lm xs)], .agg [.bool nb, .sl ys.length (lm ys)]] (.int .i64 (cmpI (rv na xs) (rv nb ys))):=by
 have s1:=limbs_run (neg:=na) hx h1
 have s2:=limbs_run (neg:=nb) hy h2
 have l1:=rv_len (neg:=na) hx
 have l2:=rv_len (neg:=nb) hy
 have k1:=cmpLimbs_run (limbs_canon (rv na xs).natAbs) (limbs_canon (rv nb ys).natAbs) (by omega)
 have k2:=cmpLimbs_run (limbs_canon (rv nb ys).natAbs) (limbs_canon (rv na xs).natAbs) (by omega)
 rw [limbs_val,limbs_val] at k1 k2
 by_cases c1:rv na xs<0
 ·by_cases c2:rv nb ys<0
  ·have e:cmpI (rv na xs) (rv nb ys)=cmpI ((rv nb ys).natAbs:Int) ((rv na xs).natAbs:Int):=by unfold cmpI;grind
   rw [e]
   exact Yrun134_1 na nb _ _ xs ys _ _ _ (decide_eq_true c1) (decide_eq_true c2) s1 s2 k2
  ·have e:cmpI (rv na xs) (rv nb ys) = -1:=by unfold cmpI;grind
   rw [e]
   exact Yrun134_2 na nb _ _ xs ys _ _ (decide_eq_true c1) (decide_eq_false c2) s1 s2
 ·by_cases c2:rv nb ys<0
  ·have e:cmpI (rv na xs) (rv nb ys)=1:=by unfold cmpI;grind
   rw [e]
   exact Yrun134_3 na nb _ _ xs ys _ _ (decide_eq_false c1) (decide_eq_true c2) s1 s2
  ·have e:cmpI (rv na xs) (rv nb ys)=cmpI ((rv na xs).natAbs:Int) ((rv nb ys).natAbs:Int):=by unfold cmpI;grind
   rw [e]
   exact Yrun134_4 na nb _ _ xs ys _ _ _ (decide_eq_false c1) (decide_eq_false c2) s1 s2 k1
theorem take_zeros {ms:List Int} (hu:U32 ms):∀ k,k≤ms.length→valL (ms.take k)=0→∀ i,i<k→ms.getD i 0=0:=by
 intro k
 induction k with
 | zero=>intro _ _ i hi;omega
 | succ k ih =>
  intro hk hv i hi
  have ht:=take_succ_val ms k (by omega)
  have hp:=pow32_pos k
  have hm:=getD_u32 hu k
  have h1:=(valL_zero_iff (u32_take hu k) (Int.mul_nonneg (Int.le_of_lt hp) hm.1)).1 (by rw [← ht];exact hv)
  rcases Nat.lt_or_ge i k with g | g
  ·exact ih (by omega) h1.1 i g
  ·have:i=k:=by omega
   subst this
   rcases Int.mul_eq_zero.1 h1.2 with z | z
   ·omega
   ·exact z
theorem shr_a {m:Bool} {ms:List Int} {s:Int} {k:Nat} (hk:k≤ms.length) (hN:ms.length≤1048576) (hz:∀ i,i<k→ms.getD i 0=0) :
  RunsW Yir (.loop Yc151a) (Ys151a m (k:Nat) s ms false 0) (.exit 0) (Ys151a m (k:Nat) s ms false (k:Nat)):=by
 have h:=RunsW.up (prog:=Yir) (c:=Yc151a) (ex := .exit 0) (fin:=Ys151a m (k:Nat) s ms false (k:Nat)) (fun i=>Ys151a m (k:Nat) s ms false (i:Nat)) k (by intro e;cases e) ?_ ?_ 0 (Nat.zero_le _)
 ·exact h
 ·intro i hi
  have ei:i64.wrap ((i:Int)+1)=((i+1:Nat):Int):=by rw [w64 (by omega) (by omega)];omega
  have k1:=Yk151a_2 m (k:Nat) s ms false (i:Nat) (by simp;omega) (by simp;omega) rfl (by omega)
  rw [ei,Int.toNat_natCast,hz i hi] at k1
  exact k1
 ·exact Yk151a_4 m _ s ms false _ (by simp)
theorem shr_b {m:Bool} {ms:List Int} {kk:Int} {s k:Nat} (hu:U32 ms) (hs:s<32) (hN:ms.length≤1048576) (hk:k≤ms.length):∀ (r i:Nat),i+r=ms.length-k →
  RunsW Yir (.loop Yc151b) (Ys151b m kk (s:Nat) ms false i (lm ((List.range i).map (rshF (ms.drop k) s))) ((k+i:Nat):Int)) (.exit 2) (Ys151b m kk (s:Nat) ms false (ms.length-k) (lm ((List.range (ms.length-k)).map (rshF (ms.drop k) s))) (ms.length:Nat)):=by
 intro r
 induction r with
 | zero =>
  intro i hi
  have hi':i=ms.length-k:=by omega
  subst hi'
  have e0:((k+(ms.length-k):Nat):Int)=(ms.length:Nat):=by omega
  rw [e0]
  exact RunsW.loop_out (Yk151b_3 m kk _ ms false _ _ _ (by simp)) (by intro e;cases e)
 | succ r ih =>
  intro i hi
  have ei:i64.wrap (((k+i:Nat):Int)+1)=((k+(i+1):Nat):Int):=by rw [w64 (by omega) (by omega)];omega
  have hx:=getD_u32 hu (k+i)
  have hy:=getD_u32 hu (k+i+1)
  have gx:(ms.drop k).getD i 0=ms.getD (k+i) 0:=by simp [List.getD_eq_getElem?_getD,List.getElem?_drop]
  have gy:(ms.drop k).getD (i+1) 0=ms.getD (k+i+1) 0:=by simp [List.getD_eq_getElem?_getD,List.getElem?_drop,Nat.add_assoc]
  have em:min (Int.toNat (s:Int)) (IntKind.bits .u64)=s:=by rw [Int.toNat_natCast];show min s 64=s;omega
  have hR:rshF (ms.drop k) s i=(ms.getD (k+i+1) 0*4294967296+ms.getD (k+i) 0) / 2^s % 4294967296:=by
   rw [rsh_one hx hs];unfold rshF;rw [gx,gy]
  have hstep:RunsW Yir Yc151b (Ys151b m kk (s:Nat) ms false i (lm ((List.range i).map (rshF (ms.drop k) s))) ((k+i:Nat):Int)) .norm (Ys151b m kk (s:Nat) ms false (i+1) (lm ((List.range (i+1)).map (rshF (ms.drop k) s))) ((k+(i+1):Nat):Int)):=by
   have el:lm ((List.range (i+1)).map (rshF (ms.drop k) s))=lm ((List.range i).map (rshF (ms.drop k) s))++([.int .u32 (rshF (ms.drop k) s i)]:List AV):=by
    rw [List.range_succ,List.map_append,List.map_cons,List.map_nil,lm_snoc]
   rw [el,hR]
   by_cases h1:k+i+1<ms.length
   ·have kk1:=Yk151b_1 m kk (s:Nat) ms false i (lm ((List.range i).map (rshF (ms.drop k) s))) ((k+i:Nat):Int) (by simp;omega) (by rw [ei];simp;omega) (by omega) (by rw [ei];omega) (by omega) (by omega)
    rw [ei,Int.toNat_natCast,Int.toNat_natCast,em] at kk1
    have w1:u64.wrap ((BitVec.ofInt (IntKind.bits .u64) (u64.wrap (ms.getD (k+i) 0)) ||| BitVec.ofInt (IntKind.bits .u64) (u64.wrap ((u64.wrap (ms.getD (k+(i+1)) 0))*2^(min (Int.toNat 32) (IntKind.bits .u64))))).toNat)=ms.getD (k+i+1) 0*4294967296+ms.getD (k+i) 0:=by
     rw [BitVec.or_comm,wu64 (n:=ms.getD (k+(i+1)) 0) (by rw [← Nat.add_assoc];omega),← Nat.add_assoc]
     exact word2 hy hx
    have hpos:0≤ms.getD (k+i+1) 0*4294967296+ms.getD (k+i) 0:=by omega
    rw [w1,Int.fdiv_eq_ediv_of_nonneg _ (by have:=pow2_pos s;omega),wu32] at kk1
    exact kk1
   ·have hz:ms.getD (k+i+1) 0=0:=getD_end (by omega)
    have kk1:=Yk151b_2 m kk (s:Nat) ms false i (lm ((List.range i).map (rshF (ms.drop k) s))) ((k+i:Nat):Int) (by simp;omega) (by rw [ei];simp;omega) (by omega) (by omega) (by omega)
    rw [ei,Int.toNat_natCast,em,wu64 (n:=ms.getD (k+i) 0) (by omega),Int.fdiv_eq_ediv_of_nonneg _ (by have:=pow2_pos s;omega),wu32] at kk1
    rw [hz,Int.zero_mul,Int.zero_add]
    exact kk1
  exact RunsW.loop hstep (ih (i+1) (by omega))
theorem bits_in {N:Int} (h0:N ≠ 0) {z:Nat} (hd:(2:Int)^z∣N):z / 32<(limbs N.natAbs).length:=by
 apply Nat.lt_of_not_le
 intro hle
 have h1:=valL_lt (limbs_canon N.natAbs).1
 rw [limbs_val] at h1
 have h2:=pow32_mono hle
 have h3:=pow2_split z
 have h4:=pow2_pos (z % 32)
 have h5:=Int.mul_le_mul_of_nonneg_left (show (1:Int)≤2^(z % 32) by omega) (Int.le_of_lt (pow32_pos (z / 32)))
 rw [Int.mul_one,← h3] at h5
 obtain ⟨q,hq⟩:=hd
 have hq0:q ≠ 0:=by intro h;rw [h,Int.mul_zero] at hq;exact h0 hq
 have h6:(N.natAbs:Int)=2^z*(q.natAbs:Int):=by
  rw [hq,Int.natAbs_mul,Int.natCast_mul,Int.natAbs_of_nonneg (Int.le_of_lt (pow2_pos z))]
 have h7:=Int.mul_le_mul_of_nonneg_left (show (1:Int)≤(q.natAbs:Int) by omega) (Int.le_of_lt (pow2_pos z))
 rw [Int.mul_one,← h6] at h7
 omega
theorem wshr_exact {N:Int} (h0:N ≠ 0) {n:Nat} (hd:(2:Int)^n∣N) (hn:(n:Int)≤9223372036854775807) (hN:(limbs N.natAbs).length≤1048576):Runs Yir 151 [bigAV N, .int .i64 (n:Nat)] (bigAV (N / 2^n)):=by
 have hin:=bits_in h0 hd
 have e1:i64.wrap (Int.tdiv (n:Int) 32)=((n / 32:Nat):Int):=by
  rw [Int.tdiv_eq_ediv_of_nonneg (by omega),w64 (by omega) (by omega)];omega
 have e2:u64.wrap (Int.tmod (n:Int) 32)=((n % 32:Nat):Int):=by
  rw [Int.tmod_eq_emod_of_nonneg (by omega),wu64m];omega
 have hs:n % 32<32:=Nat.mod_lt _ (by decide)
 have tu:U32 (limbs N.natAbs):=big_u32 _
 have hlb:=limbs_run (neg:=decide (N<0)) tu hN
 rw [rv_big] at hlb
 have hp:=pow2_split n
 have hP:=pow32_pos (n / 32)
 have hS:=pow2_pos (n % 32)
 have hval:=limbs_val N.natAbs
 generalize hms:limbs N.natAbs=ms at *
 have hall:=rsh_all (ms:=ms) hs (show n / 32≤ms.length by omega)
 have ux:U32 ((List.range (ms.length-n / 32)).map (rshF (ms.drop (n / 32)) (n % 32))):=u32_range fun i=>(rshF_bd (u32_drop tu _) hs i).2.2.2
 have hmk:=made_run (neg:=decide (N<0)) ux (by simp;omega)
 have hlen:((List.range (ms.length-n / 32)).map (rshF (ms.drop (n / 32)) (n % 32))).length=ms.length-n / 32:=by simp
 have hb:=shr_b (m:=decide (N<0)) (ms:=ms) (kk:=((n / 32:Nat):Int)) (s:=n % 32) (k:=n / 32) tu hs hN (by omega) (ms.length-n / 32) 0 (by omega)
 generalize hQ:(List.range (ms.length-n / 32)).map (rshF (ms.drop (n / 32)) (n % 32))=Q at *
 rw [← hlen] at hb
 have hm0:=Int.emod_nonneg (ms.getD (n / 32) 0) (show (2:Int)^(n % 32) ≠ 0 by omega)
 have hm1:=Int.emod_lt_of_pos (ms.getD (n / 32) 0) hS
 have ht0:=valL_nonneg (u32_take tu (n / 32))
 have ht1:=take_lt tu (n / 32)
 -- nothing is lost
 have hl:0≤4294967296^(n / 32)*(ms.getD (n / 32) 0 % 2^(n % 32))+valL (ms.take (n / 32))∧4294967296^(n / 32)*(ms.getD (n / 32) 0 % 2^(n % 32))+valL (ms.take (n / 32))<2^n:=by
  rw [hp]
  generalize (4294967296:Int)^(n / 32)=P at *
  generalize ms.getD (n / 32) 0 % 2^(n % 32)=z at *
  generalize (2:Int)^(n % 32)=S at *
  have a:=Int.mul_nonneg (Int.le_of_lt hP) hm0
  have b:=Int.mul_le_mul_of_nonneg_left (show z+1≤S by omega) (Int.le_of_lt hP)
  rw [Int.mul_add,Int.mul_one] at b
  omega
 have hdm:(2:Int)^n∣(N.natAbs:Int):=Int.dvd_natAbs.2 hd
 have hv2:(N.natAbs:Int)=2^n*valL Q+(4294967296^(n / 32)*(ms.getD (n / 32) 0 % 2^(n % 32))+valL (ms.take (n / 32))):=by rw [← hval,hall,hp];grind
 have hl0:4294967296^(n / 32)*(ms.getD (n / 32) 0 % 2^(n % 32))+valL (ms.take (n / 32))=0:=by
  have h1:(N.natAbs:Int) % 2^n=0:=Int.emod_eq_zero_of_dvd hdm
  rw [hv2,Int.add_comm,Int.add_mul_emod_self_left,Int.emod_eq_of_lt hl.1 hl.2] at h1
  exact h1
 have hz1:ms.getD (n / 32) 0 % 2^(n % 32)=0∧valL (ms.take (n / 32))=0:=by
  have a:=Int.mul_nonneg (Int.le_of_lt hP) hm0
  have b:4294967296^(n / 32)*(ms.getD (n / 32) 0 % 2^(n % 32))=0:=by omega
  rcases Int.mul_eq_zero.1 b with z | z
  ·omega
  ·exact ⟨z,by omega⟩
 rw [hl0,Int.add_zero] at hv2
 have ha:=shr_a (m:=decide (N<0)) (ms:=ms) (s:=((n % 32:Nat):Int)) (k:=n / 32) (by omega) hN (take_zeros tu _ (by omega) hz1.2)
 have emask:u32.wrap ((u32.wrap (1*2^(min (Int.toNat (u64.wrap (Int.tmod (n:Int) 32))) (IntKind.bits .u32))))-1)=2^(n % 32)-1:=by
  have:min (Int.toNat ((n % 32:Nat):Int)) (IntKind.bits .u32)=n % 32:=by rw [Int.toNat_natCast];show min (n % 32) 32=n % 32;omega
  have h31:(2:Int)^(n % 32)≤2147483648:=pow2_le (show n % 32≤31 by omega)
  rw [e2,this,Int.one_mul,wu32,wu32];omega
 have ec2:u32.wrap ((BitVec.ofInt (IntKind.bits .u32) (ms.getD (Int.toNat (i64.wrap (Int.tdiv (n:Int) 32))) 0) &&& BitVec.ofInt (IntKind.bits .u32) (u32.wrap ((u32.wrap (1*2^(min (Int.toNat (u64.wrap (Int.tmod (n:Int) 32))) (IntKind.bits .u32))))-1))).toNat)=0:=by
  rw [emask,e1,Int.toNat_natCast,and32 (getD_u32 tu _) (by omega)]
  exact hz1.1
 have c1:decide ((i64.wrap (Int.tdiv (n:Int) 32))<(ms.length:Int))=true:=by rw [e1];simp;omega
 have hb2:RunsW Yir (.loop Yc151b) (Ys151b (decide (N<0)) (i64.wrap (Int.tdiv (n:Int) 32)) (u64.wrap (Int.tmod (n:Int) 32)) ms false 0 [] (i64.wrap (Int.tdiv (n:Int) 32))) (.exit 2) (Ys151b (decide (N<0)) (i64.wrap (Int.tdiv (n:Int) 32)) (u64.wrap (Int.tmod (n:Int) 32)) ms false Q.length (lm Q) (ms.length:Nat)):=by
  rw [e1,e2];exact hb
 have ha2:RunsW Yir (.loop Yc151a) (Ys151a (decide (N<0)) (i64.wrap (Int.tdiv (n:Int) 32)) (u64.wrap (Int.tmod (n:Int) 32)) ms false 0) (.exit 0) (Ys151a (decide (N<0)) (i64.wrap (Int.tdiv (n:Int) 32)) (u64.wrap (Int.tmod (n:Int) 32)) ms false ((n / 32:Nat):Int)):=by
  rw [e1,e2];exact ha
 have hres:rv (decide (N<0)) Q=N / 2^n:=by
  have hpn:=pow2_pos n
  by_cases hneg:N<0
  ·rw [decide_eq_true hneg]
   have:N=2^n*(-valL Q):=by rw [Int.mul_neg];omega
   show -valL Q=_
   conv=>rhs;rw [this]
   rw [Int.mul_ediv_cancel_left _ (by omega)]
  ·rw [decide_eq_false hneg]
   have:N=2^n*valL Q:=by omega
   show valL Q=_
   conv=>rhs;rw [this]
   rw [Int.mul_ediv_cancel_left _ (by omega)]
 rw [hres] at hmk
 have hlm:(limbs N.natAbs)=ms:=hms
 unfold bigAV
 rw [hlm]
 by_cases hneg:N<0
 ·exact Yrun151_4 _ (decide (N<0)) false ms ms Q (n:Nat) _ _ _ c1 (by rw [ec2];rfl) (decide_eq_true hneg) rfl hlb ha2 hb2 (by rw [e1];omega) (by rw [e2];omega) hmk
 ·exact Yrun151_5 _ (decide (N<0)) false ms ms Q (n:Nat) _ _ _ c1 (by rw [ec2];rfl) (decide_eq_false hneg) hlb ha2 hb2 (by rw [e1];omega) (by rw [e2];omega) hmk
end Go.Proofs.Ythnnfemologhfaa

namespace Go.Proofs.Ythnnfemologhfaa
open Go.IntKind (i64 u64 u32)
open Go.Ai
set_option maxRecDepth 100000
theorem cn_lenq (n:Int):(cn n).2.length=(limbs n.natAbs).length:=rfl
theorem cn_u32q (n:Int):U32 (cn n).2:=big_u32 _
theorem bit_at {ms:List Int} (hu:U32 ms) {z:Nat} (hz:z / 32<ms.length):ms.getD (z / 32) 0 / 2^(z % 32) % 2=valL ms / 2^z % 2:=by
 have h1:=val_split ms (show z / 32≤ms.length by omega)
 have e32:=p32s (show z % 32≤32 by omega)
 rw [Int.mul_comm] at e32
 have eT:(2:Int)^(32-z % 32)=2*2^(31-z % 32):=by rw [show 32-z % 32=(31-z % 32)+1 by omega,Int.pow_succ];omega
 have h2:valL (ms.drop (z / 32))=ms.getD (z / 32) 0+2^(z % 32)*(2*2^(31-z % 32))*valL (ms.drop (z / 32+1)):=by
  rw [← eT,← e32,List.drop_eq_getElem_cons hz,List.getD_eq_getElem?_getD,List.getElem?_eq_getElem hz];rfl
 have ht0:=valL_nonneg (u32_take hu (z / 32))
 have ht1:=take_lt hu (z / 32)
 have hp:=pow2_split z
 have hP:=pow32_pos (z / 32)
 have hS:=pow2_pos (z % 32)
 have hb0:=Int.emod_nonneg (ms.getD (z / 32) 0) (show (2:Int)^(z % 32) ≠ 0 by omega)
 have hb1:=Int.emod_lt_of_pos (ms.getD (z / 32) 0) hS
 have hx:=Int.mul_ediv_add_emod (ms.getD (z / 32) 0) (2^(z % 32))
 rw [hp,h1,h2]
 clear h1 h2 hp e32 eT
 generalize valL (ms.take (z / 32))=T at *
 generalize valL (ms.drop (z / 32+1))=R at *
 generalize ms.getD (z / 32) 0=x at *
 generalize (4294967296:Int)^(z / 32)=P at *
 generalize (2:Int)^(31-z % 32)=U at *
 generalize (2:Int)^(z % 32)=S at *
 generalize x / S=a at *
 generalize x % S=b at *
 have e:T+P*(x+S*(2*U)*R)=(T+P*b)+P*S*(a+2*(U*R)):=by rw [← hx];grind
 have hPS:=Int.mul_pos hP hS
 have c1:=Int.mul_nonneg (Int.le_of_lt hP) hb0
 have c2:=Int.mul_le_mul_of_nonneg_left (show b+1≤S by omega) (Int.le_of_lt hP)
 rw [Int.mul_add,Int.mul_one] at c2
 rw [e,Int.add_mul_ediv_left _ _ (by omega),Int.ediv_eq_zero_of_lt (by omega) (by omega),Int.zero_add,Int.add_mul_emod_self_left]
theorem bit_one {p:Int} (hp:0≤p∧p<4294967296):(u32.wrap ((BitVec.ofInt (IntKind.bits .u32) p &&& BitVec.ofInt (IntKind.bits .u32) 1).toNat)==0)=decide (p % 2=0):=by
 have h:=and32 hp (s:=1) (by decide)
 rw [show ((2:Int)^1-1)=1 by decide,show ((2:Int)^1)=2 by decide] at h
 rw [h,Bool.eq_iff_iff,beq_iff_eq,decide_eq_true_eq]
theorem bit_test {x:Int} (hx:0≤x∧x<4294967296) {s:Nat} (hs:s<32):(u32.wrap ((BitVec.ofInt (IntKind.bits .u32) (Int.fdiv x (2^(min (Int.toNat (s:Int)) (IntKind.bits .u32)))) &&& BitVec.ofInt (IntKind.bits .u32) 1).toNat)==0)=decide (x / 2^s % 2=0):=by
 have em:min (Int.toNat (s:Int)) (IntKind.bits .u32)=s:=by rw [Int.toNat_natCast];show min s 32=s;omega
 have hp:=pow2_pos s
 rw [em,Int.fdiv_eq_ediv_of_nonneg _ (by omega)]
 have h1:=Int.ediv_nonneg hx.1 (Int.le_of_lt hp)
 have h2:=Int.ediv_le_self (2^s) hx.1
 exact bit_one ⟨h1,by omega⟩
def redZ:Int→Nat→Nat
 | _,0=>0
 | N,e+1=>if N % 2=0 then redZ (N / 2) e+1 else 0
theorem redZ_le:∀ (e:Nat) (N:Int),redZ N e≤e
 | 0,_=>Nat.le_refl _
 | e+1,N=>by
  simp only [redZ]
  split
  ·have:=redZ_le e (N / 2);omega
  ·omega
theorem redZ_dvd:∀ (e:Nat) (N:Int),(2:Int)^redZ N e∣N
 | 0,N=>⟨N,by simp [redZ]⟩
 | e+1,N=>by
  simp only [redZ]
  split
  ·obtain ⟨q,hq⟩:=redZ_dvd e (N / 2)
   refine ⟨q,?_⟩
   rw [Int.pow_succ,Int.mul_assoc,Int.mul_comm 2 q,← Int.mul_assoc,← hq]
   omega
  ·exact ⟨N,by simp⟩
theorem redZ_half {e:Nat} {N:Int} (h:N % 2=0):N / 2^(redZ (N / 2) e+1)=N / 2 / 2^redZ (N / 2) e:=by
 obtain ⟨q,hq⟩:=redZ_dvd e (N / 2)
 have hp:=pow2_pos (redZ (N / 2) e)
 have hN:N=2^(redZ (N / 2) e+1)*q:=by
  rw [Int.pow_succ,Int.mul_assoc,Int.mul_comm 2 q,← Int.mul_assoc,← hq];omega
 generalize redZ (N / 2) e=k at *
 have h1:N / 2^(k+1)=q:=by
  conv=>lhs;rw [hN]
  exact Int.mul_ediv_cancel_left _ (by have:=pow2_pos (k+1);omega)
 have h2:N / 2 / 2^k=q:=by
  conv=>lhs;rw [hq]
  exact Int.mul_ediv_cancel_left _ (by omega)
 rw [h1,h2]
theorem redZ_zero:∀ e:Nat,redZ 0 e=e
 | 0=>rfl
 | e+1=>by simp only [redZ];rw [if_pos (by decide),show (0:Int) / 2=0 by decide,redZ_zero e]
theorem half_len (N:Int) (h:N % 2=0):(limbs (N / 2).natAbs).length≤(limbs N.natAbs).length:=by
 apply limbs_len
 have:=valL_lt (limbs_canon N.natAbs).1
 rw [limbs_val] at this
 omega
theorem parity0 {N:Int} (h0:N ≠ 0):((limbs N.natAbs).getD 0 0 % 2=0)↔N % 2=0:=by
 have hl:0<(limbs N.natAbs).length:=by
  have:=limbs_zero_len N.natAbs
  omega
 have h:=bit_at (big_u32 N.natAbs) (z:=0) (by simpa using hl)
 rw [limbs_val] at h
 simp only [Nat.zero_div,Nat.zero_mod,Int.pow_zero,Int.ediv_one] at h
 omega
theorem reduce_loop:∀ (e:Nat) (N:Int),(limbs N.natAbs).length<1048576→e≤1000000 →
  RunsW Yir (.loop Yc143) (Ys143 (cn N) (e:Nat)) (.exit 0) (Ys143 (cn (N / 2^redZ N e)) ((e-redZ N e:Nat):Int)):=by
 intro e
 induction e with
 | zero =>
  intro N _ _
  have e1:N / 2^redZ N 0=N:=by simp [redZ]
  rw [e1]
  exact RunsW.loop_out (Yk143_4 (cn N) ((0:Nat):Int) (by decide)) (by intro e;cases e)
 | succ e ih =>
  intro N hN he
  have ew:i64.wrap (((e+1:Nat):Int)-1)=(e:Int):=by rw [w64 (by omega) (by omega)];omega
  have hd:=rdown_run (neg:=(cn N).1) (xs:=(cn N).2) (cn_u32q N) 1 (by decide) (by rw [cn_lenq];exact hN)
  rw [show rv (cn N).1 (cn N).2=N from rval_cn N,show (2:Int)^1=2 by decide] at hd
  have c1:decide (((e+1:Nat):Int)>0)=true:=by rw [decide_eq_true_eq];omega
  have hlen:(cn N).2.length=(limbs N.natAbs).length:=rfl
  by_cases h2:N % 2=0
  ·have er:redZ N (e+1)=redZ (N / 2) e+1:=by simp only [redZ];rw [if_pos h2]
   rw [er,redZ_half h2,show e+1-(redZ (N / 2) e+1)=e-redZ (N / 2) e by omega]
   have r:=ih (N / 2) (by have:=half_len N h2;omega) (by omega)
   by_cases h0:N=0
   ·have k:=Yk143_1 (cn N) ((e+1:Nat):Int) (N / 2) c1 (by rw [h0];rfl) hd
    rw [ew] at k
    exact RunsW.loop k r
   ·have hl:0<(limbs N.natAbs).length:=by have:=limbs_zero_len N.natAbs;omega
    have k:=Yk143_2 (cn N) ((e+1:Nat):Int) (N / 2) c1 (by rw [beq_eq_false_iff_ne];omega) (by rw [bit_one (getD_u32 (cn_u32q N) _),decide_eq_true_eq];exact (parity0 h0).2 h2) (by omega) hd
    rw [ew] at k
    exact RunsW.loop k r
  ·have h0:N ≠ 0:=by intro h;rw [h] at h2;exact h2 (by decide)
   have er:redZ N (e+1)=0:=by simp only [redZ];rw [if_neg h2]
   have hl:0<(limbs N.natAbs).length:=by have:=limbs_zero_len N.natAbs;omega
   rw [er,Int.pow_zero,Int.ediv_one,Nat.sub_zero]
   exact RunsW.loop_out (Yk143_3 (cn N) ((e+1:Nat):Int) c1 (by rw [beq_eq_false_iff_ne];omega) (by rw [bit_one (getD_u32 (cn_u32q N) _),decide_eq_false_iff_not];exact fun h=>h2 ((parity0 h0).1 h)) (by omega)) (by intro e;cases e)
def dyA (n e:Int):AV := .agg [.bool (decide (n<0)), .sl (limbs n.natAbs).length (lm (limbs n.natAbs)), .int .i64 e]
theorem reduce_run {N:Int} {e:Nat} (hN:(limbs N.natAbs).length<1048576) (he:e≤1000000):Runs Yir 143 [dyA N (e:Nat)] (dyA (N / 2^redZ N e) ((e-redZ N e:Nat):Int)):=by
 have h1:=rtrim_run (neg:=(cn N).1) (xs:=(cn N).2) (cn_u32q N) (by rw [cn_lenq];omega)
 rw [show rv (cn N).1 (cn N).2=N from rval_cn N] at h1
 exact Yrun143 (cn N) (e:Nat) N (N / 2^redZ N e) _ h1 (reduce_loop e N hN he)
theorem reduced_loop {N:Int} (h0:N ≠ 0) {e:Nat} (he:e≤1000000) (hN:(limbs N.natAbs).length<1048576):∀ (r z:Nat),z+r=e→(2:Int)^z∣N →
  RunsW Yir (.loop Yc142) (Ys142 (cn N) (e:Nat) (z:Nat)) (.exit 0) (Ys142 (cn N) (e:Nat) ((z+redZ (N / 2^z) r:Nat):Int)):=by
 intro r
 induction r with
 | zero =>
  intro z hz _
  exact RunsW.loop_out (Yk142_3 (cn N) (e:Nat) (z:Nat) (by simp;omega)) (by intro e;cases e)
 | succ r ih =>
  intro z hz hd
  have hin:=bits_in h0 hd
  have e1:i64.wrap (Int.tdiv (z:Int) 32)=((z / 32:Nat):Int):=by
   rw [Int.tdiv_eq_ediv_of_nonneg (by omega),w64 (by omega) (by omega)];omega
  have e2:u64.wrap (Int.tmod (z:Int) 32)=((z % 32:Nat):Int):=by
   rw [Int.tmod_eq_emod_of_nonneg (by omega),wu64m];omega
  have ei:i64.wrap ((z:Int)+1)=((z+1:Nat):Int):=by rw [w64 (by omega) (by omega)];omega
  have hs:z % 32<32:=Nat.mod_lt _ (by decide)
  have c1:decide ((z:Int)<(e:Int))=true:=by rw [decide_eq_true_eq];omega
  have hb:=bit_at (big_u32 N.natAbs) hin
  rw [limbs_val] at hb
  obtain ⟨q,hq⟩:=hd
  have hpz:=pow2_pos z
  have hq1:N / 2^z=q:=by
   conv=>lhs;rw [hq]
   exact Int.mul_ediv_cancel_left _ (by omega)
  have hq2:(N.natAbs:Int) / 2^z=(q.natAbs:Int):=by
   have:(N.natAbs:Int)=2^z*(q.natAbs:Int):=by rw [hq,Int.natAbs_mul,Int.natCast_mul,Int.natAbs_of_nonneg (Int.le_of_lt hpz)]
   rw [this]
   exact Int.mul_ediv_cancel_left _ (by omega)
  rw [hq2] at hb
  have ht:=bit_test (getD_u32 (big_u32 N.natAbs) (z / 32)) hs
  have ct:(u32.wrap ((BitVec.ofInt (IntKind.bits .u32) (Int.fdiv ((cn N).2.getD (Int.toNat (i64.wrap (Int.tdiv (z:Int) 32))) 0) (2^(min (Int.toNat (u64.wrap (Int.tmod (z:Int) 32))) (IntKind.bits .u32)))) &&& BitVec.ofInt (IntKind.bits .u32) 1).toNat)==0)=decide (q % 2=0):=by
   rw [e1,e2,Int.toNat_natCast]
   refine ht.trans ?_
   rw [hb,decide_eq_decide]
   omega
  have hlen:(cn N).2.length=(limbs N.natAbs).length:=rfl
  rw [hq1]
  by_cases h2:q % 2=0
  ·have er:redZ q (r+1)=redZ (q / 2) r+1:=by simp only [redZ];rw [if_pos h2]
   have hq3:N=2^(z+1)*(q / 2):=by rw [Int.pow_succ,Int.mul_assoc,show 2*(q / 2)=q by omega];exact hq
   have hq4:N / 2^(z+1)=q / 2:=by
    conv=>lhs;rw [hq3]
    exact Int.mul_ediv_cancel_left _ (by have:=pow2_pos (z+1);omega)
   have hr:=ih (z+1) (by omega) ⟨q / 2,hq3⟩
   rw [hq4] at hr
   have k:=Yk142_1 (cn N) (e:Nat) (z:Nat) c1 (by rw [ct,decide_eq_true_eq];exact h2) (by rw [e1];omega) (by rw [e2];omega)
   rw [ei] at k
   rw [er,show z+(redZ (q / 2) r+1)=z+1+redZ (q / 2) r by omega]
   exact RunsW.loop k hr
  ·have er:redZ q (r+1)=0:=by simp only [redZ];rw [if_neg h2]
   rw [er,Nat.add_zero]
   exact RunsW.loop_out (Yk142_2 (cn N) (e:Nat) (z:Nat) c1 (by rw [ct,decide_eq_false_iff_not];exact h2) (by rw [e1];omega) (by rw [e2];omega)) (by intro e;cases e)
theorem reduced_run {N:Int} {e:Nat} (hN:(limbs N.natAbs).length<1048576) (he:e≤1000000):Runs Yir 142 [bigAV N, .int .i64 (e:Nat)] (dyA (N / 2^redZ N e) ((e-redZ N e:Nat):Int)):=by
 have h1:=wtrim_run (neg:=(cn N).1) (xs:=(cn N).2) (cn_u32q N) (by rw [cn_lenq];omega)
 rw [show rv (cn N).1 (cn N).2=N from rval_cn N] at h1
 by_cases h0:N=0
 ·subst h0
  rw [redZ_zero,Int.zero_ediv,Nat.sub_self]
  exact Yrun142_1 (cn 0) (e:Nat) 0 rfl h1
 ·have hl:=reduced_loop h0 he hN e 0 (by omega) (by simp)
  rw [Int.pow_zero,Int.ediv_one,Nat.zero_add] at hl
  have hle:=redZ_le e N
  have hs:=wshr_exact h0 (redZ_dvd e N) (by omega) (by omega)
  have k:=Yrun142_2 (cn N) (e:Nat) N _ _ (by rw [beq_eq_false_iff_ne];have:=limbs_zero_len N.natAbs;omega) h1 hl hs
  have ew:i64.wrap ((e:Int)-((redZ N e:Nat):Int))=((e-redZ N e:Nat):Int):=by rw [w64 (by omega) (by omega)];omega
  rw [ew] at k
  exact k
end Go.Proofs.Ythnnfemologhfaa
