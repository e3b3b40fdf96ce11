/- Texts of the proof of PolyExact, packed by pack.py: part 13 of 19. -/
import Derived.Test.YthnnfemologhfaaPex12
namespace Go.Proofs.Ythnnfemologhfaa
open Go.IntKind (i64 u64 u32)
open Go.Ai
set_option maxRecDepth 100000
theorem and64 {p:Int} {s:Nat} (hp:0≤p∧p<18446744073709551616) (hs:s≤63):u64.wrap ((BitVec.ofInt (IntKind.bits .u64) p &&& BitVec.ofInt (IntKind.bits .u64) (2^s-1)).toNat)=p % 2^s:=by
 obtain ⟨m,rfl⟩:=Int.eq_ofNat_of_zero_le hp.1
 have hb:(IntKind.bits .u64)=64:=rfl
 have e1:(BitVec.ofInt 64 (m:Int)).toNat=m:=ofInt_nat 64 m (by omega)
 have h2:2^s≤2^63:=Nat.pow_le_pow_right (by decide) hs
 have h3:0<2^s:=Nat.pow_pos (by decide)
 have ec:((2:Int)^s-1)=((2^s-1:Nat):Int):=by
  have:((2^s:Nat):Int)=(2:Int)^s:=by simp
  omega
 have e2:(BitVec.ofInt 64 ((2^s-1:Nat):Int)).toNat=2^s-1:=ofInt_nat 64 (2^s-1) (by omega)
 rw [hb,BitVec.toNat_and,e1,ec,e2,Nat.and_two_pow_sub_one_eq_mod,wu64m]
 have h4:m % 2^s<2^s:=Nat.mod_lt _ h3
 have e3:((m % 2^s:Nat):Int)=(m:Int) % 2^s:=by simp
 rw [← e3]
 omega
theorem and32 {p:Int} {s:Nat} (hp:0≤p∧p<4294967296) (hs:s≤31):u32.wrap ((BitVec.ofInt (IntKind.bits .u32) p &&& BitVec.ofInt (IntKind.bits .u32) (2^s-1)).toNat)=p % 2^s:=by
 obtain ⟨m,rfl⟩:=Int.eq_ofNat_of_zero_le hp.1
 have hb:(IntKind.bits .u32)=32:=rfl
 have e1:(BitVec.ofInt 32 (m:Int)).toNat=m:=ofInt_nat 32 m (by omega)
 have h2:2^s≤2^31:=Nat.pow_le_pow_right (by decide) hs
 have h3:0<2^s:=Nat.pow_pos (by decide)
 have ec:((2:Int)^s-1)=((2^s-1:Nat):Int):=by
  have:((2^s:Nat):Int)=(2:Int)^s:=by simp
  omega
 have e2:(BitVec.ofInt 32 ((2^s-1:Nat):Int)).toNat=2^s-1:=ofInt_nat 32 (2^s-1) (by omega)
 rw [hb,BitVec.toNat_and,e1,ec,e2,Nat.and_two_pow_sub_one_eq_mod,wu32]
 have h4:m % 2^s<2^s:=Nat.mod_lt _ h3
 have e3:((m % 2^s:Nat):Int)=(m:Int) % 2^s:=by simp
 rw [← e3]
 omega
theorem bit31 {p:Int} (hp:0≤p∧p<4294967296):(u32.wrap ((BitVec.ofInt (IntKind.bits .u32) p &&& BitVec.ofInt (IntKind.bits .u32) 2147483648).toNat)==0)=decide (p<2147483648):=by
 obtain ⟨m,rfl⟩:=Int.eq_ofNat_of_zero_le hp.1
 have hb:(IntKind.bits .u32)=32:=rfl
 have e1:(BitVec.ofInt 32 (m:Int)).toNat=m:=ofInt_nat 32 m (by omega)
 have e2:(BitVec.ofInt 32 2147483648).toNat=2147483648:=ofInt_nat 32 2147483648 (by decide)
 rw [hb,BitVec.toNat_and,e1,e2,wu32]
 have hlt:m &&& 2147483648≤2147483648:=Nat.and_le_right
 have key:(m &&& 2147483648=0)↔m<2147483648:=by
  constructor
  ·intro h
   have hm:m<2^32:=by omega
   have hb31:(m &&& 2^31).testBit 31=false:=by
    have:(m &&& 2^31)=0:=h
    rw [this];rfl
   rw [Nat.testBit_and] at hb31
   have:(2^31:Nat).testBit 31=true:=by decide
   rw [this,Bool.and_true] at hb31
   refine Nat.lt_pow_two_of_testBit m (n:=31) fun i hi => ?_
   rcases Nat.eq_or_lt_of_le hi with h1 | h1
   ·rw [← h1];exact hb31
   ·exact Nat.testBit_lt_two_pow (Nat.lt_of_lt_of_le hm (Nat.pow_le_pow_right (by decide) (by omega)))
  ·intro h
   apply Nat.eq_of_testBit_eq
   intro i
   rw [Nat.testBit_and,Nat.zero_testBit]
   by_cases hi:i=31
   ·subst hi
    rw [Nat.testBit_lt_two_pow (x:=m) (i:=31) (by omega)];rfl
   ·have:(2147483648:Nat).testBit i=false:=by
     rw [show (2147483648:Nat)=2^31 by decide,Nat.testBit_two_pow]
     simp;omega
    rw [this,Bool.and_false]
 rw [Bool.eq_iff_iff,beq_iff_eq,decide_eq_true_eq]
 constructor
 ·intro h
  have:m &&& 2147483648=0:=by omega
  have:=key.1 this
  omega
 ·intro h
  have:=key.2 (by omega)
  omega
theorem bminus_run {a b:Int} (ha:(limbs a.natAbs).length<1048576) (hb:(limbs b.natAbs).length<1048576):Runs Yir 118 [bigAV a,bigAV b] (bigAV (a-b)):=by
 have h:=rminus_run (na:=decide (a<0)) (nb:=decide (b<0)) (big_u32 a.natAbs) (big_u32 b.natAbs) ha hb
 rw [rv_big,rv_big] at h
 exact h
theorem valL_zero_iff {xs:List Int} (h:U32 xs) {v:Int} (hv:0≤v):(valL xs+v=0)↔(valL xs=0∧v=0):=by
 have:=valL_nonneg h
 omega
theorem Yloop152a {neg:Bool} {xs ms:List Int} {n:Nat} (hu:U32 ms) (hn:(n:Int)≤9223372036854775807) (hN:ms.length≤1048576):∀ (r i:Nat),i+r=min ms.length (n / 32) →
  RunsW Yir (.loop Yc152a) (Ys152a neg xs (n:Nat) ms (decide (valL (ms.take i) ≠ 0)) (i:Nat)) (.exit 0) (Ys152a neg xs (n:Nat) ms (decide (valL (ms.take (n / 32)) ≠ 0)) ((min ms.length (n / 32):Nat):Int)):=by
 have e1:i64.wrap (Int.tdiv (n:Int) 32)=((n / 32:Nat):Int):=by
  rw [Int.tdiv_eq_ediv_of_nonneg (by omega),w64 (by omega) (by omega)];omega
 intro r
 induction r with
 | zero =>
  intro i hi
  have hi':i=min ms.length (n / 32):=by omega
  have et:ms.take i=ms.take (n / 32):=by
   rcases Nat.le_total ms.length (n / 32) with h | h
   ·rw [List.take_of_length_le (by omega),List.take_of_length_le h]
   ·rw [hi',Nat.min_eq_right h]
  rw [et,← hi']
  by_cases hl:i<ms.length
  ·exact RunsW.loop_out (Yk152a_3 neg xs _ ms _ _ (by simp;omega) (by rw [e1];simp;omega)) (by intro e;cases e)
  ·exact RunsW.loop_out (Yk152a_4 neg xs _ ms _ _ (by simp;omega)) (by intro e;cases e)
 | succ r ih =>
  intro i hi
  have ei:i64.wrap ((i:Int)+1)=((i+1:Nat):Int):=by rw [w64 (by omega) (by omega)];omega
  have hm:=getD_u32 hu i
  have hp:=pow32_pos i
  have hts:=take_succ_val ms i (by omega)
  have hz:(valL (ms.take (i+1))=0)↔(valL (ms.take i)=0∧ms.getD i 0=0):=by
   have hx:=valL_zero_iff (u32_take hu i) (Int.mul_nonneg (Int.le_of_lt hp) hm.1)
   rw [← hts] at hx
   rw [hx,Int.mul_eq_zero]
   constructor
   ·rintro ⟨a,b⟩;exact ⟨a,by omega⟩
   ·rintro ⟨a,b⟩;exact ⟨a, .inr b⟩
  have step:RunsW Yir Yc152a (Ys152a neg xs (n:Nat) ms (decide (valL (ms.take i) ≠ 0)) (i:Nat)) .norm (Ys152a neg xs (n:Nat) ms (decide (valL (ms.take (i+1)) ≠ 0)) ((i+1:Nat):Int)):=by
   by_cases h0:valL (ms.take i)=0
   ·have k:=Yk152a_2 neg xs (n:Nat) ms (decide (valL (ms.take i) ≠ 0)) (i:Nat) (by simp;omega) (by rw [e1];simp;omega) (by simp [h0]) (by omega)
    rw [ei,Int.toNat_natCast] at k
    have e2:(ms.getD i 0 != 0)=decide (valL (ms.take (i+1)) ≠ 0):=by
     rw [Bool.eq_iff_iff,bne_iff_ne,decide_eq_true_eq,ne_eq,ne_eq,hz]
     simp [h0]
    rw [e2] at k
    exact k
   ·have k:=Yk152a_1 neg xs (n:Nat) ms (decide (valL (ms.take i) ≠ 0)) (i:Nat) (by simp;omega) (by rw [e1];simp;omega) (by simp [h0])
    rw [ei] at k
    have e2:true=decide (valL (ms.take (i+1)) ≠ 0):=by
     symm
     rw [decide_eq_true_eq,ne_eq,hz]
     exact fun h=>h0 h.1
    rw [← e2]
    exact k
  exact RunsW.loop step (ih (i+1) (by omega))
theorem rsh_one {x y:Int} (hx:0≤x∧x<4294967296) {s:Nat} (hs:s<32):(y*4294967296+x) / 2^s % 4294967296=y % 2^s*2^(32-s)+x / 2^s:=by
 have e:=p32s (show s≤32 by omega)
 have hp:=pow2_pos s
 have hp2:=pow2_pos (32-s)
 have h1:(y*4294967296+x) / 2^s=y*2^(32-s)+x / 2^s:=by
  rw [e,← Int.mul_assoc,Int.add_comm,Int.add_mul_ediv_right _ _ (by omega),Int.add_comm]
 have b1:x / 2^s<2^(32-s):=Int.ediv_lt_of_lt_mul hp (by rw [← e];exact hx.2)
 have b0:0≤x / 2^s:=Int.ediv_nonneg hx.1 (by omega)
 have m0:=Int.emod_nonneg y (show (2:Int)^s ≠ 0 by omega)
 have m1:=Int.emod_lt_of_pos y hp
 have hy2:=Int.mul_ediv_add_emod y (2^s)
 rw [h1]
 have e3:y*2^(32-s)+x / 2^s=(y % 2^s*2^(32-s)+x / 2^s)+4294967296*(y / 2^s):=by
  rw [e]
  generalize y % 2^s=a at *
  generalize y / 2^s=b at *
  generalize (2:Int)^(32-s)=T at *
  generalize (2:Int)^s=S at *
  generalize x / S=z at *
  rw [← hy2]
  grind
 rw [e3,Int.add_mul_emod_self_left]
 apply Int.emod_eq_of_lt
 ·have:=Int.mul_nonneg m0 (show (0:Int)≤2^(32-s) by omega)
  omega
 ·have c1:=Int.mul_le_mul_of_nonneg_right (show y % 2^s+1≤2^s by omega) (show (0:Int)≤2^(32-s) by omega)
  rw [Int.add_mul,Int.one_mul,Int.mul_comm (2^s),← e] at c1
  omega
theorem Yloop152b {neg lost:Bool} {xs ms:List Int} {sh:Int} {s k:Nat} (hu:U32 ms) (hs:s<32) (hN:ms.length≤1048576) (hk:k≤ms.length):∀ (r i:Nat),i+r=ms.length-k →
  RunsW Yir (.loop Yc152b) (Ys152b neg xs sh ms i (lm ((List.range i).map (rshF (ms.drop k) s))) lost (s:Nat) ((k+i:Nat):Int)) (.exit 2) (Ys152b neg xs sh ms (ms.length-k) (lm ((List.range (ms.length-k)).map (rshF (ms.drop k) s))) lost (s:Nat) (ms.length:Nat)):=by
 intro r
 induction r with
 | zero =>
  intro i hi
  have hi':i=ms.length-k:=by omega
  subst hi'
  have e0:((k+(ms.length-k):Nat):Int)=(ms.length:Nat):=by omega
  rw [e0]
  exact RunsW.loop_out (Yk152b_3 neg xs sh ms _ _ lost _ _ (by simp)) (by intro e;cases e)
 | succ r ih =>
  intro i hi
  have ei:i64.wrap (((k+i:Nat):Int)+1)=((k+(i+1):Nat):Int):=by rw [w64 (by omega) (by omega)];omega
  have hx:=getD_u32 hu (k+i)
  have hy:=getD_u32 hu (k+i+1)
  have gx:(ms.drop k).getD i 0=ms.getD (k+i) 0:=by simp [List.getD_eq_getElem?_getD,List.getElem?_drop]
  have gy:(ms.drop k).getD (i+1) 0=ms.getD (k+i+1) 0:=by simp [List.getD_eq_getElem?_getD,List.getElem?_drop,Nat.add_assoc]
  have em:min (Int.toNat (s:Int)) (IntKind.bits .u64)=s:=by rw [Int.toNat_natCast];show min s 64=s;omega
  have hR:rshF (ms.drop k) s i=(ms.getD (k+i+1) 0*4294967296+ms.getD (k+i) 0) / 2^s % 4294967296:=by
   rw [rsh_one hx hs];unfold rshF;rw [gx,gy]
  have hstep:RunsW Yir Yc152b (Ys152b neg xs sh ms i (lm ((List.range i).map (rshF (ms.drop k) s))) lost (s:Nat) ((k+i:Nat):Int)) .norm (Ys152b neg xs sh ms (i+1) (lm ((List.range (i+1)).map (rshF (ms.drop k) s))) lost (s:Nat) ((k+(i+1):Nat):Int)):=by
   have el:lm ((List.range (i+1)).map (rshF (ms.drop k) s))=lm ((List.range i).map (rshF (ms.drop k) s))++([.int .u32 (rshF (ms.drop k) s i)]:List AV):=by
    rw [List.range_succ,List.map_append,List.map_cons,List.map_nil,lm_snoc]
   rw [el,hR]
   by_cases h1:k+i+1<ms.length
   ·have kk:=Yk152b_1 neg xs sh ms i (lm ((List.range i).map (rshF (ms.drop k) s))) lost (s:Nat) ((k+i:Nat):Int) (by simp;omega) (by rw [ei];simp;omega) (by omega) (by rw [ei];omega) (by omega) (by omega)
    rw [ei,Int.toNat_natCast,Int.toNat_natCast,em] at kk
    have w1:u64.wrap ((BitVec.ofInt (IntKind.bits .u64) (u64.wrap (ms.getD (k+i) 0)) ||| BitVec.ofInt (IntKind.bits .u64) (u64.wrap ((u64.wrap (ms.getD (k+(i+1)) 0))*2^(min (Int.toNat 32) (IntKind.bits .u64))))).toNat)=ms.getD (k+i+1) 0*4294967296+ms.getD (k+i) 0:=by
     rw [BitVec.or_comm,wu64 (n:=ms.getD (k+(i+1)) 0) (by rw [← Nat.add_assoc];omega),← Nat.add_assoc]
     exact word2 hy hx
    have hpos:0≤ms.getD (k+i+1) 0*4294967296+ms.getD (k+i) 0:=by omega
    rw [w1,Int.fdiv_eq_ediv_of_nonneg _ (by have:=pow2_pos s;omega),wu32] at kk
    exact kk
   ·have hz:ms.getD (k+i+1) 0=0:=getD_end (by omega)
    have kk:=Yk152b_2 neg xs sh ms i (lm ((List.range i).map (rshF (ms.drop k) s))) lost (s:Nat) ((k+i:Nat):Int) (by simp;omega) (by rw [ei];simp;omega) (by omega) (by omega) (by omega)
    rw [ei,Int.toNat_natCast,em,wu64 (n:=ms.getD (k+i) 0) (by omega),Int.fdiv_eq_ediv_of_nonneg _ (by have:=pow2_pos s;omega),wu32] at kk
    rw [hz,Int.zero_mul,Int.zero_add]
    exact kk
  exact RunsW.loop hstep (ih (i+1) (by omega))
theorem rsh_all {ms:List Int} {s k:Nat} (hs:s<32) (hk:k≤ms.length) :
  valL ms=4294967296^k*(2^s*valL ((List.range (ms.length-k)).map (rshF (ms.drop k) s))+ms.getD k 0 % 2^s)+valL (ms.take k):=by
 have h1:=val_split ms hk
 have h2:=rsh_val (us:=ms.drop k) s hs (ms.length-k) (by simp)
 have g0:(ms.drop k).getD 0 0=ms.getD k 0:=by simp [List.getD_eq_getElem?_getD,List.getElem?_drop]
 have g1:(ms.drop k).getD (ms.length-k) 0=0:=getD_end (by simp)
 rw [List.take_of_length_le (by simp),g0,g1,Int.zero_emod,Int.mul_zero,Int.add_zero] at h2
 rw [h2,h1]
 generalize valL (ms.drop k)=X
 generalize valL (ms.take k)=Y
 generalize ms.getD k 0 % 2^s=z
 have:X-z+z=X:=by omega
 rw [this]
 omega
theorem rdown_run {neg:Bool} {xs:List Int} (hu:U32 xs) (n:Nat) (hn:(n:Int)≤9223372036854775807) (hN:xs.length<1048576):Runs Yir 152 [.agg [.bool neg, .sl xs.length (lm xs)], .int .i64 (n:Nat)] (bigAV (rv neg xs / 2^n)):=by
 have t1:=trim_len xs
 have tu:=trim_u32 hu
 have e1:i64.wrap (Int.tdiv (n:Int) 32)=((n / 32:Nat):Int):=by
  rw [Int.tdiv_eq_ediv_of_nonneg (by omega),w64 (by omega) (by omega)];omega
 have e2:u64.wrap (Int.tmod (n:Int) 32)=((n % 32:Nat):Int):=by
  rw [Int.tmod_eq_emod_of_nonneg (by omega),wu64m];omega
 have hs:n % 32<32:=Nat.mod_lt _ (by decide)
 have hmag:=mag_run (xs:=xs) (by omega)
 have ha:=Yloop152a (neg:=neg) (xs:=xs) (n:=n) tu hn (by omega) (min (trimL xs).length (n / 32)) 0 (by omega)
 rw [List.take_zero] at ha
 have e0:decide (valL ([]:List Int) ≠ 0)=false:=rfl
 rw [e0] at ha
 have hof:=of_run (n:=1) (by omega)
 have hp:=pow2_split n
 have hP:=pow32_pos (n / 32)
 have hS:=pow2_pos (n % 32)
 rw [← trim_rv neg xs]
 generalize hms:trimL xs=ms at *
 -- the end: what is kept and what is lost
 have fin:∀ (q l:Int),0≤l→l<2^n→valL ms=2^n*q+l→rv neg ms / 2^n=if neg=true∧l ≠ 0 then -q-1 else if neg then -q else q:=by
  intro q l hl0 hl1 hv
  have hpn:=pow2_pos n
  unfold rv
  rw [hv]
  cases neg with
  | false=>simp only [Bool.false_eq_true,if_false,false_and];rw [Int.add_comm,Int.add_mul_ediv_left _ _ (by omega),Int.ediv_eq_zero_of_lt hl0 hl1];omega
  | true =>
   simp only [if_true,true_and]
   by_cases h0:l=0
   ·rw [if_neg (by simp [h0]),h0,Int.add_zero,← Int.mul_neg,Int.mul_ediv_cancel_left _ (by omega)]
   ·rw [if_pos (by simpa using h0)]
    have : -(2^n*q+l)=(2^n-l)+2^n*(-q-1):=by rw [Int.mul_sub,Int.mul_neg];omega
    rw [this,Int.add_mul_ediv_left _ _ (by omega),Int.ediv_eq_zero_of_lt (by omega) (by omega)];omega
 by_cases hk:n / 32<ms.length
 ·-- some limbs are left
  have hb:=Yloop152b (neg:=neg) (lost:=decide (valL (ms.take (n / 32)) ≠ 0)) (xs:=xs) (ms:=ms) (sh:=(n:Int)) (s:=n % 32) (k:=n / 32) tu hs (by omega) (by omega) (ms.length-n / 32) 0 (by omega)
  have c1:decide ((i64.wrap (Int.tdiv (n:Int) 32))<(ms.length:Int))=true:=by rw [e1];simp;omega
  have hall:=rsh_all (ms:=ms) hs (show n / 32≤ms.length by omega)
  have ux:U32 ((List.range (ms.length-n / 32)).map (rshF (ms.drop (n / 32)) (n % 32))):=u32_range fun i=>(rshF_bd (u32_drop tu _) hs i).2.2.2
  have hmk:=mk1_run (neg:=neg) ux (by simp;omega)
  have hlen:((List.range (ms.length-n / 32)).map (rshF (ms.drop (n / 32)) (n % 32))).length=ms.length-n / 32:=by simp
  rw [hlen] at hmk
  have hq:=rv_len (neg:=neg) ux
  generalize hQ:(List.range (ms.length-n / 32)).map (rshF (ms.drop (n / 32)) (n % 32))=Q at *
  have hm0:=Int.emod_nonneg (ms.getD (n / 32) 0) (show (2:Int)^(n % 32) ≠ 0 by omega)
  have hm1:=Int.emod_lt_of_pos (ms.getD (n / 32) 0) hS
  have ht0:=valL_nonneg (u32_take tu (n / 32))
  have ht1:=take_lt tu (n / 32)
  have hb2:RunsW Yir (.loop Yc152b) (Ys152b neg xs (n:Nat) ms 0 [] (decide (valL (ms.take (n / 32)) ≠ 0)) (u64.wrap (Int.tmod (n:Int) 32)) (i64.wrap (Int.tdiv (n:Int) 32))) (.exit 2) (Ys152b neg xs (n:Nat) ms (ms.length-n / 32) (lm Q) (decide (valL (ms.take (n / 32)) ≠ 0)) (u64.wrap (Int.tmod (n:Int) 32)) (ms.length:Nat)):=by
   rw [e1,e2];exact hb
  have emask:u32.wrap ((u32.wrap (1*2^(min (Int.toNat (u64.wrap (Int.tmod (n:Int) 32))) (IntKind.bits .u32))))-1)=2^(n % 32)-1:=by
   have:min (Int.toNat ((n % 32:Nat):Int)) (IntKind.bits .u32)=n % 32:=by rw [Int.toNat_natCast];show min (n % 32) 32=n % 32;omega
   have h31:(2:Int)^(n % 32)≤2147483648:=pow2_le (show n % 32≤31 by omega)
   rw [e2,this,Int.one_mul,wu32,wu32];omega
  have ec4:u32.wrap ((BitVec.ofInt (IntKind.bits .u32) (ms.getD (Int.toNat (i64.wrap (Int.tdiv (n:Int) 32))) 0) &&& BitVec.ofInt (IntKind.bits .u32) (u32.wrap ((u32.wrap (1*2^(min (Int.toNat (u64.wrap (Int.tmod (n:Int) 32))) (IntKind.bits .u32))))-1))).toNat)=ms.getD (n / 32) 0 % 2^(n % 32):=by
   rw [emask,e1,Int.toNat_natCast]
   exact and32 (getD_u32 tu _) (by omega)
  have hl:0≤4294967296^(n / 32)*(ms.getD (n / 32) 0 % 2^(n % 32))+valL (ms.take (n / 32))∧4294967296^(n / 32)*(ms.getD (n / 32) 0 % 2^(n % 32))+valL (ms.take (n / 32))<2^n:=by
   rw [hp]
   generalize (4294967296:Int)^(n / 32)=P at *
   generalize ms.getD (n / 32) 0 % 2^(n % 32)=z at *
   generalize (2:Int)^(n % 32)=S at *
   have a:=Int.mul_nonneg (Int.le_of_lt hP) hm0
   have b:=Int.mul_le_mul_of_nonneg_left (show z+1≤S by omega) (Int.le_of_lt hP)
   rw [Int.mul_add,Int.mul_one] at b
   omega
  have hf:=fin (valL Q) _ hl.1 hl.2 (by rw [hall,hp];grind)
  have hlost:(4294967296^(n / 32)*(ms.getD (n / 32) 0 % 2^(n % 32))+valL (ms.take (n / 32)) ≠ 0)↔(valL (ms.take (n / 32)) ≠ 0∨ms.getD (n / 32) 0 % 2^(n % 32) ≠ 0):=by
   have a:=Int.mul_nonneg (Int.le_of_lt hP) hm0
   by_cases hz:ms.getD (n / 32) 0 % 2^(n % 32)=0
   ·rw [hz,Int.mul_zero,Int.zero_add];simp
   ·have:0<4294967296^(n / 32)*(ms.getD (n / 32) 0 % 2^(n % 32)):=Int.mul_pos hP (by omega)
    constructor
    ·intro _;exact .inr hz
    ·intro _;omega
  by_cases hneg:neg=true
  ·subst hneg
   have hrv:rv true Q = -valL Q:=rfl
   by_cases h0:valL (ms.take (n / 32)) ≠ 0
   ·rw [hf,if_pos ⟨rfl,hlost.2 (.inl h0)⟩]
    have hmin:=bminus_run (a := -valL Q) (b:=1) (by rw [← hrv];omega) (by decide)
    refine Yrun152_1 true (decide (valL (ms.take (n / 32)) ≠ 0)) xs (n:Nat) _ (ms.length-n / 32) (lm Q) _ (-valL Q) _ (by rw [hms];exact c1) (by simpa using h0) rfl (by rw [hms];exact hmag) (by rw [hms];exact ha) (by rw [hms];exact hb2) hmk hof hmin
   ·by_cases h1:ms.getD (n / 32) 0 % 2^(n % 32)=0
    ·rw [hf,if_neg (fun h=>by rcases hlost.1 h.2 with g | g;exact h0 g;exact g h1),if_pos rfl]
     exact Yrun152_4 true (decide (valL (ms.take (n / 32)) ≠ 0)) xs (n:Nat) _ (ms.length-n / 32) (lm Q) _ (-valL Q) (by rw [hms];exact c1) (by simpa using h0) rfl (by rw [hms,ec4,h1];rfl) (by rw [hms];exact hmag) (by rw [hms];exact ha) (by rw [hms];exact hb2) (by rw [hms,e1];omega) (by rw [e2];omega) hmk
    ·rw [hf,if_pos ⟨rfl,hlost.2 (.inr h1)⟩]
     have hmin:=bminus_run (a := -valL Q) (b:=1) (by rw [← hrv];omega) (by decide)
     exact Yrun152_3 true (decide (valL (ms.take (n / 32)) ≠ 0)) xs (n:Nat) _ (ms.length-n / 32) (lm Q) _ (-valL Q) _ (by rw [hms];exact c1) (by simpa using h0) rfl (by rw [hms,ec4];simpa using h1) (by rw [hms];exact hmag) (by rw [hms];exact ha) (by rw [hms];exact hb2) (by rw [hms,e1];omega) (by rw [e2];omega) hmk hof hmin
  ·have hneg':neg=false:=by cases neg <;> simp_all
   subst hneg'
   rw [hf,if_neg (by simp),if_neg (by simp)]
   by_cases h0:valL (ms.take (n / 32)) ≠ 0
   ·exact Yrun152_2 false (decide (valL (ms.take (n / 32)) ≠ 0)) xs (n:Nat) _ (ms.length-n / 32) (lm Q) _ (valL Q) (by rw [hms];exact c1) (by simpa using h0) rfl (by rw [hms];exact hmag) (by rw [hms];exact ha) (by rw [hms];exact hb2) hmk
   ·exact Yrun152_5 false (decide (valL (ms.take (n / 32)) ≠ 0)) xs (n:Nat) _ (ms.length-n / 32) (lm Q) _ (valL Q) (by rw [hms];exact c1) (by simpa using h0) rfl (by rw [hms];exact hmag) (by rw [hms];exact ha) (by rw [hms];exact hb2) (by rw [hms,e1];omega) (by rw [e2];omega) hmk
 ·-- nothing is left
  have c1:decide ((i64.wrap (Int.tdiv (n:Int) 32))<(ms.length:Int))=false:=by rw [e1];simp;omega
  have htake:ms.take (n / 32)=ms:=List.take_of_length_le (by omega)
  have hb:RunsW Yir (.loop Yc152b) (Ys152b neg xs (n:Nat) ms 0 [] (decide (valL (ms.take (n / 32)) ≠ 0)) (u64.wrap (Int.tmod (n:Int) 32)) (i64.wrap (Int.tdiv (n:Int) 32))) (.exit 2) (Ys152b neg xs (n:Nat) ms 0 [] (decide (valL (ms.take (n / 32)) ≠ 0)) (u64.wrap (Int.tmod (n:Int) 32)) (i64.wrap (Int.tdiv (n:Int) 32))) :=
   RunsW.loop_out (Yk152b_3 neg xs _ ms _ _ _ _ _ c1) (by intro e;cases e)
  have hmk:=mk1_run (neg:=neg) (xs:=[]) (fun x h=>(nomatch h)) (by simp)
  have hv0:rv neg ([]:List Int)=0:=by unfold rv;cases neg <;> rfl
  rw [hv0] at hmk
  have hlt:valL ms<2^n:=by
   have a:=valL_lt tu
   have b:=pow32_mono (show ms.length≤n / 32 by omega)
   rw [hp]
   have:=Int.mul_le_mul_of_nonneg_left (show (1:Int)≤2^(n % 32) by omega) (show (0:Int)≤4294967296^(n / 32) by omega)
   rw [Int.mul_one] at this
   omega
  have hf:=fin 0 (valL ms) (valL_nonneg tu) hlt (by rw [Int.mul_zero,Int.zero_add])
  by_cases hneg:neg=true
  ·subst hneg
   by_cases h0:valL ms ≠ 0
   ·rw [hf,if_pos ⟨rfl,h0⟩]
    have hmin:=bminus_run (a:=0) (b:=1) (by decide) (by decide)
    exact Yrun152_6 true (decide (valL (ms.take (n / 32)) ≠ 0)) xs (n:Nat) _ 0 [] _ 0 _ (by rw [hms];exact c1) rfl (by rw [htake];simpa using h0) (by rw [hms];exact hmag) (by rw [hms];exact ha) (by rw [hms];exact hb) hmk hof hmin
   ·rw [hf,if_neg (fun h=>h0 h.2),if_pos rfl]
    exact Yrun152_7 true (decide (valL (ms.take (n / 32)) ≠ 0)) xs (n:Nat) _ 0 [] _ 0 (by rw [hms];exact c1) rfl (by rw [htake];simpa using h0) (by rw [hms];exact hmag) (by rw [hms];exact ha) (by rw [hms];exact hb) hmk
  ·have hneg':neg=false:=by cases neg <;> simp_all
   subst hneg'
   rw [hf,if_neg (by simp),if_neg (by simp)]
   exact Yrun152_8 false (decide (valL (ms.take (n / 32)) ≠ 0)) xs (n:Nat) _ 0 [] _ 0 (by rw [hms];exact c1) rfl (by rw [hms];exact hmag) (by rw [hms];exact ha) (by rw [hms];exact hb) hmk
def TDB:Table:=TDA
theorem TDB_holds:THolds Yir TDB:=TDA_holds
end Go.Proofs.Ythnnfemologhfaa

namespace Go.Proofs.Ythnnfemologhfaa
open Go.IntKind (i64 u64 u32)
open Go.Ai
set_option maxRecDepth 100000
theorem Yloop149s {xs:List Int} {d:Int} (hx:U32 xs) (hd:0<d∧d<4294967296) (hN:xs.length≤1048576):∀ (i:Nat) (qs:List Int) (r:Int),i≤xs.length→qs.length=xs.length→U32 qs→0≤r∧r<d→(∀ t,t<i→qs.getD t 0=0) →
  ∃ qs' r',RunsW Yir (.loop Yc149s) (Ys149s xs [d] xs.length qs r ((i:Int)-1)) (.exit 0) (Ys149s xs [d] xs.length qs' r' (-1))∧qs'.length=xs.length∧U32 qs'∧(0≤r'∧r'<d)∧d*valL qs'+r'=d*valL qs+4294967296^i*r+valL (xs.take i):=by
 intro i
 induction i with
 | zero =>
  intro qs r _ hl hu hr _
  refine ⟨qs,r,RunsW.loop_out (Yk149s_2 xs [d] xs.length qs r _ (by simp)) (by intro e;cases e),hl,hu,hr,by simp [valL]⟩
 | succ i ih =>
  intro qs r hi hl hu hr hz
  have ei:(((i+1:Nat):Int)-1)=(i:Nat):=by omega
  have ej:i64.wrap ((i:Int)-1)=(i:Int)-1:=w64 (by omega) (by omega)
  have hxi:=getD_u32 hx i
  have ed:([d]:List Int).getD (Int.toNat 0) 0=d:=rfl
  have hk:=Yk149s_1 xs [d] xs.length qs r (i:Nat) (by simp) (by omega) (by simp) (by rw [ed,wu64 (by omega)];omega) (by omega) hl
  rw [ej,Int.toNat_natCast,ed,word2 (by omega) hxi,wu64 (n:=d) (by omega)] at hk
  have hv0:0≤r*4294967296+xs.getD i 0:=by omega
  rw [Int.tdiv_eq_ediv_of_nonneg hv0,Int.tmod_eq_emod_of_nonneg hv0] at hk
  generalize hv:r*4294967296+xs.getD i 0=v at *
  have hm:=Int.mul_ediv_add_emod v d
  have hm0:=Int.emod_nonneg v (show d ≠ 0 by omega)
  have hm1:=Int.emod_lt_of_pos v hd.1
  have hq0:0≤v / d:=Int.ediv_nonneg hv0 (by omega)
  have hq1:v / d<4294967296:=by
   apply Int.ediv_lt_of_lt_mul hd.1
   have:=Int.mul_le_mul_of_nonneg_right (show r≤d-1 by omega) (show (0:Int)≤4294967296 by omega)
   have:(d-1)*4294967296=4294967296*d-4294967296:=by omega
   omega
  rw [wu64 (n:=v / d) (by omega),w32 ⟨hq0,hq1⟩] at hk
  obtain ⟨qs',r',g1,g2,g3,g4,g5⟩:=ih (qs.set i (v / d)) (v % d) (by omega) (by simpa using hl) (u32_set hu ⟨hq0,hq1⟩) ⟨hm0,hm1⟩ (fun t ht=>by rw [getD_other (by omega)];exact hz t (by omega))
  rw [ei]
  refine ⟨qs',r',RunsW.loop hk g1,g2,g3,g4,?_⟩
  rw [g5,valL_set _ _ _ (by omega),hz i (by omega),take_succ_val xs i (by omega),Int.pow_succ]
  generalize (4294967296:Int)^i=P at *
  have e2:xs.getD i 0=d*(v / d)+v % d-r*4294967296:=by omega
  rw [e2]
  grind
theorem Yloop149z {xs ys:List Int} {y:Int} {s:Nat} (hy0:ys ≠ []) (hyl:ys.length≤1048576) (hy:ys.getD (ys.length-1) 0=y) (hb:0<y) (hs:s<32) (h1:2147483648≤y*2^s) (h2:y*2^s<4294967296):∀ (r i:Nat),i+r=s →
  RunsW Yir (.loop Yc149z) (Ys149z xs ys (i:Nat)) (.exit 2) (Ys149z xs ys (s:Nat)):=by
 have hpos:=List.length_pos_iff.2 hy0
 have en:i64.wrap ((ys.length:Int)-1)=((ys.length-1:Nat):Int):=by rw [w64 (by omega) (by omega)];omega
 have cond:∀ i:Nat,i≤s→(u32.wrap ((BitVec.ofInt (IntKind.bits .u32) (u32.wrap ((ys.getD (Int.toNat (i64.wrap ((ys.length:Int)-1))) 0)*2^(min (Int.toNat (u64.wrap (i:Int))) (IntKind.bits .u32)))) &&& BitVec.ofInt (IntKind.bits .u32) 2147483648).toNat)==0)=decide (y*2^i<2147483648):=by
  intro i hi
  have em:min (Int.toNat (i:Int)) (IntKind.bits .u32)=i:=by rw [Int.toNat_natCast];show min i 32=i;omega
  have hp:=pow2_le hi
  have hp0:=pow2_pos i
  have hle:=Int.mul_le_mul_of_nonneg_left hp (show 0≤y by omega)
  have hge:=Int.mul_nonneg (show 0≤y by omega) (show (0:Int)≤2^i by omega)
  rw [wu64 (n:=(i:Int)) (by omega),em,en,Int.toNat_natCast,hy,w32 (n:=y*2^i) (by omega)]
  exact bit31 (by omega)
 intro r
 induction r with
 | zero =>
  intro i hi
  have:i=s:=by omega
  subst this
  exact RunsW.loop_out (Yk149z_2 xs ys _ (by rw [cond i (Nat.le_refl _)];simp;omega) (by rw [en];omega) (by rw [wu64 (by omega)];omega)) (by intro e;cases e)
 | succ r ih =>
  intro i hi
  have ei:i64.wrap ((i:Int)+1)=((i+1:Nat):Int):=by rw [w64 (by omega) (by omega)];omega
  have hlt:y*2^i<2147483648:=by
   have hp:=pow2_le (show i+1≤s by omega)
   rw [Int.pow_succ] at hp
   have hle:=Int.mul_le_mul_of_nonneg_left hp (show 0≤y by omega)
   rw [← Int.mul_assoc] at hle
   omega
  have k:=Yk149z_1 xs ys (i:Nat) (by rw [cond i (by omega)];simpa using hlt) (by rw [en];omega) (by rw [wu64 (by omega)];omega)
  rw [ei] at k
  exact RunsW.loop k (ih (i+1) (by omega))
section
variable {k:Nat} {us vs:List Int} {kq:Nat} {qs:List Int} {s:Int} {j m:Nat}
theorem Yloop149g (hvl:vs.length=m+2) (hl:us.length=k) (hk:k≤1048577) (hj:j+m+2<k) (h:Dig m (valL vs) (valL (us.drop j)) (vs.getD (m+1) 0) (vs.getD m 0) (us.getD (j+m+2) 0) (us.getD (j+m+1) 0) (us.getD (j+m) 0)):∀ (f:Nat) (g r:Int),g.toNat≤f →
  DigI (valL vs) (valL (us.drop j)) (vs.getD (m+1) 0) (us.getD (j+m+2) 0*4294967296+us.getD (j+m+1) 0) g r→r<4294967296 →
  ∃ g' r',RunsW Yir (.loop Yc149g) (Ys149g k us vs ((m+2:Nat):Int) kq qs s (j:Nat) g r) (.exit 6) (Ys149g k us vs ((m+2:Nat):Int) kq qs s (j:Nat) g' r') ∧
   (0≤g'∧g'<4294967296)∧valL (us.drop j)<(g'+1)*valL vs∧g'*valL vs<valL (us.drop j)+valL vs:=by
 have ht:=h.htop
 have hnx:=h.hnxt
 have hz:=h.hz
 have e1:i64.wrap (i64.wrap ((j:Int)+((m+2:Nat):Int))-2)=((j+m:Nat):Int):=by
  rw [w64 (n:=(j:Int)+((m+2:Nat):Int)) (by omega) (by omega),w64 (by omega) (by omega)];omega
 have e2:i64.wrap (((m+2:Nat):Int)-2)=(m:Int):=by rw [w64 (by omega) (by omega)];omega
 have e3:i64.wrap (((m+2:Nat):Int)-1)=((m+1:Nat):Int):=by rw [w64 (by omega) (by omega)];omega
 have et:u64.wrap (vs.getD (Int.toNat (i64.wrap (((m+2:Nat):Int)-1))) 0)=vs.getD (m+1) 0:=by rw [e3,Int.toNat_natCast,wu64 (by omega)]
 have en:u64.wrap (vs.getD (Int.toNat (i64.wrap (((m+2:Nat):Int)-2))) 0)=vs.getD m 0:=by rw [e2,Int.toNat_natCast,wu64 (by omega)]
 have n2:0≤i64.wrap (((m+2:Nat):Int)-2)∧i64.wrap (((m+2:Nat):Int)-2)<(vs.length:Int):=by rw [e2];omega
 have n1:0≤i64.wrap (((m+2:Nat):Int)-1)∧i64.wrap (((m+2:Nat):Int)-1)<(vs.length:Int):=by rw [e3];omega
 have nu:0≤i64.wrap (i64.wrap ((j:Int)+((m+2:Nat):Int))-2)∧i64.wrap (i64.wrap ((j:Int)+((m+2:Nat):Int))-2)<(k:Int):=by rw [e1];omega
 have ecmp:∀ g r:Int,0≤r→r<4294967296→0≤g*vs.getD m 0∧g*vs.getD m 0<18446744073709551616→(decide (u64.wrap (g*(u64.wrap (vs.getD (Int.toNat (i64.wrap (((m+2:Nat):Int)-2))) 0)))>u64.wrap ((BitVec.ofInt (IntKind.bits .u64) (u64.wrap (r*2^(min (Int.toNat 32) (IntKind.bits .u64)))) ||| BitVec.ofInt (IntKind.bits .u64) (u64.wrap (us.getD (Int.toNat (i64.wrap (i64.wrap ((j:Int)+((m+2:Nat):Int))-2))) 0))).toNat)):Bool)=decide (r*4294967296+us.getD (j+m) 0<g*vs.getD m 0):=by
  intro g r hr0 hr hgn
  rw [en,e1,Int.toNat_natCast,word2 ⟨hr0,hr⟩ hz,wu64 hgn]
 intro f
 induction f with
 | zero =>
  intro g r hf i hr
  have hg:g=0:=by have:=i.g0;omega
  subst hg
  have c2:¬ (r*4294967296+us.getD (j+m) 0<0*vs.getD m 0):=by have:=i.r0;omega
  have k5:=Yk149g_5 k us vs ((m+2:Nat):Int) kq qs s (j:Nat) 0 r (by simp) (by simpa using hr) (by
   rw [ecmp 0 r i.r0 hr (by omega),decide_eq_false_iff_not];exact c2) n2 nu hl
  exact ⟨0,r,RunsW.loop_out k5 (by intro e;cases e),by omega,i.up,h.out i (by omega) (Or.inr (by omega))⟩
 | succ f ih =>
  intro g r hf i hr
  have hg1:=i.gle
  have hg0:=i.g0
  have hr0:=i.r0
  have hgn:0≤g*vs.getD m 0∧g*vs.getD m 0<18446744073709551616:=by
   have a:=Int.mul_nonneg hg0 hnx.1
   have b:=Int.mul_le_mul hg1 (show vs.getD m 0≤4294967295 by omega) hnx.1 (by omega)
   omega
  have er:u64.wrap (r+(u64.wrap (vs.getD (Int.toNat (i64.wrap (((m+2:Nat):Int)-1))) 0)))=r+vs.getD (m+1) 0:=by rw [et];exact wu64 (by omega)
  by_cases hc:4294967296≤g∨r*4294967296+us.getD (j+m) 0<g*vs.getD m 0
  ·have i2:=h.step i hc
   have hg2:=i2.g0
   have eg:u64.wrap (g-1)=g-1:=wu64 (by omega)
   by_cases hbig:4294967296≤r+vs.getD (m+1) 0
   ·have hgs:=h.small_g i2 hbig
    have hrun:RunsW Yir Yc149g (Ys149g k us vs ((m+2:Nat):Int) kq qs s (j:Nat) g r) (.exit 6) (Ys149g k us vs ((m+2:Nat):Int) kq qs s (j:Nat) (u64.wrap (g-1)) (u64.wrap (r+(u64.wrap (vs.getD (Int.toNat (i64.wrap (((m+2:Nat):Int)-1))) 0))))):=by
     by_cases hg:4294967296≤g
     ·exact Yk149g_1 k us vs _ kq qs s _ g r (by simpa using hg) (by rw [er];simpa using hbig) n1
     ·exact Yk149g_3 k us vs _ kq qs s _ g r (by simp;omega) (by simpa using hr) (by rw [ecmp g r hr0 hr hgn,decide_eq_true_eq];omega) (by rw [er];simpa using hbig) n2 nu hl n1
    rw [eg,er] at hrun
    exact ⟨g-1,_,RunsW.loop_out hrun (by intro e;cases e),⟨hg2,hgs⟩,i2.up,h.out i2 hgs (Or.inl hbig)⟩
   ·have hrun:RunsW Yir Yc149g (Ys149g k us vs ((m+2:Nat):Int) kq qs s (j:Nat) g r) .norm (Ys149g k us vs ((m+2:Nat):Int) kq qs s (j:Nat) (u64.wrap (g-1)) (u64.wrap (r+(u64.wrap (vs.getD (Int.toNat (i64.wrap (((m+2:Nat):Int)-1))) 0))))):=by
     by_cases hg:4294967296≤g
     ·exact Yk149g_2 k us vs _ kq qs s _ g r (by simpa using hg) (by rw [er,decide_eq_false_iff_not];omega) n1
     ·exact Yk149g_4 k us vs _ kq qs s _ g r (by simp;omega) (by simpa using hr) (by rw [ecmp g r hr0 hr hgn,decide_eq_true_eq];omega) (by rw [er,decide_eq_false_iff_not];omega) n2 nu hl n1
    rw [eg,er] at hrun
    obtain ⟨g',r',a1,a2⟩:=ih (g-1) (r+vs.getD (m+1) 0) (by omega) i2 (by omega)
    exact ⟨g',r',RunsW.loop hrun a1,a2⟩
  ·have k5:=Yk149g_5 k us vs ((m+2:Nat):Int) kq qs s (j:Nat) g r (by simp;omega) (by simpa using hr) (by rw [ecmp g r hr0 hr hgn,decide_eq_false_iff_not];omega) n2 nu hl
   exact ⟨g,r,RunsW.loop_out k5 (by intro e;cases e),by omega,i.up,h.out i (by omega) (Or.inr (by omega))⟩
end
section
variable {k:Nat} {vs:List Int} {kq:Nat} {qs:List Int} {s:Int} {j:Nat} {g:Int}
theorem Yloop149m (hv:U32 vs) (hk:k≤1048577) (hg:0≤g∧g<4294967296) (hj:j+vs.length≤k):∀ (r i:Nat) (us:List Int) (b c:Int),r+i=vs.length→us.length=k→U32 us→0≤b∧b≤1→0≤c∧c<4294967296 →
  RunsW Yir (.loop Yc149m) (Ys149m k us vs (vs.length:Nat) kq qs s (j:Nat) g b c (i:Nat)) (.exit 8) (Ys149m k (msGo g vs j r i us b c).1 vs (vs.length:Nat) kq qs s (j:Nat) g (msGo g vs j r i us b c).2.1 (msGo g vs j r i us b c).2.2 (vs.length:Nat)):=by
 intro r
 induction r with
 | zero =>
  intro i us b c hi _ _ _ _
  have:i=vs.length:=by omega
  subst this
  exact RunsW.loop_out (Yk149m_2 k us vs _ kq qs s _ g b c _ (by simp)) (by intro e;cases e)
 | succ r ih =>
  intro i us b c hi hl hu hb hc
  have ei:i64.wrap ((i:Int)+1)=((i+1:Nat):Int):=by rw [w64 (by omega) (by omega)];omega
  have eij:i64.wrap ((i:Int)+(j:Int))=((i+j:Nat):Int):=by rw [w64 (by omega) (by omega)];omega
  have hvi:=getD_u32 hv i
  have hui:=getD_u32 hu (i+j)
  have hw:=ms_word hg hvi hc
  have hgv:=Int.mul_nonneg hg.1 hvi.1
  have h1:=Yk149m_1 k us vs (vs.length:Nat) kq qs s (j:Nat) g b c (i:Nat) (by simp;omega) (by omega) (by rw [eij];omega) hl
  have ecc:c+g*vs.getD i 0=g*vs.getD i 0+c:=Int.add_comm _ _
  rw [eij,ei,Int.toNat_natCast,Int.toNat_natCast,wu64 (n:=vs.getD i 0) (by omega),wu64 (n:=us.getD (i+j) 0) (by omega),wu64 (n:=g*vs.getD i 0) (by omega),ecc,wu64 hw,fd32,fd63] at h1
  have emk:u64.wrap ((BitVec.ofInt (IntKind.bits .u64) (g*vs.getD i 0+c) &&& BitVec.ofInt (IntKind.bits .u64) 4294967295).toNat)=(g*vs.getD i 0+c) % 4294967296:=and64 (s:=32) hw (by decide)
  rw [emk] at h1
  generalize hp:g*vs.getD i 0+c=p at *
  rw [wu64m,wu64m] at h1
  have hstep:msGo g vs j (r+1) i us b c=msGo g vs j r (i+1) (us.set (i+j) ((us.getD (i+j) 0-p % 4294967296-b) % 4294967296)) (if us.getD (i+j) 0-p % 4294967296-b<0 then 1 else 0) (p / 4294967296):=by rw [msGo,hp]
  generalize hd:us.getD (i+j) 0-p % 4294967296-b=d at *
  have e1:u32.wrap (((us.getD (i+j) 0-p % 4294967296) % 18446744073709551616-b) % 18446744073709551616)=d % 4294967296:=by rw [wu32];omega
  have e2:((us.getD (i+j) 0-p % 4294967296) % 18446744073709551616-b) % 18446744073709551616 / 9223372036854775808=(if d<0 then 1 else 0):=by split <;> omega
  rw [e1,e2] at h1
  rw [hstep]
  exact RunsW.loop h1 (ih (i+1) _ _ _ (by omega) (by simpa using hl) (u32_set hu (by omega)) (by split <;> omega) (by omega))
theorem Yloop149a (hv:U32 vs) (hk:k≤1048577) (hj:j+vs.length≤k):∀ (r i:Nat) (us:List Int) (c:Int),r+i=vs.length→us.length=k→U32 us→0≤c∧c≤1 →
  RunsW Yir (.loop Yc149a) (Ys149a k us vs (vs.length:Nat) kq qs s (j:Nat) g c (i:Nat)) (.exit 10) (Ys149a k (abGo vs j r i us c).1 vs (vs.length:Nat) kq qs s (j:Nat) g (abGo vs j r i us c).2 (vs.length:Nat)):=by
 intro r
 induction r with
 | zero =>
  intro i us c hi _ _ _
  have:i=vs.length:=by omega
  subst this
  exact RunsW.loop_out (Yk149a_2 k us vs _ kq qs s _ g c _ (by simp)) (by intro e;cases e)
 | succ r ih =>
  intro i us c hi hl hu hc
  have ei:i64.wrap ((i:Int)+1)=((i+1:Nat):Int):=by rw [w64 (by omega) (by omega)];omega
  have eij:i64.wrap ((i:Int)+(j:Int))=((i+j:Nat):Int):=by rw [w64 (by omega) (by omega)];omega
  have hvi:=getD_u32 hv i
  have hui:=getD_u32 hu (i+j)
  have h1:=Yk149a_1 k us vs (vs.length:Nat) kq qs s (j:Nat) g c (i:Nat) (by simp;omega) (by rw [eij];omega) hl (by omega)
  have ecc:c+(us.getD (i+j) 0+vs.getD i 0)=us.getD (i+j) 0+vs.getD i 0+c:=Int.add_comm _ _
  rw [eij,ei,Int.toNat_natCast,Int.toNat_natCast,wu64 (n:=vs.getD i 0) (by omega),wu64 (n:=us.getD (i+j) 0) (by omega),wu64 (n:=us.getD (i+j) 0+vs.getD i 0) (by omega),ecc,wu64 (n:=us.getD (i+j) 0+vs.getD i 0+c) (by omega),fd32,wu32] at h1
  exact RunsW.loop h1 (ih (i+1) _ _ (by omega) (by simpa using hl) (u32_set hu (by omega)) (by omega))
end
def TDC:Table:=TDB
theorem TDC_holds:THolds Yir TDC:=TDB_holds
end Go.Proofs.Ythnnfemologhfaa

namespace Go.Proofs.Ythnnfemologhfaa
open Go.IntKind (i64 u64 u32)
open Go.Ai
set_option maxRecDepth 100000
section
variable {vs:List Int} {m:Nat} {k kq:Nat} {s:Int}
theorem Yloop149 (hv:U32 vs) (hm:vs.length=m+2) (ht:2147483648≤vs.getD (m+1) 0) (hk:k=kq+vs.length) (hkb:k≤1048577):∀ (i:Nat) (us qs:List Int),i≤kq→us.length=k→U32 us→qs.length=kq→U32 qs→(∀ t,t<i→qs.getD t 0=0)→valL (us.drop i)<valL vs →
  ∃ us' qs',RunsW Yir (.loop Yc149) (Ys149 k us vs (vs.length:Nat) kq qs s ((i:Int)-1)) (.exit 4) (Ys149 k us' vs (vs.length:Nat) kq qs' s (-1)) ∧
   us'.length=k∧U32 us'∧qs'.length=kq∧U32 qs'∧valL us'<valL vs∧valL us=valL vs*(valL qs'-valL qs)+valL us':=by
 intro i
 induction i with
 | zero =>
  intro us qs _ h1 h2 h3 h4 _ h6
  exact ⟨us,qs,RunsW.loop_out (Yk149_3 k us vs _ kq qs s _ (by simp)) (by intro e;cases e),h1,h2,h3,h4,h6,by rw [Int.sub_self,Int.mul_zero,Int.zero_add]⟩
 | succ i ih =>
  intro us qs hi h1 h2 h3 h4 h5 h6
  have ei:(((i+1:Nat):Int)-1)=(i:Nat):=by omega
  have ej:i64.wrap ((i:Int)-1)=(i:Int)-1:=w64 (by omega) (by omega)
  have en:i64.wrap ((i:Int)+(vs.length:Int))=((i+vs.length:Nat):Int):=by rw [w64 (by omega) (by omega)];omega
  have en1:i64.wrap (((i+vs.length:Nat):Int)-1)=((i+m+1:Nat):Int):=by rw [w64 (by omega) (by omega)];omega
  have ev1:i64.wrap ((vs.length:Int)-1)=((m+1:Nat):Int):=by rw [w64 (by omega) (by omega)];omega
  have hD:=dig_of (us:=us) (vs:=vs) (j:=i) (m:=m) h2 hv hm (by omega) ht h6
  have hI:=hD.init
  have hr1:=Int.emod_lt_of_pos (us.getD (i+m+2) 0*4294967296+us.getD (i+m+1) 0) (show 0<vs.getD (m+1) 0 by omega)
  have ht2:=hD.htop
  have et:u64.wrap (vs.getD (Int.toNat (i64.wrap ((vs.length:Int)-1))) 0)=vs.getD (m+1) 0:=by rw [ev1,Int.toNat_natCast,wu64 (by omega)]
  obtain ⟨g,r,q1,q2,q3,q4⟩:=Yloop149g (k:=k) (kq:=kq) (qs:=qs) (s:=s) hm h1 hkb (by omega) hD _ _ _ (Nat.le_refl _) hI (by omega)
  rw [← hm] at q1
  have hn0:0≤us.getD (i+m+2) 0*4294967296+us.getD (i+m+1) 0:=by have:=hD.hx;have:=hD.hy;omega
  have hq0:=hI.g0
  have hq1:=hI.gle
  have hl5:RunsW Yir (.loop Yc149g) (Ys149g k us vs (vs.length:Nat) kq qs s (i:Nat) (u64.wrap (Int.tdiv (u64.wrap ((BitVec.ofInt (IntKind.bits .u64) (u64.wrap ((u64.wrap (us.getD (Int.toNat (i64.wrap ((i:Int)+(vs.length:Int)))) 0))*2^(min (Int.toNat 32) (IntKind.bits .u64)))) ||| BitVec.ofInt (IntKind.bits .u64) (u64.wrap (us.getD (Int.toNat (i64.wrap ((i64.wrap ((i:Int)+(vs.length:Int)))-1))) 0))).toNat)) (u64.wrap (vs.getD (Int.toNat (i64.wrap ((vs.length:Int)-1))) 0)))) (Int.tmod (u64.wrap ((BitVec.ofInt (IntKind.bits .u64) (u64.wrap ((u64.wrap (us.getD (Int.toNat (i64.wrap ((i:Int)+(vs.length:Int)))) 0))*2^(min (Int.toNat 32) (IntKind.bits .u64)))) ||| BitVec.ofInt (IntKind.bits .u64) (u64.wrap (us.getD (Int.toNat (i64.wrap ((i64.wrap ((i:Int)+(vs.length:Int)))-1))) 0))).toNat)) (u64.wrap (vs.getD (Int.toNat (i64.wrap ((vs.length:Int)-1))) 0)))) (.exit 6) (Ys149g k us vs (vs.length:Nat) kq qs s (i:Nat) g r):=by
   rw [et,en,en1,Int.toNat_natCast,Int.toNat_natCast,show i+vs.length=i+m+2 by omega,wu64 (n:=us.getD (i+m+2) 0) (by have:=hD.hx;omega),word2 hD.hx hD.hy,Int.tdiv_eq_ediv_of_nonneg hn0,Int.tmod_eq_emod_of_nonneg hn0,wu64 ⟨hq0,by omega⟩]
   exact q1
  have hms:=Yloop149m (k:=k) (kq:=kq) (qs:=qs) (s:=s) (j:=i) (g:=g) hv hkb q2 (by omega) vs.length 0 us 0 0 (by omega) h1 h2 (by omega) (by omega)
  have hmo:=msGo_ok (j:=i) q2 hv vs.length 0 us 0 0 (by omega) (by omega) h2 (by omega) (by omega)
  have hst:=digit_step h2 hv (j:=i) (by omega) h6 q2 q3 q4
  generalize hM:msGo g vs i vs.length 0 us 0 0=M at *
  obtain ⟨m1,m2,m3,m4,_,_⟩:=hmo
  obtain ⟨d1,d2⟩:=dsign (getD_u32 m2 (i+vs.length)) m4 m3
  dsimp only at hst
  obtain ⟨S1,S2⟩:=hst
  -- the rest from a step
  have fin:∀ (ws:List Int) (q:Int),StepOk us vs ws i q→(0≤q∧q<4294967296)→RunsW Yir Yc149 (Ys149 k us vs (vs.length:Nat) kq qs s (i:Nat)) .norm (Ys149 k ws vs (vs.length:Nat) kq (qs.set i q) s ((i:Int)-1)) →
    ∃ us' qs',RunsW Yir (.loop Yc149) (Ys149 k us vs (vs.length:Nat) kq qs s (i:Nat)) (.exit 4) (Ys149 k us' vs (vs.length:Nat) kq qs' s (-1)) ∧
   us'.length=k∧U32 us'∧qs'.length=kq∧U32 qs'∧valL us'<valL vs∧valL us=valL vs*(valL qs'-valL qs)+valL us':=by
   intro ws q hs hq hrun
   obtain ⟨us',qs',a1,a2,a3,a4,a5,a6,a7⟩:=ih ws (qs.set i q) (by omega) (by rw [hs.len];exact h1) hs.u32 (by simpa using h3) (u32_set h4 hq) (fun t ht=>by rw [getD_other (by omega)];exact h5 t (by omega)) hs.low
   refine ⟨us',qs',RunsW.loop hrun a1,a2,a3,a4,a5,a6,?_⟩
   have e:=hs.val
   rw [valL_set _ _ _ (by omega),h5 i (by omega),Int.sub_zero] at a7
   generalize (4294967296:Int)^i=P at *
   grind
  have hn5:¬ u64.wrap (vs.getD (Int.toNat (i64.wrap ((vs.length:Int)-1))) 0)=0:=by rw [et];omega
  rw [ei]
  by_cases hd:M.1.getD (i+vs.length) 0-M.2.2-M.2.1<0
  ·obtain ⟨S2,hg1⟩:=S2 hd
   have hu2:U32 (M.1.set (i+vs.length) ((M.1.getD (i+vs.length) 0-M.2.2-M.2.1) % 4294967296)):=u32_set m2 (by omega)
   have hab:=Yloop149a (k:=k) (kq:=kq) (qs:=qs) (s:=s) (j:=i) (g:=g-1) hv hkb (by omega) vs.length 0 (M.1.set (i+vs.length) ((M.1.getD (i+vs.length) 0-M.2.2-M.2.1) % 4294967296)) 0 (by omega) (by rw [List.length_set,m1];exact h1) hu2 (by omega)
   have hao:=abGo_ok (j:=i) hv vs.length 0 (M.1.set (i+vs.length) ((M.1.getD (i+vs.length) 0-M.2.2-M.2.1) % 4294967296)) 0 (by omega) (by rw [List.length_set,m1];omega) hu2 (by omega)
   obtain ⟨b1,b2,b3,_,_⟩:=hao
   generalize hB:abGo vs i vs.length 0 (M.1.set (i+vs.length) ((M.1.getD (i+vs.length) 0-M.2.2-M.2.1) % 4294967296)) 0=Bb at *
   have eg:u64.wrap (g-1)=g-1:=wu64 (by omega)
   have k1:=Yk149_1 k us vs (vs.length:Nat) kq qs s (i:Nat) M.1 Bb.1 g r M.2.1 M.2.2 Bb.2 (by simp) (by rw [en,Int.toNat_natCast,d1,if_pos hd];rfl) (by rw [en];omega) h1 (by rw [en,en1];omega) (by rw [ev1];omega) hn5 hl5 hms (by rw [m1];exact h1) (by rw [en,Int.toNat_natCast,d2,eg];exact hab) (by rw [b1,List.length_set,m1];exact h1) (by omega) h3
   rw [en,Int.toNat_natCast,eg,Int.toNat_natCast,w32 (n:=g-1) (by omega),ej,w32 (n:=Bb.2) (by omega),wu32] at k1
   exact fin _ _ S2 (by omega) k1
  ·have k2:=Yk149_2 k us vs (vs.length:Nat) kq qs s (i:Nat) M.1 g r M.2.1 M.2.2 (by simp) (by rw [en,Int.toNat_natCast,d1,if_neg hd];rfl) (by rw [en];omega) h1 (by rw [en,en1];omega) (by rw [ev1];omega) hn5 hl5 hms (by rw [m1];exact h1) (by omega) h3
   rw [en,Int.toNat_natCast,Int.toNat_natCast,d2,w32 (n:=g) q2,ej] at k2
   exact fin _ _ (S1 (by omega)) q2 k2
end
abbrev lz (n:Int):List Int:=limbs n.toNat
theorem canon_lz {xs:List Int} (h:Canon xs):xs=lz (valL xs):=by
 refine canon_eq h (limbs_canon _) ?_
 rw [limbs_val]
 have:=valL_nonneg h.1
 omega
theorem lz_abs {n:Int} (h:0≤n):limbs n.natAbs=lz n:=by unfold lz;congr 1;omega
theorem rvF (xs:List Int):rv false xs=valL xs:=rfl
theorem divMag_run {xs ys:List Int} (hx:Canon xs) (hy:Canon ys) (hy0:ys ≠ []) (h1:xs.length<1000000) (h2:ys.length<1000000) :
  Runs Yir 149 [.sl xs.length (lm xs), .sl ys.length (lm ys)] (.tup [.sl (lz (valL xs / valL ys)).length (lm (lz (valL xs / valL ys))), .sl (lz (valL xs % valL ys)).length (lm (lz (valL xs % valL ys)))]):=by
 have hyl:=List.length_pos_iff.2 hy0
 have hcmp:=cmpMag_run hx hy (by omega)
 have hx0:=valL_nonneg hx.1
 have hyp:=canon_pos hy hy0
 by_cases hlt:valL xs<valL ys
 ·rw [Int.ediv_eq_zero_of_lt hx0 hlt,Int.emod_eq_of_lt hx0 hlt,← canon_lz hx]
  exact Yrun149_1 xs ys _ (by unfold cmpI;rw [if_pos hlt];rfl) hcmp
 have hcm:decide (cmpI (valL xs) (valL ys)<0)=false:=by unfold cmpI;rw [if_neg hlt];split <;> rfl
 by_cases hone:ys.length=1
 ·obtain ⟨y,rfl⟩:=List.length_eq_one_iff.1 hone
  have e1:valL [y]=y:=by simp [valL]
  rw [e1] at hyp ⊢
  have hyb:=hy.1 y (by simp)
  obtain ⟨qs,r,q1,q2,q3,q4,q5⟩:=Yloop149s hx.1 (d:=y) ⟨hyp,hyb.2⟩ (by omega) xs.length (List.replicate xs.length 0) 0 (Nat.le_refl _) (by simp) (u32_zeros _) (by omega) (fun t _=>getD_zeros _ _)
  rw [valL_zeros,List.take_length,Int.mul_zero,Int.mul_zero,Int.add_zero,Int.zero_add] at q5
  have hd:=(Int.ediv_emod_unique hyp (a:=valL xs) (r:=r) (q:=valL qs)).2 ⟨by omega,q4.1,q4.2⟩
  have ur:U32 [r]:=fun x h=>by rw [List.mem_singleton.1 h];omega
  have er:valL [r]=r:=by simp [valL]
  have h:=Yrun149_2 xs [y] qs _ r (-1) xs.length hcm rfl hcmp (by omega) (by
   rw [Int.toNat_natCast,repl_lim,w64 (by omega) (by omega)];exact q1) (by rw [← q2];exact mag_run (by omega)) (by rw [w32 (n:=r) (by omega)];exact mag_run (xs:=[r]) (by simp))
  rw [w32 (n:=r) (by omega),trimL_eq q3,trimL_eq ur,er,← hd.1,← hd.2] at h
  exact h
 ·obtain ⟨m,hm⟩:∃ m,ys.length=m+2:=⟨ys.length-2,by omega⟩
  have hxl:ys.length≤xs.length:=by
   rcases Nat.lt_or_ge xs.length ys.length with g | g
   ·exact absurd (canon_lt hx hy g) hlt
   ·exact g
  -- the first limb of y
  have hyt:0<ys.getD (m+1) 0∧ys.getD (m+1) 0<4294967296:=by
   have a:=getD_u32 hy.1 (m+1)
   rcases hy.2 with g | g
   ·exact absurd g hy0
   ·rw [show ys.length-1=m+1 by omega] at g;omega
  obtain ⟨s,hs,s1,s2,_⟩:=lz_run hyt
  have hp:=pow2_pos s
  -- the two shifted numbers
  have hU:=rup_run (neg:=false) hx.1 s (by omega)
  have hV:=rup_run (neg:=false) hy.1 s (by omega)
  rw [rvF] at hU hV
  have hU0:0≤valL xs*2^s:=Int.mul_nonneg hx0 (by omega)
  have hV0:0<valL ys*2^s:=Int.mul_pos hyp hp
  have eu:valL (limbs (valL xs*2^s).natAbs)=valL xs*2^s:=by rw [limbs_val];omega
  have ev:valL (limbs (valL ys*2^s).natAbs)=valL ys*2^s:=by rw [limbs_val];omega
  have cu:=limbs_canon (valL xs*2^s).natAbs
  have cv:=limbs_canon (valL ys*2^s).natAbs
  have hp2:(2:Int)^s≤2147483648:=by
   have:=pow2_le (show s≤31 by omega);rwa [show (2:Int)^31=2147483648 by decide] at this
  -- y between powers
  have ysplit:=val_split ys (j:=m+1) (by omega)
  have yd:=drop_val ys (m+1)
  rw [drop_end (xs:=ys) (i:=m+1+1) (by omega),Int.mul_zero,Int.add_zero] at yd
  rw [yd] at ysplit
  have ylo:=take_lt hy.1 (m+1)
  have ylo0:=valL_nonneg (u32_take hy.1 (m+1))
  have hP:=pow32_pos (m+1)
  have hV1:2147483648*4294967296^(m+1)≤valL ys*2^s:=by
   rw [ysplit]
   have a:=Int.mul_le_mul_of_nonneg_right s1 (show (0:Int)≤4294967296^(m+1) by omega)
   have b:=Int.mul_nonneg (show (0:Int)≤2^s by omega) ylo0
   have e:(valL (List.take (m+1) ys)+4294967296^(m+1)*ys.getD (m+1) 0)*2^s=2^s*valL (List.take (m+1) ys)+ys.getD (m+1) 0*2^s*4294967296^(m+1):=by grind
   omega
  have e9:(4294967296:Int)^(m+2)=4294967296^(m+1)*4294967296:=Int.pow_succ _ _
  have hV2:valL ys*2^s<4294967296^(m+2):=by
   rw [ysplit]
   have e0:=p32s (show s≤32 by omega)
   have a1:ys.getD (m+1) 0+1≤2^(32-s):=by
    rw [e0] at s2
    have:=Int.lt_of_mul_lt_mul_right s2 (by omega)
    omega
   have a2:=Int.mul_le_mul_of_nonneg_right a1 (show (0:Int)≤2^s*4294967296^(m+1) by have:=Int.mul_pos hp hP;omega)
   have a3:=Int.mul_lt_mul_of_pos_left ylo hp
   have e1:(ys.getD (m+1) 0+1)*(2^s*4294967296^(m+1))=2^s*(4294967296^(m+1)*ys.getD (m+1) 0)+2^s*4294967296^(m+1):=by grind
   have e2:(2:Int)^(32-s)*(2^s*4294967296^(m+1))=4294967296^(m+1)*4294967296:=by rw [← Int.mul_assoc,← e0,Int.mul_comm]
   rw [Int.mul_comm,Int.mul_add]
   omega
  -- the lengths
  have hvl1:(limbs (valL ys*2^s).natAbs).length≤m+2:=canon_len cv (by rw [ev];exact hV2)
  have hvl2:m+2≤(limbs (valL ys*2^s).natAbs).length:=by
   apply Nat.le_of_not_lt
   intro hh
   have a:=valL_lt cv.1
   rw [ev] at a
   have b:=pow32_mono (show (limbs (valL ys*2^s).natAbs).length≤m+1 by omega)
   omega
  have hUlt:valL xs*2^s<4294967296^(xs.length+1):=by
   have a:=valL_lt hx.1
   have b:=Int.mul_lt_mul_of_pos_right a hp
   have c:=Int.mul_le_mul_of_nonneg_left hp2 (show (0:Int)≤4294967296^xs.length by have:=pow32_pos xs.length;omega)
   have d:(4294967296:Int)^(xs.length+1)=4294967296^xs.length*4294967296:=Int.pow_succ _ _
   have e:=pow32_pos xs.length
   omega
  have hul1:(limbs (valL xs*2^s).natAbs).length≤xs.length+1:=canon_len cu (by rw [eu];exact hUlt)
  have hxne:xs ≠ []:=by intro e;rw [e,List.length_nil] at hxl;omega
  have hul2:xs.length≤(limbs (valL xs*2^s).natAbs).length:=by
   apply Nat.le_of_not_lt
   intro hh
   have a:=valL_lt cu.1
   rw [eu] at a
   have b:=pow32_mono (show (limbs (valL xs*2^s).natAbs).length≤xs.length-1 by omega)
   have c:=canon_ge hx hxne
   have d:=Int.mul_le_mul_of_nonneg_left (show (1:Int)≤2^s by omega) hx0
   omega
  have hul3:0<xs.length:=List.length_pos_iff.2 hxne
  -- the working numbers
  generalize hvs:limbs (valL ys*2^s).natAbs=vs at *
  generalize hus:limbs (valL xs*2^s).natAbs=us0 at *
  have hvl:vs.length=m+2:=by omega
  have u00:U32 (us0++[0,0]):=fun x hh=>by
   rcases List.mem_append.1 hh with g | g
   ·exact cu.1 x g
   ·simp at g;omega
  have v00:valL (us0++[0,0])=valL xs*2^s:=by rw [valL_append];simp [valL,eu]
  have u2:U32 ((us0++[0,0]).take (xs.length+1)):=u32_take u00 _
  have u1:((us0++[0,0]).take (xs.length+1)).length=xs.length+1:=by simp;omega
  have u3:valL ((us0++[0,0]).take (xs.length+1))=valL xs*2^s:=by
   have a:=val_split (us0++[0,0]) (j:=xs.length+1) (by simp;omega)
   rw [drop_small u00 (n:=xs.length+1) (V:=4294967296^(xs.length+1)) (Int.le_refl _) (by rw [v00];exact hUlt),Int.mul_zero,Int.add_zero,v00] at a
   exact a.symm
  have elm:List.take ((xs.length+1)*1) (lm us0++([.int .u32 0, .int .u32 0]:List AV))=lm ((us0++[0,0]).take (xs.length+1)):=by
   simp [lm,List.map_take]
  generalize hU':(us0++[0,0]).take (xs.length+1)=us at *
  have hvtop:2147483648≤vs.getD (m+1) 0:=by
   have a:=val_split vs (j:=m+1) (by omega)
   have b:=drop_val vs (m+1)
   rw [drop_end (xs:=vs) (i:=m+1+1) (by omega),Int.mul_zero,Int.add_zero] at b
   rw [b] at a
   have c:=take_lt cv.1 (m+1)
   apply Int.not_lt.1
   intro h
   have:=Int.mul_le_mul_of_nonneg_left (show vs.getD (m+1) 0+1≤2147483648 by omega) (show (0:Int)≤4294967296^(m+1) by omega)
   rw [Int.mul_add,Int.mul_one,Int.mul_comm _ 2147483648] at this
   omega
  have hini:valL (us.drop (xs.length-ys.length+1))<valL vs:=by
   have a:=val_split us (j:=xs.length-ys.length+1) (by omega)
   have b:=valL_nonneg (u32_take u2 (xs.length-ys.length+1))
   have c:=valL_lt hx.1
   have d:=Int.mul_lt_mul_of_pos_right c hp
   have e:(4294967296:Int)^xs.length=4294967296^(xs.length-ys.length+1)*4294967296^(m+1):=by rw [← Int.pow_add];congr 1;omega
   have hQ:=pow32_pos (xs.length-ys.length+1)
   rw [ev]
   apply Int.lt_of_lt_of_le (b:=2^s*4294967296^(m+1))
   ·apply Int.lt_of_mul_lt_mul_left (a:=4294967296^(xs.length-ys.length+1)) _ (by omega)
    have e2:(4294967296:Int)^(xs.length-ys.length+1)*(2^s*4294967296^(m+1))=4294967296^xs.length*2^s:=by rw [e];grind
    omega
   ·have:=Int.mul_le_mul_of_nonneg_right hp2 (show (0:Int)≤4294967296^(m+1) by omega)
    omega
  obtain ⟨us',qs,l1,l2,l3,l4,l5,l6,l7⟩:=Yloop149 (k:=xs.length+1) (kq:=xs.length-ys.length+1) (s:=(s:Nat)) cv.1 hvl hvtop (by omega) (by omega) (xs.length-ys.length+1) us (List.replicate (xs.length-ys.length+1) 0) (Nat.le_refl _) u1 u2 (by simp) (u32_zeros _) (fun t _=>getD_zeros _ _) hini
  rw [valL_zeros,Int.sub_zero,u3,ev] at l7
  rw [ev] at l6
  -- the remainder
  have hR:valL us'=2^s*(valL xs-valL ys*valL qs):=by
   rw [Int.mul_sub]
   have:2^s*(valL ys*valL qs)=valL ys*2^s*valL qs:=by grind
   rw [this,Int.mul_comm (2^s) (valL xs)]
   omega
  have us0':=valL_nonneg l3
  have hR0:0≤valL xs-valL ys*valL qs:=by
   apply Int.not_lt.1
   intro h
   have:=Int.mul_le_mul_of_nonneg_left (show valL xs-valL ys*valL qs ≤ -1 by omega) (show (0:Int)≤2^s by omega)
   omega
  have hR1:valL xs-valL ys*valL qs<valL ys:=by
   rw [hR,Int.mul_comm (valL ys) (2^s)] at l6
   exact Int.lt_of_mul_lt_mul_left l6 (by omega)
  have hd:=(Int.ediv_emod_unique hyp (a:=valL xs) (r:=valL xs-valL ys*valL qs) (q:=valL qs)).2 ⟨by omega,hR0,hR1⟩
  have hdn:=rdown_run (neg:=false) l3 s (by omega) (by omega)
  rw [rvF,hR,Int.mul_ediv_cancel_left _ (show (2:Int)^s ≠ 0 by omega)] at hdn
  -- the whole
  have emx:(if (i64.wrap ((ys.length:Int)+1))>(i64.wrap ((xs.length:Int)+1)) then (i64.wrap ((ys.length:Int)+1)) else (i64.wrap ((xs.length:Int)+1)))=((xs.length+1:Nat):Int):=by
   rw [w64 (n:=(ys.length:Int)+1) (by omega) (by omega),w64 (n:=(xs.length:Int)+1) (by omega) (by omega),if_neg (by omega)];omega
  have esub:i64.wrap (((xs.length+1:Nat):Int)-(vs.length:Int))=((xs.length-ys.length+1:Nat):Int):=by rw [w64 (by omega) (by omega)];omega
  have esb1:i64.wrap (((xs.length-ys.length+1:Nat):Int)-1)=((xs.length-ys.length+1:Nat):Int)-1:=w64 (by omega) (by omega)
  have hz:=Yloop149z (xs:=xs) (ys:=ys) (y:=ys.getD (m+1) 0) (s:=s) hy0 (by omega) (by rw [show ys.length-1=m+1 by omega]) hyt.1 hs s1 s2 s 0 (by omega)
  have key:=Yrun149_3 xs ys qs us' vs (cmpI (valL xs) (valL ys)) (s:Nat) (vs.length:Nat) (-1) (valL xs*2^s) (valL ys*2^s) (valL xs-valL ys*valL qs) (xs.length+1) (xs.length-ys.length+1) hcm (by simp;omega) hcmp hz hV (by rw [hus];omega) hU
   (by rw [hus,emx];omega) (by rw [emx,hvs,Int.toNat_natCast,esub];omega) (by
    rw [hus,hvs,emx,Int.toNat_natCast,esub,Int.toNat_natCast,esb1,elm,repl_lim]
    exact l1) (by rw [← l4];exact mag_run (by omega)) (by rw [← l2];exact hdn)
  rw [trimL_eq l5,lz_abs hR0] at key
  rw [hd.1,hd.2]
  exact key
def TDD:Table:=TDC
theorem TDD_holds:THolds Yir TDD:=TDC_holds
end Go.Proofs.Ythnnfemologhfaa

namespace Go.Proofs.Ythnnfemologhfaa
open Go.IntKind (i64 u64 u32)
open Go.Ai
set_option maxRecDepth 100000
def Ys43a (rs:List Rn) (n:Int):State:=(.val (.sl rs.length (pc rs))::(dds 2 (.val (.int .i64 n)::(dds 31 []))))
theorem Yk43a_1 (rs:List Rn) (n:Int)  (c1:(decide (n>0))=true) (c2:((sgnI (rval (rs.getD (Int.toNat (i64.wrap (n-1))) z0)))==0)=true) (n1:0≤(i64.wrap (n-1))∧(i64.wrap (n-1))<(rs.length:Int)) (n2:Runs Yir 81 [rawAV (rs.getD (Int.toNat (i64.wrap (n-1))) z0)] (.int .i64 (sgnI (rval (rs.getD (Int.toNat (i64.wrap (n-1))) z0))))):RunsW Yir Yc43a (Ys43a rs n) .norm (Ys43a rs (i64.wrap (n-1))):=(RunsW.go TBE_holds 400 [.b true, .v (rawAV (rs.getD (Int.toNat (i64.wrap (n-1))) z0)), .r (.int .i64 (sgnI (rval (rs.getD (Int.toNat (i64.wrap (n-1))) z0)))), .b true] [0,3] (ac c1 (ac n1 (ac (take_pcI n1) (ac n2 (ac c2 a0))))) (by kernel_rfl))
theorem Yk43a_2 (rs:List Rn) (n:Int)  (c1:(decide (n>0))=true) (c2:((sgnI (rval (rs.getD (Int.toNat (i64.wrap (n-1))) z0)))==0)=false) (n1:0≤(i64.wrap (n-1))∧(i64.wrap (n-1))<(rs.length:Int)) (n2:Runs Yir 81 [rawAV (rs.getD (Int.toNat (i64.wrap (n-1))) z0)] (.int .i64 (sgnI (rval (rs.getD (Int.toNat (i64.wrap (n-1))) z0))))):RunsW Yir Yc43a (Ys43a rs n) (.exit 0) (Ys43a rs n):=(RunsW.go TBE_holds 400 [.b true, .v (rawAV (rs.getD (Int.toNat (i64.wrap (n-1))) z0)), .r (.int .i64 (sgnI (rval (rs.getD (Int.toNat (i64.wrap (n-1))) z0)))), .b false] [0,3] (ac c1 (ac n1 (ac (take_pcI n1) (ac n2 (ac c2 a0))))) (by kernel_rfl))
theorem Yk43a_3 (rs:List Rn) (n:Int)  (c1:(decide (n>0))=false):RunsW Yir Yc43a (Ys43a rs n) (.exit 0) (Ys43a rs n):=(RunsW.go TBE_holds 400 [.b false, .b false] [0,3] (ac c1 (ac (show false=false from rfl) a0)) (by kernel_rfl))
def Ys43b (rs:List Rn) (n:Int) (k:Nat) (cs:List AV) (i:Int):State:=(.val (.sl rs.length (pc rs))::(dds 2 (.val (.int .i64 n)::(.own 2 k cs::(.val (.int .i64 i)::(dds 29 []))))))
theorem Yk43b_1 (rs:List Rn) (n:Int) (k:Nat) (cs:List AV) (i:Int)  (c1:(decide (i<n))=true) (n1:0≤i∧i<(rs.length:Int)) (n2:k+1≤1048576) (n3:Runs Yir 93 [rawAV (rs.getD (Int.toNat i) z0)] (bigAV (rval (rs.getD (Int.toNat i) z0)))):RunsW Yir Yc43b (Ys43b rs n k cs i) .norm (Ys43b rs n (k+1) (cs++([.bool (decide ((rval (rs.getD (Int.toNat i) z0))<0)), .sl ((limbs (Int.natAbs (rval (rs.getD (Int.toNat i) z0)))).length) (lm (limbs (Int.natAbs (rval (rs.getD (Int.toNat i) z0)))))]:List AV)) (i64.wrap (i+1))):=(RunsW.go TBE_holds 400 [.b true, .v (rawAV (rs.getD (Int.toNat i) z0)), .r (bigAV (rval (rs.getD (Int.toNat i) z0)))] [0,3,4,5] (ac c1 (ac n1 (ac (take_pcI n1) (ac n3 (ac (show List.length ([.bool (decide ((rval (rs.getD (Int.toNat i) z0))<0)), .sl ((limbs (Int.natAbs (rval (rs.getD (Int.toNat i) z0)))).length) (lm (limbs (Int.natAbs (rval (rs.getD (Int.toNat i) z0)))))]:List AV)=1*2 from rfl) (ac n2 a0)))))) (by kernel_rfl))
theorem Yk43b_2 (rs:List Rn) (n:Int) (k:Nat) (cs:List AV) (i:Int)  (c1:(decide (i<n))=false):RunsW Yir Yc43b (Ys43b rs n k cs i) (.exit 2) (Ys43b rs n k cs i):=(RunsW.go TBE_holds 400 [.b false] [0,3,4,5] (ac c1 a0) (by kernel_rfl))
theorem Yrun43 (rs:List Rn) (n i:Int) (k:Nat) (cs:List AV) (hl1:RunsW Yir (.loop Yc43a) (Ys43a rs (rs.length:Int)) (.exit 0) (Ys43a rs n)) (hl2:RunsW Yir (.loop Yc43b) (Ys43b rs n 0 [] 0) (.exit 2) (Ys43b rs n k cs i)):Runs Yir 43 [.sl rs.length (pc rs)] (.fresh 2 k cs):=Runs.of_bodyW (fn:=Yi43) (s:=(dds 2 (.own 2 k cs::(dds 32 [])))) (ex := .ret) rfl rfl (RunsW.seq (RunsW.go (t:=(vp rs::(dds 1 (.own 2 0 []::(dds 32 []))))) (ex := .norm) TBE_holds 400 [] [0,2] a0 (by kernel_rfl)) (RunsW.seq (RunsW.go TBE_holds 400 [] [0,3] a0 (by kernel_rfl)) (RunsW.seq (RunsW.block hl1) (RunsW.seq (RunsW.go (t:=(vp rs::(dds 2 (vi n::(.own 2 0 []::(dds 30 [])))))) (ex := .norm) TBE_holds 400 [] [0,3,4] a0 (by kernel_rfl)) (RunsW.seq (RunsW.seq (RunsW.go TBE_holds 400 [] [0,3,4,5] a0 (by kernel_rfl)) (RunsW.block hl2)) (RunsW.go TBE_holds 400 [] [2] a0 (by kernel_rfl))))))) (by intro i e;cases e) rfl
theorem pc_snoc (rs:List Rn) (r:Rn):pc rs++([.bool r.1, .sl r.2.length (lm r.2)]:List AV)=pc (rs++[r]):=by rw [pc_append];rfl
theorem map_range_succ (g:Nat→Rn) (i:Nat):(List.range (i+1)).map g=(List.range i).map g++[g i]:=by rw [List.range_succ,List.map_append];rfl
theorem Yloop43a {rs:List Rn} (hg:∀ r∈rs,Good 1048576 r) (hN:rs.length≤1048576):∀ m,m≤rs.length→RunsW Yir (.loop Yc43a) (Ys43a rs (m:Nat)) (.exit 0) (Ys43a rs (topN (vals rs) m:Nat)):=by
 intro m
 induction m with
 | zero=>intro _;exact RunsW.loop_out (Yk43a_3 rs ((0:Nat):Int) (by simp)) (by intro e;cases e)
 | succ m ih =>
  intro hm
  have e1:i64.wrap (((m+1:Nat):Int)-1)=(m:Int):=by rw [w64 (by omega) (by omega)];omega
  obtain ⟨g1,g2⟩:=good_getD hg m
  have hs:=rsign_run (neg:=(rs.getD m z0).1) g1 g2
  simp only [topN]
  rw [vals_getD]
  by_cases h0:rval (rs.getD m z0)=0
  ·rw [if_pos h0]
   have k:=Yk43a_1 rs ((m+1:Nat):Int) (by simp) (by rw [e1,Int.toNat_natCast,h0];rfl) (by rw [e1];omega) (by simp only [e1,Int.toNat_natCast];exact hs)
   rw [e1] at k
   exact RunsW.loop k (ih (by omega))
  ·rw [if_neg h0]
   exact RunsW.loop_out (Yk43a_2 rs ((m+1:Nat):Int) (by simp) (by rw [e1,Int.toNat_natCast,beq_eq_false_iff_ne];unfold sgnI; (repeat' split) <;> omega) (by rw [e1];omega) (by simp only [e1,Int.toNat_natCast];exact hs)) (by intro e;cases e)
theorem Yloop43b {rs:List Rn} (hg:∀ r∈rs,Good 1048576 r) (hN:rs.length≤1048576) (n:Nat) (hn:n≤rs.length) :
  RunsW Yir (.loop Yc43b) (Ys43b rs (n:Nat) 0 [] 0) (.exit 2) (Ys43b rs (n:Nat) n (pc ((List.range n).map fun j=>cn (rval (rs.getD j z0)))) (n:Nat)):=by
 refine RunsW.up (fun i=>Ys43b rs (n:Nat) i (pc ((List.range i).map fun j=>cn (rval (rs.getD j z0)))) (i:Nat)) n (by intro e;cases e) ?_ ?_ 0 (Nat.zero_le _)
 ·intro i hi
  have ei:i64.wrap ((i:Int)+1)=((i+1:Nat):Int):=by rw [w64 (by omega) (by omega)];omega
  obtain ⟨g1,g2⟩:=good_getD hg i
  have k:=Yk43b_1 rs (n:Nat) i (pc ((List.range i).map fun j=>cn (rval (rs.getD j z0)))) (i:Nat) (by simp;omega) (by omega) (by omega) (by simp only [Int.toNat_natCast];exact rtrim_run g1 g2)
  refine k.to rfl ?_
  simp only [Int.toNat_natCast,ei]
  rw [map_range_succ,← pc_snoc]
  rfl
 ·exact Yk43b_2 rs (n:Nat) n _ (n:Nat) (by simp)
theorem qtrim_run {rs:List Rn} (hg:∀ r∈rs,Good 1048576 r) (hN:rs.length≤1048576):Runs Yir 43 [.sl rs.length (pc rs)] (.fresh 2 (trimL (vals rs)).length (pk (trimL (vals rs)))):=by
 have hle:=topN_le (vals rs) rs.length
 have hlen:(trimL (vals rs)).length=topN (vals rs) rs.length:=by rw [trim_length,vals_length]
 have h:=Yrun43 rs _ _ _ _ (Yloop43a hg hN rs.length (Nat.le_refl _)) (Yloop43b hg hN _ hle)
 have e3:(List.range (topN (vals rs) rs.length)).map (fun j=>cn (rval (rs.getD j z0)))=(trimL (vals rs)).map cn:=by
  rw [← range_cn,hlen]
  apply List.map_congr_left
  intro i _
  rw [getD_trim,vals_getD]
 rw [e3,← hlen] at h
 exact h
end Go.Proofs.Ythnnfemologhfaa

namespace Go.Proofs.Ythnnfemologhfaa
open Go.IntKind (i64 u64 u32)
open Go.Ai
set_option maxRecDepth 100000
theorem Yrun131 (na nb:Bool) (xs ys qs rs:List Int) (v w:Int) (n1:Runs Yir 125 [.sl xs.length (lm xs)] (.fresh 1 ((trimL xs).length) (lm (trimL xs)))) (n2:Runs Yir 125 [.sl ys.length (lm ys)] (.fresh 1 ((trimL ys).length) (lm (trimL ys)))) (n3:Runs Yir 149 [.sl ((trimL xs).length) (lm (trimL xs)), .sl ((trimL ys).length) (lm (trimL ys))] (.tup [.sl qs.length (lm qs), .sl rs.length (lm rs)])) (n4:Runs Yir 106 [.bool (!(na==nb)), .sl qs.length (lm qs)] (bigF v)) (n5:Runs Yir 106 [.bool na, .sl rs.length (lm rs)] (bigF w)):Runs Yir 131 [.agg [.bool na, .sl xs.length (lm xs)], .agg [.bool nb, .sl ys.length (lm ys)]] (.tup [bigAV v,bigAV w]):=Runs.go (fn:=Yi131) TDD_holds rfl 400 rfl [.r (.fresh 1 ((trimL xs).length) (lm (trimL xs))), .r (.fresh 1 ((trimL ys).length) (lm (trimL ys))), .r (.tup [.sl qs.length (lm qs), .sl rs.length (lm rs)]), .r (bigF v), .r (bigF w)] (ac n1 (ac n2 (ac n3 (ac n4 (ac n5 a0))))) (by kernel_rfl)
def Ysn130 (x:Rn) (y:Rn):State:=(dds 4 (.box [.bool false, .sl 0 []]::(.box [.bool x.1, .sl x.2.length (lm x.2)]::(.box [.bool y.1, .sl y.2.length (lm y.2)]::(dds 20 [])))))
theorem Ykn130_1 (x:Rn) (y:Rn) (q r:Int) (c1:((sgnI (rval y)) != 0)=true) (n1:Runs Yir 81 [rawAV y] (.int .i64 (sgnI (rval y)))) (n2:Runs Yir 131 [rawAV x,rawAV y] (.tup [bigAV q,bigAV r])):RunsW Yir Ycn130 (Ysn130 x y) .norm (Ysn130 y (cn r)):=(RunsW.go TDD_holds 400 [.r (.int .i64 (sgnI (rval y))), .b true, .r (.tup [bigAV q,bigAV r])] [4,5,6] (ac n1 (ac c1 (ac n2 a0))) (by kernel_rfl))
theorem Ykn130_2 (x:Rn) (y:Rn)  (c1:((sgnI (rval y)) != 0)=false) (n1:Runs Yir 81 [rawAV y] (.int .i64 (sgnI (rval y)))):RunsW Yir Ycn130 (Ysn130 x y) (.exit 0) (Ysn130 x y):=(RunsW.go TDD_holds 400 [.r (.int .i64 (sgnI (rval y))), .b false] [4,5,6] (ac n1 (ac c1 a0)) (by kernel_rfl))
theorem Yrun130 (na nb:Bool) (xs ys:List Int) (va vb:Int) (x y:Rn) (n1:Runs Yir 106 [.bool false, .sl xs.length (lm xs)] (bigF va)) (n2:Runs Yir 106 [.bool false, .sl ys.length (lm ys)] (bigF vb)) (hl3:RunsW Yir (.loop Ycn130) (Ysn130 (cn va) (cn vb)) (.exit 0) (Ysn130 x y)):Runs Yir 130 [.agg [.bool na, .sl xs.length (lm xs)], .agg [.bool nb, .sl ys.length (lm ys)]] (rawAV x):=Runs.of_bodyW (fn:=Yi130) (s:=(dds 4 (.box [.bool x.1, .sl x.2.length (lm x.2)]::(dds 22 [])))) (ex := .ret) rfl rfl (RunsW.seq (RunsW.go (t:=(.val (.agg [.bool na, .sl xs.length (lm xs)])::(.val (.agg [.bool nb, .sl ys.length (lm ys)])::(.box [.bool na, .sl xs.length (lm xs)]::(.box [.bool nb, .sl ys.length (lm ys)]::(.box [.bool false, .sl 0 []]::(dds 22 []))))))) (ex := .norm) TDD_holds 400 [] [0,1,2,3,4] a0 (by kernel_rfl)) (RunsW.seq (RunsW.go TDD_holds 400 [.r (bigF va), .r (bigF vb)] [4,5,6] (ac n1 (ac n2 a0)) (by kernel_rfl)) (RunsW.seq (RunsW.block hl3) (RunsW.go TDD_holds 400 [] [4] a0 (by kernel_rfl))))) (by intro i e;cases e) rfl
def Ys90 (rs:List Rn) (w:Rn) (i:Int):State:=(.val (.sl rs.length (pc rs))::(dds 1 (.box [.bool false, .sl 0 []]::(.box [.bool w.1, .sl w.2.length (lm w.2)]::(.val (.int .i64 i)::(dds 14 []))))))
theorem Yk90_1 (rs:List Rn) (w:Rn) (i:Int) (g:Int) (c1:(decide (i<(rs.length:Int)))=true) (n1:0≤i∧i<(rs.length:Int)) (n2:Runs Yir 130 [rawAV w,rawAV (rs.getD (Int.toNat i) z0)] (bigAV g)):RunsW Yir Yc90 (Ys90 rs w i) .norm (Ys90 rs (cn g) (i64.wrap (i+1))):=(RunsW.go TDD_holds 400 [.b true, .v (rawAV (rs.getD (Int.toNat i) z0)), .r (bigAV g)] [0,2,3,4] (ac c1 (ac n1 (ac (take_pcI n1) (ac n2 a0)))) (by kernel_rfl))
theorem Yk90_2 (rs:List Rn) (w:Rn) (i:Int)  (c1:(decide (i<(rs.length:Int)))=false):RunsW Yir Yc90 (Ys90 rs w i) (.exit 0) (Ys90 rs w i):=(RunsW.go TDD_holds 400 [.b false] [0,2,3,4] (ac c1 a0) (by kernel_rfl))
theorem Yrun90 (rs:List Rn) (w:Rn) (i:Int) (hl1:RunsW Yir (.loop Yc90) (Ys90 rs (false,[]) 0) (.exit 0) (Ys90 rs w i)):Runs Yir 90 [.sl rs.length (pc rs)] (rawAV w):=Runs.of_bodyW (fn:=Yi90) (s:=(dds 2 (.box [.bool w.1, .sl w.2.length (lm w.2)]::(dds 16 [])))) (ex := .ret) rfl rfl (RunsW.seq (RunsW.go (t:=(vp rs::(dds 1 (.box [.bool false, .sl 0 []]::(dds 16 []))))) (ex := .norm) TDD_holds 400 [] [0,2] a0 (by kernel_rfl)) (RunsW.seq (RunsW.go (t:=(vp rs::(dds 1 (.box [.bool false, .sl 0 []]::(.box [.bool false, .sl 0 []]::(dds 15 [])))))) (ex := .norm) TDD_holds 400 [] [0,2,3] a0 (by kernel_rfl)) (RunsW.seq (RunsW.seq (RunsW.go TDD_holds 400 [] [0,2,3,4] a0 (by kernel_rfl)) (RunsW.block hl1)) (RunsW.go TDD_holds 400 [] [2] a0 (by kernel_rfl))))) (by intro i e;cases e) rfl
def Ys91 (rs:List Rn) (c:Rn) (k:Nat) (cs:List AV) (i:Int):State:=(.val (.sl rs.length (pc rs))::(dds 1 (.own 2 0 []::(.box [.bool c.1, .sl c.2.length (lm c.2)]::(.own 2 k cs::(.val (.int .i64 i)::(dds 28 [])))))))
theorem Yk91_1 (rs:List Rn) (c:Rn) (k:Nat) (cs:List AV) (i:Int) (q r:Int) (c1:(decide (i<(rs.length:Int)))=true) (n1:0≤i∧i<(rs.length:Int)) (n2:k+1≤1048576) (n3:Runs Yir 131 [rawAV (rs.getD (Int.toNat i) z0),rawAV c] (.tup [bigAV q,bigAV r])):RunsW Yir Yc91 (Ys91 rs c k cs i) .norm (Ys91 rs c (k+1) (cs++([.bool (decide (q<0)), .sl ((limbs (Int.natAbs q)).length) (lm (limbs (Int.natAbs q)))]:List AV)) (i64.wrap (i+1))):=(RunsW.go TDD_holds 400 [.b true, .v (rawAV (rs.getD (Int.toNat i) z0)), .r (.tup [bigAV q,bigAV r])] [0,2,3,4,5] (ac c1 (ac n1 (ac (take_pcI n1) (ac n3 (ac (show List.length ([.bool (decide (q<0)), .sl ((limbs (Int.natAbs q)).length) (lm (limbs (Int.natAbs q)))]:List AV)=1*2 from rfl) (ac n2 a0)))))) (by kernel_rfl))
theorem Yk91_2 (rs:List Rn) (c:Rn) (k:Nat) (cs:List AV) (i:Int)  (c1:(decide (i<(rs.length:Int)))=false):RunsW Yir Yc91 (Ys91 rs c k cs i) (.exit 0) (Ys91 rs c k cs i):=(RunsW.go TDD_holds 400 [.b false] [0,2,3,4,5] (ac c1 a0) (by kernel_rfl))
theorem Yrun91_1 (rs:List Rn) (c:Int) (c1:((sgnI c)==0)=true) (n1:Runs Yir 90 [.sl rs.length (pc rs)] (bigAV c)) (n2:Runs Yir 81 [bigAV c] (.int .i64 (sgnI c))):Runs Yir 91 [.sl rs.length (pc rs)] (.fresh 2 0 []):=Runs.of_bodyW (fn:=Yi91) (s:=(dds 2 (.own 2 0 []::(dds 31 [])))) (ex := .ret) rfl rfl (RunsW.seq (RunsW.go (t:=(vp rs::(dds 1 (.own 2 0 []::(dds 31 []))))) (ex := .norm) TDD_holds 400 [] [0,2] a0 (by kernel_rfl)) (RunsW.seq (RunsW.go (t:=(vp rs::(dds 1 (.own 2 0 []::(bN c::(dds 30 [])))))) (ex := .norm) TDD_holds 400 [.r (bigAV c)] [0,2,3] (ac n1 a0) (by kernel_rfl)) (RunsW.seq_out (RunsW.go TDD_holds 400 [.r (.int .i64 (sgnI c)), .b true] [2] (ac n2 (ac c1 a0)) (by kernel_rfl)) (by intro e;cases e)))) (by intro i e;cases e) rfl
theorem Yrun91_2 (rs os ts:List Rn) (c i:Int) (k:Nat) (c1:((sgnI c)==0)=false) (n1:Runs Yir 90 [.sl rs.length (pc rs)] (bigAV c)) (n2:Runs Yir 81 [bigAV c] (.int .i64 (sgnI c))) (hl3:RunsW Yir (.loop Yc91) (Ys91 rs (cn c) 0 [] 0) (.exit 0) (Ys91 rs (cn c) k (pc os) i)) (n4:Runs Yir 43 [.sl k (pc os)] (.fresh 2 ts.length (pc ts))):Runs Yir 91 [.sl rs.length (pc rs)] (.fresh 2 ts.length (pc ts)):=Runs.of_bodyW (fn:=Yi91) (s:=(dds 2 (.own 2 ts.length (pc ts)::(dds 31 [])))) (ex := .ret) rfl rfl (RunsW.seq (RunsW.go (t:=(vp rs::(dds 1 (.own 2 0 []::(dds 31 []))))) (ex := .norm) TDD_holds 400 [] [0,2] a0 (by kernel_rfl)) (RunsW.seq (RunsW.go (t:=(vp rs::(dds 1 (.own 2 0 []::(bN c::(dds 30 [])))))) (ex := .norm) TDD_holds 400 [.r (bigAV c)] [0,2,3] (ac n1 a0) (by kernel_rfl)) (RunsW.seq (RunsW.go (t:=(vp rs::(dds 1 (.own 2 0 []::(bN c::(dds 30 [])))))) (ex := .norm) TDD_holds 400 [.r (.int .i64 (sgnI c)), .b false] [0,2,3] (ac n2 (ac c1 a0)) (by kernel_rfl)) (RunsW.seq (RunsW.go (t:=(vp rs::(dds 1 (.own 2 0 []::(bN c::(.own 2 0 []::(dds 29 []))))))) (ex := .norm) TDD_holds 400 [] [0,2,3,4] a0 (by kernel_rfl)) (RunsW.seq (RunsW.seq (RunsW.go TDD_holds 400 [] [0,2,3,4,5] a0 (by kernel_rfl)) (RunsW.block hl3)) (RunsW.go TDD_holds 400 [.r (.fresh 2 ts.length (pc ts))] [2] (ac n4 a0) (by kernel_rfl))))))) (by intro i e;cases e) rfl
def Ys89 (rs:List Rn) (k:Nat) (cs:List AV) (i:Int):State:=(.val (.sl rs.length (pc rs))::(dds 1 (.own 2 0 []::(.own 2 k cs::(.val (.int .i64 i)::(dds 18 []))))))
theorem Yk89_1 (rs:List Rn) (k:Nat) (cs:List AV) (i:Int)  (c1:(decide (i<(rs.length:Int)))=true) (n1:0≤i∧i<(rs.length:Int)) (n2:k+1≤1048576) (n3:Runs Yir 56 [.int .i64 i] (bigAV i)) (n4:Runs Yir 105 [bigAV i,rawAV (rs.getD (Int.toNat i) z0)] (bigAV (i*(rval (rs.getD (Int.toNat i) z0))))):RunsW Yir Yc89 (Ys89 rs k cs i) .norm (Ys89 rs (k+1) (cs++([.bool (decide ((i*(rval (rs.getD (Int.toNat i) z0)))<0)), .sl ((limbs (Int.natAbs (i*(rval (rs.getD (Int.toNat i) z0))))).length) (lm (limbs (Int.natAbs (i*(rval (rs.getD (Int.toNat i) z0))))))]:List AV)) (i64.wrap (i+1))):=(RunsW.go TDD_holds 400 [.b true, .r (bigAV i), .v (rawAV (rs.getD (Int.toNat i) z0)), .r (bigAV (i*(rval (rs.getD (Int.toNat i) z0))))] [0,2,3,4] (ac c1 (ac n3 (ac n1 (ac (take_pcI n1) (ac n4 (ac (show List.length ([.bool (decide ((i*(rval (rs.getD (Int.toNat i) z0)))<0)), .sl ((limbs (Int.natAbs (i*(rval (rs.getD (Int.toNat i) z0))))).length) (lm (limbs (Int.natAbs (i*(rval (rs.getD (Int.toNat i) z0))))))]:List AV)=1*2 from rfl) (ac n2 a0))))))) (by kernel_rfl))
theorem Yk89_2 (rs:List Rn) (k:Nat) (cs:List AV) (i:Int)  (c1:(decide (i<(rs.length:Int)))=false):RunsW Yir Yc89 (Ys89 rs k cs i) (.exit 0) (Ys89 rs k cs i):=(RunsW.go TDD_holds 400 [.b false] [0,2,3,4] (ac c1 a0) (by kernel_rfl))
theorem Yrun89 (rs os ts:List Rn) (i:Int) (k:Nat) (hl1:RunsW Yir (.loop Yc89) (Ys89 rs 0 [] 1) (.exit 0) (Ys89 rs k (pc os) i)) (n2:Runs Yir 43 [.sl k (pc os)] (.fresh 2 ts.length (pc ts))):Runs Yir 89 [.sl rs.length (pc rs)] (.fresh 2 ts.length (pc ts)):=Runs.of_bodyW (fn:=Yi89) (s:=(dds 2 (.own 2 ts.length (pc ts)::(dds 20 [])))) (ex := .ret) rfl rfl (RunsW.seq (RunsW.go (t:=(vp rs::(dds 1 (.own 2 0 []::(dds 20 []))))) (ex := .norm) TDD_holds 400 [] [0,2] a0 (by kernel_rfl)) (RunsW.seq (RunsW.go (t:=(vp rs::(dds 1 (.own 2 0 []::(.own 2 0 []::(dds 19 [])))))) (ex := .norm) TDD_holds 400 [] [0,2,3] a0 (by kernel_rfl)) (RunsW.seq (RunsW.seq (RunsW.go TDD_holds 400 [] [0,2,3,4] a0 (by kernel_rfl)) (RunsW.block hl1)) (RunsW.go TDD_holds 400 [.r (.fresh 2 ts.length (pc ts))] [2] (ac n2 a0) (by kernel_rfl))))) (by intro i e;cases e) rfl
def Ys129 (rs:List Rn) (k:Nat) (cs:List AV) (i:Int):State:=(.val (.sl rs.length (pc rs))::(dds 1 (.own 2 0 []::(.own 2 k cs::(.val (.int .i64 i)::(dds 16 []))))))
theorem Yk129_1 (rs:List Rn) (k:Nat) (cs:List AV) (i:Int)  (c1:(decide (i<(rs.length:Int)))=true) (n1:0≤i∧i<(rs.length:Int)) (n2:k+1≤1048576) (n3:Runs Yir 117 [rawAV (rs.getD (Int.toNat i) z0)] (bigAV (-(rval (rs.getD (Int.toNat i) z0))))):RunsW Yir Yc129 (Ys129 rs k cs i) .norm (Ys129 rs (k+1) (cs++([.bool (decide ((-(rval (rs.getD (Int.toNat i) z0)))<0)), .sl ((limbs (Int.natAbs (-(rval (rs.getD (Int.toNat i) z0))))).length) (lm (limbs (Int.natAbs (-(rval (rs.getD (Int.toNat i) z0))))))]:List AV)) (i64.wrap (i+1))):=(RunsW.go TDD_holds 400 [.b true, .v (rawAV (rs.getD (Int.toNat i) z0)), .r (bigAV (-(rval (rs.getD (Int.toNat i) z0))))] [0,2,3,4] (ac c1 (ac n1 (ac (take_pcI n1) (ac n3 (ac (show List.length ([.bool (decide ((-(rval (rs.getD (Int.toNat i) z0)))<0)), .sl ((limbs (Int.natAbs (-(rval (rs.getD (Int.toNat i) z0))))).length) (lm (limbs (Int.natAbs (-(rval (rs.getD (Int.toNat i) z0))))))]:List AV)=1*2 from rfl) (ac n2 a0)))))) (by kernel_rfl))
theorem Yk129_2 (rs:List Rn) (k:Nat) (cs:List AV) (i:Int)  (c1:(decide (i<(rs.length:Int)))=false):RunsW Yir Yc129 (Ys129 rs k cs i) (.exit 0) (Ys129 rs k cs i):=(RunsW.go TDD_holds 400 [.b false] [0,2,3,4] (ac c1 a0) (by kernel_rfl))
theorem Yrun129 (rs os ts:List Rn) (i:Int) (k:Nat) (hl1:RunsW Yir (.loop Yc129) (Ys129 rs 0 [] 0) (.exit 0) (Ys129 rs k (pc os) i)) (n2:Runs Yir 43 [.sl k (pc os)] (.fresh 2 ts.length (pc ts))):Runs Yir 129 [.sl rs.length (pc rs)] (.fresh 2 ts.length (pc ts)):=Runs.of_bodyW (fn:=Yi129) (s:=(dds 2 (.own 2 ts.length (pc ts)::(dds 18 [])))) (ex := .ret) rfl rfl (RunsW.seq (RunsW.go (t:=(vp rs::(dds 1 (.own 2 0 []::(dds 18 []))))) (ex := .norm) TDD_holds 400 [] [0,2] a0 (by kernel_rfl)) (RunsW.seq (RunsW.go (t:=(vp rs::(dds 1 (.own 2 0 []::(.own 2 0 []::(dds 17 [])))))) (ex := .norm) TDD_holds 400 [] [0,2,3] a0 (by kernel_rfl)) (RunsW.seq (RunsW.seq (RunsW.go TDD_holds 400 [] [0,2,3,4] a0 (by kernel_rfl)) (RunsW.block hl1)) (RunsW.go TDD_holds 400 [.r (.fresh 2 ts.length (pc ts))] [2] (ac n2 a0) (by kernel_rfl))))) (by intro i e;cases e) rfl
theorem Yrun128_1 (rs:List Rn) (i:Int) (c1:(decide (i<(rs.length:Int)))=true) (n1:0≤i∧i<(rs.length:Int)):Runs Yir 128 [.sl rs.length (pc rs), .int .i64 i] (rawAV (rs.getD (Int.toNat i) z0)):=Runs.go (fn:=Yi128) TDD_holds rfl 400 rfl [.b true, .v (rawAV (rs.getD (Int.toNat i) z0))] (ac c1 (ac n1 (ac (take_pcI n1) a0))) (by kernel_rfl)
theorem Yrun128_2 (rs:List Rn) (i:Int) (c1:(decide (i<(rs.length:Int)))=false):Runs Yir 128 [.sl rs.length (pc rs), .int .i64 i] (.agg [.bool false, .sl 0 []]):=Runs.go (fn:=Yi128) TDD_holds rfl 400 rfl [.b false] (ac c1 a0) (by kernel_rfl)
def Ys87 (rs:List Rn) (ss:List Rn) (k:Nat) (cs:List AV) (i:Int):State:=(.val (.sl rs.length (pc rs))::(.val (.sl ss.length (pc ss))::(dds 2 (.own 2 0 []::(.own 2 k cs::(.val (.int .i64 i)::(dds 24 [])))))))
theorem Yk87_1 (rs:List Rn) (ss:List Rn) (k:Nat) (cs:List AV) (i:Int)  (c1:(decide (i<(rs.length:Int)))=true) (n1:k+1≤1048576) (n2:Runs Yir 128 [.sl rs.length (pc rs), .int .i64 i] (rawAV (rs.getD (Int.toNat i) z0))) (n3:Runs Yir 128 [.sl ss.length (pc ss), .int .i64 i] (rawAV (ss.getD (Int.toNat i) z0))) (n4:Runs Yir 104 [rawAV (rs.getD (Int.toNat i) z0),rawAV (ss.getD (Int.toNat i) z0)] (bigAV ((rval (rs.getD (Int.toNat i) z0))+(rval (ss.getD (Int.toNat i) z0))))):RunsW Yir Yc87 (Ys87 rs ss k cs i) .norm (Ys87 rs ss (k+1) (cs++([.bool (decide (((rval (rs.getD (Int.toNat i) z0))+(rval (ss.getD (Int.toNat i) z0)))<0)), .sl ((limbs (Int.natAbs ((rval (rs.getD (Int.toNat i) z0))+(rval (ss.getD (Int.toNat i) z0))))).length) (lm (limbs (Int.natAbs ((rval (rs.getD (Int.toNat i) z0))+(rval (ss.getD (Int.toNat i) z0))))))]:List AV)) (i64.wrap (i+1))):=(RunsW.go TDD_holds 400 [.b true, .b true, .r (rawAV (rs.getD (Int.toNat i) z0)), .r (rawAV (ss.getD (Int.toNat i) z0)), .r (bigAV ((rval (rs.getD (Int.toNat i) z0))+(rval (ss.getD (Int.toNat i) z0))))] [0,1,4,5,6] (ac c1 (ac (show true=true from rfl) (ac n2 (ac n3 (ac n4 (ac (show List.length ([.bool (decide (((rval (rs.getD (Int.toNat i) z0))+(rval (ss.getD (Int.toNat i) z0)))<0)), .sl ((limbs (Int.natAbs ((rval (rs.getD (Int.toNat i) z0))+(rval (ss.getD (Int.toNat i) z0))))).length) (lm (limbs (Int.natAbs ((rval (rs.getD (Int.toNat i) z0))+(rval (ss.getD (Int.toNat i) z0))))))]:List AV)=1*2 from rfl) (ac n1 a0))))))) (by kernel_rfl))
theorem Yk87_2 (rs:List Rn) (ss:List Rn) (k:Nat) (cs:List AV) (i:Int)  (c1:(decide (i<(rs.length:Int)))=false) (c2:(decide (i<(ss.length:Int)))=true) (n1:k+1≤1048576) (n2:Runs Yir 128 [.sl rs.length (pc rs), .int .i64 i] (rawAV (rs.getD (Int.toNat i) z0))) (n3:Runs Yir 128 [.sl ss.length (pc ss), .int .i64 i] (rawAV (ss.getD (Int.toNat i) z0))) (n4:Runs Yir 104 [rawAV (rs.getD (Int.toNat i) z0),rawAV (ss.getD (Int.toNat i) z0)] (bigAV ((rval (rs.getD (Int.toNat i) z0))+(rval (ss.getD (Int.toNat i) z0))))):RunsW Yir Yc87 (Ys87 rs ss k cs i) .norm (Ys87 rs ss (k+1) (cs++([.bool (decide (((rval (rs.getD (Int.toNat i) z0))+(rval (ss.getD (Int.toNat i) z0)))<0)), .sl ((limbs (Int.natAbs ((rval (rs.getD (Int.toNat i) z0))+(rval (ss.getD (Int.toNat i) z0))))).length) (lm (limbs (Int.natAbs ((rval (rs.getD (Int.toNat i) z0))+(rval (ss.getD (Int.toNat i) z0))))))]:List AV)) (i64.wrap (i+1))):=(RunsW.go TDD_holds 400 [.b false, .b true, .r (rawAV (rs.getD (Int.toNat i) z0)), .r (rawAV (ss.getD (Int.toNat i) z0)), .r (bigAV ((rval (rs.getD (Int.toNat i) z0))+(rval (ss.getD (Int.toNat i) z0))))] [0,1,4,5,6] (ac c1 (ac c2 (ac n2 (ac n3 (ac n4 (ac (show List.length ([.bool (decide (((rval (rs.getD (Int.toNat i) z0))+(rval (ss.getD (Int.toNat i) z0)))<0)), .sl ((limbs (Int.natAbs ((rval (rs.getD (Int.toNat i) z0))+(rval (ss.getD (Int.toNat i) z0))))).length) (lm (limbs (Int.natAbs ((rval (rs.getD (Int.toNat i) z0))+(rval (ss.getD (Int.toNat i) z0))))))]:List AV)=1*2 from rfl) (ac n1 a0))))))) (by kernel_rfl))
theorem Yk87_3 (rs:List Rn) (ss:List Rn) (k:Nat) (cs:List AV) (i:Int)  (c1:(decide (i<(rs.length:Int)))=false) (c2:(decide (i<(ss.length:Int)))=false):RunsW Yir Yc87 (Ys87 rs ss k cs i) (.exit 0) (Ys87 rs ss k cs i):=(RunsW.go TDD_holds 400 [.b false, .b false] [0,1,4,5,6] (ac c1 (ac c2 a0)) (by kernel_rfl))
theorem Yrun87 (rs ss os ts:List Rn) (i:Int) (k:Nat) (hl1:RunsW Yir (.loop Yc87) (Ys87 rs ss 0 [] 0) (.exit 0) (Ys87 rs ss k (pc os) i)) (n2:Runs Yir 43 [.sl k (pc os)] (.fresh 2 ts.length (pc ts))):Runs Yir 87 [.sl rs.length (pc rs), .sl ss.length (pc ss)] (.fresh 2 ts.length (pc ts)):=Runs.of_bodyW (fn:=Yi87) (s:=(dds 4 (.own 2 ts.length (pc ts)::(dds 26 [])))) (ex := .ret) rfl rfl (RunsW.seq (RunsW.go (t:=(vp rs::(vp ss::(dds 2 (.own 2 0 []::(dds 26 [])))))) (ex := .norm) TDD_holds 400 [] [0,1,4] a0 (by kernel_rfl)) (RunsW.seq (RunsW.go (t:=(vp rs::(vp ss::(dds 2 (.own 2 0 []::(.own 2 0 []::(dds 25 []))))))) (ex := .norm) TDD_holds 400 [] [0,1,4,5] a0 (by kernel_rfl)) (RunsW.seq (RunsW.seq (RunsW.go TDD_holds 400 [] [0,1,4,5,6] a0 (by kernel_rfl)) (RunsW.block hl1)) (RunsW.go TDD_holds 400 [.r (.fresh 2 ts.length (pc ts))] [4] (ac n2 a0) (by kernel_rfl))))) (by intro i e;cases e) rfl
theorem Yrun88 (rs ss ns us:List Rn) (n1:Runs Yir 129 [.sl ss.length (pc ss)] (.fresh 2 ns.length (pc ns))) (n2:Runs Yir 87 [.sl rs.length (pc rs), .sl ns.length (pc ns)] (.fresh 2 us.length (pc us))):Runs Yir 88 [.sl rs.length (pc rs), .sl ss.length (pc ss)] (.fresh 2 us.length (pc us)):=Runs.go (fn:=Yi88) TDD_holds rfl 400 rfl [.r (.fresh 2 ns.length (pc ns)), .r (.fresh 2 us.length (pc us))] (ac n1 (ac n2 a0)) (by kernel_rfl)
def Ys53i (rs:List Rn) (ss:List Rn) (k:Nat) (os:List Rn) (i:Int) (j:Int):State:=(.val (.sl rs.length (pc rs))::(.val (.sl ss.length (pc ss))::(dds 2 (.own 2 0 []::(.own 2 k (pc os)::(.val (.int .i64 i)::(.val (.int .i64 j)::(dds 50 []))))))))
theorem Yk53i_1 (rs:List Rn) (ss:List Rn) (k:Nat) (os:List Rn) (i:Int) (j:Int)  (c1:(decide (j<(ss.length:Int)))=true) (n1:0≤(i64.wrap (i+j))∧(i64.wrap (i+j))<(k:Int)) (n2:os.length=k) (n3:0≤i∧i<(rs.length:Int)) (n4:0≤j∧j<(ss.length:Int)) (n5:Runs Yir 105 [rawAV (rs.getD (Int.toNat i) z0),rawAV (ss.getD (Int.toNat j) z0)] (bigAV ((rval (rs.getD (Int.toNat i) z0))*(rval (ss.getD (Int.toNat j) z0))))) (n6:Runs Yir 104 [rawAV (os.getD (Int.toNat (i64.wrap (i+j))) z0),bigAV ((rval (rs.getD (Int.toNat i) z0))*(rval (ss.getD (Int.toNat j) z0)))] (bigAV ((rval (os.getD (Int.toNat (i64.wrap (i+j))) z0))+((rval (rs.getD (Int.toNat i) z0))*(rval (ss.getD (Int.toNat j) z0)))))):RunsW Yir Yc53i (Ys53i rs ss k os i j) .norm (Ys53i rs ss k (os.set (Int.toNat (i64.wrap (i+j))) (cn ((rval (os.getD (Int.toNat (i64.wrap (i+j))) z0))+((rval (rs.getD (Int.toNat i) z0))*(rval (ss.getD (Int.toNat j) z0)))))) i (i64.wrap (j+1))):=(RunsW.go TDD_holds 400 [.b true, .v (rawAV (os.getD (Int.toNat (i64.wrap (i+j))) z0)), .v (rawAV (rs.getD (Int.toNat i) z0)), .v (rawAV (ss.getD (Int.toNat j) z0)), .r (bigAV ((rval (rs.getD (Int.toNat i) z0))*(rval (ss.getD (Int.toNat j) z0)))), .r (bigAV ((rval (os.getD (Int.toNat (i64.wrap (i+j))) z0))+((rval (rs.getD (Int.toNat i) z0))*(rval (ss.getD (Int.toNat j) z0))))), .l (pc (os.set (Int.toNat (i64.wrap (i+j))) (cn ((rval (os.getD (Int.toNat (i64.wrap (i+j))) z0))+((rval (rs.getD (Int.toNat i) z0))*(rval (ss.getD (Int.toNat j) z0)))))))] [0,1,4,5,6,7] (ac c1 (ac n1 (ac (own_pcI n2 n1) (ac n3 (ac (take_pcI n3) (ac n4 (ac (take_pcI n4) (ac n5 (ac n6 (ac n1 (ac (lay_pcI (r:=cn ((rval (os.getD (Int.toNat (i64.wrap (i+j))) z0))+((rval (rs.getD (Int.toNat i) z0))*(rval (ss.getD (Int.toNat j) z0))))) n2 n1) a0))))))))))) (by kernel_rfl))
theorem Yk53i_2 (rs:List Rn) (ss:List Rn) (k:Nat) (os:List Rn) (i:Int) (j:Int)  (c1:(decide (j<(ss.length:Int)))=false):RunsW Yir Yc53i (Ys53i rs ss k os i j) (.exit 2) (Ys53i rs ss k os i j):=(RunsW.go TDD_holds 400 [.b false] [0,1,4,5,6,7] (ac c1 a0) (by kernel_rfl))
def Ys53 (rs:List Rn) (ss:List Rn) (k:Nat) (os:List Rn) (i:Int):State:=(.val (.sl rs.length (pc rs))::(.val (.sl ss.length (pc ss))::(dds 2 (.own 2 0 []::(.own 2 k (pc os)::(.val (.int .i64 i)::(dds 51 [])))))))
theorem Yk53_1 (rs:List Rn) (ss:List Rn) (k:Nat) (os:List Rn) (i:Int) (os1:List Rn) (c1:(decide (i<(rs.length:Int)))=true) (hl1:RunsW Yir (.loop Yc53i) (Ys53i rs ss k os i 0) (.exit 2) (Ys53i rs ss k os1 i (ss.length:Int))):RunsW Yir Yc53 (Ys53 rs ss k os i) .norm (Ys53 rs ss k os1 (i64.wrap (i+1))):=(RunsW.seq (RunsW.go (t:=(vp rs::(vp ss::(dds 2 (.own 2 0 []::(.own 2 k (pc os)::(vi i::(dds 51 [])))))))) (ex := .norm) TDD_holds 400 [.b true] [0,1,4,5,6] (ac c1 a0) (by kernel_rfl)) (RunsW.seq (RunsW.block_norm (RunsW.seq (RunsW.go TDD_holds 400 [] [0,1,4,5,6,7] a0 (by kernel_rfl)) (RunsW.block hl1))) (RunsW.go TDD_holds 400 [] [0,1,4,5,6] a0 (by kernel_rfl))))
theorem Yk53_2 (rs:List Rn) (ss:List Rn) (k:Nat) (os:List Rn) (i:Int)  (c1:(decide (i<(rs.length:Int)))=false):RunsW Yir Yc53 (Ys53 rs ss k os i) (.exit 0) (Ys53 rs ss k os i):=(RunsW.seq_out (RunsW.go TDD_holds 400 [.b false] [0,1,4,5,6] (ac c1 a0) (by kernel_rfl)) (by intro e;cases e))
theorem Yrun53_1 (rs ss:List Rn) (c1:((rs.length:Int)==0)=true):Runs Yir 53 [.sl rs.length (pc rs), .sl ss.length (pc ss)] (.fresh 2 0 []):=Runs.of_bodyW (fn:=Yi53) (s:=(dds 4 (.own 2 0 []::(dds 53 [])))) (ex := .ret) rfl rfl (RunsW.seq (RunsW.go (t:=(vp rs::(vp ss::(dds 2 (.own 2 0 []::(dds 53 [])))))) (ex := .norm) TDD_holds 400 [] [0,1,4] a0 (by kernel_rfl)) (RunsW.seq_out (RunsW.go TDD_holds 400 [.b true, .b true] [4] (ac c1 (ac (show true=true from rfl) a0)) (by kernel_rfl)) (by intro e;cases e))) (by intro i e;cases e) rfl
theorem Yrun53_2 (rs ss:List Rn) (c1:((rs.length:Int)==0)=false) (c2:((ss.length:Int)==0)=true):Runs Yir 53 [.sl rs.length (pc rs), .sl ss.length (pc ss)] (.fresh 2 0 []):=Runs.of_bodyW (fn:=Yi53) (s:=(dds 4 (.own 2 0 []::(dds 53 [])))) (ex := .ret) rfl rfl (RunsW.seq (RunsW.go (t:=(vp rs::(vp ss::(dds 2 (.own 2 0 []::(dds 53 [])))))) (ex := .norm) TDD_holds 400 [] [0,1,4] a0 (by kernel_rfl)) (RunsW.seq_out (RunsW.go TDD_holds 400 [.b false, .b true] [4] (ac c1 (ac c2 a0)) (by kernel_rfl)) (by intro e;cases e))) (by intro i e;cases e) rfl
theorem Yrun53_3 (rs ss os ts:List Rn) (i:Int) (k:Nat) (c1:((rs.length:Int)==0)=false) (c2:((ss.length:Int)==0)=false) (n1:0≤(i64.wrap ((i64.wrap ((rs.length:Int)+(ss.length:Int)))-1))∧(i64.wrap ((i64.wrap ((rs.length:Int)+(ss.length:Int)))-1))≤1048576) (hl2:RunsW Yir (.loop Yc53) ((.val (.sl rs.length (pc rs))::(.val (.sl ss.length (pc ss))::(dds 2 (.own 2 0 []::(.own 2 (Int.toNat (i64.wrap ((i64.wrap ((rs.length:Int)+(ss.length:Int)))-1))) (replA [.bool false, .sl 0 []] (Int.toNat (i64.wrap ((i64.wrap ((rs.length:Int)+(ss.length:Int)))-1))))::(.val (.int .i64 0)::(dds 51 [])))))))) (.exit 0) (Ys53 rs ss k os i)) (n3:Runs Yir 43 [.sl k (pc os)] (.fresh 2 ts.length (pc ts))):Runs Yir 53 [.sl rs.length (pc rs), .sl ss.length (pc ss)] (.fresh 2 ts.length (pc ts)):=Runs.of_bodyW (fn:=Yi53) (s:=(dds 4 (.own 2 ts.length (pc ts)::(dds 53 [])))) (ex := .ret) rfl rfl (RunsW.seq (RunsW.go (t:=(vp rs::(vp ss::(dds 2 (.own 2 0 []::(dds 53 [])))))) (ex := .norm) TDD_holds 400 [] [0,1,4] a0 (by kernel_rfl)) (RunsW.seq (RunsW.go (t:=(vp rs::(vp ss::(dds 2 (.own 2 0 []::(dds 53 [])))))) (ex := .norm) TDD_holds 400 [.b false, .b false] [0,1,4] (ac c1 (ac c2 a0)) (by kernel_rfl)) (RunsW.seq (RunsW.go (t:=(vp rs::(vp ss::(dds 2 (.own 2 0 []::(.own 2 (Int.toNat (i64.wrap ((i64.wrap ((rs.length:Int)+(ss.length:Int)))-1))) (replA [.bool false, .sl 0 []] (Int.toNat (i64.wrap ((i64.wrap ((rs.length:Int)+(ss.length:Int)))-1))))::(dds 52 []))))))) (ex := .norm) TDD_holds 400 [] [0,1,4,5] (ac n1 a0) (by kernel_rfl)) (RunsW.seq (RunsW.seq (RunsW.go TDD_holds 400 [] [0,1,4,5,6] a0 (by kernel_rfl)) (RunsW.block hl2)) (RunsW.go TDD_holds 400 [.r (.fresh 2 ts.length (pc ts))] [4] (ac n3 a0) (by kernel_rfl)))))) (by intro i e;cases e) rfl
end Go.Proofs.Ythnnfemologhfaa

namespace Go.Proofs.Ythnnfemologhfaa
open Go.IntKind (i64 u64 u32)
open Go.Ai
set_option maxRecDepth 100000
theorem tdiv_sign (a b q r:Int) (hq:q=(a.natAbs:Int) / (b.natAbs:Int)) (hr:r=(a.natAbs:Int) % (b.natAbs:Int)) :
  (if (!(decide (a<0)==decide (b<0)))=true then -q else q)=Int.tdiv a b∧(if decide (a<0)=true then -r else r)=Int.tmod a b:=by
 subst hq hr
 have hA:(0:Int)≤(a.natAbs:Int):=by omega
 by_cases ha:a<0 <;> by_cases hb:b<0
 ·have ea:a = -(a.natAbs:Int):=by omega
  have eb:b = -(b.natAbs:Int):=by omega
  have h1:Int.tdiv a b=(a.natAbs:Int) / (b.natAbs:Int):=by
   rw [← Int.tdiv_eq_ediv_of_nonneg hA]
   conv=>lhs;rw [ea,eb,Int.neg_tdiv,Int.tdiv_neg,Int.neg_neg]
  have h2:Int.tmod a b = -((a.natAbs:Int) % (b.natAbs:Int)):=by
   rw [← Int.tmod_eq_emod_of_nonneg hA]
   conv=>lhs;rw [ea,eb,Int.neg_tmod,Int.tmod_neg]
  rw [h1,h2,decide_eq_true ha,decide_eq_true hb]
  simp
 ·have ea:a = -(a.natAbs:Int):=by omega
  have eb:b=(b.natAbs:Int):=by omega
  have h1:Int.tdiv a b = -((a.natAbs:Int) / (b.natAbs:Int)):=by
   rw [← Int.tdiv_eq_ediv_of_nonneg hA]
   conv=>lhs;rw [ea,eb,Int.neg_tdiv]
  have h2:Int.tmod a b = -((a.natAbs:Int) % (b.natAbs:Int)):=by
   rw [← Int.tmod_eq_emod_of_nonneg hA]
   conv=>lhs;rw [ea,eb,Int.neg_tmod]
  rw [h1,h2,decide_eq_true ha,decide_eq_false hb]
  simp
 ·have ea:a=(a.natAbs:Int):=by omega
  have eb:b = -(b.natAbs:Int):=by omega
  have h1:Int.tdiv a b = -((a.natAbs:Int) / (b.natAbs:Int)):=by
   rw [← Int.tdiv_eq_ediv_of_nonneg hA]
   conv=>lhs;rw [ea,eb,Int.tdiv_neg]
  have h2:Int.tmod a b=(a.natAbs:Int) % (b.natAbs:Int):=by
   rw [← Int.tmod_eq_emod_of_nonneg hA]
   conv=>lhs;rw [ea,eb,Int.tmod_neg]
  rw [h1,h2,decide_eq_false ha,decide_eq_true hb]
  simp
 ·have ea:a=(a.natAbs:Int):=by omega
  have eb:b=(b.natAbs:Int):=by omega
  have h1:Int.tdiv a b=(a.natAbs:Int) / (b.natAbs:Int):=by
   rw [← Int.tdiv_eq_ediv_of_nonneg hA]
   conv=>lhs;rw [ea,eb]
  have h2:Int.tmod a b=(a.natAbs:Int) % (b.natAbs:Int):=by
   rw [← Int.tmod_eq_emod_of_nonneg hA]
   conv=>lhs;rw [ea,eb]
  rw [h1,h2,decide_eq_false ha,decide_eq_false hb]
  simp
theorem wquo_run {na nb:Bool} {xs ys:List Int} (hx:U32 xs) (hy:U32 ys) (h0:rv nb ys ≠ 0) (h1:xs.length<1048576) (h2:ys.length<1048576) :
  Runs Yir 110 [.agg [.bool na, .sl xs.length (lm xs)], .agg [.bool nb, .sl ys.length (lm ys)]] (.tup [bigAV (Int.tdiv (rv na xs) (rv nb ys)),bigAV (Int.tmod (rv na xs) (rv nb ys))]):=by
 have l1:=rv_len (neg:=na) hx
 have l2:=rv_len (neg:=nb) hy
 have r1:=limbs_run (neg:=na) hx (by omega)
 have r2:=limbs_run (neg:=nb) hy (by omega)
 generalize rv na xs=a at *
 generalize rv nb ys=b at *
 have hb0:limbs b.natAbs ≠ []:=by rw [Ne,limbs_nil];omega
 obtain ⟨qs,rs,q1,q2,q3,q4,q5,q6,q7⟩:=quoLimbs_run (limbs_canon a.natAbs) (limbs_canon b.natAbs) hb0 (by omega) (by omega)
 rw [limbs_val,limbs_val] at q5 q6
 obtain ⟨e1,e2⟩:=tdiv_sign a b _ _ q5 q6
 have m1:=made_run (neg := !(decide (a<0)==decide (b<0))) q1 q3
 have m2:=made_run (neg:=decide (a<0)) q2 q4
 have f1:rv (!(decide (a<0)==decide (b<0))) qs=Int.tdiv a b:=e1
 have f2:rv (decide (a<0)) rs=Int.tmod a b:=e2
 rw [f1] at m1
 rw [f2] at m2
 exact Yrun110 na nb _ _ xs ys _ _ qs rs _ _ r1 r2 q7 m1 m2
theorem asUint_run {n:Nat} {b:Bool} (h:(limbs n).length≤2):Runs Yir 146 [.agg [.bool b, .sl (limbs n).length (lm (limbs n))]] (.int .u64 (n:Nat)):=by
 have hu:=big_u32 n
 have hv:=limbs_val n
 generalize hxs:limbs n=xs at *
 have hl:=RunsW.up (prog:=Yir) (c:=Yc146) (ex := .exit 0) (fin:=Ys146 xs (n:Nat) (xs.length:Nat) (xs.length:Nat))
  (fun i=>Ys146 xs (valL (xs.take i)) (xs.length:Nat) (i:Nat)) xs.length (by intro e;cases e) ?_ ?_ 0 (Nat.zero_le _)
 ·exact Yrun146 b xs (n:Nat) (xs.length:Nat) (xs.length:Nat) (by simpa [valL] using hl)
 ·intro i hi
  have ei:i64.wrap ((i:Int)+1)=((i+1:Nat):Int):=by rw [w64 (by omega) (by omega)];omega
  have e32:u64.wrap (i64.wrap (32*(i:Int)))=((32*i:Nat):Int):=by rw [w64 (by omega) (by omega),wu64 (by omega)];omega
  have em:min (Int.toNat ((32*i:Nat):Int)) (IntKind.bits .u64)=32*i:=by rw [Int.toNat_natCast];show min (32*i) 64=32*i;omega
  have hxi:=getD_u32 hu i
  have k:=Yk146_1 xs (valL (xs.take i)) (xs.length:Nat) (i:Nat) (by simp;omega) (by omega) (by rw [e32];omega)
  rw [ei,e32,em,Int.toNat_natCast,wu64 (n:=xs.getD i 0) (by omega)] at k
  have hp:xs.getD i 0*2^(32*i)<18446744073709551616:=by
   have:=pow2_le (show 32*i≤32 by omega)
   rw [show (2:Int)^32=4294967296 by decide] at this
   have:=Int.mul_le_mul (show xs.getD i 0≤4294967295 by omega) this (by have:=pow2_pos (32*i);omega) (by omega)
   omega
  have h0:=Int.mul_nonneg hxi.1 (show (0:Int)≤2^(32*i) by have:=pow2_pos (32*i);omega)
  have hlt:=take_lt hu i
  rw [pow32_two] at hlt
  rw [wu64 ⟨h0,hp⟩,BitVec.or_comm,or64 hxi.1 hp (by omega) ⟨valL_nonneg (u32_take hu i),hlt⟩] at k
  refine k.to rfl ?_
  rw [take_succ_val xs i hi,pow32_two]
  congr 1
  rw [Int.mul_comm];omega
 ·rw [List.take_length,hv]
  exact Yk146_2 xs (n:Nat) (xs.length:Nat) (xs.length:Nat) (by simp)
theorem gcdUint_run:∀ (f a b:Nat),b≤f→RunsW Yir (.loop Yc145) (Ys145 (a:Nat) (b:Nat)) (.exit 0) (Ys145 (Nat.gcd a b:Nat) 0):=by
 intro f
 induction f with
 | zero =>
  intro a b hb
  have:b=0:=by omega
  subst this
  rw [Nat.gcd_zero_right]
  exact RunsW.loop_out (Yk145_2 _ _ (by simp)) (by intro e;cases e)
 | succ f ih =>
  intro a b hb
  by_cases h0:b=0
  ·subst h0
   rw [Nat.gcd_zero_right]
   exact RunsW.loop_out (Yk145_2 _ _ (by simp)) (by intro e;cases e)
  ·have k:=Yk145_1 (a:Nat) (b:Nat) (by simp;omega) (by omega)
   rw [Int.tmod_eq_emod_of_nonneg (by omega),← Int.natCast_emod] at k
   have hm:=Nat.mod_lt a (show 0<b by omega)
   have:=ih b (a % b) (by omega)
   rw [Nat.gcd_comm b,← Nat.gcd_rec,Nat.gcd_comm b a] at this
   exact RunsW.loop k this
theorem two_cn {n:Nat} (h:(limbs n).length≤2):(n:Int)<18446744073709551616:=by
 have h1:=valL_lt (big_u32 n)
 rw [limbs_val] at h1
 have h2:=pow32_mono h
 rw [show (4294967296:Int)^2=18446744073709551616 by decide] at h2
 omega
theorem ofUint_run {n:Nat} (h:(n:Int)<18446744073709551616):Runs Yir 144 [.int .u64 (n:Nat)] (bigAV (n:Nat)):=by
 obtain ⟨h1,h2⟩:=of_limbs (u:=(n:Nat)) (by omega)
 have m:=made_run (neg:=false) h1 (by simp)
 have e:rv false [u32.wrap (n:Int),u32.wrap (Int.fdiv (n:Int) (2^(min (Int.toNat 32) (IntKind.bits .u64))))]=(n:Nat):=h2
 rw [e] at m
 exact Yrun144 (n:Nat) _ m
theorem cn_nat (n:Nat):cn (n:Nat)=(false,limbs n):=by
 unfold cn
 rw [Int.natAbs_natCast,decide_eq_false (by omega)]
theorem cnlen (n:Nat):(cn (n:Nat)).2.length=(limbs n).length:=by rw [cn_nat]
theorem gcd_loop {K:Nat} (hK:K<1048576):∀ (f a b:Nat),b≤f→Fits K (a:Nat)→Fits K (b:Nat) →
  (∃ y z,RunsW Yir (.loop Yc109) (Ys109 (cn (a:Nat)) (cn (b:Nat)) (false,[])) (.exit 0) (Ys109 (cn (Nat.gcd a b:Nat)) y z)) ∨
  (∃ x y,RunsW Yir (.loop Yc109) (Ys109 (cn (a:Nat)) (cn (b:Nat)) (false,[])) .ret (Ys109 x y (cn (Nat.gcd a b:Nat)))):=by
 intro f
 induction f with
 | zero =>
  intro a b hb _ _
  have:b=0:=by omega
  subst this
  rw [Nat.gcd_zero_right]
  exact Or.inl ⟨_,_,RunsW.loop_out (Yk109_4 _ _ _ (by rw [cnlen];rfl)) (by intro e;cases e)⟩
 | succ f ih =>
  intro a b hb ka kb
  by_cases h0:b=0
  ·subst h0
   rw [Nat.gcd_zero_right]
   exact Or.inl ⟨_,_,RunsW.loop_out (Yk109_4 _ _ _ (by rw [cnlen];rfl)) (by intro e;cases e)⟩
  ·have hbl:0<(limbs b).length:=List.length_pos_iff.2 (by rw [Ne,limbs_nil];exact h0)
   have la:=ka.len
   have lb:=kb.len
   rw [Int.natAbs_natCast] at la lb
   by_cases h2:(limbs a).length≤2∧(limbs b).length≤2
   ·right
    have ta:=two_cn h2.1
    have tb:=two_cn h2.2
    have hg:((Nat.gcd a b:Nat):Int)<18446744073709551616:=by
     have:=Nat.le_of_dvd (by omega) (Nat.gcd_dvd_right a b)
     omega
    have u1:=asUint_run (b:=(cn (a:Nat)).1) h2.1
    have u2:=asUint_run (b:=(cn (b:Nat)).1) h2.2
    have u3:=Yrun145 (a:Nat) (b:Nat) _ _ (gcdUint_run b a b (Nat.le_refl _))
    have u4:=ofUint_run hg
    have k:=Yk109_1 (cn (a:Nat)) (cn (b:Nat)) (false,[]) (a:Nat) (b:Nat) (Nat.gcd a b:Nat) (Nat.gcd a b:Nat) (by rw [cnlen];simp;omega) (by rw [cnlen];simp;omega) (by rw [cnlen];simp;omega) u1 u2 u3 u4
    exact ⟨_,_,RunsW.loop_out k (by intro e;cases e)⟩
   ·have hq:=wquo_run (na:=(cn (a:Nat)).1) (nb:=(cn (b:Nat)).1) (xs:=(cn (a:Nat)).2) (ys:=(cn (b:Nat)).2) (big_u32 _) (big_u32 _) (by have:=rval_cn (b:Nat);unfold rval at this;rw [this];omega) (by rw [cnlen];omega) (by rw [cnlen];omega)
    rw [show rv (cn (a:Nat)).1 (cn (a:Nat)).2=(a:Nat) from rval_cn _,show rv (cn (b:Nat)).1 (cn (b:Nat)).2=(b:Nat) from rval_cn _,Int.tmod_eq_emod_of_nonneg (by omega),← Int.natCast_emod] at hq
    have hm:=Nat.mod_lt a (show 0<b by omega)
    have step:RunsW Yir Yc109 (Ys109 (cn (a:Nat)) (cn (b:Nat)) (false,[])) .norm (Ys109 (cn (b:Nat)) (cn ((a % b:Nat):Int)) (false,[])):=by
     by_cases h3:(limbs a).length≤2
     ·exact Yk109_2 (cn (a:Nat)) (cn (b:Nat)) (false,[]) _ _ (by rw [cnlen];simp;omega) (by rw [cnlen];simp;omega) (by rw [cnlen];simp;omega) hq
     ·exact Yk109_3 (cn (a:Nat)) (cn (b:Nat)) (false,[]) _ _ (by rw [cnlen];simp;omega) (by rw [cnlen];simp;omega) hq
    have kr:Fits K ((a % b:Nat):Int):=by
     unfold Fits at *
     rw [Int.natAbs_natCast] at *
     exact Nat.lt_of_le_of_lt (Nat.le_of_lt hm) kb
    have e:Nat.gcd b (a % b)=Nat.gcd a b:=by rw [Nat.gcd_comm b,← Nat.gcd_rec,Nat.gcd_comm b a]
    rcases ih b (a % b) (by omega) kb kr with ⟨y,z,h⟩ | ⟨x,y,h⟩
    ·rw [e] at h
     exact Or.inl ⟨y,z,RunsW.loop step h⟩
    ·rw [e] at h
     exact Or.inr ⟨x,y,RunsW.loop step h⟩
theorem wgcd_run {na nb:Bool} {xs ys:List Int} (hx:U32 xs) (hy:U32 ys) (h1:xs.length<1048576) (h2:ys.length<1048576) :
  Runs Yir 109 [.agg [.bool na, .sl xs.length (lm xs)], .agg [.bool nb, .sl ys.length (lm ys)]] (bigAV (Int.gcd (rv na xs) (rv nb ys):Nat)):=by
 have a1:=wabs_run (neg:=na) hx (by omega)
 have a2:=wabs_run (neg:=nb) hy (by omega)
 have f1:=rv_fits (neg:=na) hx
 have f2:=rv_fits (neg:=nb) hy
 have g1:Fits (max xs.length ys.length) (((rv na xs).natAbs:Nat):Int):=by
  unfold Fits at *;rw [Int.natAbs_natCast];exact Nat.lt_of_lt_of_le f1 (Nat.pow_le_pow_right (by decide) (by omega))
 have g2:Fits (max xs.length ys.length) (((rv nb ys).natAbs:Nat):Int):=by
  unfold Fits at *;rw [Int.natAbs_natCast];exact Nat.lt_of_lt_of_le f2 (Nat.pow_le_pow_right (by decide) (by omega))
 rcases gcd_loop (K:=max xs.length ys.length) (by omega) _ _ _ (Nat.le_refl _) g1 g2 with ⟨y,z,h⟩ | ⟨x,y,h⟩
 ·exact Yrun109_n na nb xs ys _ _ _ _ _ a1 a2 h
 ·exact Yrun109_r na nb xs ys _ _ _ _ _ a1 a2 h
def TQE:Table:=TQD
theorem TQE_holds:THolds Yir TQE:=TQD_holds
end Go.Proofs.Ythnnfemologhfaa
