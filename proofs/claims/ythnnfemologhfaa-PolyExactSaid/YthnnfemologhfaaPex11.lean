/- Texts of the proof of PolyExact, packed by pack.py: part 11 of 19. -/
import Derived.Test.YthnnfemologhfaaPex10
namespace Go.Proofs.Ythnnfemologhfaa
open Go.IntKind (i64 u64 u32)
open Go.Ai
set_option maxRecDepth 100000
def len8N (n:Nat):Nat:=if n=0 then 0 else Nat.log2 n+1
def len8 (i:Int):Int:=(len8N i.toNat:Nat)
theorem len8_all:∀ n:Nat,n<256→(text_14a5d850[n]?).map (fun c=>(c.toNat:Int))=some ((len8N n:Nat):Int):=by
 have h:(List.range 256).all (fun n=>decide ((text_14a5d850[n]?).map (fun c=>(c.toNat:Int))=some ((len8N n:Nat):Int)))=true:=by decide +kernel
 intro n hn
 have:=List.all_eq_true.1 h n (by simpa using hn)
 simpa using this
theorem len8_ok (x:Int):((if 0≤(IntKind.u8.wrap x) then (text_14a5d850)[(Int.toNat (IntKind.u8.wrap x))]? else none).map fun c=>(c.toNat:Int))=some (len8 (IntKind.u8.wrap x)):=by
 have hw:0≤IntKind.u8.wrap x∧IntKind.u8.wrap x<256:=by
  simp only [IntKind.wrap,IntKind.bits,IntKind.signed,Bool.false_and,Bool.false_eq_true,if_false]
  omega
 rw [if_pos hw.1]
 exact len8_all _ (by omega)
def len32W (x:Int):Int :=
 match decide (x≥65536) with
 | true=>(match decide ((Int.fdiv x (2^(min (Int.toNat 16) (IntKind.bits .u32))))≥256) with
 | true=>(i64.wrap (24+(i64.wrap (len8 (IntKind.u8.wrap (Int.fdiv (Int.fdiv x (2^(min (Int.toNat 16) (IntKind.bits .u32)))) (2^(min (Int.toNat 8) (IntKind.bits .u32)))))))))
 | false=>(i64.wrap (16+(i64.wrap (len8 (IntKind.u8.wrap (Int.fdiv x (2^(min (Int.toNat 16) (IntKind.bits .u32))))))))))
 | false=>(match decide (x≥256) with
 | true=>(i64.wrap (8+(i64.wrap (len8 (IntKind.u8.wrap (Int.fdiv x (2^(min (Int.toNat 8) (IntKind.bits .u32)))))))))
 | false=>(i64.wrap (0+(i64.wrap (len8 (IntKind.u8.wrap x))))))
theorem Yrun123 (x:Int)  : Runs Yir 123 [.int .u32 x] (.int .i64 (len32W x)):=by
 unfold len32W
 cases c1:(decide (x≥65536))
 ·cases c2:(decide (x≥256))
  ·exact Runs.script (r := .int .i64 (i64.wrap (0+(i64.wrap (len8 (IntKind.u8.wrap x)))))) (ps:=[(decide (x≥65536))=false,(decide (x≥256))=false,((if 0≤(IntKind.u8.wrap x) then (text_14a5d850)[(Int.toNat (IntKind.u8.wrap x))]? else none).map fun c=>(c.toNat:Int))=some (len8 (IntKind.u8.wrap x))]) TWA_holds rfl 300 rfl [.b false, .b false, .v (.int .u8 (len8 (IntKind.u8.wrap x)))] (by kernel_rfl) ⟨c1,c2,(len8_ok _),trivial⟩
  ·exact Runs.script (r := .int .i64 (i64.wrap (8+(i64.wrap (len8 (IntKind.u8.wrap (Int.fdiv x (2^(min (Int.toNat 8) (IntKind.bits .u32)))))))))) (ps:=[(decide (x≥65536))=false,(decide (x≥256))=true,¬ (8:Int)<0,((if 0≤(IntKind.u8.wrap (Int.fdiv x (2^(min (Int.toNat 8) (IntKind.bits .u32))))) then (text_14a5d850)[(Int.toNat (IntKind.u8.wrap (Int.fdiv x (2^(min (Int.toNat 8) (IntKind.bits .u32))))))]? else none).map fun c=>(c.toNat:Int))=some (len8 (IntKind.u8.wrap (Int.fdiv x (2^(min (Int.toNat 8) (IntKind.bits .u32))))))]) TWA_holds rfl 300 rfl [.b false, .b true, .v (.int .u8 (len8 (IntKind.u8.wrap (Int.fdiv x (2^(min (Int.toNat 8) (IntKind.bits .u32)))))))] (by kernel_rfl) ⟨c1,c2,(by decide),(len8_ok _),trivial⟩
 ·cases c2:(decide ((Int.fdiv x (2^(min (Int.toNat 16) (IntKind.bits .u32))))≥256))
  ·exact Runs.script (r := .int .i64 (i64.wrap (16+(i64.wrap (len8 (IntKind.u8.wrap (Int.fdiv x (2^(min (Int.toNat 16) (IntKind.bits .u32)))))))))) (ps:=[(decide (x≥65536))=true,¬ (16:Int)<0,(decide ((Int.fdiv x (2^(min (Int.toNat 16) (IntKind.bits .u32))))≥256))=false,((if 0≤(IntKind.u8.wrap (Int.fdiv x (2^(min (Int.toNat 16) (IntKind.bits .u32))))) then (text_14a5d850)[(Int.toNat (IntKind.u8.wrap (Int.fdiv x (2^(min (Int.toNat 16) (IntKind.bits .u32))))))]? else none).map fun c=>(c.toNat:Int))=some (len8 (IntKind.u8.wrap (Int.fdiv x (2^(min (Int.toNat 16) (IntKind.bits .u32))))))]) TWA_holds rfl 300 rfl [.b true, .b false, .v (.int .u8 (len8 (IntKind.u8.wrap (Int.fdiv x (2^(min (Int.toNat 16) (IntKind.bits .u32)))))))] (by kernel_rfl) ⟨c1,(by decide),c2,(len8_ok _),trivial⟩
  ·exact Runs.script (r := .int .i64 (i64.wrap (24+(i64.wrap (len8 (IntKind.u8.wrap (Int.fdiv (Int.fdiv x (2^(min (Int.toNat 16) (IntKind.bits .u32)))) (2^(min (Int.toNat 8) (IntKind.bits .u32)))))))))) (ps:=[(decide (x≥65536))=true,¬ (16:Int)<0,(decide ((Int.fdiv x (2^(min (Int.toNat 16) (IntKind.bits .u32))))≥256))=true,¬ (8:Int)<0,((if 0≤(IntKind.u8.wrap (Int.fdiv (Int.fdiv x (2^(min (Int.toNat 16) (IntKind.bits .u32)))) (2^(min (Int.toNat 8) (IntKind.bits .u32))))) then (text_14a5d850)[(Int.toNat (IntKind.u8.wrap (Int.fdiv (Int.fdiv x (2^(min (Int.toNat 16) (IntKind.bits .u32)))) (2^(min (Int.toNat 8) (IntKind.bits .u32))))))]? else none).map fun c=>(c.toNat:Int))=some (len8 (IntKind.u8.wrap (Int.fdiv (Int.fdiv x (2^(min (Int.toNat 16) (IntKind.bits .u32)))) (2^(min (Int.toNat 8) (IntKind.bits .u32))))))]) TWA_holds rfl 300 rfl [.b true, .b true, .v (.int .u8 (len8 (IntKind.u8.wrap (Int.fdiv (Int.fdiv x (2^(min (Int.toNat 16) (IntKind.bits .u32)))) (2^(min (Int.toNat 8) (IntKind.bits .u32)))))))] (by kernel_rfl) ⟨c1,(by decide),c2,(by decide),(len8_ok _),trivial⟩
theorem Yrun154 (x l:Int) (n1:Runs Yir 123 [.int .u32 x] (.int .i64 l)):Runs Yir 154 [.int .u32 x] (.int .i64 (i64.wrap (32-l))):=Runs.go (fn:=Yi154) TWA_holds rfl 400 rfl [.r (.int .i64 l)] (ac n1 a0) (by kernel_rfl)
theorem Yq111 (n na:Bool) (xs as1:List Int) (v:Int) (n1:List.length (lm as1)=as1.length*1)
  (n2:as1.length≤1048576)
  (n3:Runs Yir 122 [.agg [.bool n, .sl xs.length (lm xs)]] (.tup [.bool na, .sl as1.length (lm as1)]))
  (n4:Runs Yir 133 [.bool false, .sl as1.length (lm as1)] (bigAV v)):Runs Yir 111 [.agg [.bool n, .sl xs.length (lm xs)]] (bigAV v) :=
 Runs.go (fn:=Yi111) TWA_holds rfl 400 rfl [.r (.tup [.bool na, .sl as1.length (lm as1)]), .r (bigAV v)] (ac n3 (ac n1 (ac n2 (ac n4 a0)))) (by kernel_rfl)
theorem Yq76 (n na:Bool) (xs as1:List Int) (n1:Runs Yir 122 [.agg [.bool n, .sl xs.length (lm xs)]] (.tup [.bool na, .sl as1.length (lm as1)])):Runs Yir 76 [.agg [.bool n, .sl xs.length (lm xs)]] (.int .i64 (as1.length:Int)) :=
 Runs.go (fn:=Yi76) TWA_holds rfl 400 rfl [.r (.tup [.bool na, .sl as1.length (lm as1)])] (ac n1 a0) (by kernel_rfl)
theorem Yrun77_1 (n na:Bool) (xs as1:List Int) (c1:((as1.length:Int)==0)=true) (n1:Runs Yir 122 [.agg [.bool n, .sl xs.length (lm xs)]] (.tup [.bool na, .sl as1.length (lm as1)])):Runs Yir 77 [.agg [.bool n, .sl xs.length (lm xs)]] (.int .i64 0):=Runs.go (fn:=Yi77) TWA_holds rfl 400 rfl [.r (.tup [.bool na, .sl as1.length (lm as1)]), .b true] (ac n1 (ac c1 a0)) (by kernel_rfl)
theorem Yrun77_2 (n na:Bool) (xs as1:List Int) (l:Int) (c1:((as1.length:Int)==0)=false) (n1:0≤(i64.wrap ((as1.length:Int)-1))∧(i64.wrap ((as1.length:Int)-1))<(as1.length:Int)) (n2:Runs Yir 122 [.agg [.bool n, .sl xs.length (lm xs)]] (.tup [.bool na, .sl as1.length (lm as1)])) (n3:Runs Yir 123 [.int .u32 (as1.getD (Int.toNat (i64.wrap ((as1.length:Int)-1))) 0)] (.int .i64 l)):Runs Yir 77 [.agg [.bool n, .sl xs.length (lm xs)]] (.int .i64 (i64.wrap ((i64.wrap (32*(i64.wrap ((as1.length:Int)-1))))+l))):=Runs.go (fn:=Yi77) TWA_holds rfl 400 rfl [.r (.tup [.bool na, .sl as1.length (lm as1)]), .b false, .v (.int .u32 (as1.getD (Int.toNat (i64.wrap ((as1.length:Int)-1))) 0)), .r (.int .i64 l)] (ac n2 (ac c1 (ac n1 (ac (take_limI n1) (ac n3 a0))))) (by kernel_rfl)
theorem log2_shift (n k:Nat) (h:n / 2^k ≠ 0):Nat.log2 n=Nat.log2 (n / 2^k)+k:=by
 have hn:n ≠ 0:=by intro e;subst e;simp at h
 have:=(Nat.log2_eq_iff h).1 rfl
 rw [Nat.log2_eq_iff hn]
 generalize Nat.log2 (n / 2^k)=j at *
 have hp:0<2^k:=Nat.two_pow_pos k
 constructor
 ·rw [Nat.pow_add]
  exact (Nat.le_div_iff_mul_le hp).1 this.1
 ·have:n<2^(j+1)*2^k:=(Nat.div_lt_iff_lt_mul hp).1 this.2
  rw [← Nat.pow_add] at this
  have e:j+k+1=j+1+k:=by omega
  rw [e];exact this
theorem len8_nat (v:Nat) (h:v<256) (h0:v ≠ 0):len8 (IntKind.u8.wrap (v:Int))=((Nat.log2 v+1:Nat):Int):=by
 have hw:IntKind.u8.wrap (v:Int)=v:=by
  simp only [IntKind.wrap,IntKind.bits,IntKind.signed,Bool.false_and,Bool.false_eq_true,if_false]
  omega
 rw [hw]
 unfold len8 len8N
 rw [Int.toNat_natCast,if_neg h0]
theorem shr32 (n:Nat) (k:Nat) (hk:k≤32):Int.fdiv (n:Int) (2^(min (Int.toNat (k:Int)) (IntKind.bits .u32)))=((n / 2^k:Nat):Int):=by
 have e:min (Int.toNat (k:Int)) (IntKind.bits .u32)=k:=by
  show min (Int.toNat (k:Int)) 32=k
  rw [Int.toNat_natCast];omega
 rw [e,Int.fdiv_eq_ediv_of_nonneg _ (Int.pow_nonneg (by omega))]
 have:(2:Int)^k=((2^k:Nat):Int):=by simp
 rw [this,← Int.natCast_ediv]
theorem len32_eq (n:Nat) (h:n<4294967296) (h0:n ≠ 0):len32W (n:Int)=((Nat.log2 n+1:Nat):Int):=by
 have s16 (n:Nat):Int.fdiv (n:Int) (2^(min (Int.toNat 16) (IntKind.bits .u32)))=((n / 2^16:Nat):Int):=shr32 n 16 (by omega)
 have s8 (n:Nat):Int.fdiv (n:Int) (2^(min (Int.toNat 8) (IntKind.bits .u32)))=((n / 2^8:Nat):Int):=shr32 n 8 (by omega)
 have fin (v c:Nat) (hv:v<256) (hv0:v ≠ 0) (hc:c≤56):i64.wrap ((c:Int)+i64.wrap (len8 (IntKind.u8.wrap (v:Int))))=((Nat.log2 v+1+c:Nat):Int):=by
  have:Nat.log2 v<8:=(Nat.log2_lt hv0).2 hv
  rw [len8_nat v hv hv0,w64 (n:=((Nat.log2 v+1:Nat):Int)) (by omega) (by omega),w64 (by omega) (by omega)]
  omega
 unfold len32W
 simp only [s16,s8]
 by_cases b:n<65536
 ·have b':decide ((n:Int)≥65536)=false:=by simp;omega
  rw [b']
  by_cases c:n<256
  ·have c':decide ((n:Int)≥256)=false:=by simp;omega
   rw [c']
   exact fin n 0 c h0 (by omega)
  ·have c':decide ((n:Int)≥256)=true:=by simp;omega
   rw [c',log2_shift n 8 (by omega)]
   have:=fin (n / 2^8) 8 (by omega) (by omega) (by omega)
   exact this.trans (by omega)
 ·have b':decide ((n:Int)≥65536)=true:=by simp;omega
  rw [b']
  dsimp only
  by_cases c:n / 2^16<256
  ·have c':decide (((n / 2^16:Nat):Int)≥256)=false:=by simp;omega
   rw [c',log2_shift n 16 (by omega)]
   have:=fin (n / 2^16) 16 (by omega) (by omega) (by omega)
   exact this.trans (by omega)
  ·have c':decide (((n / 2^16:Nat):Int)≥256)=true:=by simp;omega
   rw [c',log2_shift n 16 (by omega),log2_shift (n / 2^16) 8 (by omega)]
   have:=fin (n / 2^16 / 2^8) 24 (by omega) (by omega) (by omega)
   exact this.trans (by omega)
theorem len32_run {n:Nat} (h:n<4294967296) (h0:n ≠ 0):Runs Yir 123 [.int .u32 (n:Nat)] (.int .i64 ((Nat.log2 n+1:Nat):Int)):=by
 have:=Yrun123 (n:Nat)
 rwa [len32_eq n h h0] at this
theorem lz_run {x:Int} (hx:0<x∧x<4294967296):∃ s:Nat,s<32∧2147483648≤x*2^s∧x*2^s<4294967296∧Runs Yir 154 [.int .u32 x] (.int .i64 (s:Nat)):=by
 obtain ⟨n,rfl⟩:∃ n:Nat,x=n:=⟨x.toNat,by omega⟩
 have hn0:n ≠ 0:=by omega
 have hl:=(Nat.log2_eq_iff hn0).1 rfl
 have hlt:Nat.log2 n<32:=(Nat.log2_lt hn0).2 (by omega)
 refine ⟨31-Nat.log2 n,by omega,?_,?_,?_⟩
 ·have:2^31≤n*2^(31-Nat.log2 n):=by
   have h:=Nat.mul_le_mul_right (2^(31-Nat.log2 n)) hl.1
   rwa [← Nat.pow_add,show Nat.log2 n+(31-Nat.log2 n)=31 by omega] at h
  have e:(n:Int)*2^(31-Nat.log2 n)=((n*2^(31-Nat.log2 n):Nat):Int):=by rw [Int.natCast_mul,Int.natCast_pow];rfl
  rw [e];omega
 ·have:n*2^(31-Nat.log2 n)<2^32:=by
   have h:=Nat.mul_lt_mul_of_pos_right hl.2 (Nat.two_pow_pos (31-Nat.log2 n))
   rwa [← Nat.pow_add,show Nat.log2 n+1+(31-Nat.log2 n)=32 by omega] at h
  have e:(n:Int)*2^(31-Nat.log2 n)=((n*2^(31-Nat.log2 n):Nat):Int):=by rw [Int.natCast_mul,Int.natCast_pow];rfl
  rw [e];omega
 ·have h:=Yrun154 (n:Nat) _ (len32_run (by omega) hn0)
  rw [w64 (by omega) (by omega)] at h
  rwa [show (32:Int)-((Nat.log2 n+1:Nat):Int)=((31-Nat.log2 n:Nat):Int) by omega] at h
theorem wsize_run {neg:Bool} {xs:List Int} (hu:U32 xs) (hN:xs.length≤1048576):Runs Yir 76 [.agg [.bool neg, .sl xs.length (lm xs)]] (.int .i64 (((limbs (rv neg xs).natAbs).length:Nat):Int)) :=
 Yq76 neg _ xs _ (limbs_run hu hN)
theorem wabs_run {neg:Bool} {xs:List Int} (hu:U32 xs) (hN:xs.length≤1048576):Runs Yir 111 [.agg [.bool neg, .sl xs.length (lm xs)]] (bigAV ((rv neg xs).natAbs:Nat)):=by
 have l1:=rv_len (neg:=neg) hu
 have h:=made_run (neg:=false) (big_u32 (rv neg xs).natAbs) (by omega)
 rw [rv_pos] at h
 exact Yq111 neg _ xs _ _ (lim_al _) (by omega) (limbs_run hu hN) h
def blen (n:Nat):Nat:=if n=0 then 0 else Nat.log2 n+1
theorem top_limb {n:Nat} (h:n ≠ 0):1≤(limbs n).length∧∃ x:Nat,(limbs n).getD ((limbs n).length-1) 0=x∧x ≠ 0∧x<4294967296∧n / 2^(32*((limbs n).length-1))=x:=by
 have hc:=limbs_canon n
 have hn0:limbs n ≠ []:=by rw [Ne,limbs_nil];exact h
 have hl:=List.length_pos_iff.2 hn0
 have ht:=getD_u32 hc.1 ((limbs n).length-1)
 have hz:(limbs n).getD ((limbs n).length-1) 0 ≠ 0:=by
  rcases hc.2 with g | g
  ·exact absurd g hn0
  ·exact g
 have hs:=val_split (limbs n) (j:=(limbs n).length-1) (by omega)
 have hd:=drop_val (limbs n) ((limbs n).length-1)
 rw [drop_end (xs:=limbs n) (i:=(limbs n).length-1+1) (by omega),Int.mul_zero,Int.add_zero] at hd
 have h1:=take_lt hc.1 ((limbs n).length-1)
 have h0:=valL_nonneg (u32_take hc.1 ((limbs n).length-1))
 rw [hd,limbs_val] at hs
 generalize (limbs n).length-1=j at *
 generalize (limbs n).getD j 0=x at *
 obtain ⟨x,rfl⟩:∃ y:Nat,x=y:=⟨x.toNat,by omega⟩
 refine ⟨hl,x,rfl,by omega,by omega,?_⟩
 generalize valL (List.take j (limbs n))=L at *
 have e:((n / 2^(32*j):Nat):Int)=(x:Int):=by
  rw [Int.natCast_ediv,Int.natCast_pow,show ((2:Nat):Int)^(32*j)=4294967296^j by rw [pow32_two];rfl,hs]
  have hp:=pow32_pos j
  rw [Int.mul_comm (4294967296^j),Int.add_mul_ediv_right _ _ (by omega),Int.ediv_eq_zero_of_lt h0 h1,Int.zero_add]
 omega
theorem wbits_run {neg:Bool} {xs:List Int} (hu:U32 xs) (hN:xs.length≤1048576):Runs Yir 77 [.agg [.bool neg, .sl xs.length (lm xs)]] (.int .i64 ((blen (rv neg xs).natAbs:Nat):Int)):=by
 have l1:=rv_len (neg:=neg) hu
 have r1:=limbs_run (neg:=neg) hu hN
 generalize rv neg xs=a at *
 by_cases h0:a.natAbs=0
 ·have h:=Yrun77_1 neg _ xs _ (by rw [h0];rfl) r1
  rw [show blen a.natAbs=0 by unfold blen;rw [if_pos h0]]
  exact h
 ·obtain ⟨t1,x,t2,t3,t4,t5⟩:=top_limb h0
  have e1:i64.wrap ((((limbs a.natAbs).length:Nat):Int)-1)=(((limbs a.natAbs).length-1:Nat):Int):=by rw [w64 (by omega) (by omega)];omega
  have hl:=len32_run t4 t3
  have h:=Yrun77_2 neg _ xs (limbs a.natAbs) _ (by rw [beq_eq_false_iff_ne];omega) (by rw [e1];omega) r1 (by rw [e1,Int.toNat_natCast,t2];exact hl)
  have hlog:Nat.log2 x<32:=(Nat.log2_lt t3).2 t4
  rw [e1,w64 (n:=32*(((limbs a.natAbs).length-1:Nat):Int)) (by omega) (by omega),w64 (by omega) (by omega)] at h
  have e2:blen a.natAbs=Nat.log2 x+1+32*((limbs a.natAbs).length-1):=by
   unfold blen
   rw [if_neg h0,log2_shift a.natAbs (32*((limbs a.natAbs).length-1)) (by rw [t5];exact t3),t5]
   omega
  rw [e2]
  rwa [show 32*(((limbs a.natAbs).length-1:Nat):Int)+((Nat.log2 x+1:Nat):Int)=((Nat.log2 x+1+32*((limbs a.natAbs).length-1):Nat):Int) by omega] at h
end Go.Proofs.Ythnnfemologhfaa

namespace Go.Proofs.Ythnnfemologhfaa
open Go.IntKind (i64 u64 u32)
open Go.Ai
set_option maxRecDepth 100000
def Ys153 (xs:List Int) (d:Int) (k:Nat) (qs:List Int) (r:Int) (i:Int):State:=(.val (.sl xs.length (lm xs))::(.val (.int .u32 d)::(dds 4 (.own 1 k (lm qs)::(.val (.int .u64 r)::(.val (.int .i64 i)::(dds 34 [])))))))
theorem Yk153_1 (xs:List Int) (d:Int) (k:Nat) (qs:List Int) (r:Int) (i:Int)  (c1:(decide (i≥0))=true) (n1:0≤i∧i<(xs.length:Int)) (n2:¬ (u64.wrap d)=0) (n3:0≤i∧i<(k:Int)) (n4:qs.length=k):RunsW Yir Yc153 (Ys153 xs d k qs r i) .norm (Ys153 xs d k (qs.set (Int.toNat i) (u32.wrap (u64.wrap (Int.tdiv (u64.wrap ((BitVec.ofInt (IntKind.bits .u64) (u64.wrap (r*2^(min (Int.toNat 32) (IntKind.bits .u64)))) ||| BitVec.ofInt (IntKind.bits .u64) (u64.wrap (xs.getD (Int.toNat i) 0))).toNat)) (u64.wrap d))))) (Int.tmod (u64.wrap ((BitVec.ofInt (IntKind.bits .u64) (u64.wrap (r*2^(min (Int.toNat 32) (IntKind.bits .u64)))) ||| BitVec.ofInt (IntKind.bits .u64) (u64.wrap (xs.getD (Int.toNat i) 0))).toNat)) (u64.wrap d)) (i64.wrap (i-1))):=(RunsW.go TWB_holds 400 [.b true, .v (.int .u32 (xs.getD (Int.toNat i) 0)), .l (lm (qs.set (Int.toNat i) (u32.wrap (u64.wrap (Int.tdiv (u64.wrap ((BitVec.ofInt (IntKind.bits .u64) (u64.wrap (r*2^(min (Int.toNat 32) (IntKind.bits .u64)))) ||| BitVec.ofInt (IntKind.bits .u64) (u64.wrap (xs.getD (Int.toNat i) 0))).toNat)) (u64.wrap d))))))] [0,1,6,7,8] (ac c1 (ac (show ¬ (32:Int)<0 from (by decide)) (ac n1 (ac (take_limI n1) (ac n2 (ac n2 (ac n3 (ac (show layA (lm qs) (Int.toNat i*1) [.int .u32 (u32.wrap (u64.wrap (Int.tdiv (u64.wrap ((BitVec.ofInt (IntKind.bits .u64) (u64.wrap (r*2^(min (Int.toNat 32) (IntKind.bits .u64)))) ||| BitVec.ofInt (IntKind.bits .u64) (u64.wrap (xs.getD (Int.toNat i) 0))).toNat)) (u64.wrap d))))]=some (lm (qs.set (Int.toNat i) (u32.wrap (u64.wrap (Int.tdiv (u64.wrap ((BitVec.ofInt (IntKind.bits .u64) (u64.wrap (r*2^(min (Int.toNat 32) (IntKind.bits .u64)))) ||| BitVec.ofInt (IntKind.bits .u64) (u64.wrap (xs.getD (Int.toNat i) 0))).toNat)) (u64.wrap d)))))) from (lay_limI n4 n3)) a0)))))))) (by kernel_rfl))
theorem Yk153_2 (xs:List Int) (d:Int) (k:Nat) (qs:List Int) (r:Int) (i:Int)  (c1:(decide (i≥0))=false):RunsW Yir Yc153 (Ys153 xs d k qs r i) (.exit 0) (Ys153 xs d k qs r i):=(RunsW.go TWB_holds 400 [.b false] [0,1,6,7,8] (ac c1 a0) (by kernel_rfl))
theorem Yrun153 (xs qs:List Int) (d r i:Int) (k:Nat) (n1:0≤(xs.length:Int)∧(xs.length:Int)≤1048576) (hl2:RunsW Yir (.loop Yc153) ((.val (.sl xs.length (lm xs))::(.val (.int .u32 d)::(dds 4 (.own 1 (Int.toNat (xs.length:Int)) (replA [.int .u32 0] (Int.toNat (xs.length:Int)))::(.val (.int .u64 0)::(.val (.int .i64 (i64.wrap ((xs.length:Int)-1)))::(dds 34 [])))))))) (.exit 0) (Ys153 xs d k qs r i)):Runs Yir 153 [.sl xs.length (lm xs), .int .u32 d] (.tup [.sl k (lm qs), .int .u32 (u32.wrap r)]):=Runs.of_bodyW (fn:=Yi153) (s:=(dds 1 (.val (.int .u32 d)::(dds 2 (.own 1 k (lm qs)::(.val (.int .u32 (u32.wrap r))::(dds 37 []))))))) (ex := .ret) rfl rfl (RunsW.seq (RunsW.go (t:=(vl xs::(.val (.int .u32 d)::(dds 2 (.own 1 0 []::(.val (.int .u32 0)::(dds 37 []))))))) (ex := .norm) TWB_holds 400 [] [0,1,4,5] a0 (by kernel_rfl)) (RunsW.seq (RunsW.go (t:=(vl xs::(.val (.int .u32 d)::(dds 2 (.own 1 0 []::(.val (.int .u32 0)::(.own 1 (Int.toNat (xs.length:Int)) (replA [.int .u32 0] (Int.toNat (xs.length:Int)))::(dds 36 [])))))))) (ex := .norm) TWB_holds 400 [] [0,1,4,5,6] (ac n1 a0) (by kernel_rfl)) (RunsW.seq (RunsW.go (t:=(vl xs::(.val (.int .u32 d)::(dds 2 (.own 1 0 []::(.val (.int .u32 0)::(.own 1 (Int.toNat (xs.length:Int)) (replA [.int .u32 0] (Int.toNat (xs.length:Int)))::(.val (.int .u64 0)::(dds 35 []))))))))) (ex := .norm) TWB_holds 400 [] [0,1,4,5,6,7] a0 (by kernel_rfl)) (RunsW.seq (RunsW.seq (RunsW.go TWB_holds 400 [] [0,1,6,7,8] a0 (by kernel_rfl)) (RunsW.block hl2)) (RunsW.go TWB_holds 400 [] [1,4,5] a0 (by kernel_rfl)))))) (by intro i e;cases e) rfl
def Ys155 (xs:List Int) (s:Int) (k:Nat) (os:List Int) (n:Int) (i:Int):State:=(dds 1 (.val (.int .i64 s)::(dds 3 (.own 1 k (lm os)::(dds 7 (.val (.sl xs.length (lm xs))::(.val (.int .i64 n)::(.val (.int .i64 i)::(dds 26 [])))))))))
theorem Yk155_1 (xs:List Int) (s:Int) (k:Nat) (os:List Int) (n:Int) (i:Int)  (c1:(decide (i<n))=true) (n1:0≤i∧i<(xs.length:Int)) (n2:¬ (u64.wrap s)<0) (n3:0≤i∧i<(k:Int)) (n4:os.length=k) (n5:0≤(i64.wrap (i+1))∧(i64.wrap (i+1))<(k:Int)) (n6:(os.set (Int.toNat i) (u32.wrap ((BitVec.ofInt (IntKind.bits .u32) (os.getD (Int.toNat i) 0) ||| BitVec.ofInt (IntKind.bits .u32) (u32.wrap (u64.wrap ((u64.wrap (xs.getD (Int.toNat i) 0))*2^(min (Int.toNat (u64.wrap s)) (IntKind.bits .u64)))))).toNat))).length=k):RunsW Yir Yc155 (Ys155 xs s k os n i) .norm (Ys155 xs s k ((os.set (Int.toNat i) (u32.wrap ((BitVec.ofInt (IntKind.bits .u32) (os.getD (Int.toNat i) 0) ||| BitVec.ofInt (IntKind.bits .u32) (u32.wrap (u64.wrap ((u64.wrap (xs.getD (Int.toNat i) 0))*2^(min (Int.toNat (u64.wrap s)) (IntKind.bits .u64)))))).toNat))).set (Int.toNat (i64.wrap (i+1))) (u32.wrap (Int.fdiv (u64.wrap ((u64.wrap (xs.getD (Int.toNat i) 0))*2^(min (Int.toNat (u64.wrap s)) (IntKind.bits .u64)))) (2^(min (Int.toNat 32) (IntKind.bits .u64)))))) n (i64.wrap (i+1))):=(RunsW.go TWB_holds 400 [.b true, .v (.int .u32 (xs.getD (Int.toNat i) 0)), .v (.int .u32 (os.getD (Int.toNat i) 0)), .l (lm (os.set (Int.toNat i) (u32.wrap ((BitVec.ofInt (IntKind.bits .u32) (os.getD (Int.toNat i) 0) ||| BitVec.ofInt (IntKind.bits .u32) (u32.wrap (u64.wrap ((u64.wrap (xs.getD (Int.toNat i) 0))*2^(min (Int.toNat (u64.wrap s)) (IntKind.bits .u64)))))).toNat)))), .l (lm ((os.set (Int.toNat i) (u32.wrap ((BitVec.ofInt (IntKind.bits .u32) (os.getD (Int.toNat i) 0) ||| BitVec.ofInt (IntKind.bits .u32) (u32.wrap (u64.wrap ((u64.wrap (xs.getD (Int.toNat i) 0))*2^(min (Int.toNat (u64.wrap s)) (IntKind.bits .u64)))))).toNat))).set (Int.toNat (i64.wrap (i+1))) (u32.wrap (Int.fdiv (u64.wrap ((u64.wrap (xs.getD (Int.toNat i) 0))*2^(min (Int.toNat (u64.wrap s)) (IntKind.bits .u64)))) (2^(min (Int.toNat 32) (IntKind.bits .u64)))))))] [1,5,13,14,15] (ac c1 (ac n1 (ac (take_limI n1) (ac n2 (ac n3 (ac (own_limI n4 n3) (ac n3 (ac (show layA (lm os) (Int.toNat i*1) [.int .u32 (u32.wrap ((BitVec.ofInt (IntKind.bits .u32) (os.getD (Int.toNat i) 0) ||| BitVec.ofInt (IntKind.bits .u32) (u32.wrap (u64.wrap ((u64.wrap (xs.getD (Int.toNat i) 0))*2^(min (Int.toNat (u64.wrap s)) (IntKind.bits .u64)))))).toNat))]=some (lm (os.set (Int.toNat i) (u32.wrap ((BitVec.ofInt (IntKind.bits .u32) (os.getD (Int.toNat i) 0) ||| BitVec.ofInt (IntKind.bits .u32) (u32.wrap (u64.wrap ((u64.wrap (xs.getD (Int.toNat i) 0))*2^(min (Int.toNat (u64.wrap s)) (IntKind.bits .u64)))))).toNat)))) from (lay_limI n4 n3)) (ac (show ¬ (32:Int)<0 from (by decide)) (ac n5 (ac (show layA (lm (os.set (Int.toNat i) (u32.wrap ((BitVec.ofInt (IntKind.bits .u32) (os.getD (Int.toNat i) 0) ||| BitVec.ofInt (IntKind.bits .u32) (u32.wrap (u64.wrap ((u64.wrap (xs.getD (Int.toNat i) 0))*2^(min (Int.toNat (u64.wrap s)) (IntKind.bits .u64)))))).toNat)))) (Int.toNat (i64.wrap (i+1))*1) [.int .u32 (u32.wrap (Int.fdiv (u64.wrap ((u64.wrap (xs.getD (Int.toNat i) 0))*2^(min (Int.toNat (u64.wrap s)) (IntKind.bits .u64)))) (2^(min (Int.toNat 32) (IntKind.bits .u64)))))]=some (lm ((os.set (Int.toNat i) (u32.wrap ((BitVec.ofInt (IntKind.bits .u32) (os.getD (Int.toNat i) 0) ||| BitVec.ofInt (IntKind.bits .u32) (u32.wrap (u64.wrap ((u64.wrap (xs.getD (Int.toNat i) 0))*2^(min (Int.toNat (u64.wrap s)) (IntKind.bits .u64)))))).toNat))).set (Int.toNat (i64.wrap (i+1))) (u32.wrap (Int.fdiv (u64.wrap ((u64.wrap (xs.getD (Int.toNat i) 0))*2^(min (Int.toNat (u64.wrap s)) (IntKind.bits .u64)))) (2^(min (Int.toNat 32) (IntKind.bits .u64))))))) from (lay_limI n6 n5)) a0))))))))))) (by kernel_rfl))
theorem Yk155_2 (xs:List Int) (s:Int) (k:Nat) (os:List Int) (n:Int) (i:Int)  (c1:(decide (i<n))=false):RunsW Yir Yc155 (Ys155 xs s k os n i) (.exit 0) (Ys155 xs s k os n i):=(RunsW.go TWB_holds 400 [.b false] [1,5,13,14,15] (ac c1 a0) (by kernel_rfl))
theorem Yrun155 (xs os:List Int) (s n i:Int) (k:Nat) (n1:0≤(i64.wrap ((xs.length:Int)+1))∧(i64.wrap ((xs.length:Int)+1))≤1048576) (hl2:RunsW Yir (.loop Yc155) ((dds 1 (.val (.int .i64 s)::(dds 3 (.own 1 (Int.toNat (i64.wrap ((xs.length:Int)+1))) (replA [.int .u32 0] (Int.toNat (i64.wrap ((xs.length:Int)+1))))::(dds 7 (.val (.sl xs.length (lm xs))::(.val (.int .i64 (xs.length:Int))::(.val (.int .i64 0)::(dds 26 [])))))))))) (.exit 0) (Ys155 xs s k os n i)):Runs Yir 155 [.sl xs.length (lm xs), .int .i64 s] (.fresh 1 k (lm os)):=Runs.of_bodyW (fn:=Yi155) (s:=(dds 1 (.val (.int .i64 s)::(dds 2 (.own 1 k (lm os)::(dds 37 [])))))) (ex := .ret) rfl rfl (RunsW.seq (RunsW.go (t:=(vl xs::(vi s::(dds 2 (.own 1 0 []::(dds 37 [])))))) (ex := .norm) TWB_holds 400 [] [0,1,4] a0 (by kernel_rfl)) (RunsW.seq (RunsW.go (t:=(vl xs::(vi s::(dds 2 (.own 1 0 []::(.own 1 (Int.toNat (i64.wrap ((xs.length:Int)+1))) (replA [.int .u32 0] (Int.toNat (i64.wrap ((xs.length:Int)+1))))::(dds 36 []))))))) (ex := .norm) TWB_holds 400 [] [0,1,4,5] (ac n1 a0) (by kernel_rfl)) (RunsW.seq (RunsW.seq (RunsW.go TWB_holds 400 [] [1,5,13,14,15] a0 (by kernel_rfl)) (RunsW.block hl2)) (RunsW.go TWB_holds 400 [] [1,4] a0 (by kernel_rfl))))) (by intro i e;cases e) rfl
def Ys147g (k:Nat) (us:List Int) (vs:List Int) (n:Int) (t:Int) (t2:Int) (kq:Nat) (qs:List Int) (s:Int) (j:Int) (g:Int) (r:Int):State:=(dds 4 (.own 1 kq (lm qs)::(dds 3 (.val (.int .i64 s)::(.own 1 k (lm us)::(.val (.sl vs.length (lm vs))::(.val (.int .i64 n)::(dds 1 (.val (.int .u64 t)::(.val (.int .u64 t2)::(.val (.int .i64 j)::(dds 1 (.val (.int .u64 g)::(.val (.int .u64 r)::(dds 263 [])))))))))))))))
theorem Yk147g_1 (k:Nat) (us:List Int) (vs:List Int) (n:Int) (t:Int) (t2:Int) (kq:Nat) (qs:List Int) (s:Int) (j:Int) (g:Int) (r:Int)  (c1:(decide (g≥4294967296))=true) (c2:(decide ((u64.wrap (r+t))≥4294967296))=true):RunsW Yir Yc147g (Ys147g k us vs n t t2 kq qs s j g r) (.exit 2) (Ys147g k us vs n t t2 kq qs s j (u64.wrap (g-1)) (u64.wrap (r+t))):=(RunsW.go TWB_holds 400 [.b true, .b true, .b true] [4,8,9,10,11,13,14,15,17,18] (ac c1 (ac (show true=true from rfl) (ac c2 a0))) (by kernel_rfl))
theorem Yk147g_2 (k:Nat) (us:List Int) (vs:List Int) (n:Int) (t:Int) (t2:Int) (kq:Nat) (qs:List Int) (s:Int) (j:Int) (g:Int) (r:Int)  (c1:(decide (g≥4294967296))=true) (c2:(decide ((u64.wrap (r+t))≥4294967296))=false):RunsW Yir Yc147g (Ys147g k us vs n t t2 kq qs s j g r) .norm (Ys147g k us vs n t t2 kq qs s j (u64.wrap (g-1)) (u64.wrap (r+t))):=(RunsW.go TWB_holds 400 [.b true, .b true, .b false] [4,8,9,10,11,13,14,15,17,18] (ac c1 (ac (show true=true from rfl) (ac c2 a0))) (by kernel_rfl))
theorem Yk147g_3 (k:Nat) (us:List Int) (vs:List Int) (n:Int) (t:Int) (t2:Int) (kq:Nat) (qs:List Int) (s:Int) (j:Int) (g:Int) (r:Int)  (c1:(decide (g≥4294967296))=false) (c2:(decide ((u64.wrap (g*t2))>(u64.wrap ((BitVec.ofInt (IntKind.bits .u64) (u64.wrap (r*2^(min (Int.toNat 32) (IntKind.bits .u64)))) ||| BitVec.ofInt (IntKind.bits .u64) (u64.wrap (us.getD (Int.toNat (i64.wrap ((i64.wrap (j+n))-2))) 0))).toNat))))=true) (c3:(decide ((u64.wrap (r+t))≥4294967296))=true) (n1:0≤(i64.wrap ((i64.wrap (j+n))-2))∧(i64.wrap ((i64.wrap (j+n))-2))<(k:Int)) (n2:us.length=k):RunsW Yir Yc147g (Ys147g k us vs n t t2 kq qs s j g r) (.exit 2) (Ys147g k us vs n t t2 kq qs s j (u64.wrap (g-1)) (u64.wrap (r+t))):=(RunsW.go TWB_holds 400 [.b false, .v (.int .u32 (us.getD (Int.toNat (i64.wrap ((i64.wrap (j+n))-2))) 0)), .b true, .b true] [4,8,9,10,11,13,14,15,17,18] (ac c1 (ac (show ¬ (32:Int)<0 from (by decide)) (ac n1 (ac (own_limI n2 n1) (ac c2 (ac c3 a0)))))) (by kernel_rfl))
theorem Yk147g_4 (k:Nat) (us:List Int) (vs:List Int) (n:Int) (t:Int) (t2:Int) (kq:Nat) (qs:List Int) (s:Int) (j:Int) (g:Int) (r:Int)  (c1:(decide (g≥4294967296))=false) (c2:(decide ((u64.wrap (g*t2))>(u64.wrap ((BitVec.ofInt (IntKind.bits .u64) (u64.wrap (r*2^(min (Int.toNat 32) (IntKind.bits .u64)))) ||| BitVec.ofInt (IntKind.bits .u64) (u64.wrap (us.getD (Int.toNat (i64.wrap ((i64.wrap (j+n))-2))) 0))).toNat))))=true) (c3:(decide ((u64.wrap (r+t))≥4294967296))=false) (n1:0≤(i64.wrap ((i64.wrap (j+n))-2))∧(i64.wrap ((i64.wrap (j+n))-2))<(k:Int)) (n2:us.length=k):RunsW Yir Yc147g (Ys147g k us vs n t t2 kq qs s j g r) .norm (Ys147g k us vs n t t2 kq qs s j (u64.wrap (g-1)) (u64.wrap (r+t))):=(RunsW.go TWB_holds 400 [.b false, .v (.int .u32 (us.getD (Int.toNat (i64.wrap ((i64.wrap (j+n))-2))) 0)), .b true, .b false] [4,8,9,10,11,13,14,15,17,18] (ac c1 (ac (show ¬ (32:Int)<0 from (by decide)) (ac n1 (ac (own_limI n2 n1) (ac c2 (ac c3 a0)))))) (by kernel_rfl))
theorem Yk147g_5 (k:Nat) (us:List Int) (vs:List Int) (n:Int) (t:Int) (t2:Int) (kq:Nat) (qs:List Int) (s:Int) (j:Int) (g:Int) (r:Int)  (c1:(decide (g≥4294967296))=false) (c2:(decide ((u64.wrap (g*t2))>(u64.wrap ((BitVec.ofInt (IntKind.bits .u64) (u64.wrap (r*2^(min (Int.toNat 32) (IntKind.bits .u64)))) ||| BitVec.ofInt (IntKind.bits .u64) (u64.wrap (us.getD (Int.toNat (i64.wrap ((i64.wrap (j+n))-2))) 0))).toNat))))=false) (n1:0≤(i64.wrap ((i64.wrap (j+n))-2))∧(i64.wrap ((i64.wrap (j+n))-2))<(k:Int)) (n2:us.length=k):RunsW Yir Yc147g (Ys147g k us vs n t t2 kq qs s j g r) (.exit 2) (Ys147g k us vs n t t2 kq qs s j g r):=(RunsW.go TWB_holds 400 [.b false, .v (.int .u32 (us.getD (Int.toNat (i64.wrap ((i64.wrap (j+n))-2))) 0)), .b false] [4,8,9,10,11,13,14,15,17,18] (ac c1 (ac (show ¬ (32:Int)<0 from (by decide)) (ac n1 (ac (own_limI n2 n1) (ac c2 a0))))) (by kernel_rfl))
def Ys147m (k:Nat) (us:List Int) (vs:List Int) (n:Int) (t:Int) (t2:Int) (kq:Nat) (qs:List Int) (s:Int) (j:Int) (g:Int) (b:Int) (c:Int) (i:Int):State:=(dds 4 (.own 1 kq (lm qs)::(dds 3 (.val (.int .i64 s)::(.own 1 k (lm us)::(.val (.sl vs.length (lm vs))::(.val (.int .i64 n)::(dds 1 (.val (.int .u64 t)::(.val (.int .u64 t2)::(.val (.int .i64 j)::(dds 1 (.val (.int .u64 g)::(dds 1 (.val (.int .u64 b)::(.val (.int .u64 c)::(.val (.int .i64 i)::(dds 260 []))))))))))))))))))
theorem Yk147m_1 (k:Nat) (us:List Int) (vs:List Int) (n:Int) (t:Int) (t2:Int) (kq:Nat) (qs:List Int) (s:Int) (j:Int) (g:Int) (b:Int) (c:Int) (i:Int)  (c1:(decide (i<n))=true) (n1:0≤i∧i<(vs.length:Int)) (n2:0≤(i64.wrap (i+j))∧(i64.wrap (i+j))<(k:Int)) (n3:us.length=k):RunsW Yir Yc147m (Ys147m k us vs n t t2 kq qs s j g b c i) .norm (Ys147m k (us.set (Int.toNat (i64.wrap (i+j))) (u32.wrap (u64.wrap ((u64.wrap ((u64.wrap (us.getD (Int.toNat (i64.wrap (i+j))) 0))-(u64.wrap (u32.wrap (u64.wrap ((u64.wrap (g*(u64.wrap (vs.getD (Int.toNat i) 0))))+c))))))-b)))) vs n t t2 kq qs s j g (Int.fdiv (u64.wrap ((u64.wrap ((u64.wrap (us.getD (Int.toNat (i64.wrap (i+j))) 0))-(u64.wrap (u32.wrap (u64.wrap ((u64.wrap (g*(u64.wrap (vs.getD (Int.toNat i) 0))))+c))))))-b)) (2^(min (Int.toNat 63) (IntKind.bits .u64)))) (Int.fdiv (u64.wrap ((u64.wrap (g*(u64.wrap (vs.getD (Int.toNat i) 0))))+c)) (2^(min (Int.toNat 32) (IntKind.bits .u64)))) (i64.wrap (i+1))):=(RunsW.go TWB_holds 400 [.b true, .v (.int .u32 (vs.getD (Int.toNat i) 0)), .v (.int .u32 (us.getD (Int.toNat (i64.wrap (i+j))) 0)), .l (lm (us.set (Int.toNat (i64.wrap (i+j))) (u32.wrap (u64.wrap ((u64.wrap ((u64.wrap (us.getD (Int.toNat (i64.wrap (i+j))) 0))-(u64.wrap (u32.wrap (u64.wrap ((u64.wrap (g*(u64.wrap (vs.getD (Int.toNat i) 0))))+c))))))-b)))))] [4,8,9,10,11,13,14,15,17,19,20,21] (ac c1 (ac n1 (ac (take_limI n1) (ac (show ¬ (32:Int)<0 from (by decide)) (ac n2 (ac (own_limI n3 n2) (ac (show ¬ (63:Int)<0 from (by decide)) (ac n2 (ac (show layA (lm us) (Int.toNat (i64.wrap (i+j))*1) [.int .u32 (u32.wrap (u64.wrap ((u64.wrap ((u64.wrap (us.getD (Int.toNat (i64.wrap (i+j))) 0))-(u64.wrap (u32.wrap (u64.wrap ((u64.wrap (g*(u64.wrap (vs.getD (Int.toNat i) 0))))+c))))))-b)))]=some (lm (us.set (Int.toNat (i64.wrap (i+j))) (u32.wrap (u64.wrap ((u64.wrap ((u64.wrap (us.getD (Int.toNat (i64.wrap (i+j))) 0))-(u64.wrap (u32.wrap (u64.wrap ((u64.wrap (g*(u64.wrap (vs.getD (Int.toNat i) 0))))+c))))))-b))))) from (lay_limI n3 n2)) a0))))))))) (by kernel_rfl))
theorem Yk147m_2 (k:Nat) (us:List Int) (vs:List Int) (n:Int) (t:Int) (t2:Int) (kq:Nat) (qs:List Int) (s:Int) (j:Int) (g:Int) (b:Int) (c:Int) (i:Int)  (c1:(decide (i<n))=false):RunsW Yir Yc147m (Ys147m k us vs n t t2 kq qs s j g b c i) (.exit 4) (Ys147m k us vs n t t2 kq qs s j g b c i):=(RunsW.go TWB_holds 400 [.b false] [4,8,9,10,11,13,14,15,17,19,20,21] (ac c1 a0) (by kernel_rfl))
def Ys147a (k:Nat) (us:List Int) (vs:List Int) (n:Int) (t:Int) (t2:Int) (kq:Nat) (qs:List Int) (s:Int) (j:Int) (g:Int) (c:Int) (i:Int):State:=(dds 4 (.own 1 kq (lm qs)::(dds 3 (.val (.int .i64 s)::(.own 1 k (lm us)::(.val (.sl vs.length (lm vs))::(.val (.int .i64 n)::(dds 1 (.val (.int .u64 t)::(.val (.int .u64 t2)::(.val (.int .i64 j)::(dds 1 (.val (.int .u64 g)::(dds 7 (.val (.int .u64 c)::(.val (.int .i64 i)::(dds 255 [])))))))))))))))))
theorem Yk147a_1 (k:Nat) (us:List Int) (vs:List Int) (n:Int) (t:Int) (t2:Int) (kq:Nat) (qs:List Int) (s:Int) (j:Int) (g:Int) (c:Int) (i:Int)  (c1:(decide (i<n))=true) (n1:0≤(i64.wrap (i+j))∧(i64.wrap (i+j))<(k:Int)) (n2:us.length=k) (n3:0≤i∧i<(vs.length:Int)):RunsW Yir Yc147a (Ys147a k us vs n t t2 kq qs s j g c i) .norm (Ys147a k (us.set (Int.toNat (i64.wrap (i+j))) (u32.wrap (u64.wrap ((u64.wrap ((u64.wrap (us.getD (Int.toNat (i64.wrap (i+j))) 0))+(u64.wrap (vs.getD (Int.toNat i) 0))))+c)))) vs n t t2 kq qs s j g (Int.fdiv (u64.wrap ((u64.wrap ((u64.wrap (us.getD (Int.toNat (i64.wrap (i+j))) 0))+(u64.wrap (vs.getD (Int.toNat i) 0))))+c)) (2^(min (Int.toNat 32) (IntKind.bits .u64)))) (i64.wrap (i+1))):=(RunsW.go TWB_holds 400 [.b true, .v (.int .u32 (us.getD (Int.toNat (i64.wrap (i+j))) 0)), .v (.int .u32 (vs.getD (Int.toNat i) 0)), .l (lm (us.set (Int.toNat (i64.wrap (i+j))) (u32.wrap (u64.wrap ((u64.wrap ((u64.wrap (us.getD (Int.toNat (i64.wrap (i+j))) 0))+(u64.wrap (vs.getD (Int.toNat i) 0))))+c)))))] [4,8,9,10,11,13,14,15,17,25,26] (ac c1 (ac n1 (ac (own_limI n2 n1) (ac n3 (ac (take_limI n3) (ac (show ¬ (32:Int)<0 from (by decide)) (ac n1 (ac (show layA (lm us) (Int.toNat (i64.wrap (i+j))*1) [.int .u32 (u32.wrap (u64.wrap ((u64.wrap ((u64.wrap (us.getD (Int.toNat (i64.wrap (i+j))) 0))+(u64.wrap (vs.getD (Int.toNat i) 0))))+c)))]=some (lm (us.set (Int.toNat (i64.wrap (i+j))) (u32.wrap (u64.wrap ((u64.wrap ((u64.wrap (us.getD (Int.toNat (i64.wrap (i+j))) 0))+(u64.wrap (vs.getD (Int.toNat i) 0))))+c))))) from (lay_limI n2 n1)) a0)))))))) (by kernel_rfl))
theorem Yk147a_2 (k:Nat) (us:List Int) (vs:List Int) (n:Int) (t:Int) (t2:Int) (kq:Nat) (qs:List Int) (s:Int) (j:Int) (g:Int) (c:Int) (i:Int)  (c1:(decide (i<n))=false):RunsW Yir Yc147a (Ys147a k us vs n t t2 kq qs s j g c i) (.exit 6) (Ys147a k us vs n t t2 kq qs s j g c i):=(RunsW.go TWB_holds 400 [.b false] [4,8,9,10,11,13,14,15,17,25,26] (ac c1 a0) (by kernel_rfl))
def Ys147 (k:Nat) (us:List Int) (vs:List Int) (n:Int) (t:Int) (t2:Int) (kq:Nat) (qs:List Int) (s:Int) (j:Int):State:=(dds 4 (.own 1 kq (lm qs)::(dds 3 (.val (.int .i64 s)::(.own 1 k (lm us)::(.val (.sl vs.length (lm vs))::(.val (.int .i64 n)::(dds 1 (.val (.int .u64 t)::(.val (.int .u64 t2)::(.val (.int .i64 j)::(dds 266 []))))))))))))
theorem Yk147_1 (k:Nat) (us:List Int) (vs:List Int) (n:Int) (t:Int) (t2:Int) (kq:Nat) (qs:List Int) (s:Int) (j:Int) (us1 us2:List Int) (g r b c cc:Int) (c1:(decide (j≥0))=true) (c2:((Int.fdiv (u64.wrap ((u64.wrap ((u64.wrap (us1.getD (Int.toNat (i64.wrap (j+n))) 0))-c))-b)) (2^(min (Int.toNat 63) (IntKind.bits .u64)))) != 0)=true) (n1:0≤(i64.wrap (j+n))∧(i64.wrap (j+n))<(k:Int)) (n2:us.length=k) (n3:0≤(i64.wrap ((i64.wrap (j+n))-1))∧(i64.wrap ((i64.wrap (j+n))-1))<(k:Int)) (n4:¬ t=0) (hl5:RunsW Yir (.loop Yc147g) (Ys147g k us vs n t t2 kq qs s j (u64.wrap (Int.tdiv (u64.wrap ((BitVec.ofInt (IntKind.bits .u64) (u64.wrap ((u64.wrap (us.getD (Int.toNat (i64.wrap (j+n))) 0))*2^(min (Int.toNat 32) (IntKind.bits .u64)))) ||| BitVec.ofInt (IntKind.bits .u64) (u64.wrap (us.getD (Int.toNat (i64.wrap ((i64.wrap (j+n))-1))) 0))).toNat)) t)) (Int.tmod (u64.wrap ((BitVec.ofInt (IntKind.bits .u64) (u64.wrap ((u64.wrap (us.getD (Int.toNat (i64.wrap (j+n))) 0))*2^(min (Int.toNat 32) (IntKind.bits .u64)))) ||| BitVec.ofInt (IntKind.bits .u64) (u64.wrap (us.getD (Int.toNat (i64.wrap ((i64.wrap (j+n))-1))) 0))).toNat)) t)) (.exit 2) (Ys147g k us vs n t t2 kq qs s j g r)) (hl6:RunsW Yir (.loop Yc147m) (Ys147m k us vs n t t2 kq qs s j g 0 0 0) (.exit 4) (Ys147m k us1 vs n t t2 kq qs s j g b c n)) (n7:us1.length=k) (hl8:RunsW Yir (.loop Yc147a) (Ys147a k (us1.set (Int.toNat (i64.wrap (j+n))) (u32.wrap (u64.wrap ((u64.wrap ((u64.wrap (us1.getD (Int.toNat (i64.wrap (j+n))) 0))-c))-b)))) vs n t t2 kq qs s j (u64.wrap (g-1)) 0 0) (.exit 6) (Ys147a k us2 vs n t t2 kq qs s j (u64.wrap (g-1)) cc n)) (n9:us2.length=k) (n10:0≤j∧j<(kq:Int)) (n11:qs.length=kq):RunsW Yir Yc147 (Ys147 k us vs n t t2 kq qs s j) .norm (Ys147 k (us2.set (Int.toNat (i64.wrap (j+n))) (u32.wrap ((us2.getD (Int.toNat (i64.wrap (j+n))) 0)+(u32.wrap cc)))) vs n t t2 kq (qs.set (Int.toNat j) (u32.wrap (u64.wrap (g-1)))) s (i64.wrap (j-1))):=(RunsW.seq (RunsW.go (t:=(dds 4 (.own 1 kq (lm qs)::(dds 3 (vi s::(.own 1 k (lm us)::(vl vs::(vi n::(dds 1 (.val (.int .u64 t)::(.val (.int .u64 t2)::(vi j::(dds 266 []))))))))))))) (ex := .norm) TWB_holds 400 [.b true] [4,8,9,10,11,13,14,15] (ac c1 a0) (by kernel_rfl)) (RunsW.seq (RunsW.block_norm (RunsW.seq (RunsW.go (t:=(dds 4 (.own 1 kq (lm qs)::(dds 3 (vi s::(.own 1 k (lm us)::(vl vs::(vi n::(dds 1 (.val (.int .u64 t)::(.val (.int .u64 t2)::(vi j::(.val (.int .u64 (u64.wrap ((BitVec.ofInt (IntKind.bits .u64) (u64.wrap ((u64.wrap (us.getD (Int.toNat (i64.wrap (j+n))) 0))*2^(min (Int.toNat 32) (IntKind.bits .u64)))) ||| BitVec.ofInt (IntKind.bits .u64) (u64.wrap (us.getD (Int.toNat (i64.wrap ((i64.wrap (j+n))-1))) 0))).toNat)))::(dds 265 [])))))))))))))) (ex := .norm) TWB_holds 400 [.v (.int .u32 (us.getD (Int.toNat (i64.wrap (j+n))) 0)), .v (.int .u32 (us.getD (Int.toNat (i64.wrap ((i64.wrap (j+n))-1))) 0))] [4,8,9,10,11,13,14,15,16] (ac n1 (ac (own_limI n2 n1) (ac (show ¬ (32:Int)<0 from (by decide)) (ac n3 (ac (own_limI n2 n3) a0))))) (by kernel_rfl)) (RunsW.seq (RunsW.go TWB_holds 400 [] [4,8,9,10,11,13,14,15,17,18] (ac n4 (ac n4 a0)) (by kernel_rfl)) (RunsW.seq (RunsW.block hl5) (RunsW.seq (RunsW.go (t:=(dds 4 (.own 1 kq (lm qs)::(dds 3 (vi s::(.own 1 k (lm us)::(vl vs::(vi n::(dds 1 (.val (.int .u64 t)::(.val (.int .u64 t2)::(vi j::(dds 1 (.val (.int .u64 g)::(dds 1 (.val (.int .u64 0)::(.val (.int .u64 0)::(dds 261 [])))))))))))))))))) (ex := .norm) TWB_holds 400 [] [4,8,9,10,11,13,14,15,17,19,20] a0 (by kernel_rfl)) (RunsW.seq (RunsW.seq (RunsW.go TWB_holds 400 [] [4,8,9,10,11,13,14,15,17,19,20,21] a0 (by kernel_rfl)) (RunsW.block hl6)) (RunsW.seq (RunsW.go (t:=(dds 4 (.own 1 kq (lm qs)::(dds 3 (vi s::(.own 1 k (lm us1)::(vl vs::(vi n::(dds 1 (.val (.int .u64 t)::(.val (.int .u64 t2)::(vi j::(dds 1 (.val (.int .u64 g)::(dds 6 (.val (.int .u64 (u64.wrap ((u64.wrap ((u64.wrap (us1.getD (Int.toNat (i64.wrap (j+n))) 0))-c))-b)))::(dds 257 []))))))))))))))))) (ex := .norm) TWB_holds 400 [.v (.int .u32 (us1.getD (Int.toNat (i64.wrap (j+n))) 0))] [4,8,9,10,11,13,14,15,17,24] (ac n1 (ac (own_limI n7 n1) a0)) (by kernel_rfl)) (RunsW.seq (RunsW.go (t:=(dds 4 (.own 1 kq (lm qs)::(dds 3 (vi s::(.own 1 k (lm (us1.set (Int.toNat (i64.wrap (j+n))) (u32.wrap (u64.wrap ((u64.wrap ((u64.wrap (us1.getD (Int.toNat (i64.wrap (j+n))) 0))-c))-b)))))::(vl vs::(vi n::(dds 1 (.val (.int .u64 t)::(.val (.int .u64 t2)::(vi j::(dds 1 (.val (.int .u64 g)::(dds 6 (.val (.int .u64 (u64.wrap ((u64.wrap ((u64.wrap (us1.getD (Int.toNat (i64.wrap (j+n))) 0))-c))-b)))::(dds 257 []))))))))))))))))) (ex := .norm) TWB_holds 400 [.l (lm (us1.set (Int.toNat (i64.wrap (j+n))) (u32.wrap (u64.wrap ((u64.wrap ((u64.wrap (us1.getD (Int.toNat (i64.wrap (j+n))) 0))-c))-b)))))] [4,8,9,10,11,13,14,15,17,24] (ac n1 (ac (show layA (lm us1) (Int.toNat (i64.wrap (j+n))*1) [.int .u32 (u32.wrap (u64.wrap ((u64.wrap ((u64.wrap (us1.getD (Int.toNat (i64.wrap (j+n))) 0))-c))-b)))]=some (lm (us1.set (Int.toNat (i64.wrap (j+n))) (u32.wrap (u64.wrap ((u64.wrap ((u64.wrap (us1.getD (Int.toNat (i64.wrap (j+n))) 0))-c))-b))))) from (lay_limI n7 n1)) a0)) (by kernel_rfl)) (RunsW.seq (RunsW.seq (RunsW.go (t:=(dds 4 (.own 1 kq (lm qs)::(dds 3 (vi s::(.own 1 k (lm (us1.set (Int.toNat (i64.wrap (j+n))) (u32.wrap (u64.wrap ((u64.wrap ((u64.wrap (us1.getD (Int.toNat (i64.wrap (j+n))) 0))-c))-b)))))::(vl vs::(vi n::(dds 1 (.val (.int .u64 t)::(.val (.int .u64 t2)::(vi j::(dds 1 (.val (.int .u64 g)::(dds 181 (.val (.bool ((Int.fdiv (u64.wrap ((u64.wrap ((u64.wrap (us1.getD (Int.toNat (i64.wrap (j+n))) 0))-c))-b)) (2^(min (Int.toNat 63) (IntKind.bits .u64)))) != 0))::(dds 82 []))))))))))))))))) (ex := .norm) TWB_holds 400 [] [4,8,9,10,11,13,14,15,17,199] (ac (show ¬ (63:Int)<0 from (by decide)) a0) (by kernel_rfl)) (RunsW.cond_t (by rfl) c2 (RunsW.seq (RunsW.go (t:=(dds 4 (.own 1 kq (lm qs)::(dds 3 (vi s::(.own 1 k (lm (us1.set (Int.toNat (i64.wrap (j+n))) (u32.wrap (u64.wrap ((u64.wrap ((u64.wrap (us1.getD (Int.toNat (i64.wrap (j+n))) 0))-c))-b)))))::(vl vs::(vi n::(dds 1 (.val (.int .u64 t)::(.val (.int .u64 t2)::(vi j::(dds 1 (.val (.int .u64 (u64.wrap (g-1)))::(dds 264 []))))))))))))))) (ex := .norm) TWB_holds 400 [] [4,8,9,10,11,13,14,15,17] a0 (by kernel_rfl)) (RunsW.seq (RunsW.go (t:=(dds 4 (.own 1 kq (lm qs)::(dds 3 (vi s::(.own 1 k (lm (us1.set (Int.toNat (i64.wrap (j+n))) (u32.wrap (u64.wrap ((u64.wrap ((u64.wrap (us1.getD (Int.toNat (i64.wrap (j+n))) 0))-c))-b)))))::(vl vs::(vi n::(dds 1 (.val (.int .u64 t)::(.val (.int .u64 t2)::(vi j::(dds 1 (.val (.int .u64 (u64.wrap (g-1)))::(dds 7 (.val (.int .u64 0)::(dds 256 []))))))))))))))))) (ex := .norm) TWB_holds 400 [] [4,8,9,10,11,13,14,15,17,25] a0 (by kernel_rfl)) (RunsW.seq (RunsW.seq (RunsW.go TWB_holds 400 [] [4,8,9,10,11,13,14,15,17,25,26] a0 (by kernel_rfl)) (RunsW.block hl8)) (RunsW.go (t:=(dds 4 (.own 1 kq (lm qs)::(dds 3 (vi s::(.own 1 k (lm (us2.set (Int.toNat (i64.wrap (j+n))) (u32.wrap ((us2.getD (Int.toNat (i64.wrap (j+n))) 0)+(u32.wrap cc)))))::(vl vs::(vi n::(dds 1 (.val (.int .u64 t)::(.val (.int .u64 t2)::(vi j::(dds 1 (.val (.int .u64 (u64.wrap (g-1)))::(dds 264 []))))))))))))))) (ex := .norm) TWB_holds 400 [.v (.int .u32 (us2.getD (Int.toNat (i64.wrap (j+n))) 0)), .l (lm (us2.set (Int.toNat (i64.wrap (j+n))) (u32.wrap ((us2.getD (Int.toNat (i64.wrap (j+n))) 0)+(u32.wrap cc)))))] [4,8,9,10,11,13,14,15,17] (ac n1 (ac (own_limI n9 n1) (ac n1 (ac (show layA (lm us2) (Int.toNat (i64.wrap (j+n))*1) [.int .u32 (u32.wrap ((us2.getD (Int.toNat (i64.wrap (j+n))) 0)+(u32.wrap cc)))]=some (lm (us2.set (Int.toNat (i64.wrap (j+n))) (u32.wrap ((us2.getD (Int.toNat (i64.wrap (j+n))) 0)+(u32.wrap cc))))) from (lay_limI n9 n1)) a0)))) (by kernel_rfl))))))) (RunsW.go (t:=(dds 4 (.own 1 kq (lm (qs.set (Int.toNat j) (u32.wrap (u64.wrap (g-1)))))::(dds 3 (vi s::(.own 1 k (lm (us2.set (Int.toNat (i64.wrap (j+n))) (u32.wrap ((us2.getD (Int.toNat (i64.wrap (j+n))) 0)+(u32.wrap cc)))))::(vl vs::(vi n::(dds 1 (.val (.int .u64 t)::(.val (.int .u64 t2)::(vi j::(dds 266 []))))))))))))) (ex := .norm) TWB_holds 400 [.l (lm (qs.set (Int.toNat j) (u32.wrap (u64.wrap (g-1)))))] [4,8,9,10,11,13,14,15] (ac n10 (ac (show layA (lm qs) (Int.toNat j*1) [.int .u32 (u32.wrap (u64.wrap (g-1)))]=some (lm (qs.set (Int.toNat j) (u32.wrap (u64.wrap (g-1))))) from (lay_limI n11 n10)) a0)) (by kernel_rfl))))))))))) (RunsW.go TWB_holds 400 [] [4,8,9,10,11,13,14,15] a0 (by kernel_rfl))))
theorem Yk147_2 (k:Nat) (us:List Int) (vs:List Int) (n:Int) (t:Int) (t2:Int) (kq:Nat) (qs:List Int) (s:Int) (j:Int) (us1:List Int) (g r b c:Int) (c1:(decide (j≥0))=true) (c2:((Int.fdiv (u64.wrap ((u64.wrap ((u64.wrap (us1.getD (Int.toNat (i64.wrap (j+n))) 0))-c))-b)) (2^(min (Int.toNat 63) (IntKind.bits .u64)))) != 0)=false) (n1:0≤(i64.wrap (j+n))∧(i64.wrap (j+n))<(k:Int)) (n2:us.length=k) (n3:0≤(i64.wrap ((i64.wrap (j+n))-1))∧(i64.wrap ((i64.wrap (j+n))-1))<(k:Int)) (n4:¬ t=0) (hl5:RunsW Yir (.loop Yc147g) (Ys147g k us vs n t t2 kq qs s j (u64.wrap (Int.tdiv (u64.wrap ((BitVec.ofInt (IntKind.bits .u64) (u64.wrap ((u64.wrap (us.getD (Int.toNat (i64.wrap (j+n))) 0))*2^(min (Int.toNat 32) (IntKind.bits .u64)))) ||| BitVec.ofInt (IntKind.bits .u64) (u64.wrap (us.getD (Int.toNat (i64.wrap ((i64.wrap (j+n))-1))) 0))).toNat)) t)) (Int.tmod (u64.wrap ((BitVec.ofInt (IntKind.bits .u64) (u64.wrap ((u64.wrap (us.getD (Int.toNat (i64.wrap (j+n))) 0))*2^(min (Int.toNat 32) (IntKind.bits .u64)))) ||| BitVec.ofInt (IntKind.bits .u64) (u64.wrap (us.getD (Int.toNat (i64.wrap ((i64.wrap (j+n))-1))) 0))).toNat)) t)) (.exit 2) (Ys147g k us vs n t t2 kq qs s j g r)) (hl6:RunsW Yir (.loop Yc147m) (Ys147m k us vs n t t2 kq qs s j g 0 0 0) (.exit 4) (Ys147m k us1 vs n t t2 kq qs s j g b c n)) (n7:us1.length=k) (n8:0≤j∧j<(kq:Int)) (n9:qs.length=kq):RunsW Yir Yc147 (Ys147 k us vs n t t2 kq qs s j) .norm (Ys147 k (us1.set (Int.toNat (i64.wrap (j+n))) (u32.wrap (u64.wrap ((u64.wrap ((u64.wrap (us1.getD (Int.toNat (i64.wrap (j+n))) 0))-c))-b)))) vs n t t2 kq (qs.set (Int.toNat j) (u32.wrap g)) s (i64.wrap (j-1))):=(RunsW.seq (RunsW.go (t:=(dds 4 (.own 1 kq (lm qs)::(dds 3 (vi s::(.own 1 k (lm us)::(vl vs::(vi n::(dds 1 (.val (.int .u64 t)::(.val (.int .u64 t2)::(vi j::(dds 266 []))))))))))))) (ex := .norm) TWB_holds 400 [.b true] [4,8,9,10,11,13,14,15] (ac c1 a0) (by kernel_rfl)) (RunsW.seq (RunsW.block_norm (RunsW.seq (RunsW.go (t:=(dds 4 (.own 1 kq (lm qs)::(dds 3 (vi s::(.own 1 k (lm us)::(vl vs::(vi n::(dds 1 (.val (.int .u64 t)::(.val (.int .u64 t2)::(vi j::(.val (.int .u64 (u64.wrap ((BitVec.ofInt (IntKind.bits .u64) (u64.wrap ((u64.wrap (us.getD (Int.toNat (i64.wrap (j+n))) 0))*2^(min (Int.toNat 32) (IntKind.bits .u64)))) ||| BitVec.ofInt (IntKind.bits .u64) (u64.wrap (us.getD (Int.toNat (i64.wrap ((i64.wrap (j+n))-1))) 0))).toNat)))::(dds 265 [])))))))))))))) (ex := .norm) TWB_holds 400 [.v (.int .u32 (us.getD (Int.toNat (i64.wrap (j+n))) 0)), .v (.int .u32 (us.getD (Int.toNat (i64.wrap ((i64.wrap (j+n))-1))) 0))] [4,8,9,10,11,13,14,15,16] (ac n1 (ac (own_limI n2 n1) (ac (show ¬ (32:Int)<0 from (by decide)) (ac n3 (ac (own_limI n2 n3) a0))))) (by kernel_rfl)) (RunsW.seq (RunsW.go TWB_holds 400 [] [4,8,9,10,11,13,14,15,17,18] (ac n4 (ac n4 a0)) (by kernel_rfl)) (RunsW.seq (RunsW.block hl5) (RunsW.seq (RunsW.go (t:=(dds 4 (.own 1 kq (lm qs)::(dds 3 (vi s::(.own 1 k (lm us)::(vl vs::(vi n::(dds 1 (.val (.int .u64 t)::(.val (.int .u64 t2)::(vi j::(dds 1 (.val (.int .u64 g)::(dds 1 (.val (.int .u64 0)::(.val (.int .u64 0)::(dds 261 [])))))))))))))))))) (ex := .norm) TWB_holds 400 [] [4,8,9,10,11,13,14,15,17,19,20] a0 (by kernel_rfl)) (RunsW.seq (RunsW.seq (RunsW.go TWB_holds 400 [] [4,8,9,10,11,13,14,15,17,19,20,21] a0 (by kernel_rfl)) (RunsW.block hl6)) (RunsW.seq (RunsW.go (t:=(dds 4 (.own 1 kq (lm qs)::(dds 3 (vi s::(.own 1 k (lm us1)::(vl vs::(vi n::(dds 1 (.val (.int .u64 t)::(.val (.int .u64 t2)::(vi j::(dds 1 (.val (.int .u64 g)::(dds 6 (.val (.int .u64 (u64.wrap ((u64.wrap ((u64.wrap (us1.getD (Int.toNat (i64.wrap (j+n))) 0))-c))-b)))::(dds 257 []))))))))))))))))) (ex := .norm) TWB_holds 400 [.v (.int .u32 (us1.getD (Int.toNat (i64.wrap (j+n))) 0))] [4,8,9,10,11,13,14,15,17,24] (ac n1 (ac (own_limI n7 n1) a0)) (by kernel_rfl)) (RunsW.seq (RunsW.go (t:=(dds 4 (.own 1 kq (lm qs)::(dds 3 (vi s::(.own 1 k (lm (us1.set (Int.toNat (i64.wrap (j+n))) (u32.wrap (u64.wrap ((u64.wrap ((u64.wrap (us1.getD (Int.toNat (i64.wrap (j+n))) 0))-c))-b)))))::(vl vs::(vi n::(dds 1 (.val (.int .u64 t)::(.val (.int .u64 t2)::(vi j::(dds 1 (.val (.int .u64 g)::(dds 6 (.val (.int .u64 (u64.wrap ((u64.wrap ((u64.wrap (us1.getD (Int.toNat (i64.wrap (j+n))) 0))-c))-b)))::(dds 257 []))))))))))))))))) (ex := .norm) TWB_holds 400 [.l (lm (us1.set (Int.toNat (i64.wrap (j+n))) (u32.wrap (u64.wrap ((u64.wrap ((u64.wrap (us1.getD (Int.toNat (i64.wrap (j+n))) 0))-c))-b)))))] [4,8,9,10,11,13,14,15,17,24] (ac n1 (ac (show layA (lm us1) (Int.toNat (i64.wrap (j+n))*1) [.int .u32 (u32.wrap (u64.wrap ((u64.wrap ((u64.wrap (us1.getD (Int.toNat (i64.wrap (j+n))) 0))-c))-b)))]=some (lm (us1.set (Int.toNat (i64.wrap (j+n))) (u32.wrap (u64.wrap ((u64.wrap ((u64.wrap (us1.getD (Int.toNat (i64.wrap (j+n))) 0))-c))-b))))) from (lay_limI n7 n1)) a0)) (by kernel_rfl)) (RunsW.seq (RunsW.seq (RunsW.go (t:=(dds 4 (.own 1 kq (lm qs)::(dds 3 (vi s::(.own 1 k (lm (us1.set (Int.toNat (i64.wrap (j+n))) (u32.wrap (u64.wrap ((u64.wrap ((u64.wrap (us1.getD (Int.toNat (i64.wrap (j+n))) 0))-c))-b)))))::(vl vs::(vi n::(dds 1 (.val (.int .u64 t)::(.val (.int .u64 t2)::(vi j::(dds 1 (.val (.int .u64 g)::(dds 181 (.val (.bool ((Int.fdiv (u64.wrap ((u64.wrap ((u64.wrap (us1.getD (Int.toNat (i64.wrap (j+n))) 0))-c))-b)) (2^(min (Int.toNat 63) (IntKind.bits .u64)))) != 0))::(dds 82 []))))))))))))))))) (ex := .norm) TWB_holds 400 [] [4,8,9,10,11,13,14,15,17,199] (ac (show ¬ (63:Int)<0 from (by decide)) a0) (by kernel_rfl)) (RunsW.cond_f (by rfl) c2 (RunsW.go (t:=(dds 4 (.own 1 kq (lm qs)::(dds 3 (vi s::(.own 1 k (lm (us1.set (Int.toNat (i64.wrap (j+n))) (u32.wrap (u64.wrap ((u64.wrap ((u64.wrap (us1.getD (Int.toNat (i64.wrap (j+n))) 0))-c))-b)))))::(vl vs::(vi n::(dds 1 (.val (.int .u64 t)::(.val (.int .u64 t2)::(vi j::(dds 1 (.val (.int .u64 g)::(dds 264 []))))))))))))))) (ex := .norm) TWB_holds 400 [] [4,8,9,10,11,13,14,15,17] a0 (by kernel_rfl)))) (RunsW.go (t:=(dds 4 (.own 1 kq (lm (qs.set (Int.toNat j) (u32.wrap g)))::(dds 3 (vi s::(.own 1 k (lm (us1.set (Int.toNat (i64.wrap (j+n))) (u32.wrap (u64.wrap ((u64.wrap ((u64.wrap (us1.getD (Int.toNat (i64.wrap (j+n))) 0))-c))-b)))))::(vl vs::(vi n::(dds 1 (.val (.int .u64 t)::(.val (.int .u64 t2)::(vi j::(dds 266 []))))))))))))) (ex := .norm) TWB_holds 400 [.l (lm (qs.set (Int.toNat j) (u32.wrap g)))] [4,8,9,10,11,13,14,15] (ac n8 (ac (show layA (lm qs) (Int.toNat j*1) [.int .u32 (u32.wrap g)]=some (lm (qs.set (Int.toNat j) (u32.wrap g))) from (lay_limI n9 n8)) a0)) (by kernel_rfl))))))))))) (RunsW.go TWB_holds 400 [] [4,8,9,10,11,13,14,15] a0 (by kernel_rfl))))
theorem Yk147_3 (k:Nat) (us:List Int) (vs:List Int) (n:Int) (t:Int) (t2:Int) (kq:Nat) (qs:List Int) (s:Int) (j:Int)  (c1:(decide (j≥0))=false):RunsW Yir Yc147 (Ys147 k us vs n t t2 kq qs s j) (.exit 0) (Ys147 k us vs n t t2 kq qs s j):=(RunsW.seq_out (RunsW.go TWB_holds 400 [.b false] [4,8,9,10,11,13,14,15] (ac c1 a0) (by kernel_rfl)) (by intro e;cases e))
def Ys147r (k:Nat) (us:List Int) (n:Int) (kq:Nat) (qs:List Int) (kr:Nat) (rs:List Int) (s:Int) (i:Int):State:=(dds 4 (.own 1 kq (lm qs)::(.own 1 kr (lm rs)::(dds 2 (.val (.int .i64 s)::(.own 1 k (lm us)::(dds 1 (.val (.int .i64 n)::(dds 16 (.val (.int .i64 i)::(dds 253 [])))))))))))
theorem Yk147r_1 (k:Nat) (us:List Int) (n:Int) (kq:Nat) (qs:List Int) (kr:Nat) (rs:List Int) (s:Int) (i:Int)  (c1:(decide (i<n))=true) (c2:(decide (s>0))=true) (n1:0≤i∧i<(k:Int)) (n2:us.length=k) (n3:¬ (u64.wrap s)<0) (n4:0≤i∧i<(kr:Int)) (n5:rs.length=kr) (n6:(rs.set (Int.toNat i) (Int.fdiv (us.getD (Int.toNat i) 0) (2^(min (Int.toNat (u64.wrap s)) (IntKind.bits .u32))))).length=kr) (n7:0≤(i64.wrap (i+1))∧(i64.wrap (i+1))<(k:Int)) (n8:¬ (u64.wrap (i64.wrap (32-s)))<0):RunsW Yir Yc147r (Ys147r k us n kq qs kr rs s i) .norm (Ys147r k us n kq qs kr ((rs.set (Int.toNat i) (Int.fdiv (us.getD (Int.toNat i) 0) (2^(min (Int.toNat (u64.wrap s)) (IntKind.bits .u32))))).set (Int.toNat i) (u32.wrap ((BitVec.ofInt (IntKind.bits .u32) ((rs.set (Int.toNat i) (Int.fdiv (us.getD (Int.toNat i) 0) (2^(min (Int.toNat (u64.wrap s)) (IntKind.bits .u32))))).getD (Int.toNat i) 0) ||| BitVec.ofInt (IntKind.bits .u32) (u32.wrap ((us.getD (Int.toNat (i64.wrap (i+1))) 0)*2^(min (Int.toNat (u64.wrap (i64.wrap (32-s)))) (IntKind.bits .u32))))).toNat))) s (i64.wrap (i+1))):=(RunsW.go TWB_holds 400 [.b true, .v (.int .u32 (us.getD (Int.toNat i) 0)), .l (lm (rs.set (Int.toNat i) (Int.fdiv (us.getD (Int.toNat i) 0) (2^(min (Int.toNat (u64.wrap s)) (IntKind.bits .u32)))))), .b true, .v (.int .u32 ((rs.set (Int.toNat i) (Int.fdiv (us.getD (Int.toNat i) 0) (2^(min (Int.toNat (u64.wrap s)) (IntKind.bits .u32))))).getD (Int.toNat i) 0)), .v (.int .u32 (us.getD (Int.toNat (i64.wrap (i+1))) 0)), .l (lm ((rs.set (Int.toNat i) (Int.fdiv (us.getD (Int.toNat i) 0) (2^(min (Int.toNat (u64.wrap s)) (IntKind.bits .u32))))).set (Int.toNat i) (u32.wrap ((BitVec.ofInt (IntKind.bits .u32) ((rs.set (Int.toNat i) (Int.fdiv (us.getD (Int.toNat i) 0) (2^(min (Int.toNat (u64.wrap s)) (IntKind.bits .u32))))).getD (Int.toNat i) 0) ||| BitVec.ofInt (IntKind.bits .u32) (u32.wrap ((us.getD (Int.toNat (i64.wrap (i+1))) 0)*2^(min (Int.toNat (u64.wrap (i64.wrap (32-s)))) (IntKind.bits .u32))))).toNat))))] [4,5,8,9,11,28] (ac c1 (ac n1 (ac (own_limI n2 n1) (ac n3 (ac n4 (ac (show layA (lm rs) (Int.toNat i*1) [.int .u32 (Int.fdiv (us.getD (Int.toNat i) 0) (2^(min (Int.toNat (u64.wrap s)) (IntKind.bits .u32))))]=some (lm (rs.set (Int.toNat i) (Int.fdiv (us.getD (Int.toNat i) 0) (2^(min (Int.toNat (u64.wrap s)) (IntKind.bits .u32)))))) from (lay_limI n5 n4)) (ac c2 (ac n4 (ac (own_limI n6 n4) (ac n7 (ac (own_limI n2 n7) (ac n8 (ac n4 (ac (show layA (lm (rs.set (Int.toNat i) (Int.fdiv (us.getD (Int.toNat i) 0) (2^(min (Int.toNat (u64.wrap s)) (IntKind.bits .u32)))))) (Int.toNat i*1) [.int .u32 (u32.wrap ((BitVec.ofInt (IntKind.bits .u32) ((rs.set (Int.toNat i) (Int.fdiv (us.getD (Int.toNat i) 0) (2^(min (Int.toNat (u64.wrap s)) (IntKind.bits .u32))))).getD (Int.toNat i) 0) ||| BitVec.ofInt (IntKind.bits .u32) (u32.wrap ((us.getD (Int.toNat (i64.wrap (i+1))) 0)*2^(min (Int.toNat (u64.wrap (i64.wrap (32-s)))) (IntKind.bits .u32))))).toNat))]=some (lm ((rs.set (Int.toNat i) (Int.fdiv (us.getD (Int.toNat i) 0) (2^(min (Int.toNat (u64.wrap s)) (IntKind.bits .u32))))).set (Int.toNat i) (u32.wrap ((BitVec.ofInt (IntKind.bits .u32) ((rs.set (Int.toNat i) (Int.fdiv (us.getD (Int.toNat i) 0) (2^(min (Int.toNat (u64.wrap s)) (IntKind.bits .u32))))).getD (Int.toNat i) 0) ||| BitVec.ofInt (IntKind.bits .u32) (u32.wrap ((us.getD (Int.toNat (i64.wrap (i+1))) 0)*2^(min (Int.toNat (u64.wrap (i64.wrap (32-s)))) (IntKind.bits .u32))))).toNat)))) from (lay_limI n6 n4)) a0)))))))))))))) (by kernel_rfl))
theorem Yk147r_2 (k:Nat) (us:List Int) (n:Int) (kq:Nat) (qs:List Int) (kr:Nat) (rs:List Int) (s:Int) (i:Int)  (c1:(decide (i<n))=true) (c2:(decide (s>0))=false) (n1:0≤i∧i<(k:Int)) (n2:us.length=k) (n3:¬ (u64.wrap s)<0) (n4:0≤i∧i<(kr:Int)) (n5:rs.length=kr):RunsW Yir Yc147r (Ys147r k us n kq qs kr rs s i) .norm (Ys147r k us n kq qs kr (rs.set (Int.toNat i) (Int.fdiv (us.getD (Int.toNat i) 0) (2^(min (Int.toNat (u64.wrap s)) (IntKind.bits .u32))))) s (i64.wrap (i+1))):=(RunsW.go TWB_holds 400 [.b true, .v (.int .u32 (us.getD (Int.toNat i) 0)), .l (lm (rs.set (Int.toNat i) (Int.fdiv (us.getD (Int.toNat i) 0) (2^(min (Int.toNat (u64.wrap s)) (IntKind.bits .u32)))))), .b false] [4,5,8,9,11,28] (ac c1 (ac n1 (ac (own_limI n2 n1) (ac n3 (ac n4 (ac (show layA (lm rs) (Int.toNat i*1) [.int .u32 (Int.fdiv (us.getD (Int.toNat i) 0) (2^(min (Int.toNat (u64.wrap s)) (IntKind.bits .u32))))]=some (lm (rs.set (Int.toNat i) (Int.fdiv (us.getD (Int.toNat i) 0) (2^(min (Int.toNat (u64.wrap s)) (IntKind.bits .u32)))))) from (lay_limI n5 n4)) (ac c2 a0))))))) (by kernel_rfl))
theorem Yk147r_3 (k:Nat) (us:List Int) (n:Int) (kq:Nat) (qs:List Int) (kr:Nat) (rs:List Int) (s:Int) (i:Int)  (c1:(decide (i<n))=false):RunsW Yir Yc147r (Ys147r k us n kq qs kr rs s i) (.exit 8) (Ys147r k us n kq qs kr rs s i):=(RunsW.go TWB_holds 400 [.b false] [4,5,8,9,11,28] (ac c1 a0) (by kernel_rfl))
theorem Yrun147_1 (xs ys:List Int) (cm:Int) (c1:(decide (cm<0))=true) (n1:List.length (lm xs)=xs.length*1) (n2:xs.length≤1048576) (n3:Runs Yir 150 [.sl xs.length (lm xs), .sl ys.length (lm ys)] (.int .i64 cm)):Runs Yir 147 [.sl xs.length (lm xs), .sl ys.length (lm ys)] (.tup [.sl 0 [], .sl xs.length (lm xs)]):=Runs.of_bodyW (fn:=Yi147) (s:=(dds 1 (.val (.sl ys.length (lm ys))::(dds 2 (.own 1 0 []::(.own 1 xs.length (lm xs)::(dds 276 []))))))) (ex := .ret) rfl rfl (RunsW.seq (RunsW.go (t:=(vl xs::(vl ys::(dds 2 (.own 1 0 []::(.own 1 0 []::(dds 276 []))))))) (ex := .norm) TWB_holds 400 [] [0,1,4,5] a0 (by kernel_rfl)) (RunsW.seq_out (RunsW.go TWB_holds 400 [.r (.int .i64 cm), .b true] [1,4,5] (ac n3 (ac c1 (ac n1 (ac n2 a0)))) (by kernel_rfl)) (by intro e;cases e))) (by intro i e;cases e) rfl
theorem Yrun147_2 (xs ys zs:List Int) (cm rr:Int) (c1:(decide (cm<0))=false) (c2:((ys.length:Int)==1)=true) (n1:Runs Yir 150 [.sl xs.length (lm xs), .sl ys.length (lm ys)] (.int .i64 cm)) (n2:0≤(0:Int)∧(0:Int)<(ys.length:Int)) (n3:Runs Yir 153 [.sl xs.length (lm xs), .int .u32 (ys.getD (Int.toNat 0) 0)] (.tup [.sl zs.length (lm zs), .int .u32 rr])):Runs Yir 147 [.sl xs.length (lm xs), .sl ys.length (lm ys)] (.tup [.sl zs.length (lm zs), .sl 1 [.int .u32 rr]]):=Runs.of_bodyW (fn:=Yi147) (s:=(dds 1 (.val (.sl ys.length (lm ys))::(dds 2 (.val (.sl zs.length (lm zs))::(.own 1 1 [.int .u32 rr]::(dds 276 []))))))) (ex := .ret) rfl rfl (RunsW.seq (RunsW.go (t:=(vl xs::(vl ys::(dds 2 (.own 1 0 []::(.own 1 0 []::(dds 276 []))))))) (ex := .norm) TWB_holds 400 [] [0,1,4,5] a0 (by kernel_rfl)) (RunsW.seq (RunsW.go (t:=(vl xs::(vl ys::(dds 2 (.own 1 0 []::(.own 1 0 []::(dds 26 (.val (.bool (decide (cm<0)))::(dds 249 []))))))))) (ex := .norm) TWB_holds 400 [.r (.int .i64 cm), .b false] [0,1,4,5,32] (ac n1 (ac c1 a0)) (by kernel_rfl)) (RunsW.seq_out (RunsW.go TWB_holds 400 [.b true, .v (.int .u32 (ys.getD (Int.toNat 0) 0)), .r (.tup [.sl zs.length (lm zs), .int .u32 rr])] [1,4,5] (ac c2 (ac n2 (ac (take_limI n2) (ac n3 a0)))) (by kernel_rfl)) (by intro e;cases e)))) (by intro i e;cases e) rfl
theorem Yrun147_3 (xs ys us ws us1 vs qs rs:List Int) (cm s n t t2 j:Int) (k kq kr:Nat) (c1:(decide (cm<0))=false) (c2:((ys.length:Int)==1)=false) (n1:Runs Yir 150 [.sl xs.length (lm xs), .sl ys.length (lm ys)] (.int .i64 cm)) (n2:0≤(i64.wrap ((ys.length:Int)-1))∧(i64.wrap ((ys.length:Int)-1))<(ys.length:Int)) (n3:Runs Yir 154 [.int .u32 (ys.getD (Int.toNat (i64.wrap ((ys.length:Int)-1))) 0)] (.int .i64 s)) (n4:0≤(ys.length:Int)) (n5:0≤(Int.toNat (ys.length:Int))∧(Int.toNat (ys.length:Int))≤ws.length∧ws.length≤ws.length∧(false=true→true=true)) (n6:Runs Yir 155 [.sl xs.length (lm xs), .int .i64 s] (.fresh 1 us.length (lm us))) (n7:Runs Yir 155 [.sl ys.length (lm ys), .int .i64 s] (.fresh 1 ws.length (lm ws))) (n8:0≤(i64.wrap ((i64.wrap ((xs.length:Int)-(ys.length:Int)))+1))∧(i64.wrap ((i64.wrap ((xs.length:Int)-(ys.length:Int)))+1))≤1048576) (n9:0≤(i64.wrap ((ys.length:Int)-1))∧(i64.wrap ((ys.length:Int)-1))<((((Int.toNat (ys.length:Int))-0):Nat):Int)) (n10:0≤(i64.wrap ((ys.length:Int)-2))∧(i64.wrap ((ys.length:Int)-2))<((((Int.toNat (ys.length:Int))-0):Nat):Int)) (hl11:RunsW Yir (.loop Yc147) ((dds 4 (.own 1 (Int.toNat (i64.wrap ((i64.wrap ((xs.length:Int)-(ys.length:Int)))+1))) (replA [.int .u32 0] (Int.toNat (i64.wrap ((i64.wrap ((xs.length:Int)-(ys.length:Int)))+1))))::(dds 3 (.val (.int .i64 s)::(.own 1 us.length (lm us)::(.val (.sl ((Int.toNat (ys.length:Int))-0) (List.take (((Int.toNat (ys.length:Int))-0)*1) (List.drop (0*1) (lm ws))))::(.val (.int .i64 (ys.length:Int))::(dds 1 (.val (.int .u64 (u64.wrap (((ws.drop 0).take ((Int.toNat (ys.length:Int))-0)).getD (Int.toNat (i64.wrap ((ys.length:Int)-1))) 0)))::(.val (.int .u64 (u64.wrap (((ws.drop 0).take ((Int.toNat (ys.length:Int))-0)).getD (Int.toNat (i64.wrap ((ys.length:Int)-2))) 0)))::(.val (.int .i64 (i64.wrap ((xs.length:Int)-(ys.length:Int))))::(dds 266 []))))))))))))) (.exit 0) (Ys147 k us1 vs n t t2 kq qs s j)) (n12:0≤n∧n≤1048576) (hl13:RunsW Yir (.loop Yc147r) ((dds 4 (.own 1 kq (lm qs)::(.own 1 (Int.toNat n) (replA [.int .u32 0] (Int.toNat n))::(dds 2 (.val (.int .i64 s)::(.own 1 k (lm us1)::(dds 1 (.val (.int .i64 n)::(dds 16 (.val (.int .i64 0)::(dds 253 [])))))))))))) (.exit 8) (Ys147r k us1 n kq qs kr rs s n)):Runs Yir 147 [.sl xs.length (lm xs), .sl ys.length (lm ys)] (.tup [.sl kq (lm qs), .sl kr (lm rs)]):=Runs.of_bodyW (fn:=Yi147) (s:=(dds 4 (.own 1 kq (lm qs)::(.own 1 kr (lm rs)::(dds 276 []))))) (ex := .ret) rfl rfl (RunsW.seq (RunsW.go (t:=(vl xs::(vl ys::(dds 2 (.own 1 0 []::(.own 1 0 []::(dds 276 []))))))) (ex := .norm) TWB_holds 400 [] [0,1,4,5] a0 (by kernel_rfl)) (RunsW.seq (RunsW.go (t:=(vl xs::(vl ys::(dds 2 (.own 1 0 []::(.own 1 0 []::(dds 26 (.val (.bool (decide (cm<0)))::(dds 249 []))))))))) (ex := .norm) TWB_holds 400 [.r (.int .i64 cm), .b false] [0,1,4,5,32] (ac n1 (ac c1 a0)) (by kernel_rfl)) (RunsW.seq (RunsW.go (t:=(vl xs::(vl ys::(dds 2 (.own 1 0 []::(.own 1 0 []::(dds 26 (.val (.bool (decide (cm<0)))::(dds 249 []))))))))) (ex := .norm) TWB_holds 400 [.b false] [0,1,4,5,32] (ac c2 a0) (by kernel_rfl)) (RunsW.seq (RunsW.go (t:=(vl xs::(vl ys::(dds 2 (.own 1 0 []::(.own 1 0 []::(dds 2 (vi s::(dds 23 (.val (.bool (decide (cm<0)))::(dds 249 []))))))))))) (ex := .norm) TWB_holds 400 [.v (.int .u32 (ys.getD (Int.toNat (i64.wrap ((ys.length:Int)-1))) 0)), .r (.int .i64 s)] [0,1,4,5,8,32] (ac n2 (ac (take_limI n2) (ac n3 a0))) (by kernel_rfl)) (RunsW.seq (RunsW.go (t:=(vl xs::(vl ys::(dds 2 (.own 1 0 []::(.own 1 0 []::(dds 2 (vi s::(.own 1 us.length (lm us)::(.val (.sl ((Int.toNat (ys.length:Int))-0) (List.take (((Int.toNat (ys.length:Int))-0)*1) (List.drop (0*1) (lm ws))))::(dds 21 (.val (.bool (decide (cm<0)))::(dds 30 (vi (ys.length:Int)::(.val (.sl ((Int.toNat (ys.length:Int))-0) (List.take (((Int.toNat (ys.length:Int))-0)*1) (List.drop (0*1) (lm ws))))::(dds 217 [])))))))))))))))) (ex := .norm) TWB_holds 400 [.r (.fresh 1 us.length (lm us)), .r (.fresh 1 ws.length (lm ws))] [0,1,4,5,8,9,10,32,63,64] (ac n6 (ac n7 (ac n4 (ac n5 a0)))) (by kernel_rfl)) (RunsW.seq (RunsW.go (t:=(vl xs::(vl ys::(dds 2 (.own 1 0 []::(.own 1 0 []::(dds 2 (vi s::(.own 1 us.length (lm us)::(.val (.sl ((Int.toNat (ys.length:Int))-0) (List.take (((Int.toNat (ys.length:Int))-0)*1) (List.drop (0*1) (lm ws))))::(vi (ys.length:Int)::(vi (i64.wrap ((xs.length:Int)-(ys.length:Int)))::(dds 19 (.val (.bool (decide (cm<0)))::(dds 30 (vi (ys.length:Int)::(.val (.sl ((Int.toNat (ys.length:Int))-0) (List.take (((Int.toNat (ys.length:Int))-0)*1) (List.drop (0*1) (lm ws))))::(dds 217 [])))))))))))))))))) (ex := .norm) TWB_holds 400 [] [0,1,4,5,8,9,10,11,12,32,63,64] a0 (by kernel_rfl)) (RunsW.seq (RunsW.go (t:=(vl xs::(vl ys::(dds 2 (.own 1 (Int.toNat (i64.wrap ((i64.wrap ((xs.length:Int)-(ys.length:Int)))+1))) (replA [.int .u32 0] (Int.toNat (i64.wrap ((i64.wrap ((xs.length:Int)-(ys.length:Int)))+1))))::(.own 1 0 []::(dds 2 (vi s::(.own 1 us.length (lm us)::(.val (.sl ((Int.toNat (ys.length:Int))-0) (List.take (((Int.toNat (ys.length:Int))-0)*1) (List.drop (0*1) (lm ws))))::(vi (ys.length:Int)::(vi (i64.wrap ((xs.length:Int)-(ys.length:Int)))::(dds 19 (.val (.bool (decide (cm<0)))::(dds 30 (vi (ys.length:Int)::(.val (.sl ((Int.toNat (ys.length:Int))-0) (List.take (((Int.toNat (ys.length:Int))-0)*1) (List.drop (0*1) (lm ws))))::(dds 217 [])))))))))))))))))) (ex := .norm) TWB_holds 400 [] [0,1,4,5,8,9,10,11,12,32,63,64] (ac n8 a0) (by kernel_rfl)) (RunsW.seq (RunsW.go (t:=(vl xs::(vl ys::(dds 2 (.own 1 (Int.toNat (i64.wrap ((i64.wrap ((xs.length:Int)-(ys.length:Int)))+1))) (replA [.int .u32 0] (Int.toNat (i64.wrap ((i64.wrap ((xs.length:Int)-(ys.length:Int)))+1))))::(.own 1 0 []::(dds 2 (vi s::(.own 1 us.length (lm us)::(.val (.sl ((Int.toNat (ys.length:Int))-0) (List.take (((Int.toNat (ys.length:Int))-0)*1) (List.drop (0*1) (lm ws))))::(vi (ys.length:Int)::(vi (i64.wrap ((xs.length:Int)-(ys.length:Int)))::(.val (.int .u64 (u64.wrap (((ws.drop 0).take ((Int.toNat (ys.length:Int))-0)).getD (Int.toNat (i64.wrap ((ys.length:Int)-1))) 0)))::(.val (.int .u64 (u64.wrap (((ws.drop 0).take ((Int.toNat (ys.length:Int))-0)).getD (Int.toNat (i64.wrap ((ys.length:Int)-2))) 0)))::(dds 17 (.val (.bool (decide (cm<0)))::(dds 30 (vi (ys.length:Int)::(.val (.sl ((Int.toNat (ys.length:Int))-0) (List.take (((Int.toNat (ys.length:Int))-0)*1) (List.drop (0*1) (lm ws))))::(dds 217 [])))))))))))))))))))) (ex := .norm) TWB_holds 400 [.v (.int .u32 (((ws.drop 0).take ((Int.toNat (ys.length:Int))-0)).getD (Int.toNat (i64.wrap ((ys.length:Int)-1))) 0)), .v (.int .u32 (((ws.drop 0).take ((Int.toNat (ys.length:Int))-0)).getD (Int.toNat (i64.wrap ((ys.length:Int)-2))) 0))] [0,1,4,5,8,9,10,11,12,13,14,32,63,64] (ac n9 (ac (takeS_limI n9 n5) (ac n10 (ac (takeS_limI n10 n5) a0)))) (by kernel_rfl)) (RunsW.seq (RunsW.seq (RunsW.go TWB_holds 400 [] [4,8,9,10,11,13,14,15] a0 (by kernel_rfl)) (RunsW.block hl11)) (RunsW.seq (RunsW.go (t:=(dds 4 (.own 1 kq (lm qs)::(.own 1 (Int.toNat n) (replA [.int .u32 0] (Int.toNat n))::(dds 2 (vi s::(.own 1 k (lm us1)::(dds 1 (vi n::(dds 270 [])))))))))) (ex := .norm) TWB_holds 400 [] [4,5,8,9,11] (ac n12 a0) (by kernel_rfl)) (RunsW.seq (RunsW.seq (RunsW.go TWB_holds 400 [] [4,5,8,9,11,28] a0 (by kernel_rfl)) (RunsW.block hl13)) (RunsW.go TWB_holds 400 [] [4,5] a0 (by kernel_rfl))))))))))))) (by intro i e;cases e) rfl
def TQA:Table:=TWB
theorem TQA_holds:THolds Yir TQA:=TWB_holds
end Go.Proofs.Ythnnfemologhfaa

namespace Go.Proofs.Ythnnfemologhfaa
open Go.IntKind (i64 u64 u32)
open Go.Ai
set_option maxRecDepth 100000
theorem Yloop153 {xs:List Int} {d:Int} (hx:U32 xs) (hd:0<d∧d<4294967296) (hN:xs.length≤1048576):∀ (i:Nat) (qs:List Int) (r:Int),i≤xs.length→qs.length=xs.length→U32 qs→0≤r∧r<d→(∀ t,t<i→qs.getD t 0=0) →
  ∃ qs' r',RunsW Yir (.loop Yc153) (Ys153 xs d xs.length qs r ((i:Int)-1)) (.exit 0) (Ys153 xs d xs.length qs' r' (-1))∧qs'.length=xs.length∧U32 qs'∧(0≤r'∧r'<d)∧d*valL qs'+r'=d*valL qs+4294967296^i*r+valL (xs.take i):=by
 intro i
 induction i with
 | zero =>
  intro qs r _ hl hu hr _
  refine ⟨qs,r,RunsW.loop_out (Yk153_2 xs d xs.length qs r _ (by simp)) (by intro e;cases e),hl,hu,hr,by simp [valL]⟩
 | succ i ih =>
  intro qs r hi hl hu hr hz
  have ei:(((i+1:Nat):Int)-1)=(i:Nat):=by omega
  have ej:i64.wrap ((i:Int)-1)=(i:Int)-1:=w64 (by omega) (by omega)
  have hxi:=getD_u32 hx i
  have hk:=Yk153_1 xs d xs.length qs r (i:Nat) (by simp) (by omega) (by rw [wu64 (by omega)];omega) (by omega) hl
  rw [ej,Int.toNat_natCast,word2 (by omega) hxi,wu64 (n:=d) (by omega)] at hk
  have hv0:0≤r*4294967296+xs.getD i 0:=by omega
  rw [Int.tdiv_eq_ediv_of_nonneg hv0,Int.tmod_eq_emod_of_nonneg hv0] at hk
  generalize hv:r*4294967296+xs.getD i 0=v at *
  have hm:=Int.mul_ediv_add_emod v d
  have hm0:=Int.emod_nonneg v (show d ≠ 0 by omega)
  have hm1:=Int.emod_lt_of_pos v hd.1
  have hq0:0≤v / d:=Int.ediv_nonneg hv0 (by omega)
  have hq1:v / d<4294967296:=by
   apply Int.ediv_lt_of_lt_mul hd.1
   have:=Int.mul_le_mul_of_nonneg_right (show r≤d-1 by omega) (show (0:Int)≤4294967296 by omega)
   have:(d-1)*4294967296=4294967296*d-4294967296:=by omega
   omega
  rw [wu64 (n:=v / d) (by omega),w32 ⟨hq0,hq1⟩] at hk
  obtain ⟨qs',r',g1,g2,g3,g4,g5⟩:=ih (qs.set i (v / d)) (v % d) (by omega) (by simpa using hl) (u32_set hu ⟨hq0,hq1⟩) ⟨hm0,hm1⟩ (fun t ht=>by rw [getD_other (by omega)];exact hz t (by omega))
  rw [ei]
  refine ⟨qs',r',RunsW.loop hk g1,g2,g3,g4,?_⟩
  rw [g5,valL_set _ _ _ (by omega),hz i (by omega),take_succ_val xs i (by omega),Int.pow_succ]
  generalize (4294967296:Int)^i=P at *
  have e2:xs.getD i 0=d*(v / d)+v % d-r*4294967296:=by omega
  rw [e2]
  grind
theorem quoSmall_run {xs:List Int} {d:Int} (hx:U32 xs) (hd:0<d∧d<4294967296) (hN:xs.length≤1048576):∃ qs r,(qs:List Int).length=xs.length∧U32 qs∧(0≤r∧r<d)∧d*valL qs+r=valL xs∧Runs Yir 153 [.sl xs.length (lm xs), .int .u32 d] (.tup [.sl qs.length (lm qs), .int .u32 r]):=by
 obtain ⟨qs,r,h1,h2,h3,h4,h5⟩:=Yloop153 hx hd hN xs.length (List.replicate xs.length 0) 0 (Nat.le_refl _) (by simp) (u32_zeros _) (by omega) (fun t _=>getD_zeros _ _)
 refine ⟨qs,r,h2,h3,h4,?_,?_⟩
 ·rw [h5,valL_zeros,List.take_length];omega
 ·have h:=Yrun153 xs qs d r (-1) xs.length (by omega) (by
   rw [Int.toNat_natCast,repl_lim,w64 (by omega) (by omega)];exact h1)
  rw [w32 (n:=r) (by omega)] at h
  rw [h2]
  exact h
theorem Yloop155 {xs:List Int} {s:Nat} (hx:U32 xs) (hs:s<32) (hN:xs.length<1048576):∀ (r i:Nat) (os:List Int),i+r=xs.length→os.length=xs.length+1→U32 os→valL os=2^s*valL (xs.take i)→os.getD i 0<2^s→(∀ t,i<t→os.getD t 0=0) →
  ∃ os',RunsW Yir (.loop Yc155) (Ys155 xs (s:Nat) (xs.length+1) os (xs.length:Nat) (i:Nat)) (.exit 0) (Ys155 xs (s:Nat) (xs.length+1) os' (xs.length:Nat) (xs.length:Nat))∧os'.length=xs.length+1∧U32 os'∧valL os'=2^s*valL xs:=by
 intro r
 induction r with
 | zero =>
  intro i os hi hl hu hv _ _
  have:i=xs.length:=by omega
  subst this
  exact ⟨os,RunsW.loop_out (Yk155_2 xs _ _ os _ _ (by simp)) (by intro e;cases e),hl,hu,by rw [hv,List.take_length]⟩
 | succ r ih =>
  intro i os hi hl hu hv hc hz
  have ei:i64.wrap ((i:Int)+1)=((i+1:Nat):Int):=by rw [w64 (by omega) (by omega)];omega
  have hxi:=getD_u32 hx i
  have hoi:=getD_u32 hu i
  obtain ⟨p0,p1,p2,q,q0,q1⟩:=shl_parts hxi hs
  have es:(2:Int)^(min (Int.toNat (u64.wrap (s:Int))) (IntKind.bits .u64))=2^s:=by
   rw [wu64 (by omega),Int.toNat_natCast]
   congr 1
   show min s 64=s
   omega
  have hk:=Yk155_1 xs (s:Nat) (xs.length+1) os (xs.length:Nat) (i:Nat) (by simp;omega) (by omega) (by rw [wu64 (by omega)];omega) (by omega) hl (by rw [ei];omega) (by simpa using hl)
  rw [ei,Int.toNat_natCast,Int.toNat_natCast,wu64 (n:=xs.getD i 0) (by omega),es,wu64 ⟨p0,p1⟩,fd32,wu32 (xs.getD i 0*2^s),q1] at hk
  have hqs:q*2^s<4294967296:=by rw [← q1];omega
  rw [or32 q0 hqs (by omega) ⟨hoi.1,hc⟩] at hk
  have hhi:0≤xs.getD i 0*2^s / 4294967296:=by omega
  have hp2:(2:Int)^s≤4294967296:=by have:=pow2_le (show s≤32 by omega);rwa [show (2:Int)^32=4294967296 by decide] at this
  rw [w32 ⟨hhi,by omega⟩] at hk
  have hsum:0≤q*2^s+os.getD i 0∧q*2^s+os.getD i 0<4294967296:=by
   have hq2:0≤q*2^s:=by rw [← q1];omega
   refine ⟨by omega,?_⟩
   have e:(4294967296:Int)=2^(32-s)*2^s:=by
    rw [← Int.pow_add,show 32-s+s=32 by omega];decide
   rw [e] at hqs ⊢
   have hp:=pow2_pos s
   have:=Int.lt_of_mul_lt_mul_right hqs (by omega)
   have:=Int.mul_le_mul_of_nonneg_right (show q+1≤2^(32-s) by omega) (show (0:Int)≤2^s by omega)
   rw [Int.add_mul,Int.one_mul] at this
   omega
  obtain ⟨os',g1,g2,g3,g4⟩:=ih (i+1) ((os.set i (q*2^s+os.getD i 0)).set (i+1) (xs.getD i 0*2^s / 4294967296)) (by omega) (by simpa using hl) (u32_set (u32_set hu hsum) ⟨hhi,by omega⟩) (by
    rw [valL_set _ _ _ (by simp;omega),valL_set _ _ _ (by omega),getD_other (by omega),hz (i+1) (by omega),hv,take_succ_val xs i (by omega),Int.pow_succ]
    have e3:xs.getD i 0*2^s=4294967296*(xs.getD i 0*2^s / 4294967296)+q*2^s:=by omega
    generalize (4294967296:Int)^i=P at *
    generalize xs.getD i 0*2^s / 4294967296=H at *
    generalize os.getD i 0=o at *
    generalize q*2^s=Q at *
    have e4:(2:Int)^s*(valL (xs.take i)+P*xs.getD i 0)=2^s*valL (xs.take i)+P*(xs.getD i 0*2^s):=by grind
    rw [e4,e3]
    grind) (by
    rw [show ((os.set i (q*2^s+os.getD i 0)).set (i+1) (xs.getD i 0*2^s / 4294967296)).getD (i+1) 0=xs.getD i 0*2^s / 4294967296 by simp [List.getD_eq_getElem?_getD,show i+1<os.length by omega]]
    exact p2) (fun t ht=>by rw [getD_other (by omega),getD_other (by omega)];exact hz t (by omega))
  exact ⟨os',RunsW.loop hk g1,g2,g3,g4⟩
theorem shifted_run {xs:List Int} {s:Nat} (hx:U32 xs) (hs:s<32) (hN:xs.length<1048576):∃ os,(os:List Int).length=xs.length+1∧U32 os∧valL os=2^s*valL xs∧Runs Yir 155 [.sl xs.length (lm xs), .int .i64 (s:Nat)] (.fresh 1 os.length (lm os)):=by
 obtain ⟨os,h1,h2,h3,h4⟩:=Yloop155 hx hs hN xs.length 0 (List.replicate (xs.length+1) 0) (by omega) (by simp) (u32_zeros _) (by rw [valL_zeros];simp [valL]) (by rw [getD_zeros];exact pow2_pos s) (fun t _=>getD_zeros _ _)
 refine ⟨os,h2,h3,h4,?_⟩
 have e:i64.wrap ((xs.length:Int)+1)=((xs.length+1:Nat):Int):=by rw [w64 (by omega) (by omega)];omega
 have h:=Yrun155 xs os (s:Nat) (xs.length:Nat) (xs.length:Nat) (xs.length+1) (by rw [e];omega) (by rw [e,Int.toNat_natCast,repl_lim];exact h1)
 rw [h2]
 exact h
section
variable {k:Nat} {us vs:List Int} {kq:Nat} {qs:List Int} {s:Int} {j m:Nat}
theorem Yloop147g (hl:us.length=k) (hk:k≤1048577) (hj:j+m+2<k) (h:Dig m (valL vs) (valL (us.drop j)) (vs.getD (m+1) 0) (vs.getD m 0) (us.getD (j+m+2) 0) (us.getD (j+m+1) 0) (us.getD (j+m) 0)):∀ (f:Nat) (g r:Int),g.toNat≤f →
  DigI (valL vs) (valL (us.drop j)) (vs.getD (m+1) 0) (us.getD (j+m+2) 0*4294967296+us.getD (j+m+1) 0) g r→r<4294967296 →
  ∃ g' r',RunsW Yir (.loop Yc147g) (Ys147g k us vs ((m+2:Nat):Int) (vs.getD (m+1) 0) (vs.getD m 0) kq qs s (j:Nat) g r) (.exit 2) (Ys147g k us vs ((m+2:Nat):Int) (vs.getD (m+1) 0) (vs.getD m 0) kq qs s (j:Nat) g' r') ∧
   (0≤g'∧g'<4294967296)∧valL (us.drop j)<(g'+1)*valL vs∧g'*valL vs<valL (us.drop j)+valL vs:=by
 have ht:=h.htop
 have hnx:=h.hnxt
 have hz:=h.hz
 have e1:i64.wrap (i64.wrap ((j:Int)+((m+2:Nat):Int))-2)=((j+m:Nat):Int):=by
  rw [w64 (n:=(j:Int)+((m+2:Nat):Int)) (by omega) (by omega),w64 (by omega) (by omega)];omega
 intro f
 induction f with
 | zero =>
  intro g r hf i hr
  have hg:g=0:=by have:=i.g0;omega
  subst hg
  have c2:¬ (r*4294967296+us.getD (j+m) 0<0*vs.getD m 0):=by have:=i.r0;omega
  have k5:=Yk147g_5 k us vs ((m+2:Nat):Int) (vs.getD (m+1) 0) (vs.getD m 0) kq qs s (j:Nat) 0 r (by simp) (by
   rw [e1,Int.toNat_natCast,word2 ⟨i.r0,hr⟩ hz,wu64 (n:=0*vs.getD m 0) (by omega),decide_eq_false_iff_not];omega) (by rw [e1];omega) hl
  exact ⟨0,r,RunsW.loop_out k5 (by intro e;cases e),by omega,i.up,h.out i (by omega) (Or.inr (by omega))⟩
 | succ f ih =>
  intro g r hf i hr
  have hg1:=i.gle
  have hg0:=i.g0
  have hr0:=i.r0
  have hgn:0≤g*vs.getD m 0∧g*vs.getD m 0<18446744073709551616:=by
   have a:=Int.mul_nonneg hg0 hnx.1
   have b:=Int.mul_le_mul hg1 (show vs.getD m 0≤4294967295 by omega) hnx.1 (by omega)
   omega
  have er:u64.wrap (r+vs.getD (m+1) 0)=r+vs.getD (m+1) 0:=wu64 (by omega)
  have ecmp:(decide (u64.wrap (g*vs.getD m 0)>u64.wrap ((BitVec.ofInt (IntKind.bits .u64) (u64.wrap (r*2^(min (Int.toNat 32) (IntKind.bits .u64)))) ||| BitVec.ofInt (IntKind.bits .u64) (u64.wrap (us.getD (Int.toNat (i64.wrap (i64.wrap ((j:Int)+((m+2:Nat):Int))-2))) 0))).toNat)):Bool)=decide (r*4294967296+us.getD (j+m) 0<g*vs.getD m 0):=by
   rw [e1,Int.toNat_natCast,word2 ⟨hr0,hr⟩ hz,wu64 hgn]
  by_cases hc:4294967296≤g∨r*4294967296+us.getD (j+m) 0<g*vs.getD m 0
  ·have i2:=h.step i hc
   have hg2:=i2.g0
   have eg:u64.wrap (g-1)=g-1:=wu64 (by omega)
   by_cases hbig:4294967296≤r+vs.getD (m+1) 0
   ·have hgs:=h.small_g i2 hbig
    have hrun:RunsW Yir Yc147g (Ys147g k us vs ((m+2:Nat):Int) (vs.getD (m+1) 0) (vs.getD m 0) kq qs s (j:Nat) g r) (.exit 2) (Ys147g k us vs ((m+2:Nat):Int) (vs.getD (m+1) 0) (vs.getD m 0) kq qs s (j:Nat) (u64.wrap (g-1)) (u64.wrap (r+vs.getD (m+1) 0))):=by
     by_cases hg:4294967296≤g
     ·exact Yk147g_1 k us vs _ _ _ kq qs s _ g r (by simpa using hg) (by rw [er];simpa using hbig)
     ·exact Yk147g_3 k us vs _ _ _ kq qs s _ g r (by simp;omega) (by rw [ecmp,decide_eq_true_eq];omega) (by rw [er];simpa using hbig) (by rw [e1];omega) hl
    rw [eg,er] at hrun
    exact ⟨g-1,_,RunsW.loop_out hrun (by intro e;cases e),⟨hg2,hgs⟩,i2.up,h.out i2 hgs (Or.inl hbig)⟩
   ·have hrun:RunsW Yir Yc147g (Ys147g k us vs ((m+2:Nat):Int) (vs.getD (m+1) 0) (vs.getD m 0) kq qs s (j:Nat) g r) .norm (Ys147g k us vs ((m+2:Nat):Int) (vs.getD (m+1) 0) (vs.getD m 0) kq qs s (j:Nat) (u64.wrap (g-1)) (u64.wrap (r+vs.getD (m+1) 0))):=by
     by_cases hg:4294967296≤g
     ·exact Yk147g_2 k us vs _ _ _ kq qs s _ g r (by simpa using hg) (by rw [er,decide_eq_false_iff_not];omega)
     ·exact Yk147g_4 k us vs _ _ _ kq qs s _ g r (by simp;omega) (by rw [ecmp,decide_eq_true_eq];omega) (by rw [er,decide_eq_false_iff_not];omega) (by rw [e1];omega) hl
    rw [eg,er] at hrun
    obtain ⟨g',r',a1,a2⟩:=ih (g-1) (r+vs.getD (m+1) 0) (by omega) i2 (by omega)
    exact ⟨g',r',RunsW.loop hrun a1,a2⟩
  ·have k5:=Yk147g_5 k us vs ((m+2:Nat):Int) (vs.getD (m+1) 0) (vs.getD m 0) kq qs s (j:Nat) g r (by simp;omega) (by rw [ecmp,decide_eq_false_iff_not];omega) (by rw [e1];omega) hl
   exact ⟨g,r,RunsW.loop_out k5 (by intro e;cases e),by omega,i.up,h.out i (by omega) (Or.inr (by omega))⟩
end
section
variable {k:Nat} {vs:List Int} {t t2:Int} {kq:Nat} {qs:List Int} {s:Int} {j:Nat} {g:Int}
theorem Yloop147m (hv:U32 vs) (hk:k≤1048577) (hg:0≤g∧g<4294967296) (hj:j+vs.length≤k):∀ (r i:Nat) (us:List Int) (b c:Int),r+i=vs.length→us.length=k→U32 us→0≤b∧b≤1→0≤c∧c<4294967296 →
  RunsW Yir (.loop Yc147m) (Ys147m k us vs (vs.length:Nat) t t2 kq qs s (j:Nat) g b c (i:Nat)) (.exit 4) (Ys147m k (msGo g vs j r i us b c).1 vs (vs.length:Nat) t t2 kq qs s (j:Nat) g (msGo g vs j r i us b c).2.1 (msGo g vs j r i us b c).2.2 (vs.length:Nat)):=by
 intro r
 induction r with
 | zero =>
  intro i us b c hi _ _ _ _
  have:i=vs.length:=by omega
  subst this
  exact RunsW.loop_out (Yk147m_2 k us vs _ t t2 kq qs s _ g b c _ (by simp)) (by intro e;cases e)
 | succ r ih =>
  intro i us b c hi hl hu hb hc
  have ei:i64.wrap ((i:Int)+1)=((i+1:Nat):Int):=by rw [w64 (by omega) (by omega)];omega
  have eij:i64.wrap ((i:Int)+(j:Int))=((i+j:Nat):Int):=by rw [w64 (by omega) (by omega)];omega
  have hvi:=getD_u32 hv i
  have hui:=getD_u32 hu (i+j)
  have hw:=ms_word hg hvi hc
  have hgv:=Int.mul_nonneg hg.1 hvi.1
  have h1:=Yk147m_1 k us vs (vs.length:Nat) t t2 kq qs s (j:Nat) g b c (i:Nat) (by simp;omega) (by omega) (by rw [eij];omega) hl
  rw [eij,ei,Int.toNat_natCast,Int.toNat_natCast,wu64 (n:=vs.getD i 0) (by omega),wu64 (n:=us.getD (i+j) 0) (by omega),wu64 (n:=g*vs.getD i 0) (by omega),wu64 hw,fd32,fd63,wu32 (g*vs.getD i 0+c)] at h1
  generalize hp:g*vs.getD i 0+c=p at *
  rw [wu64 (n:=p % 4294967296) (by omega),wu64m,wu64m] at h1
  have hstep:msGo g vs j (r+1) i us b c=msGo g vs j r (i+1) (us.set (i+j) ((us.getD (i+j) 0-p % 4294967296-b) % 4294967296)) (if us.getD (i+j) 0-p % 4294967296-b<0 then 1 else 0) (p / 4294967296):=by rw [msGo,hp]
  generalize hd:us.getD (i+j) 0-p % 4294967296-b=d at *
  have e1:u32.wrap (((us.getD (i+j) 0-p % 4294967296) % 18446744073709551616-b) % 18446744073709551616)=d % 4294967296:=by rw [wu32];omega
  have e2:((us.getD (i+j) 0-p % 4294967296) % 18446744073709551616-b) % 18446744073709551616 / 9223372036854775808=(if d<0 then 1 else 0):=by split <;> omega
  rw [e1,e2] at h1
  rw [hstep]
  exact RunsW.loop h1 (ih (i+1) _ _ _ (by omega) (by simpa using hl) (u32_set hu (by omega)) (by split <;> omega) (by omega))
theorem Yloop147a (hv:U32 vs) (hk:k≤1048577) (hj:j+vs.length≤k):∀ (r i:Nat) (us:List Int) (c:Int),r+i=vs.length→us.length=k→U32 us→0≤c∧c≤1 →
  RunsW Yir (.loop Yc147a) (Ys147a k us vs (vs.length:Nat) t t2 kq qs s (j:Nat) g c (i:Nat)) (.exit 6) (Ys147a k (abGo vs j r i us c).1 vs (vs.length:Nat) t t2 kq qs s (j:Nat) g (abGo vs j r i us c).2 (vs.length:Nat)):=by
 intro r
 induction r with
 | zero =>
  intro i us c hi _ _ _
  have:i=vs.length:=by omega
  subst this
  exact RunsW.loop_out (Yk147a_2 k us vs _ t t2 kq qs s _ g c _ (by simp)) (by intro e;cases e)
 | succ r ih =>
  intro i us c hi hl hu hc
  have ei:i64.wrap ((i:Int)+1)=((i+1:Nat):Int):=by rw [w64 (by omega) (by omega)];omega
  have eij:i64.wrap ((i:Int)+(j:Int))=((i+j:Nat):Int):=by rw [w64 (by omega) (by omega)];omega
  have hvi:=getD_u32 hv i
  have hui:=getD_u32 hu (i+j)
  have h1:=Yk147a_1 k us vs (vs.length:Nat) t t2 kq qs s (j:Nat) g c (i:Nat) (by simp;omega) (by rw [eij];omega) hl (by omega)
  rw [eij,ei,Int.toNat_natCast,Int.toNat_natCast,wu64 (n:=vs.getD i 0) (by omega),wu64 (n:=us.getD (i+j) 0) (by omega),wu64 (n:=us.getD (i+j) 0+vs.getD i 0) (by omega),wu64 (n:=us.getD (i+j) 0+vs.getD i 0+c) (by omega),fd32,wu32] at h1
  exact RunsW.loop h1 (ih (i+1) _ _ (by omega) (by simpa using hl) (u32_set hu (by omega)) (by omega))
end
theorem dsign {X c b:Int} (hX:0≤X∧X<4294967296) (hc:0≤c∧c<4294967296) (hb:0≤b∧b≤1) :
  Int.fdiv (u64.wrap (u64.wrap (u64.wrap X-c)-b)) (2^(min (Int.toNat 63) (IntKind.bits .u64)))=(if X-c-b<0 then 1 else 0)∧u32.wrap (u64.wrap (u64.wrap (u64.wrap X-c)-b))=(X-c-b) % 4294967296:=by
 rw [fd63,wu64 (n:=X) (by omega),wu64m,wu64m,wu32]
 refine ⟨?_,by omega⟩
 split <;> omega
section
variable {vs:List Int} {m:Nat} {k kq:Nat} {s:Int}
theorem Yloop147 (hv:U32 vs) (hm:vs.length=m+2) (ht:2147483648≤vs.getD (m+1) 0) (hk:k=kq+vs.length) (hkb:k≤1048577):∀ (i:Nat) (us qs:List Int),i≤kq→us.length=k→U32 us→qs.length=kq→U32 qs→(∀ t,t<i→qs.getD t 0=0)→valL (us.drop i)<valL vs →
  ∃ us' qs',RunsW Yir (.loop Yc147) (Ys147 k us vs (vs.length:Nat) (vs.getD (m+1) 0) (vs.getD m 0) kq qs s ((i:Int)-1)) (.exit 0) (Ys147 k us' vs (vs.length:Nat) (vs.getD (m+1) 0) (vs.getD m 0) kq qs' s (-1)) ∧
   us'.length=k∧U32 us'∧qs'.length=kq∧U32 qs'∧valL us'<valL vs∧valL us=valL vs*(valL qs'-valL qs)+valL us':=by
 intro i
 induction i with
 | zero =>
  intro us qs _ h1 h2 h3 h4 _ h6
  exact ⟨us,qs,RunsW.loop_out (Yk147_3 k us vs _ _ _ kq qs s _ (by simp)) (by intro e;cases e),h1,h2,h3,h4,h6,by rw [Int.sub_self,Int.mul_zero,Int.zero_add]⟩
 | succ i ih =>
  intro us qs hi h1 h2 h3 h4 h5 h6
  have ei:(((i+1:Nat):Int)-1)=(i:Nat):=by omega
  have ej:i64.wrap ((i:Int)-1)=(i:Int)-1:=w64 (by omega) (by omega)
  have en:i64.wrap ((i:Int)+(vs.length:Int))=((i+vs.length:Nat):Int):=by rw [w64 (by omega) (by omega)];omega
  have en1:i64.wrap (((i+vs.length:Nat):Int)-1)=((i+m+1:Nat):Int):=by rw [w64 (by omega) (by omega)];omega
  have hD:=dig_of (us:=us) (vs:=vs) (j:=i) (m:=m) h2 hv hm (by omega) ht h6
  have hI:=hD.init
  have hr1:=Int.emod_lt_of_pos (us.getD (i+m+2) 0*4294967296+us.getD (i+m+1) 0) (show 0<vs.getD (m+1) 0 by omega)
  have ht2:=hD.htop
  obtain ⟨g,r,q1,q2,q3,q4⟩:=Yloop147g (k:=k) (kq:=kq) (qs:=qs) (s:=s) h1 hkb (by omega) hD _ _ _ (Nat.le_refl _) hI (by omega)
  rw [← hm] at q1
  have hn0:0≤us.getD (i+m+2) 0*4294967296+us.getD (i+m+1) 0:=by have:=hD.hx;have:=hD.hy;omega
  have hq0:=hI.g0
  have hq1:=hI.gle
  have hl5:RunsW Yir (.loop Yc147g) (Ys147g k us vs (vs.length:Nat) (vs.getD (m+1) 0) (vs.getD m 0) kq qs s (i:Nat) (u64.wrap (Int.tdiv (u64.wrap ((BitVec.ofInt (IntKind.bits .u64) (u64.wrap ((u64.wrap (us.getD (Int.toNat (i64.wrap ((i:Int)+(vs.length:Int)))) 0))*2^(min (Int.toNat 32) (IntKind.bits .u64)))) ||| BitVec.ofInt (IntKind.bits .u64) (u64.wrap (us.getD (Int.toNat (i64.wrap ((i64.wrap ((i:Int)+(vs.length:Int)))-1))) 0))).toNat)) (vs.getD (m+1) 0))) (Int.tmod (u64.wrap ((BitVec.ofInt (IntKind.bits .u64) (u64.wrap ((u64.wrap (us.getD (Int.toNat (i64.wrap ((i:Int)+(vs.length:Int)))) 0))*2^(min (Int.toNat 32) (IntKind.bits .u64)))) ||| BitVec.ofInt (IntKind.bits .u64) (u64.wrap (us.getD (Int.toNat (i64.wrap ((i64.wrap ((i:Int)+(vs.length:Int)))-1))) 0))).toNat)) (vs.getD (m+1) 0))) (.exit 2) (Ys147g k us vs (vs.length:Nat) (vs.getD (m+1) 0) (vs.getD m 0) kq qs s (i:Nat) g r):=by
   rw [en,en1,Int.toNat_natCast,Int.toNat_natCast,show i+vs.length=i+m+2 by omega,wu64 (n:=us.getD (i+m+2) 0) (by have:=hD.hx;omega),word2 hD.hx hD.hy,Int.tdiv_eq_ediv_of_nonneg hn0,Int.tmod_eq_emod_of_nonneg hn0,wu64 ⟨hq0,by omega⟩]
   exact q1
  have hms:=Yloop147m (k:=k) (t:=vs.getD (m+1) 0) (t2:=vs.getD m 0) (kq:=kq) (qs:=qs) (s:=s) (j:=i) (g:=g) hv hkb q2 (by omega) vs.length 0 us 0 0 (by omega) h1 h2 (by omega) (by omega)
  have hmo:=msGo_ok (j:=i) q2 hv vs.length 0 us 0 0 (by omega) (by omega) h2 (by omega) (by omega)
  have hst:=digit_step h2 hv (j:=i) (by omega) h6 q2 q3 q4
  generalize hM:msGo g vs i vs.length 0 us 0 0=M at *
  obtain ⟨m1,m2,m3,m4,_,_⟩:=hmo
  obtain ⟨d1,d2⟩:=dsign (getD_u32 m2 (i+vs.length)) m4 m3
  dsimp only at hst
  obtain ⟨S1,S2⟩:=hst
  -- the rest from a step
  have fin:∀ (ws:List Int) (q:Int),StepOk us vs ws i q→(0≤q∧q<4294967296)→RunsW Yir Yc147 (Ys147 k us vs (vs.length:Nat) (vs.getD (m+1) 0) (vs.getD m 0) kq qs s (i:Nat)) .norm (Ys147 k ws vs (vs.length:Nat) (vs.getD (m+1) 0) (vs.getD m 0) kq (qs.set i q) s ((i:Int)-1)) →
    ∃ us' qs',RunsW Yir (.loop Yc147) (Ys147 k us vs (vs.length:Nat) (vs.getD (m+1) 0) (vs.getD m 0) kq qs s (i:Nat)) (.exit 0) (Ys147 k us' vs (vs.length:Nat) (vs.getD (m+1) 0) (vs.getD m 0) kq qs' s (-1)) ∧
   us'.length=k∧U32 us'∧qs'.length=kq∧U32 qs'∧valL us'<valL vs∧valL us=valL vs*(valL qs'-valL qs)+valL us':=by
   intro ws q hs hq hrun
   obtain ⟨us',qs',a1,a2,a3,a4,a5,a6,a7⟩:=ih ws (qs.set i q) (by omega) (by rw [hs.len];exact h1) hs.u32 (by simpa using h3) (u32_set h4 hq) (fun t ht=>by rw [getD_other (by omega)];exact h5 t (by omega)) hs.low
   refine ⟨us',qs',RunsW.loop hrun a1,a2,a3,a4,a5,a6,?_⟩
   have e:=hs.val
   rw [valL_set _ _ _ (by omega),h5 i (by omega),Int.sub_zero] at a7
   generalize (4294967296:Int)^i=P at *
   grind
  rw [ei]
  by_cases hd:M.1.getD (i+vs.length) 0-M.2.2-M.2.1<0
  ·obtain ⟨S2,hg1⟩:=S2 hd
   have hu2:U32 (M.1.set (i+vs.length) ((M.1.getD (i+vs.length) 0-M.2.2-M.2.1) % 4294967296)):=u32_set m2 (by omega)
   have hab:=Yloop147a (k:=k) (t:=vs.getD (m+1) 0) (t2:=vs.getD m 0) (kq:=kq) (qs:=qs) (s:=s) (j:=i) (g:=g-1) hv hkb (by omega) vs.length 0 (M.1.set (i+vs.length) ((M.1.getD (i+vs.length) 0-M.2.2-M.2.1) % 4294967296)) 0 (by omega) (by rw [List.length_set,m1];exact h1) hu2 (by omega)
   have hao:=abGo_ok (j:=i) hv vs.length 0 (M.1.set (i+vs.length) ((M.1.getD (i+vs.length) 0-M.2.2-M.2.1) % 4294967296)) 0 (by omega) (by rw [List.length_set,m1];omega) hu2 (by omega)
   obtain ⟨b1,b2,b3,_,_⟩:=hao
   generalize hB:abGo vs i vs.length 0 (M.1.set (i+vs.length) ((M.1.getD (i+vs.length) 0-M.2.2-M.2.1) % 4294967296)) 0=Bb at *
   have eg:u64.wrap (g-1)=g-1:=wu64 (by omega)
   have k1:=Yk147_1 k us vs (vs.length:Nat) (vs.getD (m+1) 0) (vs.getD m 0) kq qs s (i:Nat) M.1 Bb.1 g r M.2.1 M.2.2 Bb.2 (by simp) (by rw [en,Int.toNat_natCast,d1,if_pos hd];rfl) (by rw [en];omega) h1 (by rw [en,en1];omega) (by omega) hl5 hms (by rw [m1];exact h1) (by rw [en,Int.toNat_natCast,d2,eg];exact hab) (by rw [b1,List.length_set,m1];exact h1) (by omega) h3
   rw [en,Int.toNat_natCast,eg,Int.toNat_natCast,w32 (n:=g-1) (by omega),ej,w32 (n:=Bb.2) (by omega),wu32] at k1
   exact fin _ _ S2 (by omega) k1
  ·have k2:=Yk147_2 k us vs (vs.length:Nat) (vs.getD (m+1) 0) (vs.getD m 0) kq qs s (i:Nat) M.1 g r M.2.1 M.2.2 (by simp) (by rw [en,Int.toNat_natCast,d1,if_neg hd];rfl) (by rw [en];omega) h1 (by rw [en,en1];omega) (by omega) hl5 hms (by rw [m1];exact h1) (by omega) h3
   rw [en,Int.toNat_natCast,Int.toNat_natCast,d2,w32 (n:=g) q2,ej] at k2
   exact fin _ _ (S1 (by omega)) q2 k2
end
def TQB:Table:=TQA
theorem TQB_holds:THolds Yir TQB:=TQA_holds
end Go.Proofs.Ythnnfemologhfaa

namespace Go.Proofs.Ythnnfemologhfaa
open Go.IntKind (i64 u64 u32)
open Go.Ai
set_option maxRecDepth 100000
theorem Yrun110 (b1 b2 na nb:Bool) (xs ys as1 bs qs rs:List Int) (v w:Int) (n1:Runs Yir 122 [.agg [.bool b1, .sl xs.length (lm xs)]] (.tup [.bool na, .sl as1.length (lm as1)])) (n2:Runs Yir 122 [.agg [.bool b2, .sl ys.length (lm ys)]] (.tup [.bool nb, .sl bs.length (lm bs)])) (n3:Runs Yir 147 [.sl as1.length (lm as1), .sl bs.length (lm bs)] (.tup [.sl qs.length (lm qs), .sl rs.length (lm rs)])) (n4:Runs Yir 133 [.bool (!(na==nb)), .sl qs.length (lm qs)] (bigAV v)) (n5:Runs Yir 133 [.bool na, .sl rs.length (lm rs)] (bigAV w)):Runs Yir 110 [.agg [.bool b1, .sl xs.length (lm xs)], .agg [.bool b2, .sl ys.length (lm ys)]] (.tup [bigAV v,bigAV w]):=Runs.go (fn:=Yi110) TQB_holds rfl 400 rfl [.r (.tup [.bool na, .sl as1.length (lm as1)]), .r (.tup [.bool nb, .sl bs.length (lm bs)]), .r (.tup [.sl qs.length (lm qs), .sl rs.length (lm rs)]), .r (bigAV v), .r (bigAV w)] (ac n1 (ac n2 (ac n3 (ac n4 (ac n5 a0))))) (by kernel_rfl)
def Ys146 (xs:List Int) (v:Int) (n:Int) (i:Int):State:=(dds 3 (.val (.int .u64 v)::(dds 3 (.val (.sl xs.length (lm xs))::(.val (.int .i64 n)::(.val (.int .i64 i)::(dds 14 [])))))))
theorem Yk146_1 (xs:List Int) (v:Int) (n:Int) (i:Int)  (c1:(decide (i<n))=true) (n1:0≤i∧i<(xs.length:Int)) (n2:¬ (u64.wrap (i64.wrap (32*i)))<0):RunsW Yir Yc146 (Ys146 xs v n i) .norm (Ys146 xs (u64.wrap ((BitVec.ofInt (IntKind.bits .u64) v ||| BitVec.ofInt (IntKind.bits .u64) (u64.wrap ((u64.wrap (xs.getD (Int.toNat i) 0))*2^(min (Int.toNat (u64.wrap (i64.wrap (32*i)))) (IntKind.bits .u64))))).toNat)) n (i64.wrap (i+1))):=(RunsW.go TQB_holds 400 [.b true, .v (.int .u32 (xs.getD (Int.toNat i) 0))] [3,7,8,9] (ac c1 (ac n1 (ac (take_limI n1) (ac n2 a0)))) (by kernel_rfl))
theorem Yk146_2 (xs:List Int) (v:Int) (n:Int) (i:Int)  (c1:(decide (i<n))=false):RunsW Yir Yc146 (Ys146 xs v n i) (.exit 0) (Ys146 xs v n i):=(RunsW.go TQB_holds 400 [.b false] [3,7,8,9] (ac c1 a0) (by kernel_rfl))
theorem Yrun146 (n:Bool) (xs:List Int) (v i m:Int) (hl1:RunsW Yir (.loop Yc146) (Ys146 xs 0 (xs.length:Int) 0) (.exit 0) (Ys146 xs v m i)):Runs Yir 146 [.agg [.bool n, .sl xs.length (lm xs)]] (.int .u64 v):=Runs.of_bodyW (fn:=Yi146) (s:=(dds 2 (.val (.int .u64 v)::(dds 21 [])))) (ex := .ret) rfl rfl (RunsW.seq (RunsW.go (t:=(.val (.agg [.bool n, .sl xs.length (lm xs)])::(.box [.bool n, .sl xs.length (lm xs)]::(.val (.int .u64 0)::(dds 21 []))))) (ex := .norm) TQB_holds 400 [] [0,1,2] a0 (by kernel_rfl)) (RunsW.seq (RunsW.go (t:=(.val (.agg [.bool n, .sl xs.length (lm xs)])::(.box [.bool n, .sl xs.length (lm xs)]::(.val (.int .u64 0)::(.val (.int .u64 0)::(dds 20 [])))))) (ex := .norm) TQB_holds 400 [] [0,1,2,3] a0 (by kernel_rfl)) (RunsW.seq (RunsW.seq (RunsW.go TQB_holds 400 [] [3,7,8,9] a0 (by kernel_rfl)) (RunsW.block hl1)) (RunsW.go TQB_holds 400 [] [2] a0 (by kernel_rfl))))) (by intro i e;cases e) rfl
theorem Yrun144 (n v:Int) (n1:Runs Yir 133 [.bool false, .sl 2 [.int .u32 (u32.wrap n), .int .u32 (u32.wrap (Int.fdiv n (2^(min (Int.toNat 32) (IntKind.bits .u64)))))]] (bigAV v)):Runs Yir 144 [.int .u64 n] (bigAV v):=Runs.go (fn:=Yi144) TQB_holds rfl 400 rfl [.r (bigAV v)] (ac (show ¬ (32:Int)<0 from (by decide)) (ac n1 a0)) (by kernel_rfl)
def Ys145 (a:Int) (b:Int):State:=(.val (.int .u64 a)::(.val (.int .u64 b)::(dds 10 [])))
theorem Yk145_1 (a:Int) (b:Int)  (c1:(decide (b>0))=true) (n1:¬ b=0):RunsW Yir Yc145 (Ys145 a b) .norm (Ys145 b (Int.tmod a b)):=(RunsW.go TQB_holds 400 [.b true] [0,1] (ac c1 (ac n1 a0)) (by kernel_rfl))
theorem Yk145_2 (a:Int) (b:Int)  (c1:(decide (b>0))=false):RunsW Yir Yc145 (Ys145 a b) (.exit 0) (Ys145 a b):=(RunsW.go TQB_holds 400 [.b false] [0,1] (ac c1 a0) (by kernel_rfl))
theorem Yrun145 (a b a1 b1:Int) (hl1:RunsW Yir (.loop Yc145) (Ys145 a b) (.exit 0) (Ys145 a1 b1)):Runs Yir 145 [.int .u64 a, .int .u64 b] (.int .u64 a1):=Runs.of_bodyW (fn:=Yi145) (s:=(dds 4 (.val (.int .u64 a1)::(dds 7 [])))) (ex := .ret) rfl rfl (RunsW.seq (RunsW.go TQB_holds 400 [] [0,1] a0 (by kernel_rfl)) (RunsW.seq (RunsW.block hl1) (RunsW.go TQB_holds 400 [] [4] a0 (by kernel_rfl)))) (by intro i e;cases e) rfl
def Ys109 (x:Rn) (y:Rn) (z:Rn):State:=(dds 4 (.box [.bool z.1, .sl z.2.length (lm z.2)]::(.box [.bool x.1, .sl x.2.length (lm x.2)]::(.box [.bool y.1, .sl y.2.length (lm y.2)]::(dds 35 [])))))
theorem Yk109_1 (x:Rn) (y:Rn) (z:Rn) (ua ub ug g:Int) (c1:(decide ((y.2.length:Int)>0))=true) (c2:(decide ((x.2.length:Int)≤2))=true) (c3:(decide ((y.2.length:Int)≤2))=true) (n1:Runs Yir 146 [rawAV x] (.int .u64 ua)) (n2:Runs Yir 146 [rawAV y] (.int .u64 ub)) (n3:Runs Yir 145 [.int .u64 ua, .int .u64 ub] (.int .u64 ug)) (n4:Runs Yir 144 [.int .u64 ug] (bigAV g)):RunsW Yir Yc109 (Ys109 x y z) .ret (Ys109 x y (cn g)):=(RunsW.go TQB_holds 400 [.b true, .b true, .b true, .r (.int .u64 ua), .r (.int .u64 ub), .r (.int .u64 ug), .r (bigAV g)] [4,5,6] (ac c1 (ac c2 (ac c3 (ac n1 (ac n2 (ac n3 (ac n4 a0))))))) (by kernel_rfl))
theorem Yk109_2 (x:Rn) (y:Rn) (z:Rn) (q r:Int) (c1:(decide ((y.2.length:Int)>0))=true) (c2:(decide ((x.2.length:Int)≤2))=true) (c3:(decide ((y.2.length:Int)≤2))=false) (n1:Runs Yir 110 [rawAV x,rawAV y] (.tup [bigAV q,bigAV r])):RunsW Yir Yc109 (Ys109 x y z) .norm (Ys109 y (cn r) z):=(RunsW.go TQB_holds 400 [.b true, .b true, .b false, .r (.tup [bigAV q,bigAV r])] [4,5,6] (ac c1 (ac c2 (ac c3 (ac n1 a0)))) (by kernel_rfl))
theorem Yk109_3 (x:Rn) (y:Rn) (z:Rn) (q r:Int) (c1:(decide ((y.2.length:Int)>0))=true) (c2:(decide ((x.2.length:Int)≤2))=false) (n1:Runs Yir 110 [rawAV x,rawAV y] (.tup [bigAV q,bigAV r])):RunsW Yir Yc109 (Ys109 x y z) .norm (Ys109 y (cn r) z):=(RunsW.go TQB_holds 400 [.b true, .b false, .b false, .r (.tup [bigAV q,bigAV r])] [4,5,6] (ac c1 (ac c2 (ac (show false=false from rfl) (ac n1 a0)))) (by kernel_rfl))
theorem Yk109_4 (x:Rn) (y:Rn) (z:Rn)  (c1:(decide ((y.2.length:Int)>0))=false):RunsW Yir Yc109 (Ys109 x y z) (.exit 0) (Ys109 x y z):=(RunsW.go TQB_holds 400 [.b false] [4,5,6] (ac c1 a0) (by kernel_rfl))
theorem Yrun109_n (b1 b2:Bool) (xs ys:List Int) (v w:Int) (x y z:Rn) (n1:Runs Yir 111 [.agg [.bool b1, .sl xs.length (lm xs)]] (bigAV v)) (n2:Runs Yir 111 [.agg [.bool b2, .sl ys.length (lm ys)]] (bigAV w)) (hl3:RunsW Yir (.loop Yc109) (Ys109 (cn v) (cn w) (false,[])) (.exit 0) (Ys109 x y z)):Runs Yir 109 [.agg [.bool b1, .sl xs.length (lm xs)], .agg [.bool b2, .sl ys.length (lm ys)]] (rawAV x):=Runs.of_bodyW (fn:=Yi109) (s:=(dds 4 (.box [.bool x.1, .sl x.2.length (lm x.2)]::(dds 37 [])))) (ex := .ret) rfl rfl (RunsW.seq (RunsW.go (t:=(.val (.agg [.bool b1, .sl xs.length (lm xs)])::(.val (.agg [.bool b2, .sl ys.length (lm ys)])::(.box [.bool b1, .sl xs.length (lm xs)]::(.box [.bool b2, .sl ys.length (lm ys)]::(.box [.bool false, .sl 0 []]::(dds 37 []))))))) (ex := .norm) TQB_holds 400 [] [0,1,2,3,4] a0 (by kernel_rfl)) (RunsW.seq (RunsW.go TQB_holds 400 [.r (bigAV v), .r (bigAV w)] [4,5,6] (ac n1 (ac n2 a0)) (by kernel_rfl)) (RunsW.seq (RunsW.block hl3) (RunsW.go TQB_holds 400 [] [4] a0 (by kernel_rfl))))) (by intro i e;cases e) rfl
theorem Yrun109_r (b1 b2:Bool) (xs ys:List Int) (v w:Int) (x y z:Rn) (n1:Runs Yir 111 [.agg [.bool b1, .sl xs.length (lm xs)]] (bigAV v)) (n2:Runs Yir 111 [.agg [.bool b2, .sl ys.length (lm ys)]] (bigAV w)) (hl3:RunsW Yir (.loop Yc109) (Ys109 (cn v) (cn w) (false,[])) .ret (Ys109 x y z)):Runs Yir 109 [.agg [.bool b1, .sl xs.length (lm xs)], .agg [.bool b2, .sl ys.length (lm ys)]] (rawAV z):=Runs.of_bodyW (fn:=Yi109) (s:=(dds 4 (.box [.bool z.1, .sl z.2.length (lm z.2)]::(.box [.bool x.1, .sl x.2.length (lm x.2)]::(.box [.bool y.1, .sl y.2.length (lm y.2)]::(dds 35 [])))))) (ex := .ret) rfl rfl (RunsW.seq (RunsW.go (t:=(.val (.agg [.bool b1, .sl xs.length (lm xs)])::(.val (.agg [.bool b2, .sl ys.length (lm ys)])::(.box [.bool b1, .sl xs.length (lm xs)]::(.box [.bool b2, .sl ys.length (lm ys)]::(.box [.bool false, .sl 0 []]::(dds 37 []))))))) (ex := .norm) TQB_holds 400 [] [0,1,2,3,4] a0 (by kernel_rfl)) (RunsW.seq (RunsW.go TQB_holds 400 [.r (bigAV v), .r (bigAV w)] [4,5,6] (ac n1 (ac n2 a0)) (by kernel_rfl)) (RunsW.seq_out (RunsW.block_ret hl3) (by intro e;cases e)))) (by intro i e;cases e) rfl
def TQC:Table:=TQB
theorem TQC_holds:THolds Yir TQC:=TQB_holds
end Go.Proofs.Ythnnfemologhfaa
