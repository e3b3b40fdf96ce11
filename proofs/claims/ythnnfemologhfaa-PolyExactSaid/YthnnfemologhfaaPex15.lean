/- Texts of the proof of PolyExact, packed by pack.py: part 15 of 19. -/
import Derived.KernelRfl
import Derived.Test.YthnnfemologhfaaPex14
namespace Go.Proofs.Ythnnfemologhfaa
open Go.IntKind (i64 u64 u32)
open Go.Ai
set_option maxRecDepth 100000
def Ys61i (o:Bool) (ps:List (List Rn)) (n:Int) (k:Int) (rs:List Rn) (d:Int) (i:Int):State:=(dds 2 (.val (.bool o)::(dds 1 (.val (.sl rs.length (pc rs))::(.val (.int .i64 d)::(.val (.int .i64 i)::(.val (.sl ps.length (pp ps))::(.val (.int .i64 n)::(.val (.int .i64 k)::(dds 19 []))))))))))
theorem Yk61i_1 (o:Bool) (ps:List (List Rn)) (n:Int) (k:Int) (rs:List Rn) (d:Int) (i:Int) (z:Int) (c1:(decide (i≤d))=true) (c2:(decide (z>256))=true) (n1:0≤i∧i<(rs.length:Int)) (n2:Runs Yir 76 [rawAV (rs.getD (Int.toNat i) z0)] (.int .i64 z)):RunsW Yir Yc61i (Ys61i o ps n k rs d i) .ret (Ys61i true ps n k rs d i):=(RunsW.go TAA_holds 400 [.b true, .v (rawAV (rs.getD (Int.toNat i) z0)), .r (.int .i64 z), .b true] [2,4,5,6,7,8,9] (ac c1 (ac n1 (ac (take_pcI n1) (ac n2 (ac c2 a0))))) (by kernel_rfl))
theorem Yk61i_2 (o:Bool) (ps:List (List Rn)) (n:Int) (k:Int) (rs:List Rn) (d:Int) (i:Int) (z:Int) (c1:(decide (i≤d))=true) (c2:(decide (z>256))=false) (n1:0≤i∧i<(rs.length:Int)) (n2:Runs Yir 76 [rawAV (rs.getD (Int.toNat i) z0)] (.int .i64 z)):RunsW Yir Yc61i (Ys61i o ps n k rs d i) .norm (Ys61i o ps n k rs d (i64.wrap (i+1))):=(RunsW.go TAA_holds 400 [.b true, .v (rawAV (rs.getD (Int.toNat i) z0)), .r (.int .i64 z), .b false] [2,4,5,6,7,8,9] (ac c1 (ac n1 (ac (take_pcI n1) (ac n2 (ac c2 a0))))) (by kernel_rfl))
theorem Yk61i_3 (o:Bool) (ps:List (List Rn)) (n:Int) (k:Int) (rs:List Rn) (d:Int) (i:Int)  (c1:(decide (i≤d))=false):RunsW Yir Yc61i (Ys61i o ps n k rs d i) (.exit 2) (Ys61i o ps n k rs d i):=(RunsW.go TAA_holds 400 [.b false] [2,4,5,6,7,8,9] (ac c1 a0) (by kernel_rfl))
def Yc61:ICode := .seq (.region false [oB 10 .lss 9 8]) (.seq (.cond (.t 10) (.skip) (.exit 0)) (.seq (.block 1 (.seq (.region false [o1 11 (.ixa 7 (.t 9) 1),o1 12 (.ld 11 11 1 true),oM 4 12]) (.seq (.region false [oM 13 4,oC 14 62 [13],oM 5 14]) (.seq (.seq (.region false [oM 15 5,o1 16 (.bin .gtr (.t 15) (.c (.int .i64 16)))]) (.cond (.t 16) (.seq (.region false [o1 2 (.mov (.c (.bool true)))]) (.ret)) (.skip))) (.seq (.region false [o1 6 (.mov (.c (.int .i64 0)))]) (.block 2 (.loop (.seq (.seq (.region false [oM 17 6,oM 18 5,oB 19 .leq 17 18]) (.cond (.t 19) (.skip) (.exit 2))) (.seq (.block 3 (.seq (.region false [oM 22 4,oM 23 6,o1 24 (.ixa 22 (.t 23) 2),o1 25 (.ld 24 24 2 false),oC 26 76 [25],o1 27 (.bin .gtr (.t 26) (.c (.int .i64 256)))]) (.cond (.t 27) (.seq (.region false [o1 2 (.mov (.c (.bool true)))]) (.ret)) (.skip)))) (.region false [oM 20 6,o1 21 (.bin .add (.t 20) (.c (.int .i64 1))),oM 6 21])))))))))) (.region false [o1 28 (.bin .add (.t 9) (.c (.int .i64 1))),oM 9 28])))
def Ys61 (o:Bool) (ps:List (List Rn)) (n:Int) (k:Int):State:=(dds 2 (.val (.bool o)::(dds 4 (.val (.sl ps.length (pp ps))::(.val (.int .i64 n)::(.val (.int .i64 k)::(dds 19 [])))))))
theorem Yk61_1 (o:Bool) (ps:List (List Rn)) (n:Int) (k:Int) (d:Int) (c1:(decide (k<n))=true) (c2:(decide (d>16))=true) (n1:0≤k∧k<(ps.length:Int)) (n2:Runs Yir 62 [.sl ((ps.getD (Int.toNat k) []).length) (pc (ps.getD (Int.toNat k) []))] (.int .i64 d)):RunsW Yir Yc61 (Ys61 o ps n k) .ret (Ys61 true ps n k):=(RunsW.seq (RunsW.go (t:=(dds 2 (.val (.bool o)::(dds 4 (.val (.sl ps.length (pp ps))::(vi n::(vi k::(.val (.bool (decide (k<n)))::(dds 18 []))))))))) (ex := .norm) TAA_holds 400 [] [2,7,8,9,10] a0 (by kernel_rfl)) (RunsW.seq (RunsW.go (t:=(dds 2 (.val (.bool o)::(dds 4 (.val (.sl ps.length (pp ps))::(vi n::(vi k::(dds 19 [])))))))) (ex := .norm) TAA_holds 400 [.b true] [2,7,8,9] (ac c1 a0) (by kernel_rfl)) (RunsW.seq_out (RunsW.block_ret (RunsW.seq (RunsW.go (t:=(dds 2 (.val (.bool o)::(dds 1 (.val (.sl ((ps.getD (Int.toNat k) []).length) (pc (ps.getD (Int.toNat k) [])))::(dds 2 (.val (.sl ps.length (pp ps))::(vi n::(vi k::(dds 19 [])))))))))) (ex := .norm) TAA_holds 400 [.v (.sl ((ps.getD (Int.toNat k) []).length) (pc (ps.getD (Int.toNat k) [])))] [2,4,7,8,9] (ac n1 (ac (take_ppI n1) a0)) (by kernel_rfl)) (RunsW.seq (RunsW.go (t:=(dds 2 (.val (.bool o)::(dds 1 (.val (.sl ((ps.getD (Int.toNat k) []).length) (pc (ps.getD (Int.toNat k) [])))::(vi d::(dds 1 (.val (.sl ps.length (pp ps))::(vi n::(vi k::(dds 19 []))))))))))) (ex := .norm) TAA_holds 400 [.r (.int .i64 d)] [2,4,5,7,8,9] (ac n2 a0) (by kernel_rfl)) (RunsW.seq_out (RunsW.go TAA_holds 400 [.b true] [2,7,8,9] (ac c2 a0) (by kernel_rfl)) (by intro e;cases e))))) (by intro e;cases e))))
theorem Yk61_2 (o:Bool) (ps:List (List Rn)) (n:Int) (k:Int) (d i:Int) (c1:(decide (k<n))=true) (c2:(decide (d>16))=false) (n1:0≤k∧k<(ps.length:Int)) (n2:Runs Yir 62 [.sl ((ps.getD (Int.toNat k) []).length) (pc (ps.getD (Int.toNat k) []))] (.int .i64 d)) (hl3:RunsW Yir (.loop Yc61i) (Ys61i o ps n k (ps.getD (Int.toNat k) []) d 0) (.exit 2) (Ys61i o ps n k (ps.getD (Int.toNat k) []) d i)):RunsW Yir Yc61 (Ys61 o ps n k) .norm (Ys61 o ps n (i64.wrap (k+1))):=(RunsW.seq (RunsW.go (t:=(dds 2 (.val (.bool o)::(dds 4 (.val (.sl ps.length (pp ps))::(vi n::(vi k::(.val (.bool (decide (k<n)))::(dds 18 []))))))))) (ex := .norm) TAA_holds 400 [] [2,7,8,9,10] a0 (by kernel_rfl)) (RunsW.seq (RunsW.go (t:=(dds 2 (.val (.bool o)::(dds 4 (.val (.sl ps.length (pp ps))::(vi n::(vi k::(dds 19 [])))))))) (ex := .norm) TAA_holds 400 [.b true] [2,7,8,9] (ac c1 a0) (by kernel_rfl)) (RunsW.seq (RunsW.block_norm (RunsW.seq (RunsW.go (t:=(dds 2 (.val (.bool o)::(dds 1 (.val (.sl ((ps.getD (Int.toNat k) []).length) (pc (ps.getD (Int.toNat k) [])))::(dds 2 (.val (.sl ps.length (pp ps))::(vi n::(vi k::(dds 19 [])))))))))) (ex := .norm) TAA_holds 400 [.v (.sl ((ps.getD (Int.toNat k) []).length) (pc (ps.getD (Int.toNat k) [])))] [2,4,7,8,9] (ac n1 (ac (take_ppI n1) a0)) (by kernel_rfl)) (RunsW.seq (RunsW.go (t:=(dds 2 (.val (.bool o)::(dds 1 (.val (.sl ((ps.getD (Int.toNat k) []).length) (pc (ps.getD (Int.toNat k) [])))::(vi d::(dds 1 (.val (.sl ps.length (pp ps))::(vi n::(vi k::(dds 19 []))))))))))) (ex := .norm) TAA_holds 400 [.r (.int .i64 d)] [2,4,5,7,8,9] (ac n2 a0) (by kernel_rfl)) (RunsW.seq (RunsW.go (t:=(dds 2 (.val (.bool o)::(dds 1 (.val (.sl ((ps.getD (Int.toNat k) []).length) (pc (ps.getD (Int.toNat k) [])))::(vi d::(dds 1 (.val (.sl ps.length (pp ps))::(vi n::(vi k::(dds 19 []))))))))))) (ex := .norm) TAA_holds 400 [.b false] [2,4,5,7,8,9] (ac c2 a0) (by kernel_rfl)) (RunsW.seq (RunsW.go TAA_holds 400 [] [2,4,5,6,7,8,9] a0 (by kernel_rfl)) (RunsW.block hl3)))))) (RunsW.go TAA_holds 400 [] [2,7,8,9] a0 (by kernel_rfl)))))
theorem Yk61_3 (o:Bool) (ps:List (List Rn)) (n:Int) (k:Int)  (c1:(decide (k<n))=false):RunsW Yir Yc61 (Ys61 o ps n k) (.exit 0) (Ys61 o ps n k):=(RunsW.seq (RunsW.go (t:=(dds 2 (.val (.bool o)::(dds 4 (.val (.sl ps.length (pp ps))::(vi n::(vi k::(.val (.bool (decide (k<n)))::(dds 18 []))))))))) (ex := .norm) TAA_holds 400 [] [2,7,8,9,10] a0 (by kernel_rfl)) (RunsW.seq_out (RunsW.go TAA_holds 400 [.b false] [2,7,8,9] (ac c1 a0) (by kernel_rfl)) (by intro e;cases e)))
def Ys61y (o:Bool) (ps:List (List Rn)) (n:Int) (k:Int):State:=(dds 2 (.val (.bool o)::(dds 4 (.val (.sl ps.length (pp ps))::(.val (.int .i64 n)::(.val (.int .i64 k)::(dds 19 [])))))))
theorem Yk61y_2 (o:Bool) (ps:List (List Rn)) (n:Int) (k:Int) (d i:Int) (c1:(decide (k<n))=true) (c2:(decide (d>16))=false) (n1:0≤k∧k<(ps.length:Int)) (n2:Runs Yir 62 [.sl ((ps.getD (Int.toNat k) []).length) (pc (ps.getD (Int.toNat k) []))] (.int .i64 d)) (hl3:RunsW Yir (.loop Yc61i) (Ys61i o ps n k (ps.getD (Int.toNat k) []) d 0) .ret (Ys61i true ps n k (ps.getD (Int.toNat k) []) d i)):RunsW Yir Yc61y (Ys61y o ps n k) .ret (Ys61y true ps n k):=(RunsW.seq (RunsW.go (t:=(dds 2 (.val (.bool o)::(dds 4 (.val (.sl ps.length (pp ps))::(vi n::(vi k::(.val (.bool (decide (k<n)))::(dds 18 []))))))))) (ex := .norm) TAA_holds 400 [] [2,7,8,9,10] a0 (by kernel_rfl)) (RunsW.seq (RunsW.go (t:=(dds 2 (.val (.bool o)::(dds 4 (.val (.sl ps.length (pp ps))::(vi n::(vi k::(dds 19 [])))))))) (ex := .norm) TAA_holds 400 [.b true] [2,7,8,9] (ac c1 a0) (by kernel_rfl)) (RunsW.seq_out (RunsW.block_ret (RunsW.seq (RunsW.go (t:=(dds 2 (.val (.bool o)::(dds 1 (.val (.sl ((ps.getD (Int.toNat k) []).length) (pc (ps.getD (Int.toNat k) [])))::(dds 2 (.val (.sl ps.length (pp ps))::(vi n::(vi k::(dds 19 [])))))))))) (ex := .norm) TAA_holds 400 [.v (.sl ((ps.getD (Int.toNat k) []).length) (pc (ps.getD (Int.toNat k) [])))] [2,4,7,8,9] (ac n1 (ac (take_ppI n1) a0)) (by kernel_rfl)) (RunsW.seq (RunsW.go (t:=(dds 2 (.val (.bool o)::(dds 1 (.val (.sl ((ps.getD (Int.toNat k) []).length) (pc (ps.getD (Int.toNat k) [])))::(vi d::(dds 1 (.val (.sl ps.length (pp ps))::(vi n::(vi k::(dds 19 []))))))))))) (ex := .norm) TAA_holds 400 [.r (.int .i64 d)] [2,4,5,7,8,9] (ac n2 a0) (by kernel_rfl)) (RunsW.seq (RunsW.go (t:=(dds 2 (.val (.bool o)::(dds 1 (.val (.sl ((ps.getD (Int.toNat k) []).length) (pc (ps.getD (Int.toNat k) [])))::(vi d::(dds 1 (.val (.sl ps.length (pp ps))::(vi n::(vi k::(dds 19 []))))))))))) (ex := .norm) TAA_holds 400 [.b false] [2,4,5,7,8,9] (ac c2 a0) (by kernel_rfl)) (RunsW.seq (RunsW.go TAA_holds 400 [] [2,4,5,6,7,8,9] a0 (by kernel_rfl)) (RunsW.block_ret (RunsW.keep (t':=(dds 2 (.val (.bool true)::(dds 4 (.val (.sl ps.length (pp ps))::(.val (.int .i64 n)::(.val (.int .i64 k)::(dds 19 [])))))))) [2,7,8,9] hl3 (by kernel_rfl)))))))) (by intro e;cases e))))
theorem Yrun61_n (ps:List (List Rn)) (n k:Int) (hl1:RunsW Yir (.loop Yc61) (Ys61 false ps (ps.length:Int) 0) (.exit 0) (Ys61 false ps n k)):Runs Yir 61 [.sl ps.length (pp ps)] (.bool false):=Runs.of_bodyW (fn:=Yi61) (s:=(dds 2 (.val (.bool false)::(dds 26 [])))) (ex := .ret) rfl rfl (RunsW.seq (RunsW.go (t:=(.val (.sl ps.length (pp ps))::(dds 1 (.val (.bool false)::(dds 26 []))))) (ex := .norm) TAA_holds 400 [] [0,2] a0 (by kernel_rfl)) (RunsW.seq (RunsW.seq (RunsW.go TAA_holds 400 [] [2,7,8,9] a0 (by kernel_rfl)) (RunsW.block hl1)) (RunsW.go TAA_holds 400 [] [2] a0 (by kernel_rfl)))) (by intro i e;cases e) rfl
theorem Yrun61_y (ps:List (List Rn)) (n k:Int) (hl1:RunsW Yir (.loop Yc61) (Ys61 false ps (ps.length:Int) 0) .ret (Ys61 true ps n k)):Runs Yir 61 [.sl ps.length (pp ps)] (.bool true):=Runs.of_bodyW (fn:=Yi61) (s:=(dds 2 (.val (.bool true)::(dds 4 (.val (.sl ps.length (pp ps))::(.val (.int .i64 n)::(.val (.int .i64 k)::(dds 19 [])))))))) (ex := .ret) rfl rfl (RunsW.seq (RunsW.go (t:=(.val (.sl ps.length (pp ps))::(dds 1 (.val (.bool false)::(dds 26 []))))) (ex := .norm) TAA_holds 400 [] [0,2] a0 (by kernel_rfl)) (RunsW.seq_out (RunsW.seq (RunsW.go TAA_holds 400 [] [2,7,8,9] a0 (by kernel_rfl)) (RunsW.block_ret hl1)) (by intro e;cases e))) (by intro i e;cases e) rfl
end Go.Proofs.Ythnnfemologhfaa

namespace Go.Proofs.Ythnnfemologhfaa
open Go.IntKind (i64 u64 u32)
open Go.Ai
set_option maxRecDepth 100000
def bigC (x:Int):Bool:=decide (256<(limbs x.natAbs).length)
def largeV (p:List Int):Bool:=decide (17<(trimL p).length) || (trimL p).any bigC
theorem any_false {p:List Int} {f:Int→Bool} (h:p.any f=false) (i:Nat) (hi:i<p.length):f (p.getD i 0)=false:=by
 rw [List.any_eq_false] at h
 rw [List.getD_eq_getElem?_getD,List.getElem?_eq_getElem hi]
 simpa using h _ (List.getElem_mem hi)
theorem any_true {p:List Int} {f:Int→Bool} (h:p.any f=true):∃ i,i<p.length∧f (p.getD i 0)=true:=by
 obtain ⟨x,hx,hf⟩:=List.any_eq_true.1 h
 obtain ⟨i,hi,rfl⟩:=List.mem_iff_getElem.1 hx
 refine ⟨i,hi,?_⟩
 rw [List.getD_eq_getElem?_getD,List.getElem?_eq_getElem hi]
 simpa using hf
section
variable {rs:List Rn} {ps:List (List Rn)} {n k:Int}
theorem Yloop61i (hg:∀ r∈rs,Good 1048576 r) (hN:rs.length≤1048576) :
  (largeV (vals rs)=false→(trimL (vals rs)).length≤17→RunsW Yir (.loop Yc61i) (Ys61i false ps n k rs (((topN (vals rs) rs.length:Nat):Int)-1) 0) (.exit 2) (Ys61i false ps n k rs (((topN (vals rs) rs.length:Nat):Int)-1) (topN (vals rs) rs.length:Nat))) ∧
  (largeV (vals rs)=true→(trimL (vals rs)).length≤17→∃ j:Nat,RunsW Yir (.loop Yc61i) (Ys61i false ps n k rs (((topN (vals rs) rs.length:Nat):Int)-1) 0) .ret (Ys61i true ps n k rs (((topN (vals rs) rs.length:Nat):Int)-1) (j:Nat))):=by
 have hle:=topN_le (vals rs) rs.length
 have hlen:(trimL (vals rs)).length=topN (vals rs) rs.length:=by rw [trim_length,vals_length]
 have step:∀ t:Nat,t<topN (vals rs) rs.length→bigC (rval (rs.getD t z0))=false→RunsW Yir Yc61i (Ys61i false ps n k rs (((topN (vals rs) rs.length:Nat):Int)-1) (t:Nat)) .norm (Ys61i false ps n k rs (((topN (vals rs) rs.length:Nat):Int)-1) ((t+1:Nat):Int)):=by
  intro t ht hb
  have ei:i64.wrap ((t:Int)+1)=((t+1:Nat):Int):=by rw [w64 (by omega) (by omega)];omega
  obtain ⟨g1,g2⟩:=good_getD hg t
  have k2:=Yk61i_2 false ps n k rs (((topN (vals rs) rs.length:Nat):Int)-1) (t:Nat) (((limbs (rval (rs.getD t z0)).natAbs).length:Nat):Int) (by simp;omega) (by unfold bigC at hb;simp only [decide_eq_false_iff_not] at hb ⊢;omega) (by omega) (by rw [Int.toNat_natCast];exact wsize_run g1 g2)
  rwa [ei] at k2
 refine ⟨fun hl _ => ?_,fun hl h17 => ?_⟩
 ·unfold largeV at hl
  rw [Bool.or_eq_false_iff] at hl
  have h:=RunsW.upTo (prog:=Yir) (c:=Yc61i) (ex := .exit 2) (fun t=>Ys61i false ps n k rs (((topN (vals rs) rs.length:Nat):Int)-1) (t:Nat)) (topN (vals rs) rs.length) (by intro e;cases e) (Yk61i_3 false ps n k rs _ _ (by simp;omega)) 0 (Nat.zero_le _) (fun t _ h2=>step t h2 (by
   have:=any_false hl.2 t (by omega)
   rwa [getD_trim,vals_getD] at this))
  exact h
 ·unfold largeV at hl
  rw [decide_eq_false (by omega),Bool.false_or] at hl
  obtain ⟨i,hi,hf⟩:=any_true hl
  rcases first_from (fun j=>bigC (rval (rs.getD j z0))) (topN (vals rs) rs.length) _ 0 (by rw [Nat.zero_add]) with h | ⟨j,_,h2,h3,h4⟩
  ·have:=h i (by omega) (by omega)
   rw [getD_trim,vals_getD] at hf
   rw [hf] at this
   cases this
  ·obtain ⟨g1,g2⟩:=good_getD hg j
   have k1:=Yk61i_1 false ps n k rs (((topN (vals rs) rs.length:Nat):Int)-1) (j:Nat) (((limbs (rval (rs.getD j z0)).natAbs).length:Nat):Int) (by simp;omega) (by unfold bigC at h3;simp only [decide_eq_true_eq] at h3 ⊢;omega) (by omega) (by rw [Int.toNat_natCast];exact wsize_run g1 g2)
   exact ⟨j,RunsW.upTo (prog:=Yir) (c:=Yc61i) (ex := .ret) (fun t=>Ys61i false ps n k rs (((topN (vals rs) rs.length:Nat):Int)-1) (t:Nat)) j (by intro e;cases e) k1 0 (Nat.zero_le _) (fun t _ h6=>step t (by omega) (h4 t (by omega) h6))⟩
end
theorem getD_mem {α:Type} {l:List (List α)} {i:Nat} (h:i<l.length):l.getD i []∈l:=by
 rw [List.getD_eq_getElem?_getD,List.getElem?_eq_getElem h];exact List.getElem_mem h
theorem plarge_run {ps:List (List Rn)} (hg:∀ p∈ps,(∀ r∈p,Good 1048576 r)∧p.length≤1048576) (hN:ps.length≤1048576):Runs Yir 61 [.sl ps.length (pp ps)] (.bool (ps.any fun p=>largeV (vals p))):=by
 have hdeg:∀ t,t<ps.length→Runs Yir 62 [.sl (ps.getD t []).length (pc (ps.getD t []))] (.int .i64 (((topN (vals (ps.getD t [])) (ps.getD t []).length:Nat):Int)-1)):=fun t ht=>degree_run (hg _ (getD_mem ht)).1 (hg _ (getD_mem ht)).2
 have step:∀ t:Nat,t<ps.length→largeV (vals (ps.getD t []))=false→RunsW Yir Yc61 (Ys61 false ps (ps.length:Nat) (t:Nat)) .norm (Ys61 false ps (ps.length:Nat) ((t+1:Nat):Int)):=by
  intro t ht hl
  have ei:i64.wrap ((t:Int)+1)=((t+1:Nat):Int):=by rw [w64 (by omega) (by omega)];omega
  obtain ⟨g1,g2⟩:=hg _ (getD_mem ht)
  have hlen:(trimL (vals (ps.getD t []))).length=topN (vals (ps.getD t [])) (ps.getD t []).length:=by rw [trim_length,vals_length]
  have h17:(trimL (vals (ps.getD t []))).length≤17:=by
   unfold largeV at hl
   rw [Bool.or_eq_false_iff,decide_eq_false_iff_not] at hl
   omega
  have k2:=Yk61_2 false ps (ps.length:Nat) (t:Nat) (((topN (vals (ps.getD t [])) (ps.getD t []).length:Nat):Int)-1) _ (by simp;omega) (by rw [decide_eq_false_iff_not];omega) (by omega) (by rw [Int.toNat_natCast];exact hdeg t ht) (by rw [Int.toNat_natCast];exact (Yloop61i g1 g2).1 hl h17)
  rwa [ei] at k2
 rcases first_from (fun j=>largeV (vals (ps.getD j []))) ps.length _ 0 (by rw [Nat.zero_add]) with h | ⟨j,_,h2,h3,h4⟩
 ·have hany:(ps.any fun p=>largeV (vals p))=false:=by
   rw [List.any_eq_false]
   intro p hp
   obtain ⟨i,hi,rfl⟩:=List.mem_iff_getElem.1 hp
   have:=h i (by omega) hi
   rw [List.getD_eq_getElem?_getD,List.getElem?_eq_getElem hi] at this
   simpa using this
  rw [hany]
  exact Yrun61_n ps _ _ (RunsW.upTo (prog:=Yir) (c:=Yc61) (ex := .exit 0) (fun t=>Ys61 false ps (ps.length:Nat) (t:Nat)) ps.length (by intro e;cases e) (Yk61_3 false ps _ _ (by simp)) 0 (Nat.zero_le _) (fun t _ h6=>step t h6 (h t (by omega) h6)))
 ·have hany:(ps.any fun p=>largeV (vals p))=true:=by
   rw [List.any_eq_true]
   exact ⟨_,getD_mem h2,h3⟩
  rw [hany]
  obtain ⟨g1,g2⟩:=hg _ (getD_mem h2)
  have hlen:(trimL (vals (ps.getD j []))).length=topN (vals (ps.getD j [])) (ps.getD j []).length:=by rw [trim_length,vals_length]
  have out:RunsW Yir Yc61 (Ys61 false ps (ps.length:Nat) (j:Nat)) .ret (Ys61 true ps (ps.length:Nat) (j:Nat)):=by
   by_cases h17:(trimL (vals (ps.getD j []))).length≤17
   ·obtain ⟨i,hi⟩:=(Yloop61i (ps:=ps) (n:=(ps.length:Nat)) (k:=(j:Nat)) g1 g2).2 h3 h17
    exact Yk61y_2 false ps (ps.length:Nat) (j:Nat) (((topN (vals (ps.getD j [])) (ps.getD j []).length:Nat):Int)-1) _ (by simp;omega) (by rw [decide_eq_false_iff_not];omega) (by omega) (by rw [Int.toNat_natCast];exact hdeg j h2) (by rw [Int.toNat_natCast];exact hi)
   ·exact Yk61_1 false ps (ps.length:Nat) (j:Nat) (((topN (vals (ps.getD j [])) (ps.getD j []).length:Nat):Int)-1) (by simp;omega) (by rw [decide_eq_true_eq];omega) (by omega) (by rw [Int.toNat_natCast];exact hdeg j h2)
  exact Yrun61_y ps _ _ (RunsW.upTo (prog:=Yir) (c:=Yc61) (ex := .ret) (fun t=>Ys61 false ps (ps.length:Nat) (t:Nat)) j (by intro e;cases e) out 0 (Nat.zero_le _) (fun t _ h6=>step t (by omega) (h4 t (by omega) h6)))
theorem plarge1_run {rs:List Rn} (hg:∀ r∈rs,Good 1048576 r) (hN:rs.length≤1048576):Runs Yir 61 [.sl 1 [.sl rs.length (pc rs)]] (.bool (largeV (vals rs))):=by
 have h:=plarge_run (ps:=[rs]) (fun p hp=>by rw [List.mem_singleton.1 hp];exact ⟨hg,hN⟩) (by simp)
 simpa [pp] using h
end Go.Proofs.Ythnnfemologhfaa

namespace Go.Proofs.Ythnnfemologhfaa
open Go.IntKind (i64 u64 u32)
open Go.Ai
set_option maxRecDepth 100000
def Ys83 (rs:List Rn) (ss:List Rn) (n:Int) (m:Int) (k:Nat) (os:List Rn) (l:Int) (i:Int):State:=(.val (.sl rs.length (pc rs))::(.val (.sl ss.length (pc ss))::(dds 3 (.val (.int .i64 n)::(.val (.int .i64 m)::(.own 2 k (pc os)::(dds 12 (.val (.int .i64 l)::(.val (.int .i64 i)::(dds 30 []))))))))))
theorem Yk83_1 (rs:List Rn) (ss:List Rn) (n:Int) (m:Int) (k:Nat) (os:List Rn) (l:Int) (i:Int)  (c1:(decide (i<l))=true) (c2:(decide (i<n))=true) (c3:(decide (i<m))=true) (n1:0≤i∧i<(rs.length:Int)) (n2:0≤i∧i<(k:Int)) (n3:os.length=k) (n4:(os.set (Int.toNat i) (rs.getD (Int.toNat i) z0)).length=k) (n5:0≤i∧i<(ss.length:Int)) (n6:Runs Yir 121 [rawAV ((os.set (Int.toNat i) (rs.getD (Int.toNat i) z0)).getD (Int.toNat i) z0),rawAV (ss.getD (Int.toNat i) z0)] (bigAV ((rval ((os.set (Int.toNat i) (rs.getD (Int.toNat i) z0)).getD (Int.toNat i) z0))+(rval (ss.getD (Int.toNat i) z0))))):RunsW Yir Yc83 (Ys83 rs ss n m k os l i) .norm (Ys83 rs ss n m k ((os.set (Int.toNat i) (rs.getD (Int.toNat i) z0)).set (Int.toNat i) (cn ((rval ((os.set (Int.toNat i) (rs.getD (Int.toNat i) z0)).getD (Int.toNat i) z0))+(rval (ss.getD (Int.toNat i) z0))))) l (i64.wrap (i+1))):=(RunsW.go TAA_holds 400 [.b true, .b true, .v (rawAV (rs.getD (Int.toNat i) z0)), .l (pc (os.set (Int.toNat i) (rs.getD (Int.toNat i) z0))), .b true, .v (rawAV ((os.set (Int.toNat i) (rs.getD (Int.toNat i) z0)).getD (Int.toNat i) z0)), .v (rawAV (ss.getD (Int.toNat i) z0)), .r (bigAV ((rval ((os.set (Int.toNat i) (rs.getD (Int.toNat i) z0)).getD (Int.toNat i) z0))+(rval (ss.getD (Int.toNat i) z0)))), .l (pc ((os.set (Int.toNat i) (rs.getD (Int.toNat i) z0)).set (Int.toNat i) (cn ((rval ((os.set (Int.toNat i) (rs.getD (Int.toNat i) z0)).getD (Int.toNat i) z0))+(rval (ss.getD (Int.toNat i) z0))))))] [0,1,5,6,7,20,21] (ac c1 (ac c2 (ac n1 (ac (take_pcI n1) (ac n2 (ac (lay_pcI (r:=rs.getD (Int.toNat i) z0) n3 n2) (ac c3 (ac n2 (ac (own_pcI n4 n2) (ac n5 (ac (take_pcI n5) (ac n6 (ac n2 (ac (lay_pcI (r:=cn ((rval ((os.set (Int.toNat i) (rs.getD (Int.toNat i) z0)).getD (Int.toNat i) z0))+(rval (ss.getD (Int.toNat i) z0)))) n4 n2) a0)))))))))))))) (by kernel_rfl))
theorem Yk83_2 (rs:List Rn) (ss:List Rn) (n:Int) (m:Int) (k:Nat) (os:List Rn) (l:Int) (i:Int)  (c1:(decide (i<l))=true) (c2:(decide (i<n))=true) (c3:(decide (i<m))=false) (n1:0≤i∧i<(rs.length:Int)) (n2:0≤i∧i<(k:Int)) (n3:os.length=k):RunsW Yir Yc83 (Ys83 rs ss n m k os l i) .norm (Ys83 rs ss n m k (os.set (Int.toNat i) (rs.getD (Int.toNat i) z0)) l (i64.wrap (i+1))):=(RunsW.go TAA_holds 400 [.b true, .b true, .v (rawAV (rs.getD (Int.toNat i) z0)), .l (pc (os.set (Int.toNat i) (rs.getD (Int.toNat i) z0))), .b false] [0,1,5,6,7,20,21] (ac c1 (ac c2 (ac n1 (ac (take_pcI n1) (ac n2 (ac (lay_pcI (r:=rs.getD (Int.toNat i) z0) n3 n2) (ac c3 a0))))))) (by kernel_rfl))
theorem Yk83_3 (rs:List Rn) (ss:List Rn) (n:Int) (m:Int) (k:Nat) (os:List Rn) (l:Int) (i:Int)  (c1:(decide (i<l))=true) (c2:(decide (i<n))=false) (c3:(decide (i<m))=true) (n1:0≤i∧i<(k:Int)) (n2:os.length=k) (n3:0≤i∧i<(ss.length:Int)) (n4:Runs Yir 121 [rawAV (os.getD (Int.toNat i) z0),rawAV (ss.getD (Int.toNat i) z0)] (bigAV ((rval (os.getD (Int.toNat i) z0))+(rval (ss.getD (Int.toNat i) z0))))):RunsW Yir Yc83 (Ys83 rs ss n m k os l i) .norm (Ys83 rs ss n m k (os.set (Int.toNat i) (cn ((rval (os.getD (Int.toNat i) z0))+(rval (ss.getD (Int.toNat i) z0))))) l (i64.wrap (i+1))):=(RunsW.go TAA_holds 400 [.b true, .b false, .b true, .v (rawAV (os.getD (Int.toNat i) z0)), .v (rawAV (ss.getD (Int.toNat i) z0)), .r (bigAV ((rval (os.getD (Int.toNat i) z0))+(rval (ss.getD (Int.toNat i) z0)))), .l (pc (os.set (Int.toNat i) (cn ((rval (os.getD (Int.toNat i) z0))+(rval (ss.getD (Int.toNat i) z0))))))] [0,1,5,6,7,20,21] (ac c1 (ac c2 (ac c3 (ac n1 (ac (own_pcI n2 n1) (ac n3 (ac (take_pcI n3) (ac n4 (ac n1 (ac (lay_pcI (r:=cn ((rval (os.getD (Int.toNat i) z0))+(rval (ss.getD (Int.toNat i) z0)))) n2 n1) a0)))))))))) (by kernel_rfl))
theorem Yk83_5 (rs:List Rn) (ss:List Rn) (n:Int) (m:Int) (k:Nat) (os:List Rn) (l:Int) (i:Int)  (c1:(decide (i<l))=false):RunsW Yir Yc83 (Ys83 rs ss n m k os l i) (.exit 0) (Ys83 rs ss n m k os l i):=(RunsW.go TAA_holds 400 [.b false] [0,1,5,6,7,20,21] (ac c1 a0) (by kernel_rfl))
def plusG (rs ss:List Rn) (a b j:Nat):Rn:=if j<b then cn (rval (if j<a then rs.getD j z0 else z0)+rval (ss.getD j z0)) else (if j<a then rs.getD j z0 else z0)
theorem Yloop83 {rs ss:List Rn} {a b:Nat} (ha:a≤rs.length) (hb:b≤ss.length) (hN:rs.length≤1048576) (hM:ss.length≤1048576) (hr:∀ r∈rs,Good 1048575 r) (hs:∀ r∈ss,Good 1048575 r) :
  RunsW Yir (.loop Yc83) (Ys83 rs ss a b (max a b) (List.replicate (max a b) z0) (max a b:Nat) 0) (.exit 0) (Ys83 rs ss a b (max a b) ((List.range (max a b)).map (plusG rs ss a b)) (max a b:Nat) (max a b:Nat)):=by
 have h:=RunsW.up (prog:=Yir) (c:=Yc83) (ex := .exit 0) (fin:=Ys83 rs ss a b (max a b) ((List.range (max a b)).map (plusG rs ss a b)) (max a b:Nat) (max a b:Nat))
  (fun i=>Ys83 rs ss a b (max a b) (fillTo (plusG rs ss a b) i (max a b-i)) (max a b:Nat) (i:Nat)) (max a b) (by intro e;cases e) ?_ ?_ 0 (Nat.zero_le _)
 ·simp only [fillTo_zero,Nat.sub_zero] at h
  exact h
 ·intro i hi
  obtain ⟨r,hr'⟩:∃ r,max a b-i=r+1:=⟨max a b-i-1,by omega⟩
  have e2:max a b-(i+1)=r:=by omega
  have ei:i64.wrap ((i:Int)+1)=((i+1:Nat):Int):=by rw [w64 (by omega) (by omega)];omega
  have hlen:(fillTo (plusG rs ss a b) i (r+1)).length=max a b:=by rw [fillTo_length];omega
  have hz:=fillTo_at (plusG rs ss a b) i r
  have hset:=fillTo_set (plusG rs ss a b) i r
  obtain ⟨gr1,gr2⟩:=good_getD hr i
  obtain ⟨gs1,gs2⟩:=good_getD hs i
  simp only [hr',e2]
  generalize fillTo (plusG rs ss a b) i (r+1)=os at *
  by_cases h1:i<a <;> by_cases h2:i<b
  ·have ho:(os.set i (rs.getD i z0)).getD i z0=rs.getD i z0:=by simp [List.getD_eq_getElem?_getD,show i<os.length by omega]
   have k:=Yk83_1 rs ss a b (max a b) os (max a b:Nat) (i:Nat) (by simp;omega) (by simp;omega) (by simp;omega) (by omega) (by omega) hlen (by simpa using hlen) (by omega) (by
    simp only [Int.toNat_natCast,ho]
    exact wadd_run gr1 gs1 (by omega) (by omega))
   refine k.to rfl ?_
   simp only [Int.toNat_natCast,ei,ho,List.set_set]
   rw [← hset];simp only [plusG,if_pos h1,if_pos h2]
  ·have k:=Yk83_2 rs ss a b (max a b) os (max a b:Nat) (i:Nat) (by simp;omega) (by simp;omega) (by simp;omega) (by omega) (by omega) hlen
   refine k.to rfl ?_
   simp only [Int.toNat_natCast,ei]
   rw [← hset];simp only [plusG,if_pos h1,if_neg h2]
  ·have k:=Yk83_3 rs ss a b (max a b) os (max a b:Nat) (i:Nat) (by simp;omega) (by simp;omega) (by simp;omega) (by omega) hlen (by omega) (by
    simp only [Int.toNat_natCast,hz]
    exact wadd_run (good_z0 0).1 gs1 (by decide) (by omega))
   refine k.to rfl ?_
   simp only [Int.toNat_natCast,ei,hz]
   rw [← hset];simp only [plusG,if_neg h1,if_pos h2]
  ·omega
 ·have k:=Yk83_5 rs ss a b (max a b) ((List.range (max a b)).map (plusG rs ss a b)) (max a b:Nat) (max a b:Nat) (by simp)
  simp only [Nat.sub_self,fillTo_full]
  exact k
theorem Yrun83 (rs ss os ts:List Rn) (drs dss:Int) (k M:Nat) (n1:Runs Yir 62 [.sl rs.length (pc rs)] (.int .i64 drs)) (n2:Runs Yir 62 [.sl ss.length (pc ss)] (.int .i64 dss)) (n3:0≤(if (i64.wrap (dss+1))>(i64.wrap (drs+1)) then (i64.wrap (dss+1)) else (i64.wrap (drs+1)))∧(if (i64.wrap (dss+1))>(i64.wrap (drs+1)) then (i64.wrap (dss+1)) else (i64.wrap (drs+1)))≤1048576) (hl4:RunsW Yir (.loop Yc83) ((.val (.sl rs.length (pc rs))::(.val (.sl ss.length (pc ss))::(dds 3 (.val (.int .i64 (i64.wrap (drs+1)))::(.val (.int .i64 (i64.wrap (dss+1)))::(.own 2 (Int.toNat (if (i64.wrap (dss+1))>(i64.wrap (drs+1)) then (i64.wrap (dss+1)) else (i64.wrap (drs+1)))) (replA [.bool false, .sl 0 []] (Int.toNat (if (i64.wrap (dss+1))>(i64.wrap (drs+1)) then (i64.wrap (dss+1)) else (i64.wrap (drs+1)))))::(dds 12 (.val (.int .i64 (((Int.toNat (if (i64.wrap (dss+1))>(i64.wrap (drs+1)) then (i64.wrap (dss+1)) else (i64.wrap (drs+1)))):Nat):Int))::(.val (.int .i64 0)::(dds 30 []))))))))))) (.exit 0) (Ys83 rs ss (i64.wrap (drs+1)) (i64.wrap (dss+1)) M os M M)) (n5:Runs Yir 92 [.sl M (pc os)] (.fresh 2 k (pc ts))):Runs Yir 83 [.sl rs.length (pc rs), .sl ss.length (pc ss)] (.fresh 2 k (pc ts)):=Runs.of_bodyW (fn:=Yi83) (s:=(dds 4 (.own 2 k (pc ts)::(dds 47 [])))) (ex := .ret) rfl rfl (RunsW.seq (RunsW.go (t:=(vp rs::(vp ss::(dds 2 (.own 2 0 []::(dds 47 [])))))) (ex := .norm) TAA_holds 400 [] [0,1,4] a0 (by kernel_rfl)) (RunsW.seq (RunsW.go (t:=(vp rs::(vp ss::(dds 2 (.own 2 0 []::(vi (i64.wrap (drs+1))::(vi (i64.wrap (dss+1))::(dds 45 [])))))))) (ex := .norm) TAA_holds 400 [.r (.int .i64 drs), .r (.int .i64 dss)] [0,1,4,5,6] (ac n1 (ac n2 a0)) (by kernel_rfl)) (RunsW.seq (RunsW.go (t:=(vp rs::(vp ss::(dds 2 (.own 2 0 []::(vi (i64.wrap (drs+1))::(vi (i64.wrap (dss+1))::(.own 2 (Int.toNat (if (i64.wrap (dss+1))>(i64.wrap (drs+1)) then (i64.wrap (dss+1)) else (i64.wrap (drs+1)))) (replA [.bool false, .sl 0 []] (Int.toNat (if (i64.wrap (dss+1))>(i64.wrap (drs+1)) then (i64.wrap (dss+1)) else (i64.wrap (drs+1)))))::(dds 44 []))))))))) (ex := .norm) TAA_holds 400 [] [0,1,4,5,6,7] (ac n3 a0) (by kernel_rfl)) (RunsW.seq (RunsW.seq (RunsW.go TAA_holds 400 [] [0,1,5,6,7,20,21] a0 (by kernel_rfl)) (RunsW.block hl4)) (RunsW.go TAA_holds 400 [.r (.fresh 2 k (pc ts))] [4] (ac n5 a0) (by kernel_rfl)))))) (by intro i e;cases e) rfl
theorem top_zero (xs:List Int) {j:Nat} (h:topN xs xs.length≤j):xs.getD j 0=0:=by
 rcases Nat.lt_or_ge j xs.length with g | g
 ·exact topN_zero xs xs.length j h g
 ·exact getD_end g
theorem plusG_val (rs ss:List Rn) (j:Nat):rval (plusG rs ss (topN (vals rs) rs.length) (topN (vals ss) ss.length) j)=(vals rs).getD j 0+(vals ss).getD j 0:=by
 have h1:=vals_getD rs j
 have h2:=vals_getD ss j
 unfold plusG
 by_cases g1:j<topN (vals rs) rs.length <;> by_cases g2:j<topN (vals ss) ss.length
 ·rw [if_pos g1,if_pos g2,rval_cn,h1,h2]
 ·have:=top_zero (vals ss) (j:=j) (by rw [vals_length];omega)
  rw [if_pos g1,if_neg g2,h1,this,Int.add_zero]
 ·have:=top_zero (vals rs) (j:=j) (by rw [vals_length];omega)
  rw [if_neg g1,if_pos g2,rval_cn,rval_z0,h2,this]
 ·have k1:=top_zero (vals ss) (j:=j) (by rw [vals_length];omega)
  have k2:=top_zero (vals rs) (j:=j) (by rw [vals_length];omega)
  rw [if_neg g1,if_neg g2,rval_z0,k1,k2];rfl
theorem plusG_good {K:Nat} {rs ss:List Rn} (hr:∀ r∈rs,Good K r) (hs:∀ r∈ss,Good K r) (a b j:Nat):Good (K+1) (plusG rs ss a b j):=by
 have h1:=good_getD hr j
 have h2:=good_getD hs j
 unfold plusG
 split
 ·split
  ·exact good_cn (h1.fits.add h2.fits)
  ·exact good_cn ((good_z0 K).fits.add h2.fits)
 ·split
  ·exact h1.mono (by omega)
  ·exact good_z0 _
theorem aplus_run {K:Nat} {rs ss:List Rn} (hr:∀ r∈rs,Good K r) (hs:∀ r∈ss,Good K r) (hK:K<1048576) (hN:rs.length≤1048576) (hM:ss.length≤1048576) :
  Runs Yir 83 [.sl rs.length (pc rs), .sl ss.length (pc ss)] (.fresh 2 (padd (vals rs) (vals ss)).length (pk (padd (vals rs) (vals ss)))):=by
 have hr':∀ r∈rs,Good 1048575 r:=fun r h=>(hr r h).mono (by omega)
 have hs':∀ r∈ss,Good 1048575 r:=fun r h=>(hs r h).mono (by omega)
 have d1:=degree_run (fun r h=>(hr r h).mono (by omega)) hN
 have d2:=degree_run (fun r h=>(hs r h).mono (by omega)) hM
 have l1:=topN_le (vals rs) rs.length
 have l2:=topN_le (vals ss) ss.length
 have hl:=Yloop83 l1 l2 hN hM hr' hs'
 have hg:∀ r∈(List.range (max (topN (vals rs) rs.length) (topN (vals ss) ss.length))).map (plusG rs ss (topN (vals rs) rs.length) (topN (vals ss) ss.length)),Good 1048576 r:=good_fill fun i _=>(plusG_good hr hs _ _ i).mono (by omega)
 have ht:=atrim_run hg (by simp;omega)
 have e:trimL (vals ((List.range (max (topN (vals rs) rs.length) (topN (vals ss) ss.length))).map (plusG rs ss (topN (vals rs) rs.length) (topN (vals ss) ss.length))))=padd (vals rs) (vals ss):=by
  rw [← padd_trim]
  apply trim_ext
  intro j
  rw [getD_padd,vals_range]
  split
  ·exact plusG_val rs ss j
  ·rename_i h
   rw [top_zero (vals rs) (j:=j) (by rw [vals_length];omega),top_zero (vals ss) (j:=j) (by rw [vals_length];omega)];rfl
 rw [e] at ht
 have e1:i64.wrap ((((topN (vals rs) rs.length:Nat):Int)-1)+1)=((topN (vals rs) rs.length:Nat):Int):=by rw [w64 (by omega) (by omega)];omega
 have e2:i64.wrap ((((topN (vals ss) ss.length:Nat):Int)-1)+1)=((topN (vals ss) ss.length:Nat):Int):=by rw [w64 (by omega) (by omega)];omega
 have e3:(if ((topN (vals ss) ss.length:Nat):Int)>((topN (vals rs) rs.length:Nat):Int) then ((topN (vals ss) ss.length:Nat):Int) else ((topN (vals rs) rs.length:Nat):Int))=((max (topN (vals rs) rs.length) (topN (vals ss) ss.length):Nat):Int):=by split <;> omega
 rw [List.length_map,List.length_range] at ht
 exact Yrun83 rs ss _ _ _ _ _ (max (topN (vals rs) rs.length) (topN (vals ss) ss.length)) d1 d2 (by rw [e1,e2,e3];omega) (by rw [e1,e2,e3,Int.toNat_natCast,repl_pc];exact hl) ht
theorem Yrun84 (rs ss ts us vs:List Rn) (k1 k2 k3:Nat) (n1:Runs Yir 92 [.sl ss.length (pc ss)] (.fresh 2 k1 (pc ts))) (n2:Runs Yir 127 [.sl k1 (pc ts)] (.fresh 2 k2 (pc us))) (n3:Runs Yir 83 [.sl rs.length (pc rs), .sl k2 (pc us)] (.fresh 2 k3 (pc vs))):Runs Yir 84 [.sl rs.length (pc rs), .sl ss.length (pc ss)] (.fresh 2 k3 (pc vs)):=Runs.go (fn:=Yi84) TAA_holds rfl 400 rfl [.r (.fresh 2 k1 (pc ts)), .r (.fresh 2 k2 (pc us)), .r (.fresh 2 k3 (pc vs))] (ac n1 (ac n2 (ac n3 a0))) (by kernel_rfl)
theorem aminus_run {K:Nat} {rs ss:List Rn} (hr:∀ r∈rs,Good K r) (hs:∀ r∈ss,Good K r) (hK:K<1048576) (hN:rs.length≤1048576) (hM:ss.length≤1048576) :
  Runs Yir 84 [.sl rs.length (pc rs), .sl ss.length (pc ss)] (.fresh 2 (psub (vals rs) (vals ss)).length (pk (psub (vals rs) (vals ss)))):=by
 have h1:=atrim_run (fun r h=>(hs r h).mono (show K≤1048576 by omega)) hM
 have f1:∀ x∈trimL (vals ss),Fits K x:=fits_mem_trim (fits_vals hs)
 have l1:=trim_len (vals ss)
 rw [vals_length] at l1
 have h2:=anegative_run (rs:=(trimL (vals ss)).map cn) (fun r h=>(good_cns f1 r h).mono (by omega)) (by simp;omega)
 rw [vals_cn] at h2
 have h3:=aplus_run (ss:=(pneg (trimL (vals ss))).map cn) hr (good_cns (fits_mem_pneg f1)) hK hN (by simp [pneg_len];omega)
 rw [vals_cn] at h3
 have e:padd (vals rs) (pneg (trimL (vals ss)))=psub (vals rs) (vals ss):=padd_ext (fun i=>rfl) (fun i=>by rw [getD_pneg,getD_pneg,getD_trim])
 rw [e] at h3
 rw [List.length_map] at h2 h3
 rw [pneg_len] at h3
 exact Yrun84 rs ss _ _ _ _ _ _ h1 h2 h3
def Ys72i (rs:List Rn) (ss:List Rn) (n:Int) (m:Int) (k:Nat) (os:List Rn) (i:Int) (j:Int):State:=(.val (.sl rs.length (pc rs))::(.val (.sl ss.length (pc ss))::(dds 3 (.val (.int .i64 n)::(.val (.int .i64 m)::(.own 2 k (pc os)::(.val (.int .i64 i)::(.val (.int .i64 j)::(dds 50 [])))))))))
theorem Yk72i_1 (rs:List Rn) (ss:List Rn) (n:Int) (m:Int) (k:Nat) (os:List Rn) (i:Int) (j:Int)  (c1:(decide (j<m))=true) (n1:0≤(i64.wrap (i+j))∧(i64.wrap (i+j))<(k:Int)) (n2:os.length=k) (n3:0≤i∧i<(rs.length:Int)) (n4:0≤j∧j<(ss.length:Int)) (n5:Runs Yir 113 [rawAV (rs.getD (Int.toNat i) z0),rawAV (ss.getD (Int.toNat j) z0)] (bigAV ((rval (rs.getD (Int.toNat i) z0))*(rval (ss.getD (Int.toNat j) z0))))) (n6:Runs Yir 121 [rawAV (os.getD (Int.toNat (i64.wrap (i+j))) z0),bigAV ((rval (rs.getD (Int.toNat i) z0))*(rval (ss.getD (Int.toNat j) z0)))] (bigAV ((rval (os.getD (Int.toNat (i64.wrap (i+j))) z0))+((rval (rs.getD (Int.toNat i) z0))*(rval (ss.getD (Int.toNat j) z0)))))):RunsW Yir Yc72i (Ys72i rs ss n m k os i j) .norm (Ys72i rs ss n m k (os.set (Int.toNat (i64.wrap (i+j))) (cn ((rval (os.getD (Int.toNat (i64.wrap (i+j))) z0))+((rval (rs.getD (Int.toNat i) z0))*(rval (ss.getD (Int.toNat j) z0)))))) i (i64.wrap (j+1))):=(RunsW.go TAA_holds 400 [.b true, .v (rawAV (os.getD (Int.toNat (i64.wrap (i+j))) z0)), .v (rawAV (rs.getD (Int.toNat i) z0)), .v (rawAV (ss.getD (Int.toNat j) z0)), .r (bigAV ((rval (rs.getD (Int.toNat i) z0))*(rval (ss.getD (Int.toNat j) z0)))), .r (bigAV ((rval (os.getD (Int.toNat (i64.wrap (i+j))) z0))+((rval (rs.getD (Int.toNat i) z0))*(rval (ss.getD (Int.toNat j) z0))))), .l (pc (os.set (Int.toNat (i64.wrap (i+j))) (cn ((rval (os.getD (Int.toNat (i64.wrap (i+j))) z0))+((rval (rs.getD (Int.toNat i) z0))*(rval (ss.getD (Int.toNat j) z0)))))))] [0,1,5,6,7,8,9] (ac c1 (ac n1 (ac (own_pcI n2 n1) (ac n3 (ac (take_pcI n3) (ac n4 (ac (take_pcI n4) (ac n5 (ac n6 (ac n1 (ac (lay_pcI (r:=cn ((rval (os.getD (Int.toNat (i64.wrap (i+j))) z0))+((rval (rs.getD (Int.toNat i) z0))*(rval (ss.getD (Int.toNat j) z0))))) n2 n1) a0))))))))))) (by kernel_rfl))
theorem Yk72i_2 (rs:List Rn) (ss:List Rn) (n:Int) (m:Int) (k:Nat) (os:List Rn) (i:Int) (j:Int)  (c1:(decide (j<m))=false):RunsW Yir Yc72i (Ys72i rs ss n m k os i j) (.exit 2) (Ys72i rs ss n m k os i j):=(RunsW.go TAA_holds 400 [.b false] [0,1,5,6,7,8,9] (ac c1 a0) (by kernel_rfl))
def Ys72 (rs:List Rn) (ss:List Rn) (n:Int) (m:Int) (k:Nat) (os:List Rn) (i:Int):State:=(.val (.sl rs.length (pc rs))::(.val (.sl ss.length (pc ss))::(dds 3 (.val (.int .i64 n)::(.val (.int .i64 m)::(.own 2 k (pc os)::(.val (.int .i64 i)::(dds 51 []))))))))
theorem Yk72_1 (rs:List Rn) (ss:List Rn) (n:Int) (m:Int) (k:Nat) (os:List Rn) (i:Int) (ps:List Rn) (c1:(decide (i<n))=true) (hl1:RunsW Yir (.loop Yc72i) (Ys72i rs ss n m k os i 0) (.exit 2) (Ys72i rs ss n m k ps i m)):RunsW Yir Yc72 (Ys72 rs ss n m k os i) .norm (Ys72 rs ss n m k ps (i64.wrap (i+1))):=(RunsW.seq (RunsW.go (t:=(vp rs::(vp ss::(dds 3 (vi n::(vi m::(.own 2 k (pc os)::(vi i::(dds 51 []))))))))) (ex := .norm) TAA_holds 400 [.b true] [0,1,5,6,7,8] (ac c1 a0) (by kernel_rfl)) (RunsW.seq (RunsW.block_norm (RunsW.seq (RunsW.go TAA_holds 400 [] [0,1,5,6,7,8,9] a0 (by kernel_rfl)) (RunsW.block hl1))) (RunsW.go TAA_holds 400 [] [0,1,5,6,7,8] a0 (by kernel_rfl))))
theorem Yk72_2 (rs:List Rn) (ss:List Rn) (n:Int) (m:Int) (k:Nat) (os:List Rn) (i:Int)  (c1:(decide (i<n))=false):RunsW Yir Yc72 (Ys72 rs ss n m k os i) (.exit 0) (Ys72 rs ss n m k os i):=(RunsW.seq_out (RunsW.go TAA_holds 400 [.b false] [0,1,5,6,7,8] (ac c1 a0) (by kernel_rfl)) (by intro e;cases e))
theorem Yrun72_1 (rs ss:List Rn) (drs dss:Int) (c1:((i64.wrap (drs+1))==0)=true) (n1:Runs Yir 62 [.sl rs.length (pc rs)] (.int .i64 drs)) (n2:Runs Yir 62 [.sl ss.length (pc ss)] (.int .i64 dss)):Runs Yir 72 [.sl rs.length (pc rs), .sl ss.length (pc ss)] (.fresh 2 0 []):=Runs.of_bodyW (fn:=Yi72) (s:=(dds 4 (.own 2 0 []::(dds 55 [])))) (ex := .ret) rfl rfl (RunsW.seq (RunsW.go (t:=(vp rs::(vp ss::(dds 2 (.own 2 0 []::(dds 55 [])))))) (ex := .norm) TAA_holds 400 [] [0,1,4] a0 (by kernel_rfl)) (RunsW.seq (RunsW.go (t:=(vp rs::(vp ss::(dds 2 (.own 2 0 []::(vi (i64.wrap (drs+1))::(vi (i64.wrap (dss+1))::(dds 53 [])))))))) (ex := .norm) TAA_holds 400 [.r (.int .i64 drs), .r (.int .i64 dss)] [0,1,4,5,6] (ac n1 (ac n2 a0)) (by kernel_rfl)) (RunsW.seq_out (RunsW.go TAA_holds 400 [.b true, .b true] [4] (ac c1 (ac (show true=true from rfl) a0)) (by kernel_rfl)) (by intro e;cases e)))) (by intro i e;cases e) rfl
theorem Yrun72_2 (rs ss:List Rn) (drs dss:Int) (c1:((i64.wrap (drs+1))==0)=false) (c2:((i64.wrap (dss+1))==0)=true) (n1:Runs Yir 62 [.sl rs.length (pc rs)] (.int .i64 drs)) (n2:Runs Yir 62 [.sl ss.length (pc ss)] (.int .i64 dss)):Runs Yir 72 [.sl rs.length (pc rs), .sl ss.length (pc ss)] (.fresh 2 0 []):=Runs.of_bodyW (fn:=Yi72) (s:=(dds 4 (.own 2 0 []::(dds 55 [])))) (ex := .ret) rfl rfl (RunsW.seq (RunsW.go (t:=(vp rs::(vp ss::(dds 2 (.own 2 0 []::(dds 55 [])))))) (ex := .norm) TAA_holds 400 [] [0,1,4] a0 (by kernel_rfl)) (RunsW.seq (RunsW.go (t:=(vp rs::(vp ss::(dds 2 (.own 2 0 []::(vi (i64.wrap (drs+1))::(vi (i64.wrap (dss+1))::(dds 53 [])))))))) (ex := .norm) TAA_holds 400 [.r (.int .i64 drs), .r (.int .i64 dss)] [0,1,4,5,6] (ac n1 (ac n2 a0)) (by kernel_rfl)) (RunsW.seq_out (RunsW.go TAA_holds 400 [.b false, .b true] [4] (ac c1 (ac c2 a0)) (by kernel_rfl)) (by intro e;cases e)))) (by intro i e;cases e) rfl
theorem Yrun72_3 (rs ss os ts:List Rn) (drs dss:Int) (k1 M:Nat) (c1:((i64.wrap (drs+1))==0)=false) (c2:((i64.wrap (dss+1))==0)=false) (n1:Runs Yir 62 [.sl rs.length (pc rs)] (.int .i64 drs)) (n2:Runs Yir 62 [.sl ss.length (pc ss)] (.int .i64 dss)) (n3:0≤(i64.wrap ((i64.wrap ((i64.wrap (drs+1))+(i64.wrap (dss+1))))-1))∧(i64.wrap ((i64.wrap ((i64.wrap (drs+1))+(i64.wrap (dss+1))))-1))≤1048576) (hl4:RunsW Yir (.loop Yc72) ((.val (.sl rs.length (pc rs))::(.val (.sl ss.length (pc ss))::(dds 3 (.val (.int .i64 (i64.wrap (drs+1)))::(.val (.int .i64 (i64.wrap (dss+1)))::(.own 2 (Int.toNat (i64.wrap ((i64.wrap ((i64.wrap (drs+1))+(i64.wrap (dss+1))))-1))) (replA [.bool false, .sl 0 []] (Int.toNat (i64.wrap ((i64.wrap ((i64.wrap (drs+1))+(i64.wrap (dss+1))))-1))))::(.val (.int .i64 0)::(dds 51 []))))))))) (.exit 0) (Ys72 rs ss (i64.wrap (drs+1)) (i64.wrap (dss+1)) M os (i64.wrap (drs+1)))) (n5:Runs Yir 92 [.sl M (pc os)] (.fresh 2 k1 (pc ts))):Runs Yir 72 [.sl rs.length (pc rs), .sl ss.length (pc ss)] (.fresh 2 k1 (pc ts)):=Runs.of_bodyW (fn:=Yi72) (s:=(dds 4 (.own 2 k1 (pc ts)::(dds 55 [])))) (ex := .ret) rfl rfl (RunsW.seq (RunsW.go (t:=(vp rs::(vp ss::(dds 2 (.own 2 0 []::(dds 55 [])))))) (ex := .norm) TAA_holds 400 [] [0,1,4] a0 (by kernel_rfl)) (RunsW.seq (RunsW.go (t:=(vp rs::(vp ss::(dds 2 (.own 2 0 []::(vi (i64.wrap (drs+1))::(vi (i64.wrap (dss+1))::(dds 53 [])))))))) (ex := .norm) TAA_holds 400 [.r (.int .i64 drs), .r (.int .i64 dss)] [0,1,4,5,6] (ac n1 (ac n2 a0)) (by kernel_rfl)) (RunsW.seq (RunsW.go (t:=(vp rs::(vp ss::(dds 2 (.own 2 0 []::(vi (i64.wrap (drs+1))::(vi (i64.wrap (dss+1))::(dds 53 [])))))))) (ex := .norm) TAA_holds 400 [.b false, .b false] [0,1,4,5,6] (ac c1 (ac c2 a0)) (by kernel_rfl)) (RunsW.seq (RunsW.go (t:=(vp rs::(vp ss::(dds 2 (.own 2 0 []::(vi (i64.wrap (drs+1))::(vi (i64.wrap (dss+1))::(.own 2 (Int.toNat (i64.wrap ((i64.wrap ((i64.wrap (drs+1))+(i64.wrap (dss+1))))-1))) (replA [.bool false, .sl 0 []] (Int.toNat (i64.wrap ((i64.wrap ((i64.wrap (drs+1))+(i64.wrap (dss+1))))-1))))::(dds 52 []))))))))) (ex := .norm) TAA_holds 400 [] [0,1,4,5,6,7] (ac n3 a0) (by kernel_rfl)) (RunsW.seq (RunsW.seq (RunsW.go TAA_holds 400 [] [0,1,5,6,7,8] a0 (by kernel_rfl)) (RunsW.block hl4)) (RunsW.go TAA_holds 400 [.r (.fresh 2 k1 (pc ts))] [4] (ac n5 a0) (by kernel_rfl))))))) (by intro i e;cases e) rfl
theorem atimes_run {K:Nat} {rs ss:List Rn} (hr:∀ r∈rs,Good K r) (hs:∀ r∈ss,Good K r) (hK:2*K+rs.length<1048576) (hM:rs.length+ss.length≤1048576) :
  Runs Yir 72 [.sl rs.length (pc rs), .sl ss.length (pc ss)] (.fresh 2 (pmul (vals rs) (vals ss)).length (pk (pmul (vals rs) (vals ss)))):=by
 have d1:=degree_run (fun r h=>(hr r h).mono (show K≤1048576 by omega)) (by omega)
 have d2:=degree_run (fun r h=>(hs r h).mono (show K≤1048576 by omega)) (by omega)
 have l1:=topN_le (vals rs) rs.length
 have l2:=topN_le (vals ss) ss.length
 have e1:i64.wrap ((((topN (vals rs) rs.length:Nat):Int)-1)+1)=((topN (vals rs) rs.length:Nat):Int):=by rw [w64 (by omega) (by omega)];omega
 have e2:i64.wrap ((((topN (vals ss) ss.length:Nat):Int)-1)+1)=((topN (vals ss) ss.length:Nat):Int):=by rw [w64 (by omega) (by omega)];omega
 by_cases z1:topN (vals rs) rs.length=0
 ·have h:=Yrun72_1 rs ss _ _ (by rw [e1,z1];rfl) d1 d2
  rw [pmul_zero_left (by rw [vals_length];exact z1)]
  exact h
 by_cases z2:topN (vals ss) ss.length=0
 ·have h:=Yrun72_2 rs ss _ _ (by rw [e1,beq_eq_false_iff_ne];omega) (by rw [e2,z2];rfl) d1 d2
  rw [pmul_zero_right (by rw [vals_length];exact z2)]
  exact h
 have hmul:=tOut_mul rs ss _ _ (topN (vals rs) rs.length+topN (vals ss) ss.length-1) rfl rfl (by omega)
 have hgood:=tOut_good (os:=List.replicate (topN (vals rs) rs.length+topN (vals ss) ss.length-1) z0) hr hs (good_zeros _ _) (topN (vals ss) ss.length) (topN (vals rs) rs.length)
 have hlen:=tOut_length rs ss (List.replicate (topN (vals rs) rs.length+topN (vals ss) ss.length-1) z0) (topN (vals ss) ss.length) (topN (vals rs) rs.length)
 rw [List.length_replicate] at hlen
 have key:∀ a b:Nat,a=topN (vals rs) rs.length→b=topN (vals ss) ss.length→RunsW Yir (.loop Yc72) (Ys72 rs ss a b (a+b-1) (List.replicate (a+b-1) z0) 0) (.exit 0) (Ys72 rs ss a b (a+b-1) (tOut rs ss (List.replicate (a+b-1) z0) b a) a):=by
  intro a b ha hb
  have hl:=RunsW.up (prog:=Yir) (c:=Yc72) (ex := .exit 0) (fin:=Ys72 rs ss a b (a+b-1) (tOut rs ss (List.replicate (a+b-1) z0) b a) a)
   (fun i=>Ys72 rs ss a b (a+b-1) (tOut rs ss (List.replicate (a+b-1) z0) b i) (i:Nat)) a (by intro e;cases e) ?_ ?_ 0 (Nat.zero_le _)
  ·exact hl
  ·intro i hi
   have ei:i64.wrap ((i:Int)+1)=((i+1:Nat):Int):=by rw [w64 (by omega) (by omega)];omega
   have hgo:=tOut_good (os:=List.replicate (a+b-1) z0) hr hs (good_zeros _ _) b i
   have hlo:=tOut_length rs ss (List.replicate (a+b-1) z0) b i
   rw [List.length_replicate] at hlo
   have k:=Yk72_1 rs ss a b (a+b-1) (tOut rs ss (List.replicate (a+b-1) z0) b i) (i:Nat) (tOut rs ss (List.replicate (a+b-1) z0) b (i+1)) (by simp;omega) ?_
   ·exact k.to rfl (by rw [ei])
   ·rw [tOut]
    generalize tOut rs ss (List.replicate (a+b-1) z0) b i=os at *
    have hin:=RunsW.up (prog:=Yir) (c:=Yc72i) (ex := .exit 2) (fin:=Ys72i rs ss a b (a+b-1) (tIn rs ss os i b) i b)
     (fun j=>Ys72i rs ss a b (a+b-1) (tIn rs ss os i j) (i:Nat) (j:Nat)) b (by intro e;cases e) ?_ ?_ 0 (Nat.zero_le _)
    ·exact hin
    ·intro j hj
     have ej:i64.wrap ((j:Int)+1)=((j+1:Nat):Int):=by rw [w64 (by omega) (by omega)];omega
     have eij:i64.wrap ((i:Int)+(j:Int))=((i+j:Nat):Int):=by rw [w64 (by omega) (by omega)];omega
     have hli:=tIn_length rs ss os i j
     have hfar:=tIn_far rs ss os i j (i+j) (Nat.le_refl _)
     obtain ⟨gr1,gr2⟩:=good_getD hr i
     obtain ⟨gs1,gs2⟩:=good_getD hs j
     obtain ⟨go1,go2⟩:=good_getD hgo (i+j)
     have hp:=(Fits.mul (good_getD hr i).fits (good_getD hs j).fits).len
     have k:=Yk72i_1 rs ss a b (a+b-1) (tIn rs ss os i j) (i:Nat) (j:Nat) (by simp;omega) (by rw [eij];omega) (by omega) (by omega) (by omega)
      (by simp only [Int.toNat_natCast];exact wmul_run gr1 gs1 (by omega))
      (by
       simp only [Int.toNat_natCast,eij,hfar]
       have:=wadd_run (na:=(os.getD (i+j) z0).1) (nb:=decide (rval (rs.getD i z0)*rval (ss.getD j z0)<0)) go1 (big_u32 (rval (rs.getD i z0)*rval (ss.getD j z0)).natAbs) (by omega) (by omega)
       rw [rv_big] at this
       exact this)
     refine k.to rfl ?_
     simp only [Int.toNat_natCast,eij,ej,tIn]
    ·exact Yk72i_2 rs ss a b (a+b-1) (tIn rs ss os i b) (i:Nat) (b:Nat) (by simp)
  ·exact Yk72_2 rs ss a b (a+b-1) (tOut rs ss (List.replicate (a+b-1) z0) b a) (a:Nat) (by simp)
 have hl:=key _ _ rfl rfl
 have e3:i64.wrap ((i64.wrap ((((topN (vals rs) rs.length:Nat):Int))+(((topN (vals ss) ss.length:Nat):Int))))-1)=((topN (vals rs) rs.length+topN (vals ss) ss.length-1:Nat):Int):=by
  rw [w64 (n:=((topN (vals rs) rs.length:Nat):Int)+((topN (vals ss) ss.length:Nat):Int)) (by omega) (by omega),w64 (by omega) (by omega)];omega
 have ht:=atrim_run (fun r h=>(hgood r h).mono (show 2*K+topN (vals rs) rs.length≤1048576 by omega)) (by omega)
 rw [hmul,hlen] at ht
 exact Yrun72_3 rs ss _ _ _ _ _ _ (by rw [e1,beq_eq_false_iff_ne];omega) (by rw [e2,beq_eq_false_iff_ne];omega) d1 d2 (by rw [e1,e2,e3];omega) (by rw [e1,e2,e3,Int.toNat_natCast,repl_pc];exact hl) ht
end Go.Proofs.Ythnnfemologhfaa

namespace Go.Proofs.Ythnnfemologhfaa
open Go.IntKind (i64 u64 u32)
open Go.Ai
set_option maxRecDepth 100000
theorem Yrun63 (rs:List Rn) (n1:Runs Yir 61 [.sl 1 [.sl rs.length (pc rs)]] (.bool false)):Runs Yir 63 [.sl rs.length (pc rs)] (.tup [.sl rs.length (pc rs), .int .i64 0]):=Runs.go (fn:=Yi63) TMC_holds rfl 400 rfl [.r (.bool false), .b false] (ac n1 (ac (show false=false from rfl) a0)) (by kernel_rfl)
theorem Yrun23 (rs:List Rn) (d:Int) (n1:Runs Yir 62 [.sl rs.length (pc rs)] (.int .i64 d)):Runs Yir 23 [.sl rs.length (pc rs)] (.int .i64 d):=Runs.go (fn:=Yi23) TMC_holds rfl 400 rfl [.r (.int .i64 d)] (ac n1 a0) (by kernel_rfl)
theorem Yrun27 (rs us:List Rn) (n1:Runs Yir 61 [.sl 1 [.sl rs.length (pc rs)]] (.bool false)) (n2:Runs Yir 75 [.sl rs.length (pc rs)] (.fresh 2 us.length (pc us))) (n3:Runs Yir 63 [.sl us.length (pc us)] (.tup [.sl us.length (pc us), .int .i64 0])):Runs Yir 27 [.sl rs.length (pc rs)] (.tup [.sl us.length (pc us), .int .i64 0]):=Runs.go (fn:=Yi27) TMC_holds rfl 400 rfl [.r (.bool false), .b false, .r (.fresh 2 us.length (pc us)), .r (.tup [.sl us.length (pc us), .int .i64 0])] (ac n1 (ac (show false=false from rfl) (ac n2 (ac n3 a0)))) (by kernel_rfl)
def RunsT (f:Nat) (args:List AV) (p:List Int):Prop:=Runs Yir f args (.tup [.sl (p.map cn).length (pc (p.map cn)), .int .i64 0])
def RunsF (f:Nat) (args:List AV) (p:List Int):Prop:=Runs Yir f args (.fresh 2 (p.map cn).length (pc (p.map cn)))
theorem runsF {f:Nat} {args:List AV} {p:List Int} (h:Runs Yir f args (.fresh 2 p.length (pk p))):RunsF f args p:=by
 unfold RunsF
 have hl:(p.map cn).length=p.length:=List.length_map ..
 rw [hl];exact h
theorem small_large {p:List Int} (hl:(trimL p).length≤17) (hK:Kb 256 p):largeV p=false:=by
 unfold largeV
 rw [Bool.or_eq_false_iff,decide_eq_false_iff_not]
 refine ⟨by omega,?_⟩
 rw [List.any_eq_false]
 intro x hx
 obtain ⟨i,hi,rfl⟩:=List.mem_iff_getElem.1 (mem_trim hx)
 have h:=(hK i).len
 rw [List.getD_eq_getElem?_getD,List.getElem?_eq_getElem hi] at h
 unfold bigC
 simp only [Option.getD_some] at h
 simpa using h
theorem small_vals {rs:List Rn} {K:Nat} (hg:∀ r∈rs,Good K r) (hK:K≤256) (hl:rs.length≤17):largeV (vals rs)=false :=
 small_large (by have:=trim_len (vals rs);rw [vals_length] at this;omega) ((kb_of (fits_vals hg)).mono hK)
theorem large1 {rs:List Rn} {K:Nat} (hg:∀ r∈rs,Good K r) (hK:K≤256) (hl:rs.length≤17):Runs Yir 61 [.sl 1 [.sl rs.length (pc rs)]] (.bool false):=by
 have h:=plarge1_run (rs:=rs) (fun r hr=>(hg r hr).mono (by omega)) (by omega)
 rwa [small_vals hg hK hl] at h
theorem large2 {rs ss:List Rn} {K L:Nat} (hg:∀ r∈rs,Good K r) (hK:K≤256) (hl:rs.length≤17) (hg':∀ r∈ss,Good L r) (hL:L≤256) (hl':ss.length≤17):Runs Yir 61 [.sl 2 [.sl rs.length (pc rs), .sl ss.length (pc ss)]] (.bool false):=by
 have h:=plarge_run (ps:=[rs,ss]) (fun p hp=>by
  rcases List.mem_cons.1 hp with rfl | hp
  ·exact ⟨fun r hr=>(hg r hr).mono (by omega),by omega⟩
  ·rw [List.mem_singleton.1 hp];exact ⟨fun r hr=>(hg' r hr).mono (by omega),by omega⟩) (by simp)
 have e:([rs,ss].any fun p=>largeV (vals p))=false:=by
  simp [small_vals hg hK hl,small_vals hg' hL hl']
 rw [e] at h
 simpa [pp] using h
theorem sized_run {p:List Int} (hK:Kb 256 p) (hl:p.length≤17):RunsT 63 [.sl (p.map cn).length (pc (p.map cn))] p :=
 Yrun63 (p.map cn) (large1 (mcn_good hK) (Nat.le_refl _) (by rw [List.length_map];exact hl))
theorem pderiveT_run {rs:List Rn} {K:Nat} (hr:∀ r∈rs,Good K r) (hK:K+2≤256) (hl:rs.length≤17):RunsT 27 [.sl rs.length (pc rs)] (pder (vals rs)):=by
 have h:=runsF (aderived_run hr (by omega) (by omega))
 have hlen:=pder_len (vals rs)
 rw [vals_length] at hlen
 exact Yrun27 rs _ (large1 hr (by omega) hl) h (sized_run ((kb_pder (kb_of (fits_vals hr)) (by rw [vals_length];omega)).mono hK) (by omega))
theorem trim_vals_len (rs:List Rn):(trimL (vals rs)).length≤rs.length:=by have:=trim_len (vals rs);rwa [vals_length] at this
theorem pdeg_run {rs:List Rn} (hg:∀ r∈rs,Good 1048576 r) (hN:rs.length≤1048576):Runs Yir 23 [.sl rs.length (pc rs)] (.int .i64 (((trimL (vals rs)).length:Nat)-1:Int)):=by
 have h:=degree_run hg hN
 have e:(trimL (vals rs)).length=topN (vals rs) rs.length:=by rw [trim_length,vals_length]
 rw [e]
 exact Yrun23 rs _ h
def TPW:Table:=TMC
theorem TPW_holds:THolds Yir TPW:=TMC_holds
end Go.Proofs.Ythnnfemologhfaa

namespace Go.Proofs.Ythnnfemologhfaa
open Go.IntKind (i64 u64 u32)
open Go.Ai
set_option maxRecDepth 100000
theorem aw0:Runs Yir 92 [.sl 3 [.bool false, .sl 0 [], .bool false, .sl 0 [], .bool false, .sl 1 [.int .u32 1]]] (.fresh 2 3 [.bool false, .sl 0 [], .bool false, .sl 0 [], .bool false, .sl 1 [.int .u32 1]]):=fF_holds Ypr_ok (noMemo_holds _) 400 _ _ _ (by kernel_rfl)
theorem aw1:Runs Yir 74 [.sl 3 [.int .i64 0, .int .i64 0, .int .i64 1]] (.fresh 2 3 [.bool false, .sl 0 [], .bool false, .sl 0 [], .bool false, .sl 1 [.int .u32 1]]):=fF_holds Ypr_ok (memC_holds aw0 (noMemo_holds _)) 400 _ _ _ (by kernel_rfl)
theorem aw2:Runs Yir 92 [.sl 2 [.bool true, .sl 1 [.int .u32 1], .bool false, .sl 1 [.int .u32 1]]] (.fresh 2 2 [.bool true, .sl 1 [.int .u32 1], .bool false, .sl 1 [.int .u32 1]]):=fF_holds Ypr_ok (noMemo_holds _) 400 _ _ _ (by kernel_rfl)
theorem aw3:Runs Yir 74 [.sl 2 [.int .i64 (-1), .int .i64 1]] (.fresh 2 2 [.bool true, .sl 1 [.int .u32 1], .bool false, .sl 1 [.int .u32 1]]):=fF_holds Ypr_ok (memC_holds aw2 (noMemo_holds _)) 400 _ _ _ (by kernel_rfl)
theorem aw4:Runs Yir 61 [.sl 2 [.sl 3 [.bool false, .sl 0 [], .bool false, .sl 0 [], .bool false, .sl 1 [.int .u32 1]], .sl 2 [.bool true, .sl 1 [.int .u32 1], .bool false, .sl 1 [.int .u32 1]]]] (.bool false):=fF_holds Ypr_ok (noMemo_holds _) 400 _ _ _ (by kernel_rfl)
theorem aw5:Runs Yir 109 [.agg [.bool false, .sl 0 []], .agg [.bool false, .sl 1 [.int .u32 1]]] (.agg [.bool false, .sl 1 [.int .u32 1]]):=fF_holds Ypr_ok (noMemo_holds _) 400 _ _ _ (by kernel_rfl)
theorem aw6:Runs Yir 85 [.sl 3 [.bool false, .sl 0 [], .bool false, .sl 0 [], .bool false, .sl 1 [.int .u32 1]]] (.agg [.bool false, .sl 1 [.int .u32 1]]):=fF_holds Ypr_ok (memC_holds aw5 (noMemo_holds _)) 400 _ _ _ (by kernel_rfl)
theorem aw7:Runs Yir 86 [.sl 3 [.bool false, .sl 0 [], .bool false, .sl 0 [], .bool false, .sl 1 [.int .u32 1]]] (.fresh 2 3 [.bool false, .sl 0 [], .bool false, .sl 0 [], .bool false, .sl 1 [.int .u32 1]]):=fF_holds Ypr_ok (memC_holds aw6 (memC_holds aw0 (noMemo_holds _))) 400 _ _ _ (by kernel_rfl)
theorem aw8:Runs Yir 85 [.sl 2 [.bool true, .sl 1 [.int .u32 1], .bool false, .sl 1 [.int .u32 1]]] (.agg [.bool false, .sl 1 [.int .u32 1]]):=fF_holds Ypr_ok (memC_holds aw5 (noMemo_holds _)) 400 _ _ _ (by kernel_rfl)
theorem aw9:Runs Yir 86 [.sl 2 [.bool true, .sl 1 [.int .u32 1], .bool false, .sl 1 [.int .u32 1]]] (.fresh 2 2 [.bool true, .sl 1 [.int .u32 1], .bool false, .sl 1 [.int .u32 1]]):=fF_holds Ypr_ok (memC_holds aw8 (memC_holds aw2 (noMemo_holds _))) 400 _ _ _ (by kernel_rfl)
theorem aw10:Runs Yir 109 [.agg [.bool false, .sl 1 [.int .u32 1]], .agg [.bool false, .sl 1 [.int .u32 1]]] (.agg [.bool false, .sl 1 [.int .u32 1]]):=fF_holds Ypr_ok (noMemo_holds _) 400 _ _ _ (by kernel_rfl)
theorem aw11:Runs Yir 147 [.sl 1 [.int .u32 1], .sl 1 [.int .u32 1]] (.tup [.sl 1 [.int .u32 1], .sl 1 [.int .u32 0]]):=fF_holds Ypr_ok (noMemo_holds _) 400 _ _ _ (by kernel_rfl)
theorem aw12:Runs Yir 110 [.agg [.bool false, .sl 1 [.int .u32 1]], .agg [.bool false, .sl 1 [.int .u32 1]]] (.tup [.agg [.bool false, .sl 1 [.int .u32 1]], .agg [.bool false, .sl 0 []]]):=fF_holds Ypr_ok (memC_holds aw11 (noMemo_holds _)) 400 _ _ _ (by kernel_rfl)
theorem aw13:Runs Yir 113 [.agg [.bool false, .sl 0 []], .agg [.bool false, .sl 1 [.int .u32 1]]] (.agg [.bool false, .sl 0 []]):=fF_holds Ypr_ok (noMemo_holds _) 400 _ _ _ (by kernel_rfl)
theorem aw14:Runs Yir 113 [.agg [.bool false, .sl 1 [.int .u32 1]], .agg [.bool true, .sl 1 [.int .u32 1]]] (.agg [.bool true, .sl 1 [.int .u32 1]]):=fF_holds Ypr_ok (noMemo_holds _) 400 _ _ _ (by kernel_rfl)
theorem aw15:Runs Yir 148 [.bool false, .sl 0 [], .bool false, .sl 1 [.int .u32 1]] (.agg [.bool false, .sl 1 [.int .u32 1]]):=fF_holds Ypr_ok (noMemo_holds _) 400 _ _ _ (by kernel_rfl)
theorem aw16:Runs Yir 114 [.agg [.bool false, .sl 0 []], .agg [.bool true, .sl 1 [.int .u32 1]]] (.agg [.bool false, .sl 1 [.int .u32 1]]):=fF_holds Ypr_ok (memC_holds aw15 (noMemo_holds _)) 400 _ _ _ (by kernel_rfl)
theorem aw17:Runs Yir 113 [.agg [.bool false, .sl 1 [.int .u32 1]], .agg [.bool false, .sl 1 [.int .u32 1]]] (.agg [.bool false, .sl 1 [.int .u32 1]]):=fF_holds Ypr_ok (noMemo_holds _) 400 _ _ _ (by kernel_rfl)
theorem aw18:Runs Yir 148 [.bool false, .sl 1 [.int .u32 1], .bool true, .sl 1 [.int .u32 1]] (.agg [.bool false, .sl 0 []]):=fF_holds Ypr_ok (noMemo_holds _) 400 _ _ _ (by kernel_rfl)
theorem aw19:Runs Yir 114 [.agg [.bool false, .sl 1 [.int .u32 1]], .agg [.bool false, .sl 1 [.int .u32 1]]] (.agg [.bool false, .sl 0 []]):=fF_holds Ypr_ok (memC_holds aw18 (noMemo_holds _)) 400 _ _ _ (by kernel_rfl)
theorem aw20:Runs Yir 62 [.sl 3 [.bool false, .sl 0 [], .bool false, .sl 1 [.int .u32 1], .bool false, .sl 0 []]] (.int .i64 1):=fF_holds Ypr_ok (noMemo_holds _) 400 _ _ _ (by kernel_rfl)
theorem aw21:Runs Yir 92 [.sl 3 [.bool false, .sl 0 [], .bool false, .sl 1 [.int .u32 1], .bool false, .sl 0 []]] (.fresh 2 2 [.bool false, .sl 0 [], .bool false, .sl 1 [.int .u32 1]]):=fF_holds Ypr_ok (memC_holds aw20 (noMemo_holds _)) 400 _ _ _ (by kernel_rfl)
theorem aw22:Runs Yir 85 [.sl 2 [.bool false, .sl 0 [], .bool false, .sl 1 [.int .u32 1]]] (.agg [.bool false, .sl 1 [.int .u32 1]]):=fF_holds Ypr_ok (memC_holds aw5 (noMemo_holds _)) 400 _ _ _ (by kernel_rfl)
theorem aw23:Runs Yir 86 [.sl 3 [.bool false, .sl 0 [], .bool false, .sl 1 [.int .u32 1], .bool false, .sl 0 []]] (.fresh 2 2 [.bool false, .sl 0 [], .bool false, .sl 1 [.int .u32 1]]):=fF_holds Ypr_ok (memC_holds aw22 (memC_holds aw21 (noMemo_holds _))) 400 _ _ _ (by kernel_rfl)
theorem aw24:Runs Yir 62 [.sl 2 [.bool false, .sl 1 [.int .u32 1], .bool false, .sl 0 []]] (.int .i64 0):=fF_holds Ypr_ok (noMemo_holds _) 400 _ _ _ (by kernel_rfl)
theorem aw25:Runs Yir 92 [.sl 2 [.bool false, .sl 1 [.int .u32 1], .bool false, .sl 0 []]] (.fresh 2 1 [.bool false, .sl 1 [.int .u32 1]]):=fF_holds Ypr_ok (memC_holds aw24 (noMemo_holds _)) 400 _ _ _ (by kernel_rfl)
theorem aw26:Runs Yir 86 [.sl 2 [.bool false, .sl 1 [.int .u32 1], .bool false, .sl 0 []]] (.fresh 2 1 [.bool false, .sl 1 [.int .u32 1]]):=fF_holds Ypr_ok (memC_holds aw25 (memC_holds aw5 (noMemo_holds _))) 400 _ _ _ (by kernel_rfl)
theorem aw27:Runs Yir 64 [.sl 3 [.bool false, .sl 0 [], .bool false, .sl 0 [], .bool false, .sl 1 [.int .u32 1]], .sl 2 [.bool true, .sl 1 [.int .u32 1], .bool false, .sl 1 [.int .u32 1]]] (.fresh 2 1 [.bool false, .sl 1 [.int .u32 1]]):=fF_holds Ypr_ok (memC_holds aw26 (memC_holds aw23 (memC_holds aw19 (memC_holds aw17 (memC_holds aw16 (memC_holds aw14 (memC_holds aw13 (memC_holds aw12 (memC_holds aw10 (memC_holds aw9 (memC_holds aw7 (noMemo_holds _)))))))))))) 400 _ _ _ (by kernel_rfl)
theorem aw28:Runs Yir 61 [.sl 1 [.sl 1 [.bool false, .sl 1 [.int .u32 1]]]] (.bool false):=fF_holds Ypr_ok (noMemo_holds _) 400 _ _ _ (by kernel_rfl)
theorem aw29:Runs Yir 15 [.sl 3 [.bool false, .sl 0 [], .bool false, .sl 0 [], .bool false, .sl 1 [.int .u32 1]], .sl 2 [.bool true, .sl 1 [.int .u32 1], .bool false, .sl 1 [.int .u32 1]]] (.tup [.sl 1 [.bool false, .sl 1 [.int .u32 1]], .int .i64 0]):=fF_holds Ypr_ok (memC_holds aw28 (memC_holds aw27 (memC_holds aw4 (noMemo_holds _)))) 400 _ _ _ (by kernel_rfl)
theorem aw30:Runs Yir 92 [.sl 3 [.bool false, .sl 0 [], .bool false, .sl 0 [], .bool true, .sl 1 [.int .u32 1]]] (.fresh 2 3 [.bool false, .sl 0 [], .bool false, .sl 0 [], .bool true, .sl 1 [.int .u32 1]]):=fF_holds Ypr_ok (noMemo_holds _) 400 _ _ _ (by kernel_rfl)
theorem aw31:Runs Yir 74 [.sl 3 [.int .i64 0, .int .i64 0, .int .i64 (-1)]] (.fresh 2 3 [.bool false, .sl 0 [], .bool false, .sl 0 [], .bool true, .sl 1 [.int .u32 1]]):=fF_holds Ypr_ok (memC_holds aw30 (noMemo_holds _)) 400 _ _ _ (by kernel_rfl)
theorem aw32:Runs Yir 92 [.sl 2 [.bool true, .sl 1 [.int .u32 1], .bool false, .sl 1 [.int .u32 2]]] (.fresh 2 2 [.bool true, .sl 1 [.int .u32 1], .bool false, .sl 1 [.int .u32 2]]):=fF_holds Ypr_ok (noMemo_holds _) 400 _ _ _ (by kernel_rfl)
theorem aw33:Runs Yir 74 [.sl 2 [.int .i64 (-1), .int .i64 2]] (.fresh 2 2 [.bool true, .sl 1 [.int .u32 1], .bool false, .sl 1 [.int .u32 2]]):=fF_holds Ypr_ok (memC_holds aw32 (noMemo_holds _)) 400 _ _ _ (by kernel_rfl)
theorem aw34:Runs Yir 61 [.sl 2 [.sl 3 [.bool false, .sl 0 [], .bool false, .sl 0 [], .bool true, .sl 1 [.int .u32 1]], .sl 2 [.bool true, .sl 1 [.int .u32 1], .bool false, .sl 1 [.int .u32 2]]]] (.bool false):=fF_holds Ypr_ok (noMemo_holds _) 400 _ _ _ (by kernel_rfl)
theorem aw35:Runs Yir 109 [.agg [.bool false, .sl 0 []], .agg [.bool true, .sl 1 [.int .u32 1]]] (.agg [.bool false, .sl 1 [.int .u32 1]]):=fF_holds Ypr_ok (noMemo_holds _) 400 _ _ _ (by kernel_rfl)
theorem aw36:Runs Yir 85 [.sl 3 [.bool false, .sl 0 [], .bool false, .sl 0 [], .bool true, .sl 1 [.int .u32 1]]] (.agg [.bool false, .sl 1 [.int .u32 1]]):=fF_holds Ypr_ok (memC_holds aw35 (noMemo_holds _)) 400 _ _ _ (by kernel_rfl)
theorem aw37:Runs Yir 86 [.sl 3 [.bool false, .sl 0 [], .bool false, .sl 0 [], .bool true, .sl 1 [.int .u32 1]]] (.fresh 2 3 [.bool false, .sl 0 [], .bool false, .sl 0 [], .bool true, .sl 1 [.int .u32 1]]):=fF_holds Ypr_ok (memC_holds aw36 (memC_holds aw30 (noMemo_holds _))) 400 _ _ _ (by kernel_rfl)
theorem aw38:Runs Yir 109 [.agg [.bool false, .sl 0 []], .agg [.bool false, .sl 1 [.int .u32 2]]] (.agg [.bool false, .sl 1 [.int .u32 2]]):=fF_holds Ypr_ok (noMemo_holds _) 400 _ _ _ (by kernel_rfl)
theorem aw39:Runs Yir 109 [.agg [.bool false, .sl 1 [.int .u32 2]], .agg [.bool true, .sl 1 [.int .u32 1]]] (.agg [.bool false, .sl 1 [.int .u32 1]]):=fF_holds Ypr_ok (noMemo_holds _) 400 _ _ _ (by kernel_rfl)
theorem aw40:Runs Yir 85 [.sl 2 [.bool true, .sl 1 [.int .u32 1], .bool false, .sl 1 [.int .u32 2]]] (.agg [.bool false, .sl 1 [.int .u32 1]]):=fF_holds Ypr_ok (memC_holds aw39 (memC_holds aw38 (noMemo_holds _))) 400 _ _ _ (by kernel_rfl)
theorem aw41:Runs Yir 86 [.sl 2 [.bool true, .sl 1 [.int .u32 1], .bool false, .sl 1 [.int .u32 2]]] (.fresh 2 2 [.bool true, .sl 1 [.int .u32 1], .bool false, .sl 1 [.int .u32 2]]):=fF_holds Ypr_ok (memC_holds aw40 (memC_holds aw32 (noMemo_holds _))) 400 _ _ _ (by kernel_rfl)
theorem aw42:Runs Yir 147 [.sl 1 [.int .u32 2], .sl 1 [.int .u32 1]] (.tup [.sl 1 [.int .u32 2], .sl 1 [.int .u32 0]]):=fF_holds Ypr_ok (noMemo_holds _) 400 _ _ _ (by kernel_rfl)
theorem aw43:Runs Yir 110 [.agg [.bool false, .sl 1 [.int .u32 2]], .agg [.bool false, .sl 1 [.int .u32 1]]] (.tup [.agg [.bool false, .sl 1 [.int .u32 2]], .agg [.bool false, .sl 0 []]]):=fF_holds Ypr_ok (memC_holds aw42 (noMemo_holds _)) 400 _ _ _ (by kernel_rfl)
theorem aw44:Runs Yir 110 [.agg [.bool true, .sl 1 [.int .u32 1]], .agg [.bool false, .sl 1 [.int .u32 1]]] (.tup [.agg [.bool true, .sl 1 [.int .u32 1]], .agg [.bool false, .sl 0 []]]):=fF_holds Ypr_ok (memC_holds aw11 (noMemo_holds _)) 400 _ _ _ (by kernel_rfl)
theorem aw45:Runs Yir 113 [.agg [.bool false, .sl 0 []], .agg [.bool false, .sl 1 [.int .u32 2]]] (.agg [.bool false, .sl 0 []]):=fF_holds Ypr_ok (noMemo_holds _) 400 _ _ _ (by kernel_rfl)
theorem aw46:Runs Yir 113 [.agg [.bool true, .sl 1 [.int .u32 1]], .agg [.bool true, .sl 1 [.int .u32 1]]] (.agg [.bool false, .sl 1 [.int .u32 1]]):=fF_holds Ypr_ok (noMemo_holds _) 400 _ _ _ (by kernel_rfl)
theorem aw47:Runs Yir 148 [.bool false, .sl 0 [], .bool true, .sl 1 [.int .u32 1]] (.agg [.bool true, .sl 1 [.int .u32 1]]):=fF_holds Ypr_ok (noMemo_holds _) 400 _ _ _ (by kernel_rfl)
theorem aw48:Runs Yir 114 [.agg [.bool false, .sl 0 []], .agg [.bool false, .sl 1 [.int .u32 1]]] (.agg [.bool true, .sl 1 [.int .u32 1]]):=fF_holds Ypr_ok (memC_holds aw47 (noMemo_holds _)) 400 _ _ _ (by kernel_rfl)
theorem aw49:Runs Yir 113 [.agg [.bool true, .sl 1 [.int .u32 1]], .agg [.bool false, .sl 1 [.int .u32 2]]] (.agg [.bool true, .sl 1 [.int .u32 2]]):=fF_holds Ypr_ok (noMemo_holds _) 400 _ _ _ (by kernel_rfl)
theorem aw50:Runs Yir 148 [.bool true, .sl 1 [.int .u32 2], .bool false, .sl 1 [.int .u32 2]] (.agg [.bool false, .sl 0 []]):=fF_holds Ypr_ok (noMemo_holds _) 400 _ _ _ (by kernel_rfl)
theorem aw51:Runs Yir 114 [.agg [.bool true, .sl 1 [.int .u32 2]], .agg [.bool true, .sl 1 [.int .u32 2]]] (.agg [.bool false, .sl 0 []]):=fF_holds Ypr_ok (memC_holds aw50 (noMemo_holds _)) 400 _ _ _ (by kernel_rfl)
theorem aw52:Runs Yir 62 [.sl 3 [.bool false, .sl 0 [], .bool true, .sl 1 [.int .u32 1], .bool false, .sl 0 []]] (.int .i64 1):=fF_holds Ypr_ok (noMemo_holds _) 400 _ _ _ (by kernel_rfl)
theorem aw53:Runs Yir 92 [.sl 3 [.bool false, .sl 0 [], .bool true, .sl 1 [.int .u32 1], .bool false, .sl 0 []]] (.fresh 2 2 [.bool false, .sl 0 [], .bool true, .sl 1 [.int .u32 1]]):=fF_holds Ypr_ok (memC_holds aw52 (noMemo_holds _)) 400 _ _ _ (by kernel_rfl)
theorem aw54:Runs Yir 85 [.sl 2 [.bool false, .sl 0 [], .bool true, .sl 1 [.int .u32 1]]] (.agg [.bool false, .sl 1 [.int .u32 1]]):=fF_holds Ypr_ok (memC_holds aw35 (noMemo_holds _)) 400 _ _ _ (by kernel_rfl)
theorem aw55:Runs Yir 86 [.sl 3 [.bool false, .sl 0 [], .bool true, .sl 1 [.int .u32 1], .bool false, .sl 0 []]] (.fresh 2 2 [.bool false, .sl 0 [], .bool true, .sl 1 [.int .u32 1]]):=fF_holds Ypr_ok (memC_holds aw54 (memC_holds aw53 (noMemo_holds _))) 400 _ _ _ (by kernel_rfl)
theorem aw56:Runs Yir 62 [.sl 2 [.bool true, .sl 1 [.int .u32 1], .bool false, .sl 0 []]] (.int .i64 0):=fF_holds Ypr_ok (noMemo_holds _) 400 _ _ _ (by kernel_rfl)
theorem aw57:Runs Yir 92 [.sl 2 [.bool true, .sl 1 [.int .u32 1], .bool false, .sl 0 []]] (.fresh 2 1 [.bool true, .sl 1 [.int .u32 1]]):=fF_holds Ypr_ok (memC_holds aw56 (noMemo_holds _)) 400 _ _ _ (by kernel_rfl)
theorem aw58:Runs Yir 86 [.sl 2 [.bool true, .sl 1 [.int .u32 1], .bool false, .sl 0 []]] (.fresh 2 1 [.bool true, .sl 1 [.int .u32 1]]):=fF_holds Ypr_ok (memC_holds aw57 (memC_holds aw35 (noMemo_holds _))) 400 _ _ _ (by kernel_rfl)
theorem aw59:Runs Yir 64 [.sl 3 [.bool false, .sl 0 [], .bool false, .sl 0 [], .bool true, .sl 1 [.int .u32 1]], .sl 2 [.bool true, .sl 1 [.int .u32 1], .bool false, .sl 1 [.int .u32 2]]] (.fresh 2 1 [.bool true, .sl 1 [.int .u32 1]]):=fF_holds Ypr_ok (memC_holds aw58 (memC_holds aw55 (memC_holds aw51 (memC_holds aw49 (memC_holds aw48 (memC_holds aw46 (memC_holds aw45 (memC_holds aw44 (memC_holds aw43 (memC_holds aw41 (memC_holds aw39 (memC_holds aw37 (noMemo_holds _))))))))))))) 400 _ _ _ (by kernel_rfl)
theorem aw60:Runs Yir 61 [.sl 1 [.sl 1 [.bool true, .sl 1 [.int .u32 1]]]] (.bool false):=fF_holds Ypr_ok (noMemo_holds _) 400 _ _ _ (by kernel_rfl)
theorem aw61:Runs Yir 15 [.sl 3 [.bool false, .sl 0 [], .bool false, .sl 0 [], .bool true, .sl 1 [.int .u32 1]], .sl 2 [.bool true, .sl 1 [.int .u32 1], .bool false, .sl 1 [.int .u32 2]]] (.tup [.sl 1 [.bool true, .sl 1 [.int .u32 1]], .int .i64 0]):=fF_holds Ypr_ok (memC_holds aw60 (memC_holds aw59 (memC_holds aw34 (noMemo_holds _)))) 400 _ _ _ (by kernel_rfl)
theorem aw62:Runs Yir 92 [.sl 3 [.bool true, .sl 1 [.int .u32 1], .bool false, .sl 0 [], .bool false, .sl 1 [.int .u32 1]]] (.fresh 2 3 [.bool true, .sl 1 [.int .u32 1], .bool false, .sl 0 [], .bool false, .sl 1 [.int .u32 1]]):=fF_holds Ypr_ok (noMemo_holds _) 400 _ _ _ (by kernel_rfl)
theorem aw63:Runs Yir 74 [.sl 3 [.int .i64 (-1), .int .i64 0, .int .i64 1]] (.fresh 2 3 [.bool true, .sl 1 [.int .u32 1], .bool false, .sl 0 [], .bool false, .sl 1 [.int .u32 1]]):=fF_holds Ypr_ok (memC_holds aw62 (noMemo_holds _)) 400 _ _ _ (by kernel_rfl)
theorem aw64:Runs Yir 92 [.sl 2 [.bool true, .sl 1 [.int .u32 2], .bool false, .sl 1 [.int .u32 2]]] (.fresh 2 2 [.bool true, .sl 1 [.int .u32 2], .bool false, .sl 1 [.int .u32 2]]):=fF_holds Ypr_ok (noMemo_holds _) 400 _ _ _ (by kernel_rfl)
theorem aw65:Runs Yir 74 [.sl 2 [.int .i64 (-2), .int .i64 2]] (.fresh 2 2 [.bool true, .sl 1 [.int .u32 2], .bool false, .sl 1 [.int .u32 2]]):=fF_holds Ypr_ok (memC_holds aw64 (noMemo_holds _)) 400 _ _ _ (by kernel_rfl)
theorem aw66:Runs Yir 61 [.sl 2 [.sl 3 [.bool true, .sl 1 [.int .u32 1], .bool false, .sl 0 [], .bool false, .sl 1 [.int .u32 1]], .sl 2 [.bool true, .sl 1 [.int .u32 2], .bool false, .sl 1 [.int .u32 2]]]] (.bool false):=fF_holds Ypr_ok (noMemo_holds _) 400 _ _ _ (by kernel_rfl)
theorem aw67:Runs Yir 85 [.sl 3 [.bool true, .sl 1 [.int .u32 1], .bool false, .sl 0 [], .bool false, .sl 1 [.int .u32 1]]] (.agg [.bool false, .sl 1 [.int .u32 1]]):=fF_holds Ypr_ok (memC_holds aw5 (noMemo_holds _)) 400 _ _ _ (by kernel_rfl)
theorem aw68:Runs Yir 86 [.sl 3 [.bool true, .sl 1 [.int .u32 1], .bool false, .sl 0 [], .bool false, .sl 1 [.int .u32 1]]] (.fresh 2 3 [.bool true, .sl 1 [.int .u32 1], .bool false, .sl 0 [], .bool false, .sl 1 [.int .u32 1]]):=fF_holds Ypr_ok (memC_holds aw67 (memC_holds aw62 (noMemo_holds _))) 400 _ _ _ (by kernel_rfl)
theorem aw69:Runs Yir 109 [.agg [.bool false, .sl 1 [.int .u32 2]], .agg [.bool true, .sl 1 [.int .u32 2]]] (.agg [.bool false, .sl 1 [.int .u32 2]]):=fF_holds Ypr_ok (noMemo_holds _) 400 _ _ _ (by kernel_rfl)
theorem aw70:Runs Yir 85 [.sl 2 [.bool true, .sl 1 [.int .u32 2], .bool false, .sl 1 [.int .u32 2]]] (.agg [.bool false, .sl 1 [.int .u32 2]]):=fF_holds Ypr_ok (memC_holds aw69 (memC_holds aw38 (noMemo_holds _))) 400 _ _ _ (by kernel_rfl)
theorem aw71:Runs Yir 147 [.sl 1 [.int .u32 2], .sl 1 [.int .u32 2]] (.tup [.sl 1 [.int .u32 1], .sl 1 [.int .u32 0]]):=fF_holds Ypr_ok (noMemo_holds _) 400 _ _ _ (by kernel_rfl)
theorem aw72:Runs Yir 110 [.agg [.bool true, .sl 1 [.int .u32 2]], .agg [.bool false, .sl 1 [.int .u32 2]]] (.tup [.agg [.bool true, .sl 1 [.int .u32 1]], .agg [.bool false, .sl 0 []]]):=fF_holds Ypr_ok (memC_holds aw71 (noMemo_holds _)) 400 _ _ _ (by kernel_rfl)
theorem aw73:Runs Yir 110 [.agg [.bool false, .sl 1 [.int .u32 2]], .agg [.bool false, .sl 1 [.int .u32 2]]] (.tup [.agg [.bool false, .sl 1 [.int .u32 1]], .agg [.bool false, .sl 0 []]]):=fF_holds Ypr_ok (memC_holds aw71 (noMemo_holds _)) 400 _ _ _ (by kernel_rfl)
theorem aw74:Runs Yir 86 [.sl 2 [.bool true, .sl 1 [.int .u32 2], .bool false, .sl 1 [.int .u32 2]]] (.fresh 2 2 [.bool true, .sl 1 [.int .u32 1], .bool false, .sl 1 [.int .u32 1]]):=fF_holds Ypr_ok (memC_holds aw73 (memC_holds aw72 (memC_holds aw70 (memC_holds aw64 (noMemo_holds _))))) 400 _ _ _ (by kernel_rfl)
theorem aw75:Runs Yir 113 [.agg [.bool true, .sl 1 [.int .u32 1]], .agg [.bool false, .sl 1 [.int .u32 1]]] (.agg [.bool true, .sl 1 [.int .u32 1]]):=fF_holds Ypr_ok (noMemo_holds _) 400 _ _ _ (by kernel_rfl)
theorem aw76:Runs Yir 62 [.sl 3 [.bool true, .sl 1 [.int .u32 1], .bool false, .sl 1 [.int .u32 1], .bool false, .sl 0 []]] (.int .i64 1):=fF_holds Ypr_ok (noMemo_holds _) 400 _ _ _ (by kernel_rfl)
theorem aw77:Runs Yir 92 [.sl 3 [.bool true, .sl 1 [.int .u32 1], .bool false, .sl 1 [.int .u32 1], .bool false, .sl 0 []]] (.fresh 2 2 [.bool true, .sl 1 [.int .u32 1], .bool false, .sl 1 [.int .u32 1]]):=fF_holds Ypr_ok (memC_holds aw76 (noMemo_holds _)) 400 _ _ _ (by kernel_rfl)
theorem aw78:Runs Yir 86 [.sl 3 [.bool true, .sl 1 [.int .u32 1], .bool false, .sl 1 [.int .u32 1], .bool false, .sl 0 []]] (.fresh 2 2 [.bool true, .sl 1 [.int .u32 1], .bool false, .sl 1 [.int .u32 1]]):=fF_holds Ypr_ok (memC_holds aw77 (memC_holds aw8 (noMemo_holds _))) 400 _ _ _ (by kernel_rfl)
theorem aw79:Runs Yir 148 [.bool true, .sl 1 [.int .u32 1], .bool false, .sl 1 [.int .u32 1]] (.agg [.bool false, .sl 0 []]):=fF_holds Ypr_ok (noMemo_holds _) 400 _ _ _ (by kernel_rfl)
theorem aw80:Runs Yir 114 [.agg [.bool true, .sl 1 [.int .u32 1]], .agg [.bool true, .sl 1 [.int .u32 1]]] (.agg [.bool false, .sl 0 []]):=fF_holds Ypr_ok (memC_holds aw79 (noMemo_holds _)) 400 _ _ _ (by kernel_rfl)
theorem aw81:Runs Yir 62 [.sl 2 [.bool false, .sl 0 [], .bool false, .sl 0 []]] (.int .i64 (-1)):=fF_holds Ypr_ok (noMemo_holds _) 400 _ _ _ (by kernel_rfl)
theorem aw82:Runs Yir 86 [.sl 2 [.bool false, .sl 0 [], .bool false, .sl 0 []]] (.fresh 2 0 []):=fF_holds Ypr_ok (memC_holds aw81 (noMemo_holds _)) 400 _ _ _ (by kernel_rfl)
theorem aw83:Runs Yir 64 [.sl 3 [.bool true, .sl 1 [.int .u32 1], .bool false, .sl 0 [], .bool false, .sl 1 [.int .u32 1]], .sl 2 [.bool true, .sl 1 [.int .u32 1], .bool false, .sl 1 [.int .u32 1]]] (.fresh 2 0 []):=fF_holds Ypr_ok (memC_holds aw82 (memC_holds aw80 (memC_holds aw78 (memC_holds aw75 (memC_holds aw68 (memC_holds aw19 (memC_holds aw17 (memC_holds aw16 (memC_holds aw14 (memC_holds aw13 (memC_holds aw12 (memC_holds aw10 (memC_holds aw9 (noMemo_holds _)))))))))))))) 400 _ _ _ (by kernel_rfl)
theorem aw84:Runs Yir 65 [.sl 3 [.bool true, .sl 1 [.int .u32 1], .bool false, .sl 0 [], .bool false, .sl 1 [.int .u32 1]], .sl 2 [.bool true, .sl 1 [.int .u32 2], .bool false, .sl 1 [.int .u32 2]]] (.sl 2 [.bool true, .sl 1 [.int .u32 1], .bool false, .sl 1 [.int .u32 1]]):=fF_holds Ypr_ok (memC_holds aw83 (memC_holds aw74 (memC_holds aw68 (noMemo_holds _)))) 400 _ _ _ (by kernel_rfl)
theorem aw85:Runs Yir 61 [.sl 1 [.sl 2 [.bool true, .sl 1 [.int .u32 1], .bool false, .sl 1 [.int .u32 1]]]] (.bool false):=fF_holds Ypr_ok (noMemo_holds _) 400 _ _ _ (by kernel_rfl)
theorem aw86:Runs Yir 92 [.sl 4 [.bool false, .sl 0 [], .bool false, .sl 0 [], .bool true, .sl 1 [.int .u32 4], .bool false, .sl 1 [.int .u32 4]]] (.fresh 2 4 [.bool false, .sl 0 [], .bool false, .sl 0 [], .bool true, .sl 1 [.int .u32 4], .bool false, .sl 1 [.int .u32 4]]):=fF_holds Ypr_ok (noMemo_holds _) 400 _ _ _ (by kernel_rfl)
theorem aw87:Runs Yir 74 [.sl 4 [.int .i64 0, .int .i64 0, .int .i64 (-4), .int .i64 4]] (.fresh 2 4 [.bool false, .sl 0 [], .bool false, .sl 0 [], .bool true, .sl 1 [.int .u32 4], .bool false, .sl 1 [.int .u32 4]]):=fF_holds Ypr_ok (memC_holds aw86 (noMemo_holds _)) 400 _ _ _ (by kernel_rfl)
theorem aw88:Runs Yir 61 [.sl 1 [.sl 4 [.bool false, .sl 0 [], .bool false, .sl 0 [], .bool true, .sl 1 [.int .u32 4], .bool false, .sl 1 [.int .u32 4]]]] (.bool false):=fF_holds Ypr_ok (noMemo_holds _) 400 _ _ _ (by kernel_rfl)
theorem aw89:Runs Yir 109 [.agg [.bool false, .sl 0 []], .agg [.bool false, .sl 1 [.int .u32 4]]] (.agg [.bool false, .sl 1 [.int .u32 4]]):=fF_holds Ypr_ok (noMemo_holds _) 400 _ _ _ (by kernel_rfl)
theorem aw90:Runs Yir 109 [.agg [.bool false, .sl 1 [.int .u32 4]], .agg [.bool true, .sl 1 [.int .u32 4]]] (.agg [.bool false, .sl 1 [.int .u32 4]]):=fF_holds Ypr_ok (noMemo_holds _) 400 _ _ _ (by kernel_rfl)
theorem aw91:Runs Yir 109 [.agg [.bool false, .sl 1 [.int .u32 4]], .agg [.bool false, .sl 0 []]] (.agg [.bool false, .sl 1 [.int .u32 4]]):=fF_holds Ypr_ok (noMemo_holds _) 400 _ _ _ (by kernel_rfl)
theorem aw92:Runs Yir 85 [.sl 4 [.bool false, .sl 0 [], .bool false, .sl 0 [], .bool true, .sl 1 [.int .u32 4], .bool false, .sl 1 [.int .u32 4]]] (.agg [.bool false, .sl 1 [.int .u32 4]]):=fF_holds Ypr_ok (memC_holds aw91 (memC_holds aw90 (memC_holds aw89 (noMemo_holds _)))) 400 _ _ _ (by kernel_rfl)
theorem aw93:Runs Yir 110 [.agg [.bool false, .sl 0 []], .agg [.bool false, .sl 1 [.int .u32 4]]] (.tup [.agg [.bool false, .sl 0 []], .agg [.bool false, .sl 0 []]]):=fF_holds Ypr_ok (noMemo_holds _) 400 _ _ _ (by kernel_rfl)
theorem aw94:Runs Yir 147 [.sl 1 [.int .u32 4], .sl 1 [.int .u32 4]] (.tup [.sl 1 [.int .u32 1], .sl 1 [.int .u32 0]]):=fF_holds Ypr_ok (noMemo_holds _) 400 _ _ _ (by kernel_rfl)
theorem aw95:Runs Yir 110 [.agg [.bool true, .sl 1 [.int .u32 4]], .agg [.bool false, .sl 1 [.int .u32 4]]] (.tup [.agg [.bool true, .sl 1 [.int .u32 1]], .agg [.bool false, .sl 0 []]]):=fF_holds Ypr_ok (memC_holds aw94 (noMemo_holds _)) 400 _ _ _ (by kernel_rfl)
theorem aw96:Runs Yir 110 [.agg [.bool false, .sl 1 [.int .u32 4]], .agg [.bool false, .sl 1 [.int .u32 4]]] (.tup [.agg [.bool false, .sl 1 [.int .u32 1]], .agg [.bool false, .sl 0 []]]):=fF_holds Ypr_ok (memC_holds aw94 (noMemo_holds _)) 400 _ _ _ (by kernel_rfl)
theorem aw97:Runs Yir 86 [.sl 4 [.bool false, .sl 0 [], .bool false, .sl 0 [], .bool true, .sl 1 [.int .u32 4], .bool false, .sl 1 [.int .u32 4]]] (.fresh 2 4 [.bool false, .sl 0 [], .bool false, .sl 0 [], .bool true, .sl 1 [.int .u32 1], .bool false, .sl 1 [.int .u32 1]]):=fF_holds Ypr_ok (memC_holds aw96 (memC_holds aw95 (memC_holds aw93 (memC_holds aw92 (memC_holds aw86 (noMemo_holds _)))))) 400 _ _ _ (by kernel_rfl)
theorem aw98:Runs Yir 113 [.agg [.bool false, .sl 1 [.int .u32 1]], .agg [.bool false, .sl 1 [.int .u32 3]]] (.agg [.bool false, .sl 1 [.int .u32 3]]):=fF_holds Ypr_ok (noMemo_holds _) 400 _ _ _ (by kernel_rfl)
theorem aw99:Runs Yir 92 [.sl 3 [.bool false, .sl 0 [], .bool true, .sl 1 [.int .u32 2], .bool false, .sl 1 [.int .u32 3]]] (.fresh 2 3 [.bool false, .sl 0 [], .bool true, .sl 1 [.int .u32 2], .bool false, .sl 1 [.int .u32 3]]):=fF_holds Ypr_ok (noMemo_holds _) 400 _ _ _ (by kernel_rfl)
theorem aw100:Runs Yir 75 [.sl 4 [.bool false, .sl 0 [], .bool false, .sl 0 [], .bool true, .sl 1 [.int .u32 1], .bool false, .sl 1 [.int .u32 1]]] (.fresh 2 3 [.bool false, .sl 0 [], .bool true, .sl 1 [.int .u32 2], .bool false, .sl 1 [.int .u32 3]]):=fF_holds Ypr_ok (memC_holds aw99 (memC_holds aw98 (memC_holds aw49 (memC_holds aw13 (noMemo_holds _))))) 400 _ _ _ (by kernel_rfl)
theorem aw101:Runs Yir 92 [.sl 4 [.bool false, .sl 0 [], .bool false, .sl 0 [], .bool true, .sl 1 [.int .u32 1], .bool false, .sl 1 [.int .u32 1]]] (.fresh 2 4 [.bool false, .sl 0 [], .bool false, .sl 0 [], .bool true, .sl 1 [.int .u32 1], .bool false, .sl 1 [.int .u32 1]]):=fF_holds Ypr_ok (noMemo_holds _) 400 _ _ _ (by kernel_rfl)
theorem aw102:Runs Yir 85 [.sl 4 [.bool false, .sl 0 [], .bool false, .sl 0 [], .bool true, .sl 1 [.int .u32 1], .bool false, .sl 1 [.int .u32 1]]] (.agg [.bool false, .sl 1 [.int .u32 1]]):=fF_holds Ypr_ok (memC_holds aw5 (noMemo_holds _)) 400 _ _ _ (by kernel_rfl)
theorem aw103:Runs Yir 86 [.sl 4 [.bool false, .sl 0 [], .bool false, .sl 0 [], .bool true, .sl 1 [.int .u32 1], .bool false, .sl 1 [.int .u32 1]]] (.fresh 2 4 [.bool false, .sl 0 [], .bool false, .sl 0 [], .bool true, .sl 1 [.int .u32 1], .bool false, .sl 1 [.int .u32 1]]):=fF_holds Ypr_ok (memC_holds aw102 (memC_holds aw101 (noMemo_holds _))) 400 _ _ _ (by kernel_rfl)
theorem aw104:Runs Yir 109 [.agg [.bool false, .sl 0 []], .agg [.bool false, .sl 1 [.int .u32 3]]] (.agg [.bool false, .sl 1 [.int .u32 3]]):=fF_holds Ypr_ok (noMemo_holds _) 400 _ _ _ (by kernel_rfl)
theorem aw105:Runs Yir 109 [.agg [.bool false, .sl 1 [.int .u32 3]], .agg [.bool true, .sl 1 [.int .u32 2]]] (.agg [.bool false, .sl 1 [.int .u32 1]]):=fF_holds Ypr_ok (noMemo_holds _) 400 _ _ _ (by kernel_rfl)
theorem aw106:Runs Yir 85 [.sl 3 [.bool false, .sl 0 [], .bool true, .sl 1 [.int .u32 2], .bool false, .sl 1 [.int .u32 3]]] (.agg [.bool false, .sl 1 [.int .u32 1]]):=fF_holds Ypr_ok (memC_holds aw105 (memC_holds aw104 (noMemo_holds _))) 400 _ _ _ (by kernel_rfl)
theorem aw107:Runs Yir 86 [.sl 3 [.bool false, .sl 0 [], .bool true, .sl 1 [.int .u32 2], .bool false, .sl 1 [.int .u32 3]]] (.fresh 2 3 [.bool false, .sl 0 [], .bool true, .sl 1 [.int .u32 2], .bool false, .sl 1 [.int .u32 3]]):=fF_holds Ypr_ok (memC_holds aw106 (memC_holds aw99 (noMemo_holds _))) 400 _ _ _ (by kernel_rfl)
theorem aw108:Runs Yir 109 [.agg [.bool false, .sl 1 [.int .u32 3]], .agg [.bool false, .sl 1 [.int .u32 1]]] (.agg [.bool false, .sl 1 [.int .u32 1]]):=fF_holds Ypr_ok (noMemo_holds _) 400 _ _ _ (by kernel_rfl)
theorem aw109:Runs Yir 147 [.sl 1 [.int .u32 3], .sl 1 [.int .u32 1]] (.tup [.sl 1 [.int .u32 3], .sl 1 [.int .u32 0]]):=fF_holds Ypr_ok (noMemo_holds _) 400 _ _ _ (by kernel_rfl)
theorem aw110:Runs Yir 110 [.agg [.bool false, .sl 1 [.int .u32 3]], .agg [.bool false, .sl 1 [.int .u32 1]]] (.tup [.agg [.bool false, .sl 1 [.int .u32 3]], .agg [.bool false, .sl 0 []]]):=fF_holds Ypr_ok (memC_holds aw109 (noMemo_holds _)) 400 _ _ _ (by kernel_rfl)
theorem aw111:Runs Yir 113 [.agg [.bool false, .sl 0 []], .agg [.bool false, .sl 1 [.int .u32 3]]] (.agg [.bool false, .sl 0 []]):=fF_holds Ypr_ok (noMemo_holds _) 400 _ _ _ (by kernel_rfl)
end Go.Proofs.Ythnnfemologhfaa

namespace Go.Proofs.Ythnnfemologhfaa
open Go.IntKind (i64 u64 u32)
open Go.Ai
set_option maxRecDepth 100000
theorem aw112:Runs Yir 113 [.agg [.bool false, .sl 1 [.int .u32 1]], .agg [.bool false, .sl 0 []]] (.agg [.bool false, .sl 0 []]):=fF_holds Ypr_ok (noMemo_holds _) 400 _ _ _ (by kernel_rfl)
theorem aw113:Runs Yir 114 [.agg [.bool false, .sl 0 []], .agg [.bool false, .sl 0 []]] (.agg [.bool false, .sl 0 []]):=fF_holds Ypr_ok (noMemo_holds _) 400 _ _ _ (by kernel_rfl)
theorem aw114:Runs Yir 113 [.agg [.bool true, .sl 1 [.int .u32 1]], .agg [.bool false, .sl 1 [.int .u32 3]]] (.agg [.bool true, .sl 1 [.int .u32 3]]):=fF_holds Ypr_ok (noMemo_holds _) 400 _ _ _ (by kernel_rfl)
theorem aw115:Runs Yir 113 [.agg [.bool false, .sl 1 [.int .u32 1]], .agg [.bool true, .sl 1 [.int .u32 2]]] (.agg [.bool true, .sl 1 [.int .u32 2]]):=fF_holds Ypr_ok (noMemo_holds _) 400 _ _ _ (by kernel_rfl)
theorem aw116:Runs Yir 148 [.bool true, .sl 1 [.int .u32 3], .bool false, .sl 1 [.int .u32 2]] (.agg [.bool true, .sl 1 [.int .u32 1]]):=fF_holds Ypr_ok (noMemo_holds _) 400 _ _ _ (by kernel_rfl)
theorem aw117:Runs Yir 114 [.agg [.bool true, .sl 1 [.int .u32 3]], .agg [.bool true, .sl 1 [.int .u32 2]]] (.agg [.bool true, .sl 1 [.int .u32 1]]):=fF_holds Ypr_ok (memC_holds aw116 (noMemo_holds _)) 400 _ _ _ (by kernel_rfl)
theorem aw118:Runs Yir 148 [.bool false, .sl 1 [.int .u32 3], .bool true, .sl 1 [.int .u32 3]] (.agg [.bool false, .sl 0 []]):=fF_holds Ypr_ok (noMemo_holds _) 400 _ _ _ (by kernel_rfl)
theorem aw119:Runs Yir 114 [.agg [.bool false, .sl 1 [.int .u32 3]], .agg [.bool false, .sl 1 [.int .u32 3]]] (.agg [.bool false, .sl 0 []]):=fF_holds Ypr_ok (memC_holds aw118 (noMemo_holds _)) 400 _ _ _ (by kernel_rfl)
theorem aw120:Runs Yir 62 [.sl 4 [.bool false, .sl 0 [], .bool false, .sl 0 [], .bool true, .sl 1 [.int .u32 1], .bool false, .sl 0 []]] (.int .i64 2):=fF_holds Ypr_ok (noMemo_holds _) 400 _ _ _ (by kernel_rfl)
theorem aw121:Runs Yir 92 [.sl 4 [.bool false, .sl 0 [], .bool false, .sl 0 [], .bool true, .sl 1 [.int .u32 1], .bool false, .sl 0 []]] (.fresh 2 3 [.bool false, .sl 0 [], .bool false, .sl 0 [], .bool true, .sl 1 [.int .u32 1]]):=fF_holds Ypr_ok (memC_holds aw120 (noMemo_holds _)) 400 _ _ _ (by kernel_rfl)
theorem aw122:Runs Yir 86 [.sl 4 [.bool false, .sl 0 [], .bool false, .sl 0 [], .bool true, .sl 1 [.int .u32 1], .bool false, .sl 0 []]] (.fresh 2 3 [.bool false, .sl 0 [], .bool false, .sl 0 [], .bool true, .sl 1 [.int .u32 1]]):=fF_holds Ypr_ok (memC_holds aw121 (memC_holds aw36 (noMemo_holds _))) 400 _ _ _ (by kernel_rfl)
theorem aw123:Runs Yir 109 [.agg [.bool false, .sl 1 [.int .u32 3]], .agg [.bool true, .sl 1 [.int .u32 1]]] (.agg [.bool false, .sl 1 [.int .u32 1]]):=fF_holds Ypr_ok (noMemo_holds _) 400 _ _ _ (by kernel_rfl)
theorem aw124:Runs Yir 113 [.agg [.bool true, .sl 1 [.int .u32 1]], .agg [.bool false, .sl 0 []]] (.agg [.bool false, .sl 0 []]):=fF_holds Ypr_ok (noMemo_holds _) 400 _ _ _ (by kernel_rfl)
theorem aw125:Runs Yir 113 [.agg [.bool true, .sl 1 [.int .u32 1]], .agg [.bool true, .sl 1 [.int .u32 2]]] (.agg [.bool false, .sl 1 [.int .u32 2]]):=fF_holds Ypr_ok (noMemo_holds _) 400 _ _ _ (by kernel_rfl)
theorem aw126:Runs Yir 148 [.bool false, .sl 0 [], .bool true, .sl 1 [.int .u32 2]] (.agg [.bool true, .sl 1 [.int .u32 2]]):=fF_holds Ypr_ok (noMemo_holds _) 400 _ _ _ (by kernel_rfl)
theorem aw127:Runs Yir 114 [.agg [.bool false, .sl 0 []], .agg [.bool false, .sl 1 [.int .u32 2]]] (.agg [.bool true, .sl 1 [.int .u32 2]]):=fF_holds Ypr_ok (memC_holds aw126 (noMemo_holds _)) 400 _ _ _ (by kernel_rfl)
theorem aw128:Runs Yir 148 [.bool true, .sl 1 [.int .u32 3], .bool false, .sl 1 [.int .u32 3]] (.agg [.bool false, .sl 0 []]):=fF_holds Ypr_ok (noMemo_holds _) 400 _ _ _ (by kernel_rfl)
theorem aw129:Runs Yir 114 [.agg [.bool true, .sl 1 [.int .u32 3]], .agg [.bool true, .sl 1 [.int .u32 3]]] (.agg [.bool false, .sl 0 []]):=fF_holds Ypr_ok (memC_holds aw128 (noMemo_holds _)) 400 _ _ _ (by kernel_rfl)
theorem aw130:Runs Yir 62 [.sl 3 [.bool false, .sl 0 [], .bool true, .sl 1 [.int .u32 2], .bool false, .sl 0 []]] (.int .i64 1):=fF_holds Ypr_ok (noMemo_holds _) 400 _ _ _ (by kernel_rfl)
theorem aw131:Runs Yir 92 [.sl 3 [.bool false, .sl 0 [], .bool true, .sl 1 [.int .u32 2], .bool false, .sl 0 []]] (.fresh 2 2 [.bool false, .sl 0 [], .bool true, .sl 1 [.int .u32 2]]):=fF_holds Ypr_ok (memC_holds aw130 (noMemo_holds _)) 400 _ _ _ (by kernel_rfl)
theorem aw132:Runs Yir 109 [.agg [.bool false, .sl 0 []], .agg [.bool true, .sl 1 [.int .u32 2]]] (.agg [.bool false, .sl 1 [.int .u32 2]]):=fF_holds Ypr_ok (noMemo_holds _) 400 _ _ _ (by kernel_rfl)
theorem aw133:Runs Yir 109 [.agg [.bool false, .sl 1 [.int .u32 2]], .agg [.bool false, .sl 0 []]] (.agg [.bool false, .sl 1 [.int .u32 2]]):=fF_holds Ypr_ok (noMemo_holds _) 400 _ _ _ (by kernel_rfl)
theorem aw134:Runs Yir 85 [.sl 2 [.bool false, .sl 0 [], .bool true, .sl 1 [.int .u32 2]]] (.agg [.bool false, .sl 1 [.int .u32 2]]):=fF_holds Ypr_ok (memC_holds aw133 (memC_holds aw132 (noMemo_holds _))) 400 _ _ _ (by kernel_rfl)
theorem aw135:Runs Yir 110 [.agg [.bool false, .sl 0 []], .agg [.bool false, .sl 1 [.int .u32 2]]] (.tup [.agg [.bool false, .sl 0 []], .agg [.bool false, .sl 0 []]]):=fF_holds Ypr_ok (noMemo_holds _) 400 _ _ _ (by kernel_rfl)
theorem aw136:Runs Yir 86 [.sl 3 [.bool false, .sl 0 [], .bool true, .sl 1 [.int .u32 2], .bool false, .sl 0 []]] (.fresh 2 2 [.bool false, .sl 0 [], .bool true, .sl 1 [.int .u32 1]]):=fF_holds Ypr_ok (memC_holds aw135 (memC_holds aw134 (memC_holds aw131 (memC_holds aw72 (noMemo_holds _))))) 400 _ _ _ (by kernel_rfl)
theorem aw137:Runs Yir 64 [.sl 4 [.bool false, .sl 0 [], .bool false, .sl 0 [], .bool true, .sl 1 [.int .u32 1], .bool false, .sl 1 [.int .u32 1]], .sl 3 [.bool false, .sl 0 [], .bool true, .sl 1 [.int .u32 2], .bool false, .sl 1 [.int .u32 3]]] (.fresh 2 2 [.bool false, .sl 0 [], .bool true, .sl 1 [.int .u32 1]]):=fF_holds Ypr_ok (memC_holds aw136 (memC_holds aw129 (memC_holds aw127 (memC_holds aw125 (memC_holds aw124 (memC_holds aw123 (memC_holds aw122 (memC_holds aw119 (memC_holds aw117 (memC_holds aw115 (memC_holds aw114 (memC_holds aw113 (memC_holds aw112 (memC_holds aw111 (memC_holds aw110 (memC_holds aw108 (memC_holds aw107 (memC_holds aw103 (memC_holds aw98 (memC_holds aw44 (memC_holds aw12 (noMemo_holds _)))))))))))))))))))))) 400 _ _ _ (by kernel_rfl)
theorem aw138:Runs Yir 92 [.sl 2 [.bool false, .sl 0 [], .bool true, .sl 1 [.int .u32 1]]] (.fresh 2 2 [.bool false, .sl 0 [], .bool true, .sl 1 [.int .u32 1]]):=fF_holds Ypr_ok (noMemo_holds _) 400 _ _ _ (by kernel_rfl)
theorem aw139:Runs Yir 86 [.sl 2 [.bool false, .sl 0 [], .bool true, .sl 1 [.int .u32 1]]] (.fresh 2 2 [.bool false, .sl 0 [], .bool true, .sl 1 [.int .u32 1]]):=fF_holds Ypr_ok (memC_holds aw138 (memC_holds aw54 (noMemo_holds _))) 400 _ _ _ (by kernel_rfl)
theorem aw140:Runs Yir 109 [.agg [.bool true, .sl 1 [.int .u32 1]], .agg [.bool false, .sl 1 [.int .u32 3]]] (.agg [.bool false, .sl 1 [.int .u32 1]]):=fF_holds Ypr_ok (noMemo_holds _) 400 _ _ _ (by kernel_rfl)
theorem aw141:Runs Yir 113 [.agg [.bool true, .sl 1 [.int .u32 2]], .agg [.bool false, .sl 1 [.int .u32 1]]] (.agg [.bool true, .sl 1 [.int .u32 2]]):=fF_holds Ypr_ok (noMemo_holds _) 400 _ _ _ (by kernel_rfl)
theorem aw142:Runs Yir 113 [.agg [.bool true, .sl 1 [.int .u32 3]], .agg [.bool false, .sl 0 []]] (.agg [.bool false, .sl 0 []]):=fF_holds Ypr_ok (noMemo_holds _) 400 _ _ _ (by kernel_rfl)
theorem aw143:Runs Yir 148 [.bool true, .sl 1 [.int .u32 2], .bool true, .sl 0 []] (.agg [.bool true, .sl 1 [.int .u32 2]]):=fF_holds Ypr_ok (noMemo_holds _) 400 _ _ _ (by kernel_rfl)
theorem aw144:Runs Yir 114 [.agg [.bool true, .sl 1 [.int .u32 2]], .agg [.bool false, .sl 0 []]] (.agg [.bool true, .sl 1 [.int .u32 2]]):=fF_holds Ypr_ok (memC_holds aw143 (noMemo_holds _)) 400 _ _ _ (by kernel_rfl)
theorem aw145:Runs Yir 113 [.agg [.bool false, .sl 1 [.int .u32 3]], .agg [.bool false, .sl 1 [.int .u32 1]]] (.agg [.bool false, .sl 1 [.int .u32 3]]):=fF_holds Ypr_ok (noMemo_holds _) 400 _ _ _ (by kernel_rfl)
theorem aw146:Runs Yir 113 [.agg [.bool true, .sl 1 [.int .u32 3]], .agg [.bool true, .sl 1 [.int .u32 1]]] (.agg [.bool false, .sl 1 [.int .u32 3]]):=fF_holds Ypr_ok (noMemo_holds _) 400 _ _ _ (by kernel_rfl)
theorem aw147:Runs Yir 109 [.agg [.bool true, .sl 1 [.int .u32 1]], .agg [.bool true, .sl 1 [.int .u32 1]]] (.agg [.bool false, .sl 1 [.int .u32 1]]):=fF_holds Ypr_ok (noMemo_holds _) 400 _ _ _ (by kernel_rfl)
theorem aw148:Runs Yir 64 [.sl 3 [.bool false, .sl 0 [], .bool true, .sl 1 [.int .u32 2], .bool false, .sl 1 [.int .u32 3]], .sl 2 [.bool false, .sl 0 [], .bool true, .sl 1 [.int .u32 1]]] (.fresh 2 0 []):=fF_holds Ypr_ok (memC_holds aw147 (memC_holds aw146 (memC_holds aw145 (memC_holds aw144 (memC_holds aw142 (memC_holds aw141 (memC_holds aw140 (memC_holds aw139 (memC_holds aw136 (memC_holds aw119 (memC_holds aw113 (memC_holds aw112 (memC_holds aw110 (memC_holds aw107 (memC_holds aw82 (memC_holds aw80 (memC_holds aw75 (memC_holds aw44 (memC_holds aw14 (memC_holds aw13 (memC_holds aw12 (noMemo_holds _)))))))))))))))))))))) 400 _ _ _ (by kernel_rfl)
theorem aw149:Runs Yir 127 [.sl 2 [.bool false, .sl 0 [], .bool true, .sl 1 [.int .u32 1]]] (.fresh 2 2 [.bool false, .sl 0 [], .bool false, .sl 1 [.int .u32 1]]):=fF_holds Ypr_ok (noMemo_holds _) 400 _ _ _ (by kernel_rfl)
theorem aw150:Runs Yir 65 [.sl 4 [.bool false, .sl 0 [], .bool false, .sl 0 [], .bool true, .sl 1 [.int .u32 1], .bool false, .sl 1 [.int .u32 1]], .sl 3 [.bool false, .sl 0 [], .bool true, .sl 1 [.int .u32 2], .bool false, .sl 1 [.int .u32 3]]] (.fresh 2 2 [.bool false, .sl 0 [], .bool false, .sl 1 [.int .u32 1]]):=fF_holds Ypr_ok (memC_holds aw149 (memC_holds aw148 (memC_holds aw137 (memC_holds aw107 (memC_holds aw103 (noMemo_holds _)))))) 400 _ _ _ (by kernel_rfl)
theorem aw151:Runs Yir 148 [.bool true, .sl 1 [.int .u32 1], .bool true, .sl 0 []] (.agg [.bool true, .sl 1 [.int .u32 1]]):=fF_holds Ypr_ok (noMemo_holds _) 400 _ _ _ (by kernel_rfl)
theorem aw152:Runs Yir 114 [.agg [.bool true, .sl 1 [.int .u32 1]], .agg [.bool false, .sl 0 []]] (.agg [.bool true, .sl 1 [.int .u32 1]]):=fF_holds Ypr_ok (memC_holds aw151 (noMemo_holds _)) 400 _ _ _ (by kernel_rfl)
theorem aw153:Runs Yir 113 [.agg [.bool false, .sl 0 []], .agg [.bool false, .sl 0 []]] (.agg [.bool false, .sl 0 []]):=fF_holds Ypr_ok (noMemo_holds _) 400 _ _ _ (by kernel_rfl)
theorem aw154:Runs Yir 92 [.sl 3 [.bool false, .sl 0 [], .bool true, .sl 1 [.int .u32 1], .bool false, .sl 1 [.int .u32 1]]] (.fresh 2 3 [.bool false, .sl 0 [], .bool true, .sl 1 [.int .u32 1], .bool false, .sl 1 [.int .u32 1]]):=fF_holds Ypr_ok (noMemo_holds _) 400 _ _ _ (by kernel_rfl)
theorem aw155:Runs Yir 85 [.sl 3 [.bool false, .sl 0 [], .bool true, .sl 1 [.int .u32 1], .bool false, .sl 1 [.int .u32 1]]] (.agg [.bool false, .sl 1 [.int .u32 1]]):=fF_holds Ypr_ok (memC_holds aw5 (noMemo_holds _)) 400 _ _ _ (by kernel_rfl)
theorem aw156:Runs Yir 86 [.sl 3 [.bool false, .sl 0 [], .bool true, .sl 1 [.int .u32 1], .bool false, .sl 1 [.int .u32 1]]] (.fresh 2 3 [.bool false, .sl 0 [], .bool true, .sl 1 [.int .u32 1], .bool false, .sl 1 [.int .u32 1]]):=fF_holds Ypr_ok (memC_holds aw155 (memC_holds aw154 (noMemo_holds _))) 400 _ _ _ (by kernel_rfl)
theorem aw157:Runs Yir 116 [.sl 4 [.bool false, .sl 0 [], .bool false, .sl 0 [], .bool true, .sl 1 [.int .u32 1], .bool false, .sl 1 [.int .u32 1]], .sl 2 [.bool false, .sl 0 [], .bool false, .sl 1 [.int .u32 1]]] (.fresh 2 3 [.bool false, .sl 0 [], .bool true, .sl 1 [.int .u32 1], .bool false, .sl 1 [.int .u32 1]]):=fF_holds Ypr_ok (memC_holds aw156 (memC_holds aw153 (memC_holds aw152 (memC_holds aw124 (memC_holds aw113 (memC_holds aw112 (memC_holds aw101 (memC_holds aw80 (memC_holds aw75 (memC_holds aw19 (memC_holds aw17 (memC_holds aw13 (noMemo_holds _))))))))))))) 400 _ _ _ (by kernel_rfl)
theorem aw158:Runs Yir 66 [.sl 4 [.bool false, .sl 0 [], .bool false, .sl 0 [], .bool true, .sl 1 [.int .u32 4], .bool false, .sl 1 [.int .u32 4]]] (.fresh 2 3 [.bool false, .sl 0 [], .bool true, .sl 1 [.int .u32 1], .bool false, .sl 1 [.int .u32 1]]):=fF_holds Ypr_ok (memC_holds aw157 (memC_holds aw150 (memC_holds aw100 (memC_holds aw97 (noMemo_holds _))))) 400 _ _ _ (by kernel_rfl)
theorem aw159:Runs Yir 61 [.sl 1 [.sl 3 [.bool false, .sl 0 [], .bool true, .sl 1 [.int .u32 1], .bool false, .sl 1 [.int .u32 1]]]] (.bool false):=fF_holds Ypr_ok (noMemo_holds _) 400 _ _ _ (by kernel_rfl)
theorem aw160:Runs Yir 92 [.sl 2 [.bool false, .sl 1 [.int .u32 6], .bool true, .sl 1 [.int .u32 4]]] (.fresh 2 2 [.bool false, .sl 1 [.int .u32 6], .bool true, .sl 1 [.int .u32 4]]):=fF_holds Ypr_ok (noMemo_holds _) 400 _ _ _ (by kernel_rfl)
theorem aw161:Runs Yir 74 [.sl 2 [.int .i64 6, .int .i64 (-4)]] (.fresh 2 2 [.bool false, .sl 1 [.int .u32 6], .bool true, .sl 1 [.int .u32 4]]):=fF_holds Ypr_ok (memC_holds aw160 (noMemo_holds _)) 400 _ _ _ (by kernel_rfl)
theorem aw162:Runs Yir 61 [.sl 1 [.sl 2 [.bool false, .sl 1 [.int .u32 6], .bool true, .sl 1 [.int .u32 4]]]] (.bool false):=fF_holds Ypr_ok (noMemo_holds _) 400 _ _ _ (by kernel_rfl)
theorem aw163:Runs Yir 109 [.agg [.bool false, .sl 0 []], .agg [.bool true, .sl 1 [.int .u32 4]]] (.agg [.bool false, .sl 1 [.int .u32 4]]):=fF_holds Ypr_ok (noMemo_holds _) 400 _ _ _ (by kernel_rfl)
theorem aw164:Runs Yir 109 [.agg [.bool false, .sl 1 [.int .u32 4]], .agg [.bool false, .sl 1 [.int .u32 6]]] (.agg [.bool false, .sl 1 [.int .u32 2]]):=fF_holds Ypr_ok (noMemo_holds _) 400 _ _ _ (by kernel_rfl)
theorem aw165:Runs Yir 85 [.sl 2 [.bool false, .sl 1 [.int .u32 6], .bool true, .sl 1 [.int .u32 4]]] (.agg [.bool false, .sl 1 [.int .u32 2]]):=fF_holds Ypr_ok (memC_holds aw164 (memC_holds aw163 (noMemo_holds _))) 400 _ _ _ (by kernel_rfl)
theorem aw166:Runs Yir 147 [.sl 1 [.int .u32 6], .sl 1 [.int .u32 2]] (.tup [.sl 1 [.int .u32 3], .sl 1 [.int .u32 0]]):=fF_holds Ypr_ok (noMemo_holds _) 400 _ _ _ (by kernel_rfl)
theorem aw167:Runs Yir 110 [.agg [.bool false, .sl 1 [.int .u32 6]], .agg [.bool false, .sl 1 [.int .u32 2]]] (.tup [.agg [.bool false, .sl 1 [.int .u32 3]], .agg [.bool false, .sl 0 []]]):=fF_holds Ypr_ok (memC_holds aw166 (noMemo_holds _)) 400 _ _ _ (by kernel_rfl)
theorem aw168:Runs Yir 147 [.sl 1 [.int .u32 4], .sl 1 [.int .u32 2]] (.tup [.sl 1 [.int .u32 2], .sl 1 [.int .u32 0]]):=fF_holds Ypr_ok (noMemo_holds _) 400 _ _ _ (by kernel_rfl)
theorem aw169:Runs Yir 110 [.agg [.bool true, .sl 1 [.int .u32 4]], .agg [.bool false, .sl 1 [.int .u32 2]]] (.tup [.agg [.bool true, .sl 1 [.int .u32 2]], .agg [.bool false, .sl 0 []]]):=fF_holds Ypr_ok (memC_holds aw168 (noMemo_holds _)) 400 _ _ _ (by kernel_rfl)
theorem aw170:Runs Yir 86 [.sl 2 [.bool false, .sl 1 [.int .u32 6], .bool true, .sl 1 [.int .u32 4]]] (.fresh 2 2 [.bool false, .sl 1 [.int .u32 3], .bool true, .sl 1 [.int .u32 2]]):=fF_holds Ypr_ok (memC_holds aw169 (memC_holds aw167 (memC_holds aw165 (memC_holds aw160 (noMemo_holds _))))) 400 _ _ _ (by kernel_rfl)
theorem aw171:Runs Yir 43 [.sl 1 [.bool false, .sl 1 [.int .u32 1]]] (.fresh 2 1 [.bool false, .sl 1 [.int .u32 1]]):=fF_holds Ypr_ok (noMemo_holds _) 400 _ _ _ (by kernel_rfl)
theorem aw172:Runs Yir 52 [.sl 1 [.int .i64 1]] (.fresh 2 1 [.bool false, .sl 1 [.int .u32 1]]):=fF_holds Ypr_ok (memC_holds aw171 (noMemo_holds _)) 400 _ _ _ (by kernel_rfl)
theorem aw173:Runs Yir 43 [.sl 1 [.bool true, .sl 1 [.int .u32 1]]] (.fresh 2 1 [.bool true, .sl 1 [.int .u32 1]]):=fF_holds Ypr_ok (noMemo_holds _) 400 _ _ _ (by kernel_rfl)
theorem aw174:Runs Yir 52 [.sl 1 [.int .i64 (-1)]] (.fresh 2 1 [.bool true, .sl 1 [.int .u32 1]]):=fF_holds Ypr_ok (memC_holds aw173 (noMemo_holds _)) 400 _ _ _ (by kernel_rfl)
theorem aw175:Runs Yir 43 [.sl 2 [.bool true, .sl 1 [.int .u32 1], .bool false, .sl 1 [.int .u32 1]]] (.fresh 2 2 [.bool true, .sl 1 [.int .u32 1], .bool false, .sl 1 [.int .u32 1]]):=fF_holds Ypr_ok (noMemo_holds _) 400 _ _ _ (by kernel_rfl)
theorem aw176:Runs Yir 52 [.sl 2 [.int .i64 (-1), .int .i64 1]] (.fresh 2 2 [.bool true, .sl 1 [.int .u32 1], .bool false, .sl 1 [.int .u32 1]]):=fF_holds Ypr_ok (memC_holds aw175 (noMemo_holds _)) 400 _ _ _ (by kernel_rfl)
theorem aw177:Runs Yir 28 [.sl 2 [.bool true, .sl 1 [.int .u32 1], .bool false, .sl 1 [.int .u32 1]], .sl 2 [.bool true, .sl 1 [.int .u32 1], .bool false, .sl 1 [.int .u32 1]]] (.bool true):=fF_holds Ypr_ok (noMemo_holds _) 400 _ _ _ (by kernel_rfl)
theorem aw178:Runs Yir 43 [.sl 3 [.bool false, .sl 0 [], .bool true, .sl 1 [.int .u32 1], .bool false, .sl 1 [.int .u32 1]]] (.fresh 2 3 [.bool false, .sl 0 [], .bool true, .sl 1 [.int .u32 1], .bool false, .sl 1 [.int .u32 1]]):=fF_holds Ypr_ok (noMemo_holds _) 400 _ _ _ (by kernel_rfl)
theorem aw179:Runs Yir 52 [.sl 3 [.int .i64 0, .int .i64 (-1), .int .i64 1]] (.fresh 2 3 [.bool false, .sl 0 [], .bool true, .sl 1 [.int .u32 1], .bool false, .sl 1 [.int .u32 1]]):=fF_holds Ypr_ok (memC_holds aw178 (noMemo_holds _)) 400 _ _ _ (by kernel_rfl)
theorem aw180:Runs Yir 28 [.sl 3 [.bool false, .sl 0 [], .bool true, .sl 1 [.int .u32 1], .bool false, .sl 1 [.int .u32 1]], .sl 3 [.bool false, .sl 0 [], .bool true, .sl 1 [.int .u32 1], .bool false, .sl 1 [.int .u32 1]]] (.bool true):=fF_holds Ypr_ok (noMemo_holds _) 400 _ _ _ (by kernel_rfl)
theorem aw181:Runs Yir 43 [.sl 2 [.bool false, .sl 1 [.int .u32 3], .bool true, .sl 1 [.int .u32 2]]] (.fresh 2 2 [.bool false, .sl 1 [.int .u32 3], .bool true, .sl 1 [.int .u32 2]]):=fF_holds Ypr_ok (noMemo_holds _) 400 _ _ _ (by kernel_rfl)
theorem aw182:Runs Yir 52 [.sl 2 [.int .i64 3, .int .i64 (-2)]] (.fresh 2 2 [.bool false, .sl 1 [.int .u32 3], .bool true, .sl 1 [.int .u32 2]]):=fF_holds Ypr_ok (memC_holds aw181 (noMemo_holds _)) 400 _ _ _ (by kernel_rfl)
theorem aw183:Runs Yir 28 [.sl 2 [.bool false, .sl 1 [.int .u32 3], .bool true, .sl 1 [.int .u32 2]], .sl 2 [.bool false, .sl 1 [.int .u32 3], .bool true, .sl 1 [.int .u32 2]]] (.bool true):=fF_holds Ypr_ok (noMemo_holds _) 400 _ _ _ (by kernel_rfl)
theorem aw184:Runs Yir 13 [] (.bool true):=fF_holds Ypr_ok (memC_holds aw183 (memC_holds aw182 (memC_holds aw180 (memC_holds aw179 (memC_holds aw177 (memC_holds aw176 (memC_holds aw174 (memC_holds aw172 (memC_holds aw170 (memC_holds aw162 (memC_holds aw161 (memC_holds aw159 (memC_holds aw158 (memC_holds aw88 (memC_holds aw87 (memC_holds aw85 (memC_holds aw84 (memC_holds aw66 (memC_holds aw65 (memC_holds aw63 (memC_holds aw61 (memC_holds aw33 (memC_holds aw31 (memC_holds aw29 (memC_holds aw3 (memC_holds aw1 (noMemo_holds _))))))))))))))))))))))))))) 400 _ _ _ (by kernel_rfl)
theorem Yrun13:Runs Yir 13 [] (.bool true):=aw184
end Go.Proofs.Ythnnfemologhfaa

namespace Go.Proofs.Ythnnfemologhfaa
open Go.IntKind (i64 u64 u32)
open Go.Ai
set_option maxRecDepth 100000
def Ys28 (o:Bool) (rs:List Rn) (ss:List Rn) (i:Int):State:=(.val (.sl rs.length (pc rs))::(.val (.sl ss.length (pc ss))::(dds 2 (.val (.bool o)::(.val (.int .i64 i)::(dds 21 []))))))
theorem Yk28_1 (o:Bool) (rs:List Rn) (ss:List Rn) (i:Int) (b:Bool) (c1:(decide (i<(rs.length:Int)))=true) (c2:(b)=true) (n1:0≤i∧i<(rs.length:Int)) (n2:0≤i∧i<(ss.length:Int)) (n3:Runs Yir 41 [rawAV (rs.getD (Int.toNat i) z0),rawAV (ss.getD (Int.toNat i) z0)] (.bool b)):RunsW Yir Yc28 (Ys28 o rs ss i) .norm (Ys28 o rs ss (i64.wrap (i+1))):=(RunsW.go TPW_holds 400 [.b true, .v (rawAV (rs.getD (Int.toNat i) z0)), .v (rawAV (ss.getD (Int.toNat i) z0)), .r (.bool b), .b false] [0,1,4,5] (ac c1 (ac n1 (ac (take_pcI n1) (ac n2 (ac (take_pcI n2) (ac n3 (ac (show (!b)=false from (by rw [c2];rfl)) a0))))))) (by kernel_rfl))
theorem Yk28_3 (o:Bool) (rs:List Rn) (ss:List Rn) (i:Int)  (c1:(decide (i<(rs.length:Int)))=false):RunsW Yir Yc28 (Ys28 o rs ss i) (.exit 0) (Ys28 o rs ss i):=(RunsW.go TPW_holds 400 [.b false] [0,1,4,5] (ac c1 a0) (by kernel_rfl))
theorem Yrun28_2 (rs ss:List Rn) (i:Int) (c1:((rs.length:Int) != (ss.length:Int))=false) (hl1:RunsW Yir (.loop Yc28) (Ys28 false rs ss 0) (.exit 0) (Ys28 false rs ss i)):Runs Yir 28 [.sl rs.length (pc rs), .sl ss.length (pc ss)] (.bool true):=Runs.of_bodyW (fn:=Yi28) (s:=(dds 4 (.val (.bool true)::(dds 22 [])))) (ex := .ret) rfl rfl (RunsW.seq (RunsW.go (t:=(vp rs::(vp ss::(dds 2 (.val (.bool false)::(dds 22 [])))))) (ex := .norm) TPW_holds 400 [] [0,1,4] a0 (by kernel_rfl)) (RunsW.seq (RunsW.go (t:=(vp rs::(vp ss::(dds 2 (.val (.bool false)::(dds 22 [])))))) (ex := .norm) TPW_holds 400 [.b false] [0,1,4] (ac c1 a0) (by kernel_rfl)) (RunsW.seq (RunsW.seq (RunsW.go TPW_holds 400 [] [0,1,4,5] a0 (by kernel_rfl)) (RunsW.block hl1)) (RunsW.go TPW_holds 400 [] [4] a0 (by kernel_rfl))))) (by intro i e;cases e) rfl
def Ys41 (o:Bool) (r:Rn) (i:Int):State:=(dds 2 (.box [.bool r.1, .sl r.2.length (lm r.2)]::(.box [.bool r.1, .sl r.2.length (lm r.2)]::(.val (.bool o)::(.val (.int .i64 i)::(dds 32 []))))))
theorem Yk41_2 (o:Bool) (r:Rn) (i:Int)  (c1:(decide (i<(r.2.length:Int)))=true) (c2:((r.2.getD (Int.toNat i) 0) != (r.2.getD (Int.toNat i) 0))=false) (n1:0≤i∧i<(r.2.length:Int)):RunsW Yir Yc41 (Ys41 o r i) .norm (Ys41 o r (i64.wrap (i+1))):=(RunsW.go TPW_holds 400 [.b true, .v (.int .u32 (r.2.getD (Int.toNat i) 0)), .v (.int .u32 (r.2.getD (Int.toNat i) 0)), .b false] [2,3,4,5] (ac c1 (ac n1 (ac (take_limI n1) (ac n1 (ac (take_limI n1) (ac c2 a0)))))) (by kernel_rfl))
theorem Yk41_3 (o:Bool) (r:Rn) (i:Int)  (c1:(decide (i<(r.2.length:Int)))=false):RunsW Yir Yc41 (Ys41 o r i) (.exit 0) (Ys41 o r i):=(RunsW.go TPW_holds 400 [.b false] [2,3,4,5] (ac c1 a0) (by kernel_rfl))
theorem Yrun41_2 (r:Rn) (i:Int) (c1:(r.1==r.1)=true) (c2:((r.2.length:Int) != (r.2.length:Int))=false) (hl1:RunsW Yir (.loop Yc41) (Ys41 false r 0) (.exit 0) (Ys41 false r i)):Runs Yir 41 [rawAV r,rawAV r] (.bool true):=Runs.of_bodyW (fn:=Yi41) (s:=(dds 4 (.val (.bool true)::(dds 33 [])))) (ex := .ret) rfl rfl (RunsW.seq (RunsW.go (t:=(.val (rawAV r)::(.val (rawAV r)::(bR r::(bR r::(.val (.bool false)::(dds 33 []))))))) (ex := .norm) TPW_holds 400 [] [0,1,2,3,4] a0 (by kernel_rfl)) (RunsW.seq (RunsW.go (t:=(.val (rawAV r)::(.val (rawAV r)::(bR r::(bR r::(.val (.bool false)::(dds 33 []))))))) (ex := .norm) TPW_holds 400 [.b false, .b false] [0,1,2,3,4] (ac (show (!(r.1==r.1))=false from (by rw [c1];rfl)) (ac c2 a0)) (by kernel_rfl)) (RunsW.seq (RunsW.seq (RunsW.go TPW_holds 400 [] [2,3,4,5] a0 (by kernel_rfl)) (RunsW.block hl1)) (RunsW.go TPW_holds 400 [] [4] a0 (by kernel_rfl))))) (by intro i e;cases e) rfl
theorem same1_run (r:Rn) (hN:r.2.length≤1048576):Runs Yir 41 [.agg [.bool r.1, .sl r.2.length (lm r.2)], .agg [.bool r.1, .sl r.2.length (lm r.2)]] (.bool true):=by
 refine Yrun41_2 r (r.2.length:Nat) (by simp) (by simp) ?_
 exact RunsW.upTo (prog:=Yir) (c:=Yc41) (ex := .exit 0) (fun t=>Ys41 false r (t:Nat)) r.2.length (by intro e;cases e) (Yk41_3 false r _ (by simp)) 0 (Nat.zero_le _) (fun t _ h=>by
  have ei:i64.wrap ((t:Int)+1)=((t+1:Nat):Int):=by rw [w64 (by omega) (by omega)];omega
  have k:=Yk41_2 false r (t:Nat) (by simp;omega) (by simp) (by omega)
  rwa [ei] at k)
theorem same2_run {rs:List Rn} (hg:∀ r∈rs,Good 1048576 r) (hN:rs.length≤1048576):Runs Yir 28 [.sl rs.length (pc rs), .sl rs.length (pc rs)] (.bool true):=by
 refine Yrun28_2 rs rs (rs.length:Nat) (by simp) ?_
 exact RunsW.upTo (prog:=Yir) (c:=Yc28) (ex := .exit 0) (fun t=>Ys28 false rs rs (t:Nat)) rs.length (by intro e;cases e) (Yk28_3 false rs rs _ (by simp)) 0 (Nat.zero_le _) (fun t _ h=>by
  have ei:i64.wrap ((t:Int)+1)=((t+1:Nat):Int):=by rw [w64 (by omega) (by omega)];omega
  have k:=Yk28_1 false rs rs (t:Nat) true (by simp;omega) rfl (by omega) (by omega) (by rw [Int.toNat_natCast];exact same1_run _ (good_getD hg t).2)
  rwa [ei] at k)
end Go.Proofs.Ythnnfemologhfaa

namespace Go.Proofs.Ythnnfemologhfaa
open Go.IntKind (i64 u64 u32)
open Go.Ai
set_option maxRecDepth 100000
def TSA:Table:=TWC
theorem TSA_holds:THolds Yir TSA:=TWC_holds
end Go.Proofs.Ythnnfemologhfaa

namespace Go.Proofs.Ythnnfemologhfaa
open Go.IntKind (i64 u64 u32)
open Go.Ai
set_option maxRecDepth 100000
def TSB:Table:=TSA
theorem TSB_holds:THolds Yir TSB:=TSA_holds
end Go.Proofs.Ythnnfemologhfaa

namespace Go.Proofs.Ythnnfemologhfaa
open Go.IntKind (i64 u64 u32)
open Go.Ai
set_option maxRecDepth 100000
def Ys67 (o:Bool) (ts:List Rn) (i:Int):State:=(dds 2 (.val (.bool o)::(.val (.sl ts.length (pc ts))::(.val (.int .i64 i)::(dds 17 [])))))
theorem Yk67_1 (o:Bool) (ts:List Rn) (i:Int) (z:Bool) (c1:(decide (i<(ts.length:Int)))=true) (c2:(z)=true) (n1:0≤i∧i<(ts.length:Int)) (n2:Runs Yir 79 [rawAV (ts.getD (Int.toNat i) z0)] (.bool z)):RunsW Yir Yc67 (Ys67 o ts i) .ret (Ys67 true ts i):=(RunsW.go TSB_holds 400 [.b true, .v (rawAV (ts.getD (Int.toNat i) z0)), .r (.bool z), .b true] [2,3,4] (ac c1 (ac n1 (ac (take_pcI n1) (ac n2 (ac c2 a0))))) (by kernel_rfl))
theorem Yk67_2 (o:Bool) (ts:List Rn) (i:Int) (z:Bool) (c1:(decide (i<(ts.length:Int)))=true) (c2:(z)=false) (n1:0≤i∧i<(ts.length:Int)) (n2:Runs Yir 79 [rawAV (ts.getD (Int.toNat i) z0)] (.bool z)):RunsW Yir Yc67 (Ys67 o ts i) .norm (Ys67 o ts (i64.wrap (i+1))):=(RunsW.go TSB_holds 400 [.b true, .v (rawAV (ts.getD (Int.toNat i) z0)), .r (.bool z), .b false] [2,3,4] (ac c1 (ac n1 (ac (take_pcI n1) (ac n2 (ac c2 a0))))) (by kernel_rfl))
theorem Yk67_3 (o:Bool) (ts:List Rn) (i:Int)  (c1:(decide (i<(ts.length:Int)))=false):RunsW Yir Yc67 (Ys67 o ts i) (.exit 0) (Ys67 o ts i):=(RunsW.go TSB_holds 400 [.b false] [2,3,4] (ac c1 a0) (by kernel_rfl))
theorem Yrun67_n_1 (rs ts:List Rn) (c1:(decide ((i64.wrap ((ts.length:Int)-1))>16))=true) (n1:Runs Yir 43 [.sl rs.length (pc rs)] (.fresh 2 ts.length (pc ts))):Runs Yir 67 [.sl rs.length (pc rs)] (.bool true):=Runs.of_bodyW (fn:=Yi67) (s:=(dds 2 (.val (.bool true)::(dds 19 [])))) (ex := .ret) rfl rfl (RunsW.seq (RunsW.go (t:=(vp rs::(dds 1 (.val (.bool false)::(dds 19 []))))) (ex := .norm) TSB_holds 400 [] [0,2] a0 (by kernel_rfl)) (RunsW.seq (RunsW.go (t:=(vp rs::(dds 1 (.val (.bool false)::(vp ts::(dds 18 [])))))) (ex := .norm) TSB_holds 400 [.r (.fresh 2 ts.length (pc ts))] [0,2,3] (ac n1 a0) (by kernel_rfl)) (RunsW.seq_out (RunsW.go TSB_holds 400 [.b true] [2] (ac c1 a0) (by kernel_rfl)) (by intro e;cases e)))) (by intro i e;cases e) rfl
theorem Yrun67_n_2 (rs ts:List Rn) (i:Int) (c1:(decide ((i64.wrap ((ts.length:Int)-1))>16))=false) (n1:Runs Yir 43 [.sl rs.length (pc rs)] (.fresh 2 ts.length (pc ts))) (hl2:RunsW Yir (.loop Yc67) (Ys67 false ts 0) (.exit 0) (Ys67 false ts i)):Runs Yir 67 [.sl rs.length (pc rs)] (.bool false):=Runs.of_bodyW (fn:=Yi67) (s:=(dds 2 (.val (.bool false)::(dds 19 [])))) (ex := .ret) rfl rfl (RunsW.seq (RunsW.go (t:=(vp rs::(dds 1 (.val (.bool false)::(dds 19 []))))) (ex := .norm) TSB_holds 400 [] [0,2] a0 (by kernel_rfl)) (RunsW.seq (RunsW.go (t:=(vp rs::(dds 1 (.val (.bool false)::(vp ts::(dds 18 [])))))) (ex := .norm) TSB_holds 400 [.r (.fresh 2 ts.length (pc ts))] [0,2,3] (ac n1 a0) (by kernel_rfl)) (RunsW.seq (RunsW.go (t:=(vp rs::(dds 1 (.val (.bool false)::(vp ts::(dds 18 [])))))) (ex := .norm) TSB_holds 400 [.b false] [0,2,3] (ac c1 a0) (by kernel_rfl)) (RunsW.seq (RunsW.seq (RunsW.go TSB_holds 400 [] [2,3,4] a0 (by kernel_rfl)) (RunsW.block hl2)) (RunsW.go TSB_holds 400 [] [2] a0 (by kernel_rfl)))))) (by intro i e;cases e) rfl
theorem Yrun67_y_2 (rs ts:List Rn) (i:Int) (c1:(decide ((i64.wrap ((ts.length:Int)-1))>16))=false) (n1:Runs Yir 43 [.sl rs.length (pc rs)] (.fresh 2 ts.length (pc ts))) (hl2:RunsW Yir (.loop Yc67) (Ys67 false ts 0) .ret (Ys67 true ts i)):Runs Yir 67 [.sl rs.length (pc rs)] (.bool true):=Runs.of_bodyW (fn:=Yi67) (s:=(dds 2 (.val (.bool true)::(.val (.sl ts.length (pc ts))::(.val (.int .i64 i)::(dds 17 [])))))) (ex := .ret) rfl rfl (RunsW.seq (RunsW.go (t:=(vp rs::(dds 1 (.val (.bool false)::(dds 19 []))))) (ex := .norm) TSB_holds 400 [] [0,2] a0 (by kernel_rfl)) (RunsW.seq (RunsW.go (t:=(vp rs::(dds 1 (.val (.bool false)::(vp ts::(dds 18 [])))))) (ex := .norm) TSB_holds 400 [.r (.fresh 2 ts.length (pc ts))] [0,2,3] (ac n1 a0) (by kernel_rfl)) (RunsW.seq (RunsW.go (t:=(vp rs::(dds 1 (.val (.bool false)::(vp ts::(dds 18 [])))))) (ex := .norm) TSB_holds 400 [.b false] [0,2,3] (ac c1 a0) (by kernel_rfl)) (RunsW.seq_out (RunsW.seq (RunsW.go TSB_holds 400 [] [2,3,4] a0 (by kernel_rfl)) (RunsW.block_ret hl2)) (by intro e;cases e))))) (by intro i e;cases e) rfl
theorem Yrun44 (rs ts:List Rn) (n1:Runs Yir 43 [.sl rs.length (pc rs)] (.fresh 2 ts.length (pc ts))):Runs Yir 44 [.sl rs.length (pc rs)] (.int .i64 (i64.wrap ((ts.length:Int)-1))):=Runs.go (fn:=Yi44) TSB_holds rfl 400 rfl [.r (.fresh 2 ts.length (pc ts))] (ac n1 a0) (by kernel_rfl)
def TGA:Table:=TSB
theorem TGA_holds:THolds Yir TGA:=TSB_holds
end Go.Proofs.Ythnnfemologhfaa
