/- Texts of the proof of PolyRemainders, packed by pack.py: part 17 of 20. -/
import Derived.KernelRfl
import Derived.Test.YthnnfemologhfaaPme16
namespace Go.Proofs.Ythnnfemologhfaa
open Go.IntKind (i64 u64 u32)
open Go.Ai
set_option maxRecDepth 100000
def bigC (x:Int):Bool:=decide (256<(limbs x.natAbs).length)
def largeV (p:List Int):Bool:=decide (17<(trimL p).length) || (trimL p).any bigC
theorem any_false {p:List Int} {f:Int→Bool} (h:p.any f=false) (i:Nat) (hi:i<p.length):f (p.getD i 0)=false:=by
 rw [List.any_eq_false] at h
 rw [List.getD_eq_getElem?_getD,List.getElem?_eq_getElem hi]
 simpa using h _ (List.getElem_mem hi)
theorem any_true {p:List Int} {f:Int→Bool} (h:p.any f=true):∃ i,i<p.length∧f (p.getD i 0)=true:=by
 obtain ⟨x,hx,hf⟩:=List.any_eq_true.1 h
 obtain ⟨i,hi,rfl⟩:=List.mem_iff_getElem.1 hx
 refine ⟨i,hi,?_⟩
 rw [List.getD_eq_getElem?_getD,List.getElem?_eq_getElem hi]
 simpa using hf
section
variable {rs:List Rn} {ps:List (List Rn)} {n k:Int}
theorem Yloop61i (hg:∀ r∈rs,Good 1048576 r) (hN:rs.length≤1048576) :
  (largeV (vals rs)=false→(trimL (vals rs)).length≤17→RunsW Yir (.loop Yc61i) (Ys61i false ps n k rs (((topN (vals rs) rs.length:Nat):Int)-1) 0) (.exit 2) (Ys61i false ps n k rs (((topN (vals rs) rs.length:Nat):Int)-1) (topN (vals rs) rs.length:Nat))) ∧
  (largeV (vals rs)=true→(trimL (vals rs)).length≤17→∃ j:Nat,RunsW Yir (.loop Yc61i) (Ys61i false ps n k rs (((topN (vals rs) rs.length:Nat):Int)-1) 0) .ret (Ys61i true ps n k rs (((topN (vals rs) rs.length:Nat):Int)-1) (j:Nat))):=by
 have hle:=topN_le (vals rs) rs.length
 have hlen:(trimL (vals rs)).length=topN (vals rs) rs.length:=by rw [trim_length,vals_length]
 have step:∀ t:Nat,t<topN (vals rs) rs.length→bigC (rval (rs.getD t z0))=false→RunsW Yir Yc61i (Ys61i false ps n k rs (((topN (vals rs) rs.length:Nat):Int)-1) (t:Nat)) .norm (Ys61i false ps n k rs (((topN (vals rs) rs.length:Nat):Int)-1) ((t+1:Nat):Int)):=by
  intro t ht hb
  have ei:i64.wrap ((t:Int)+1)=((t+1:Nat):Int):=by rw [w64 (by omega) (by omega)];omega
  obtain ⟨g1,g2⟩:=good_getD hg t
  have k2:=Yk61i_2 false ps n k rs (((topN (vals rs) rs.length:Nat):Int)-1) (t:Nat) (((limbs (rval (rs.getD t z0)).natAbs).length:Nat):Int) (by simp;omega) (by unfold bigC at hb;simp only [decide_eq_false_iff_not] at hb ⊢;omega) (by omega) (by rw [Int.toNat_natCast];exact wsize_run g1 g2)
  rwa [ei] at k2
 refine ⟨fun hl _ => ?_,fun hl h17 => ?_⟩
 ·unfold largeV at hl
  rw [Bool.or_eq_false_iff] at hl
  have h:=RunsW.upTo (prog:=Yir) (c:=Yc61i) (ex := .exit 2) (fun t=>Ys61i false ps n k rs (((topN (vals rs) rs.length:Nat):Int)-1) (t:Nat)) (topN (vals rs) rs.length) (by intro e;cases e) (Yk61i_3 false ps n k rs _ _ (by simp;omega)) 0 (Nat.zero_le _) (fun t _ h2=>step t h2 (by
   have:=any_false hl.2 t (by omega)
   rwa [getD_trim,vals_getD] at this))
  exact h
 ·unfold largeV at hl
  rw [decide_eq_false (by omega),Bool.false_or] at hl
  obtain ⟨i,hi,hf⟩:=any_true hl
  rcases first_from (fun j=>bigC (rval (rs.getD j z0))) (topN (vals rs) rs.length) _ 0 (by rw [Nat.zero_add]) with h | ⟨j,_,h2,h3,h4⟩
  ·have:=h i (by omega) (by omega)
   rw [getD_trim,vals_getD] at hf
   rw [hf] at this
   cases this
  ·obtain ⟨g1,g2⟩:=good_getD hg j
   have k1:=Yk61i_1 false ps n k rs (((topN (vals rs) rs.length:Nat):Int)-1) (j:Nat) (((limbs (rval (rs.getD j z0)).natAbs).length:Nat):Int) (by simp;omega) (by unfold bigC at h3;simp only [decide_eq_true_eq] at h3 ⊢;omega) (by omega) (by rw [Int.toNat_natCast];exact wsize_run g1 g2)
   exact ⟨j,RunsW.upTo (prog:=Yir) (c:=Yc61i) (ex := .ret) (fun t=>Ys61i false ps n k rs (((topN (vals rs) rs.length:Nat):Int)-1) (t:Nat)) j (by intro e;cases e) k1 0 (Nat.zero_le _) (fun t _ h6=>step t (by omega) (h4 t (by omega) h6))⟩
end
theorem getD_mem {α:Type} {l:List (List α)} {i:Nat} (h:i<l.length):l.getD i []∈l:=by
 rw [List.getD_eq_getElem?_getD,List.getElem?_eq_getElem h];exact List.getElem_mem h
theorem plarge_run {ps:List (List Rn)} (hg:∀ p∈ps,(∀ r∈p,Good 1048576 r)∧p.length≤1048576) (hN:ps.length≤1048576):Runs Yir 61 [.sl ps.length (pp ps)] (.bool (ps.any fun p=>largeV (vals p))):=by
 have hdeg:∀ t,t<ps.length→Runs Yir 62 [.sl (ps.getD t []).length (pc (ps.getD t []))] (.int .i64 (((topN (vals (ps.getD t [])) (ps.getD t []).length:Nat):Int)-1)):=fun t ht=>degree_run (hg _ (getD_mem ht)).1 (hg _ (getD_mem ht)).2
 have step:∀ t:Nat,t<ps.length→largeV (vals (ps.getD t []))=false→RunsW Yir Yc61 (Ys61 false ps (ps.length:Nat) (t:Nat)) .norm (Ys61 false ps (ps.length:Nat) ((t+1:Nat):Int)):=by
  intro t ht hl
  have ei:i64.wrap ((t:Int)+1)=((t+1:Nat):Int):=by rw [w64 (by omega) (by omega)];omega
  obtain ⟨g1,g2⟩:=hg _ (getD_mem ht)
  have hlen:(trimL (vals (ps.getD t []))).length=topN (vals (ps.getD t [])) (ps.getD t []).length:=by rw [trim_length,vals_length]
  have h17:(trimL (vals (ps.getD t []))).length≤17:=by
   unfold largeV at hl
   rw [Bool.or_eq_false_iff,decide_eq_false_iff_not] at hl
   omega
  have k2:=Yk61_2 false ps (ps.length:Nat) (t:Nat) (((topN (vals (ps.getD t [])) (ps.getD t []).length:Nat):Int)-1) _ (by simp;omega) (by rw [decide_eq_false_iff_not];omega) (by omega) (by rw [Int.toNat_natCast];exact hdeg t ht) (by rw [Int.toNat_natCast];exact (Yloop61i g1 g2).1 hl h17)
  rwa [ei] at k2
 rcases first_from (fun j=>largeV (vals (ps.getD j []))) ps.length _ 0 (by rw [Nat.zero_add]) with h | ⟨j,_,h2,h3,h4⟩
 ·have hany:(ps.any fun p=>largeV (vals p))=false:=by
   rw [List.any_eq_false]
   intro p hp
   obtain ⟨i,hi,rfl⟩:=List.mem_iff_getElem.1 hp
   have:=h i (by omega) hi
   rw [List.getD_eq_getElem?_getD,List.getElem?_eq_getElem hi] at this
   simpa using this
  rw [hany]
  exact Yrun61_n ps _ _ (RunsW.upTo (prog:=Yir) (c:=Yc61) (ex := .exit 0) (fun t=>Ys61 false ps (ps.length:Nat) (t:Nat)) ps.length (by intro e;cases e) (Yk61_3 false ps _ _ (by simp)) 0 (Nat.zero_le _) (fun t _ h6=>step t h6 (h t (by omega) h6)))
 ·have hany:(ps.any fun p=>largeV (vals p))=true:=by
   rw [List.any_eq_true]
   exact ⟨_,getD_mem h2,h3⟩
  rw [hany]
  obtain ⟨g1,g2⟩:=hg _ (getD_mem h2)
  have hlen:(trimL (vals (ps.getD j []))).length=topN (vals (ps.getD j [])) (ps.getD j []).length:=by rw [trim_length,vals_length]
  have out:RunsW Yir Yc61 (Ys61 false ps (ps.length:Nat) (j:Nat)) .ret (Ys61 true ps (ps.length:Nat) (j:Nat)):=by
   by_cases h17:(trimL (vals (ps.getD j []))).length≤17
   ·obtain ⟨i,hi⟩:=(Yloop61i (ps:=ps) (n:=(ps.length:Nat)) (k:=(j:Nat)) g1 g2).2 h3 h17
    exact Yk61y_2 false ps (ps.length:Nat) (j:Nat) (((topN (vals (ps.getD j [])) (ps.getD j []).length:Nat):Int)-1) _ (by simp;omega) (by rw [decide_eq_false_iff_not];omega) (by omega) (by rw [Int.toNat_natCast];exact hdeg j h2) (by rw [Int.toNat_natCast];exact hi)
   ·exact Yk61_1 false ps (ps.length:Nat) (j:Nat) (((topN (vals (ps.getD j [])) (ps.getD j []).length:Nat):Int)-1) (by simp;omega) (by rw [decide_eq_true_eq];omega) (by omega) (by rw [Int.toNat_natCast];exact hdeg j h2)
  exact Yrun61_y ps _ _ (RunsW.upTo (prog:=Yir) (c:=Yc61) (ex := .ret) (fun t=>Ys61 false ps (ps.length:Nat) (t:Nat)) j (by intro e;cases e) out 0 (Nat.zero_le _) (fun t _ h6=>step t (by omega) (h4 t (by omega) h6)))
theorem plarge1_run {rs:List Rn} (hg:∀ r∈rs,Good 1048576 r) (hN:rs.length≤1048576):Runs Yir 61 [.sl 1 [.sl rs.length (pc rs)]] (.bool (largeV (vals rs))):=by
 have h:=plarge_run (ps:=[rs]) (fun p hp=>by rw [List.mem_singleton.1 hp];exact ⟨hg,hN⟩) (by simp)
 simpa [pp] using h
end Go.Proofs.Ythnnfemologhfaa

namespace Go.Proofs.Ythnnfemologhfaa
open Go.IntKind (i64 u64 u32)
open Go.Ai
set_option maxRecDepth 100000
theorem Yrun63 (rs:List Rn) (n1:Runs Yir 61 [.sl 1 [.sl rs.length (pc rs)]] (.bool false)):Runs Yir 63 [.sl rs.length (pc rs)] (.tup [.sl rs.length (pc rs), .int .i64 0]):=Runs.go (fn:=Yi63) TMC_holds rfl 400 rfl [.r (.bool false), .b false] (ac n1 (ac (show false=false from rfl) a0)) (by kernel_rfl)
theorem Yrun15_1 (rs ss:List Rn) (d:Int) (c1:(decide (d<0))=true) (n1:Runs Yir 61 [.sl 2 [.sl rs.length (pc rs), .sl ss.length (pc ss)]] (.bool false)) (n2:Runs Yir 62 [.sl ss.length (pc ss)] (.int .i64 d)):Runs Yir 15 [.sl rs.length (pc rs), .sl ss.length (pc ss)] (.tup [.sl 0 [], .int .i64 3]):=Runs.go (fn:=Yi15) TMC_holds rfl 400 rfl [.r (.bool false), .b false, .r (.int .i64 d), .b true] (ac n1 (ac (show false=false from rfl) (ac n2 (ac c1 a0)))) (by kernel_rfl)
theorem Yrun15_2 (rs ss us:List Rn) (d:Int) (c1:(decide (d<0))=false) (n1:Runs Yir 61 [.sl 2 [.sl rs.length (pc rs), .sl ss.length (pc ss)]] (.bool false)) (n2:Runs Yir 62 [.sl ss.length (pc ss)] (.int .i64 d)) (n3:Runs Yir 64 [.sl rs.length (pc rs), .sl ss.length (pc ss)] (.fresh 2 us.length (pc us))) (n4:Runs Yir 63 [.sl us.length (pc us)] (.tup [.sl us.length (pc us), .int .i64 0])):Runs Yir 15 [.sl rs.length (pc rs), .sl ss.length (pc ss)] (.tup [.sl us.length (pc us), .int .i64 0]):=Runs.go (fn:=Yi15) TMC_holds rfl 400 rfl [.r (.bool false), .b false, .r (.int .i64 d), .b false, .r (.fresh 2 us.length (pc us)), .r (.tup [.sl us.length (pc us), .int .i64 0])] (ac n1 (ac (show false=false from rfl) (ac n2 (ac c1 (ac n3 (ac n4 a0)))))) (by kernel_rfl)
theorem Yrun16_f (rs ss us:List Rn) (n1:Runs Yir 61 [.sl 2 [.sl rs.length (pc rs), .sl ss.length (pc ss)]] (.bool false)) (n2:Runs Yir 65 [.sl rs.length (pc rs), .sl ss.length (pc ss)] (.fresh 2 us.length (pc us))) (n3:Runs Yir 63 [.sl us.length (pc us)] (.tup [.sl us.length (pc us), .int .i64 0])):Runs Yir 16 [.sl rs.length (pc rs), .sl ss.length (pc ss)] (.tup [.sl us.length (pc us), .int .i64 0]):=Runs.go (fn:=Yi16) TMC_holds rfl 400 rfl [.r (.bool false), .b false, .r (.fresh 2 us.length (pc us)), .r (.tup [.sl us.length (pc us), .int .i64 0])] (ac n1 (ac (show false=false from rfl) (ac n2 (ac n3 a0)))) (by kernel_rfl)
theorem Yrun16_s (rs ss us:List Rn) (n1:Runs Yir 61 [.sl 2 [.sl rs.length (pc rs), .sl ss.length (pc ss)]] (.bool false)) (n2:Runs Yir 65 [.sl rs.length (pc rs), .sl ss.length (pc ss)] (.sl us.length (pc us))) (n3:Runs Yir 63 [.sl us.length (pc us)] (.tup [.sl us.length (pc us), .int .i64 0])):Runs Yir 16 [.sl rs.length (pc rs), .sl ss.length (pc ss)] (.tup [.sl us.length (pc us), .int .i64 0]):=Runs.go (fn:=Yi16) TMC_holds rfl 400 rfl [.r (.bool false), .b false, .r (.sl us.length (pc us)), .r (.tup [.sl us.length (pc us), .int .i64 0])] (ac n1 (ac (show false=false from rfl) (ac n2 (ac n3 a0)))) (by kernel_rfl)
theorem Yrun17_f (rs us:List Rn) (n1:Runs Yir 61 [.sl 1 [.sl rs.length (pc rs)]] (.bool false)) (n2:Runs Yir 66 [.sl rs.length (pc rs)] (.fresh 2 us.length (pc us))) (n3:Runs Yir 63 [.sl us.length (pc us)] (.tup [.sl us.length (pc us), .int .i64 0])):Runs Yir 17 [.sl rs.length (pc rs)] (.tup [.sl us.length (pc us), .int .i64 0]):=Runs.go (fn:=Yi17) TMC_holds rfl 400 rfl [.r (.bool false), .b false, .r (.fresh 2 us.length (pc us)), .r (.tup [.sl us.length (pc us), .int .i64 0])] (ac n1 (ac (show false=false from rfl) (ac n2 (ac n3 a0)))) (by kernel_rfl)
theorem Yrun17_s (rs us:List Rn) (n1:Runs Yir 61 [.sl 1 [.sl rs.length (pc rs)]] (.bool false)) (n2:Runs Yir 66 [.sl rs.length (pc rs)] (.sl us.length (pc us))) (n3:Runs Yir 63 [.sl us.length (pc us)] (.tup [.sl us.length (pc us), .int .i64 0])):Runs Yir 17 [.sl rs.length (pc rs)] (.tup [.sl us.length (pc us), .int .i64 0]):=Runs.go (fn:=Yi17) TMC_holds rfl 400 rfl [.r (.bool false), .b false, .r (.sl us.length (pc us)), .r (.tup [.sl us.length (pc us), .int .i64 0])] (ac n1 (ac (show false=false from rfl) (ac n2 (ac n3 a0)))) (by kernel_rfl)
def RunsT (f:Nat) (args:List AV) (p:List Int):Prop:=Runs Yir f args (.tup [.sl (p.map cn).length (pc (p.map cn)), .int .i64 0])
theorem small_large {p:List Int} (hl:(trimL p).length≤17) (hK:Kb 256 p):largeV p=false:=by
 unfold largeV
 rw [Bool.or_eq_false_iff,decide_eq_false_iff_not]
 refine ⟨by omega,?_⟩
 rw [List.any_eq_false]
 intro x hx
 obtain ⟨i,hi,rfl⟩:=List.mem_iff_getElem.1 (mem_trim hx)
 have h:=(hK i).len
 rw [List.getD_eq_getElem?_getD,List.getElem?_eq_getElem hi] at h
 unfold bigC
 simp only [Option.getD_some] at h
 simpa using h
theorem small_vals {rs:List Rn} {K:Nat} (hg:∀ r∈rs,Good K r) (hK:K≤256) (hl:rs.length≤17):largeV (vals rs)=false :=
 small_large (by have:=trim_len (vals rs);rw [vals_length] at this;omega) ((kb_of (fits_vals hg)).mono hK)
theorem large1 {rs:List Rn} {K:Nat} (hg:∀ r∈rs,Good K r) (hK:K≤256) (hl:rs.length≤17):Runs Yir 61 [.sl 1 [.sl rs.length (pc rs)]] (.bool false):=by
 have h:=plarge1_run (rs:=rs) (fun r hr=>(hg r hr).mono (by omega)) (by omega)
 rwa [small_vals hg hK hl] at h
theorem large2 {rs ss:List Rn} {K L:Nat} (hg:∀ r∈rs,Good K r) (hK:K≤256) (hl:rs.length≤17) (hg':∀ r∈ss,Good L r) (hL:L≤256) (hl':ss.length≤17):Runs Yir 61 [.sl 2 [.sl rs.length (pc rs), .sl ss.length (pc ss)]] (.bool false):=by
 have h:=plarge_run (ps:=[rs,ss]) (fun p hp=>by
  rcases List.mem_cons.1 hp with rfl | hp
  ·exact ⟨fun r hr=>(hg r hr).mono (by omega),by omega⟩
  ·rw [List.mem_singleton.1 hp];exact ⟨fun r hr=>(hg' r hr).mono (by omega),by omega⟩) (by simp)
 have e:([rs,ss].any fun p=>largeV (vals p))=false:=by
  simp [small_vals hg hK hl,small_vals hg' hL hl']
 rw [e] at h
 simpa [pp] using h
theorem sized_run {p:List Int} (hK:Kb 256 p) (hl:p.length≤17):RunsT 63 [.sl (p.map cn).length (pc (p.map cn))] p :=
 Yrun63 (p.map cn) (large1 (mcn_good hK) (Nat.le_refl _) (by rw [List.length_map];exact hl))
theorem trim_vals_len (rs:List Rn):(trimL (vals rs)).length≤rs.length:=by have:=trim_len (vals rs);rwa [vals_length] at this
def TPW:Table:=TMC
theorem TPW_holds:THolds Yir TPW:=TMC_holds
end Go.Proofs.Ythnnfemologhfaa

namespace Go.Proofs.Ythnnfemologhfaa
open Go.IntKind (i64 u64 u32)
open Go.Ai
set_option maxRecDepth 100000
theorem aw0:Runs Yir 92 [.sl 3 [.bool false, .sl 0 [], .bool false, .sl 0 [], .bool false, .sl 1 [.int .u32 1]]] (.fresh 2 3 [.bool false, .sl 0 [], .bool false, .sl 0 [], .bool false, .sl 1 [.int .u32 1]]):=fF_holds Ypr_ok (noMemo_holds _) 400 _ _ _ (by kernel_rfl)
theorem aw1:Runs Yir 74 [.sl 3 [.int .i64 0, .int .i64 0, .int .i64 1]] (.fresh 2 3 [.bool false, .sl 0 [], .bool false, .sl 0 [], .bool false, .sl 1 [.int .u32 1]]):=fF_holds Ypr_ok (memC_holds aw0 (noMemo_holds _)) 400 _ _ _ (by kernel_rfl)
theorem aw2:Runs Yir 92 [.sl 2 [.bool true, .sl 1 [.int .u32 1], .bool false, .sl 1 [.int .u32 1]]] (.fresh 2 2 [.bool true, .sl 1 [.int .u32 1], .bool false, .sl 1 [.int .u32 1]]):=fF_holds Ypr_ok (noMemo_holds _) 400 _ _ _ (by kernel_rfl)
theorem aw3:Runs Yir 74 [.sl 2 [.int .i64 (-1), .int .i64 1]] (.fresh 2 2 [.bool true, .sl 1 [.int .u32 1], .bool false, .sl 1 [.int .u32 1]]):=fF_holds Ypr_ok (memC_holds aw2 (noMemo_holds _)) 400 _ _ _ (by kernel_rfl)
theorem aw4:Runs Yir 61 [.sl 2 [.sl 3 [.bool false, .sl 0 [], .bool false, .sl 0 [], .bool false, .sl 1 [.int .u32 1]], .sl 2 [.bool true, .sl 1 [.int .u32 1], .bool false, .sl 1 [.int .u32 1]]]] (.bool false):=fF_holds Ypr_ok (noMemo_holds _) 400 _ _ _ (by kernel_rfl)
theorem aw5:Runs Yir 109 [.agg [.bool false, .sl 0 []], .agg [.bool false, .sl 1 [.int .u32 1]]] (.agg [.bool false, .sl 1 [.int .u32 1]]):=fF_holds Ypr_ok (noMemo_holds _) 400 _ _ _ (by kernel_rfl)
theorem aw6:Runs Yir 85 [.sl 3 [.bool false, .sl 0 [], .bool false, .sl 0 [], .bool false, .sl 1 [.int .u32 1]]] (.agg [.bool false, .sl 1 [.int .u32 1]]):=fF_holds Ypr_ok (memC_holds aw5 (noMemo_holds _)) 400 _ _ _ (by kernel_rfl)
theorem aw7:Runs Yir 86 [.sl 3 [.bool false, .sl 0 [], .bool false, .sl 0 [], .bool false, .sl 1 [.int .u32 1]]] (.fresh 2 3 [.bool false, .sl 0 [], .bool false, .sl 0 [], .bool false, .sl 1 [.int .u32 1]]):=fF_holds Ypr_ok (memC_holds aw6 (memC_holds aw0 (noMemo_holds _))) 400 _ _ _ (by kernel_rfl)
theorem aw8:Runs Yir 85 [.sl 2 [.bool true, .sl 1 [.int .u32 1], .bool false, .sl 1 [.int .u32 1]]] (.agg [.bool false, .sl 1 [.int .u32 1]]):=fF_holds Ypr_ok (memC_holds aw5 (noMemo_holds _)) 400 _ _ _ (by kernel_rfl)
theorem aw9:Runs Yir 86 [.sl 2 [.bool true, .sl 1 [.int .u32 1], .bool false, .sl 1 [.int .u32 1]]] (.fresh 2 2 [.bool true, .sl 1 [.int .u32 1], .bool false, .sl 1 [.int .u32 1]]):=fF_holds Ypr_ok (memC_holds aw8 (memC_holds aw2 (noMemo_holds _))) 400 _ _ _ (by kernel_rfl)
theorem aw10:Runs Yir 109 [.agg [.bool false, .sl 1 [.int .u32 1]], .agg [.bool false, .sl 1 [.int .u32 1]]] (.agg [.bool false, .sl 1 [.int .u32 1]]):=fF_holds Ypr_ok (noMemo_holds _) 400 _ _ _ (by kernel_rfl)
theorem aw11:Runs Yir 147 [.sl 1 [.int .u32 1], .sl 1 [.int .u32 1]] (.tup [.sl 1 [.int .u32 1], .sl 1 [.int .u32 0]]):=fF_holds Ypr_ok (noMemo_holds _) 400 _ _ _ (by kernel_rfl)
theorem aw12:Runs Yir 110 [.agg [.bool false, .sl 1 [.int .u32 1]], .agg [.bool false, .sl 1 [.int .u32 1]]] (.tup [.agg [.bool false, .sl 1 [.int .u32 1]], .agg [.bool false, .sl 0 []]]):=fF_holds Ypr_ok (memC_holds aw11 (noMemo_holds _)) 400 _ _ _ (by kernel_rfl)
theorem aw13:Runs Yir 113 [.agg [.bool false, .sl 0 []], .agg [.bool false, .sl 1 [.int .u32 1]]] (.agg [.bool false, .sl 0 []]):=fF_holds Ypr_ok (noMemo_holds _) 400 _ _ _ (by kernel_rfl)
theorem aw14:Runs Yir 113 [.agg [.bool false, .sl 1 [.int .u32 1]], .agg [.bool true, .sl 1 [.int .u32 1]]] (.agg [.bool true, .sl 1 [.int .u32 1]]):=fF_holds Ypr_ok (noMemo_holds _) 400 _ _ _ (by kernel_rfl)
theorem aw15:Runs Yir 148 [.bool false, .sl 0 [], .bool false, .sl 1 [.int .u32 1]] (.agg [.bool false, .sl 1 [.int .u32 1]]):=fF_holds Ypr_ok (noMemo_holds _) 400 _ _ _ (by kernel_rfl)
theorem aw16:Runs Yir 114 [.agg [.bool false, .sl 0 []], .agg [.bool true, .sl 1 [.int .u32 1]]] (.agg [.bool false, .sl 1 [.int .u32 1]]):=fF_holds Ypr_ok (memC_holds aw15 (noMemo_holds _)) 400 _ _ _ (by kernel_rfl)
theorem aw17:Runs Yir 113 [.agg [.bool false, .sl 1 [.int .u32 1]], .agg [.bool false, .sl 1 [.int .u32 1]]] (.agg [.bool false, .sl 1 [.int .u32 1]]):=fF_holds Ypr_ok (noMemo_holds _) 400 _ _ _ (by kernel_rfl)
theorem aw18:Runs Yir 148 [.bool false, .sl 1 [.int .u32 1], .bool true, .sl 1 [.int .u32 1]] (.agg [.bool false, .sl 0 []]):=fF_holds Ypr_ok (noMemo_holds _) 400 _ _ _ (by kernel_rfl)
theorem aw19:Runs Yir 114 [.agg [.bool false, .sl 1 [.int .u32 1]], .agg [.bool false, .sl 1 [.int .u32 1]]] (.agg [.bool false, .sl 0 []]):=fF_holds Ypr_ok (memC_holds aw18 (noMemo_holds _)) 400 _ _ _ (by kernel_rfl)
theorem aw20:Runs Yir 62 [.sl 3 [.bool false, .sl 0 [], .bool false, .sl 1 [.int .u32 1], .bool false, .sl 0 []]] (.int .i64 1):=fF_holds Ypr_ok (noMemo_holds _) 400 _ _ _ (by kernel_rfl)
theorem aw21:Runs Yir 92 [.sl 3 [.bool false, .sl 0 [], .bool false, .sl 1 [.int .u32 1], .bool false, .sl 0 []]] (.fresh 2 2 [.bool false, .sl 0 [], .bool false, .sl 1 [.int .u32 1]]):=fF_holds Ypr_ok (memC_holds aw20 (noMemo_holds _)) 400 _ _ _ (by kernel_rfl)
theorem aw22:Runs Yir 85 [.sl 2 [.bool false, .sl 0 [], .bool false, .sl 1 [.int .u32 1]]] (.agg [.bool false, .sl 1 [.int .u32 1]]):=fF_holds Ypr_ok (memC_holds aw5 (noMemo_holds _)) 400 _ _ _ (by kernel_rfl)
theorem aw23:Runs Yir 86 [.sl 3 [.bool false, .sl 0 [], .bool false, .sl 1 [.int .u32 1], .bool false, .sl 0 []]] (.fresh 2 2 [.bool false, .sl 0 [], .bool false, .sl 1 [.int .u32 1]]):=fF_holds Ypr_ok (memC_holds aw22 (memC_holds aw21 (noMemo_holds _))) 400 _ _ _ (by kernel_rfl)
theorem aw24:Runs Yir 62 [.sl 2 [.bool false, .sl 1 [.int .u32 1], .bool false, .sl 0 []]] (.int .i64 0):=fF_holds Ypr_ok (noMemo_holds _) 400 _ _ _ (by kernel_rfl)
theorem aw25:Runs Yir 92 [.sl 2 [.bool false, .sl 1 [.int .u32 1], .bool false, .sl 0 []]] (.fresh 2 1 [.bool false, .sl 1 [.int .u32 1]]):=fF_holds Ypr_ok (memC_holds aw24 (noMemo_holds _)) 400 _ _ _ (by kernel_rfl)
theorem aw26:Runs Yir 86 [.sl 2 [.bool false, .sl 1 [.int .u32 1], .bool false, .sl 0 []]] (.fresh 2 1 [.bool false, .sl 1 [.int .u32 1]]):=fF_holds Ypr_ok (memC_holds aw25 (memC_holds aw5 (noMemo_holds _))) 400 _ _ _ (by kernel_rfl)
theorem aw27:Runs Yir 64 [.sl 3 [.bool false, .sl 0 [], .bool false, .sl 0 [], .bool false, .sl 1 [.int .u32 1]], .sl 2 [.bool true, .sl 1 [.int .u32 1], .bool false, .sl 1 [.int .u32 1]]] (.fresh 2 1 [.bool false, .sl 1 [.int .u32 1]]):=fF_holds Ypr_ok (memC_holds aw26 (memC_holds aw23 (memC_holds aw19 (memC_holds aw17 (memC_holds aw16 (memC_holds aw14 (memC_holds aw13 (memC_holds aw12 (memC_holds aw10 (memC_holds aw9 (memC_holds aw7 (noMemo_holds _)))))))))))) 400 _ _ _ (by kernel_rfl)
theorem aw28:Runs Yir 61 [.sl 1 [.sl 1 [.bool false, .sl 1 [.int .u32 1]]]] (.bool false):=fF_holds Ypr_ok (noMemo_holds _) 400 _ _ _ (by kernel_rfl)
theorem aw29:Runs Yir 15 [.sl 3 [.bool false, .sl 0 [], .bool false, .sl 0 [], .bool false, .sl 1 [.int .u32 1]], .sl 2 [.bool true, .sl 1 [.int .u32 1], .bool false, .sl 1 [.int .u32 1]]] (.tup [.sl 1 [.bool false, .sl 1 [.int .u32 1]], .int .i64 0]):=fF_holds Ypr_ok (memC_holds aw28 (memC_holds aw27 (memC_holds aw4 (noMemo_holds _)))) 400 _ _ _ (by kernel_rfl)
theorem aw30:Runs Yir 92 [.sl 3 [.bool false, .sl 0 [], .bool false, .sl 0 [], .bool true, .sl 1 [.int .u32 1]]] (.fresh 2 3 [.bool false, .sl 0 [], .bool false, .sl 0 [], .bool true, .sl 1 [.int .u32 1]]):=fF_holds Ypr_ok (noMemo_holds _) 400 _ _ _ (by kernel_rfl)
theorem aw31:Runs Yir 74 [.sl 3 [.int .i64 0, .int .i64 0, .int .i64 (-1)]] (.fresh 2 3 [.bool false, .sl 0 [], .bool false, .sl 0 [], .bool true, .sl 1 [.int .u32 1]]):=fF_holds Ypr_ok (memC_holds aw30 (noMemo_holds _)) 400 _ _ _ (by kernel_rfl)
theorem aw32:Runs Yir 92 [.sl 2 [.bool true, .sl 1 [.int .u32 1], .bool false, .sl 1 [.int .u32 2]]] (.fresh 2 2 [.bool true, .sl 1 [.int .u32 1], .bool false, .sl 1 [.int .u32 2]]):=fF_holds Ypr_ok (noMemo_holds _) 400 _ _ _ (by kernel_rfl)
theorem aw33:Runs Yir 74 [.sl 2 [.int .i64 (-1), .int .i64 2]] (.fresh 2 2 [.bool true, .sl 1 [.int .u32 1], .bool false, .sl 1 [.int .u32 2]]):=fF_holds Ypr_ok (memC_holds aw32 (noMemo_holds _)) 400 _ _ _ (by kernel_rfl)
theorem aw34:Runs Yir 61 [.sl 2 [.sl 3 [.bool false, .sl 0 [], .bool false, .sl 0 [], .bool true, .sl 1 [.int .u32 1]], .sl 2 [.bool true, .sl 1 [.int .u32 1], .bool false, .sl 1 [.int .u32 2]]]] (.bool false):=fF_holds Ypr_ok (noMemo_holds _) 400 _ _ _ (by kernel_rfl)
theorem aw35:Runs Yir 109 [.agg [.bool false, .sl 0 []], .agg [.bool true, .sl 1 [.int .u32 1]]] (.agg [.bool false, .sl 1 [.int .u32 1]]):=fF_holds Ypr_ok (noMemo_holds _) 400 _ _ _ (by kernel_rfl)
theorem aw36:Runs Yir 85 [.sl 3 [.bool false, .sl 0 [], .bool false, .sl 0 [], .bool true, .sl 1 [.int .u32 1]]] (.agg [.bool false, .sl 1 [.int .u32 1]]):=fF_holds Ypr_ok (memC_holds aw35 (noMemo_holds _)) 400 _ _ _ (by kernel_rfl)
theorem aw37:Runs Yir 86 [.sl 3 [.bool false, .sl 0 [], .bool false, .sl 0 [], .bool true, .sl 1 [.int .u32 1]]] (.fresh 2 3 [.bool false, .sl 0 [], .bool false, .sl 0 [], .bool true, .sl 1 [.int .u32 1]]):=fF_holds Ypr_ok (memC_holds aw36 (memC_holds aw30 (noMemo_holds _))) 400 _ _ _ (by kernel_rfl)
theorem aw38:Runs Yir 109 [.agg [.bool false, .sl 0 []], .agg [.bool false, .sl 1 [.int .u32 2]]] (.agg [.bool false, .sl 1 [.int .u32 2]]):=fF_holds Ypr_ok (noMemo_holds _) 400 _ _ _ (by kernel_rfl)
theorem aw39:Runs Yir 109 [.agg [.bool false, .sl 1 [.int .u32 2]], .agg [.bool true, .sl 1 [.int .u32 1]]] (.agg [.bool false, .sl 1 [.int .u32 1]]):=fF_holds Ypr_ok (noMemo_holds _) 400 _ _ _ (by kernel_rfl)
theorem aw40:Runs Yir 85 [.sl 2 [.bool true, .sl 1 [.int .u32 1], .bool false, .sl 1 [.int .u32 2]]] (.agg [.bool false, .sl 1 [.int .u32 1]]):=fF_holds Ypr_ok (memC_holds aw39 (memC_holds aw38 (noMemo_holds _))) 400 _ _ _ (by kernel_rfl)
theorem aw41:Runs Yir 86 [.sl 2 [.bool true, .sl 1 [.int .u32 1], .bool false, .sl 1 [.int .u32 2]]] (.fresh 2 2 [.bool true, .sl 1 [.int .u32 1], .bool false, .sl 1 [.int .u32 2]]):=fF_holds Ypr_ok (memC_holds aw40 (memC_holds aw32 (noMemo_holds _))) 400 _ _ _ (by kernel_rfl)
theorem aw42:Runs Yir 147 [.sl 1 [.int .u32 2], .sl 1 [.int .u32 1]] (.tup [.sl 1 [.int .u32 2], .sl 1 [.int .u32 0]]):=fF_holds Ypr_ok (noMemo_holds _) 400 _ _ _ (by kernel_rfl)
theorem aw43:Runs Yir 110 [.agg [.bool false, .sl 1 [.int .u32 2]], .agg [.bool false, .sl 1 [.int .u32 1]]] (.tup [.agg [.bool false, .sl 1 [.int .u32 2]], .agg [.bool false, .sl 0 []]]):=fF_holds Ypr_ok (memC_holds aw42 (noMemo_holds _)) 400 _ _ _ (by kernel_rfl)
theorem aw44:Runs Yir 110 [.agg [.bool true, .sl 1 [.int .u32 1]], .agg [.bool false, .sl 1 [.int .u32 1]]] (.tup [.agg [.bool true, .sl 1 [.int .u32 1]], .agg [.bool false, .sl 0 []]]):=fF_holds Ypr_ok (memC_holds aw11 (noMemo_holds _)) 400 _ _ _ (by kernel_rfl)
theorem aw45:Runs Yir 113 [.agg [.bool false, .sl 0 []], .agg [.bool false, .sl 1 [.int .u32 2]]] (.agg [.bool false, .sl 0 []]):=fF_holds Ypr_ok (noMemo_holds _) 400 _ _ _ (by kernel_rfl)
theorem aw46:Runs Yir 113 [.agg [.bool true, .sl 1 [.int .u32 1]], .agg [.bool true, .sl 1 [.int .u32 1]]] (.agg [.bool false, .sl 1 [.int .u32 1]]):=fF_holds Ypr_ok (noMemo_holds _) 400 _ _ _ (by kernel_rfl)
theorem aw47:Runs Yir 148 [.bool false, .sl 0 [], .bool true, .sl 1 [.int .u32 1]] (.agg [.bool true, .sl 1 [.int .u32 1]]):=fF_holds Ypr_ok (noMemo_holds _) 400 _ _ _ (by kernel_rfl)
theorem aw48:Runs Yir 114 [.agg [.bool false, .sl 0 []], .agg [.bool false, .sl 1 [.int .u32 1]]] (.agg [.bool true, .sl 1 [.int .u32 1]]):=fF_holds Ypr_ok (memC_holds aw47 (noMemo_holds _)) 400 _ _ _ (by kernel_rfl)
theorem aw49:Runs Yir 113 [.agg [.bool true, .sl 1 [.int .u32 1]], .agg [.bool false, .sl 1 [.int .u32 2]]] (.agg [.bool true, .sl 1 [.int .u32 2]]):=fF_holds Ypr_ok (noMemo_holds _) 400 _ _ _ (by kernel_rfl)
theorem aw50:Runs Yir 148 [.bool true, .sl 1 [.int .u32 2], .bool false, .sl 1 [.int .u32 2]] (.agg [.bool false, .sl 0 []]):=fF_holds Ypr_ok (noMemo_holds _) 400 _ _ _ (by kernel_rfl)
theorem aw51:Runs Yir 114 [.agg [.bool true, .sl 1 [.int .u32 2]], .agg [.bool true, .sl 1 [.int .u32 2]]] (.agg [.bool false, .sl 0 []]):=fF_holds Ypr_ok (memC_holds aw50 (noMemo_holds _)) 400 _ _ _ (by kernel_rfl)
theorem aw52:Runs Yir 62 [.sl 3 [.bool false, .sl 0 [], .bool true, .sl 1 [.int .u32 1], .bool false, .sl 0 []]] (.int .i64 1):=fF_holds Ypr_ok (noMemo_holds _) 400 _ _ _ (by kernel_rfl)
theorem aw53:Runs Yir 92 [.sl 3 [.bool false, .sl 0 [], .bool true, .sl 1 [.int .u32 1], .bool false, .sl 0 []]] (.fresh 2 2 [.bool false, .sl 0 [], .bool true, .sl 1 [.int .u32 1]]):=fF_holds Ypr_ok (memC_holds aw52 (noMemo_holds _)) 400 _ _ _ (by kernel_rfl)
theorem aw54:Runs Yir 85 [.sl 2 [.bool false, .sl 0 [], .bool true, .sl 1 [.int .u32 1]]] (.agg [.bool false, .sl 1 [.int .u32 1]]):=fF_holds Ypr_ok (memC_holds aw35 (noMemo_holds _)) 400 _ _ _ (by kernel_rfl)
theorem aw55:Runs Yir 86 [.sl 3 [.bool false, .sl 0 [], .bool true, .sl 1 [.int .u32 1], .bool false, .sl 0 []]] (.fresh 2 2 [.bool false, .sl 0 [], .bool true, .sl 1 [.int .u32 1]]):=fF_holds Ypr_ok (memC_holds aw54 (memC_holds aw53 (noMemo_holds _))) 400 _ _ _ (by kernel_rfl)
theorem aw56:Runs Yir 62 [.sl 2 [.bool true, .sl 1 [.int .u32 1], .bool false, .sl 0 []]] (.int .i64 0):=fF_holds Ypr_ok (noMemo_holds _) 400 _ _ _ (by kernel_rfl)
theorem aw57:Runs Yir 92 [.sl 2 [.bool true, .sl 1 [.int .u32 1], .bool false, .sl 0 []]] (.fresh 2 1 [.bool true, .sl 1 [.int .u32 1]]):=fF_holds Ypr_ok (memC_holds aw56 (noMemo_holds _)) 400 _ _ _ (by kernel_rfl)
theorem aw58:Runs Yir 86 [.sl 2 [.bool true, .sl 1 [.int .u32 1], .bool false, .sl 0 []]] (.fresh 2 1 [.bool true, .sl 1 [.int .u32 1]]):=fF_holds Ypr_ok (memC_holds aw57 (memC_holds aw35 (noMemo_holds _))) 400 _ _ _ (by kernel_rfl)
theorem aw59:Runs Yir 64 [.sl 3 [.bool false, .sl 0 [], .bool false, .sl 0 [], .bool true, .sl 1 [.int .u32 1]], .sl 2 [.bool true, .sl 1 [.int .u32 1], .bool false, .sl 1 [.int .u32 2]]] (.fresh 2 1 [.bool true, .sl 1 [.int .u32 1]]):=fF_holds Ypr_ok (memC_holds aw58 (memC_holds aw55 (memC_holds aw51 (memC_holds aw49 (memC_holds aw48 (memC_holds aw46 (memC_holds aw45 (memC_holds aw44 (memC_holds aw43 (memC_holds aw41 (memC_holds aw39 (memC_holds aw37 (noMemo_holds _))))))))))))) 400 _ _ _ (by kernel_rfl)
theorem aw60:Runs Yir 61 [.sl 1 [.sl 1 [.bool true, .sl 1 [.int .u32 1]]]] (.bool false):=fF_holds Ypr_ok (noMemo_holds _) 400 _ _ _ (by kernel_rfl)
theorem aw61:Runs Yir 15 [.sl 3 [.bool false, .sl 0 [], .bool false, .sl 0 [], .bool true, .sl 1 [.int .u32 1]], .sl 2 [.bool true, .sl 1 [.int .u32 1], .bool false, .sl 1 [.int .u32 2]]] (.tup [.sl 1 [.bool true, .sl 1 [.int .u32 1]], .int .i64 0]):=fF_holds Ypr_ok (memC_holds aw60 (memC_holds aw59 (memC_holds aw34 (noMemo_holds _)))) 400 _ _ _ (by kernel_rfl)
theorem aw62:Runs Yir 92 [.sl 3 [.bool true, .sl 1 [.int .u32 1], .bool false, .sl 0 [], .bool false, .sl 1 [.int .u32 1]]] (.fresh 2 3 [.bool true, .sl 1 [.int .u32 1], .bool false, .sl 0 [], .bool false, .sl 1 [.int .u32 1]]):=fF_holds Ypr_ok (noMemo_holds _) 400 _ _ _ (by kernel_rfl)
theorem aw63:Runs Yir 74 [.sl 3 [.int .i64 (-1), .int .i64 0, .int .i64 1]] (.fresh 2 3 [.bool true, .sl 1 [.int .u32 1], .bool false, .sl 0 [], .bool false, .sl 1 [.int .u32 1]]):=fF_holds Ypr_ok (memC_holds aw62 (noMemo_holds _)) 400 _ _ _ (by kernel_rfl)
theorem aw64:Runs Yir 92 [.sl 2 [.bool true, .sl 1 [.int .u32 2], .bool false, .sl 1 [.int .u32 2]]] (.fresh 2 2 [.bool true, .sl 1 [.int .u32 2], .bool false, .sl 1 [.int .u32 2]]):=fF_holds Ypr_ok (noMemo_holds _) 400 _ _ _ (by kernel_rfl)
theorem aw65:Runs Yir 74 [.sl 2 [.int .i64 (-2), .int .i64 2]] (.fresh 2 2 [.bool true, .sl 1 [.int .u32 2], .bool false, .sl 1 [.int .u32 2]]):=fF_holds Ypr_ok (memC_holds aw64 (noMemo_holds _)) 400 _ _ _ (by kernel_rfl)
theorem aw66:Runs Yir 61 [.sl 2 [.sl 3 [.bool true, .sl 1 [.int .u32 1], .bool false, .sl 0 [], .bool false, .sl 1 [.int .u32 1]], .sl 2 [.bool true, .sl 1 [.int .u32 2], .bool false, .sl 1 [.int .u32 2]]]] (.bool false):=fF_holds Ypr_ok (noMemo_holds _) 400 _ _ _ (by kernel_rfl)
theorem aw67:Runs Yir 85 [.sl 3 [.bool true, .sl 1 [.int .u32 1], .bool false, .sl 0 [], .bool false, .sl 1 [.int .u32 1]]] (.agg [.bool false, .sl 1 [.int .u32 1]]):=fF_holds Ypr_ok (memC_holds aw5 (noMemo_holds _)) 400 _ _ _ (by kernel_rfl)
theorem aw68:Runs Yir 86 [.sl 3 [.bool true, .sl 1 [.int .u32 1], .bool false, .sl 0 [], .bool false, .sl 1 [.int .u32 1]]] (.fresh 2 3 [.bool true, .sl 1 [.int .u32 1], .bool false, .sl 0 [], .bool false, .sl 1 [.int .u32 1]]):=fF_holds Ypr_ok (memC_holds aw67 (memC_holds aw62 (noMemo_holds _))) 400 _ _ _ (by kernel_rfl)
theorem aw69:Runs Yir 109 [.agg [.bool false, .sl 1 [.int .u32 2]], .agg [.bool true, .sl 1 [.int .u32 2]]] (.agg [.bool false, .sl 1 [.int .u32 2]]):=fF_holds Ypr_ok (noMemo_holds _) 400 _ _ _ (by kernel_rfl)
theorem aw70:Runs Yir 85 [.sl 2 [.bool true, .sl 1 [.int .u32 2], .bool false, .sl 1 [.int .u32 2]]] (.agg [.bool false, .sl 1 [.int .u32 2]]):=fF_holds Ypr_ok (memC_holds aw69 (memC_holds aw38 (noMemo_holds _))) 400 _ _ _ (by kernel_rfl)
theorem aw71:Runs Yir 147 [.sl 1 [.int .u32 2], .sl 1 [.int .u32 2]] (.tup [.sl 1 [.int .u32 1], .sl 1 [.int .u32 0]]):=fF_holds Ypr_ok (noMemo_holds _) 400 _ _ _ (by kernel_rfl)
theorem aw72:Runs Yir 110 [.agg [.bool true, .sl 1 [.int .u32 2]], .agg [.bool false, .sl 1 [.int .u32 2]]] (.tup [.agg [.bool true, .sl 1 [.int .u32 1]], .agg [.bool false, .sl 0 []]]):=fF_holds Ypr_ok (memC_holds aw71 (noMemo_holds _)) 400 _ _ _ (by kernel_rfl)
theorem aw73:Runs Yir 110 [.agg [.bool false, .sl 1 [.int .u32 2]], .agg [.bool false, .sl 1 [.int .u32 2]]] (.tup [.agg [.bool false, .sl 1 [.int .u32 1]], .agg [.bool false, .sl 0 []]]):=fF_holds Ypr_ok (memC_holds aw71 (noMemo_holds _)) 400 _ _ _ (by kernel_rfl)
theorem aw74:Runs Yir 86 [.sl 2 [.bool true, .sl 1 [.int .u32 2], .bool false, .sl 1 [.int .u32 2]]] (.fresh 2 2 [.bool true, .sl 1 [.int .u32 1], .bool false, .sl 1 [.int .u32 1]]):=fF_holds Ypr_ok (memC_holds aw73 (memC_holds aw72 (memC_holds aw70 (memC_holds aw64 (noMemo_holds _))))) 400 _ _ _ (by kernel_rfl)
theorem aw75:Runs Yir 113 [.agg [.bool true, .sl 1 [.int .u32 1]], .agg [.bool false, .sl 1 [.int .u32 1]]] (.agg [.bool true, .sl 1 [.int .u32 1]]):=fF_holds Ypr_ok (noMemo_holds _) 400 _ _ _ (by kernel_rfl)
theorem aw76:Runs Yir 62 [.sl 3 [.bool true, .sl 1 [.int .u32 1], .bool false, .sl 1 [.int .u32 1], .bool false, .sl 0 []]] (.int .i64 1):=fF_holds Ypr_ok (noMemo_holds _) 400 _ _ _ (by kernel_rfl)
theorem aw77:Runs Yir 92 [.sl 3 [.bool true, .sl 1 [.int .u32 1], .bool false, .sl 1 [.int .u32 1], .bool false, .sl 0 []]] (.fresh 2 2 [.bool true, .sl 1 [.int .u32 1], .bool false, .sl 1 [.int .u32 1]]):=fF_holds Ypr_ok (memC_holds aw76 (noMemo_holds _)) 400 _ _ _ (by kernel_rfl)
theorem aw78:Runs Yir 86 [.sl 3 [.bool true, .sl 1 [.int .u32 1], .bool false, .sl 1 [.int .u32 1], .bool false, .sl 0 []]] (.fresh 2 2 [.bool true, .sl 1 [.int .u32 1], .bool false, .sl 1 [.int .u32 1]]):=fF_holds Ypr_ok (memC_holds aw77 (memC_holds aw8 (noMemo_holds _))) 400 _ _ _ (by kernel_rfl)
theorem aw79:Runs Yir 148 [.bool true, .sl 1 [.int .u32 1], .bool false, .sl 1 [.int .u32 1]] (.agg [.bool false, .sl 0 []]):=fF_holds Ypr_ok (noMemo_holds _) 400 _ _ _ (by kernel_rfl)
theorem aw80:Runs Yir 114 [.agg [.bool true, .sl 1 [.int .u32 1]], .agg [.bool true, .sl 1 [.int .u32 1]]] (.agg [.bool false, .sl 0 []]):=fF_holds Ypr_ok (memC_holds aw79 (noMemo_holds _)) 400 _ _ _ (by kernel_rfl)
theorem aw81:Runs Yir 62 [.sl 2 [.bool false, .sl 0 [], .bool false, .sl 0 []]] (.int .i64 (-1)):=fF_holds Ypr_ok (noMemo_holds _) 400 _ _ _ (by kernel_rfl)
theorem aw82:Runs Yir 86 [.sl 2 [.bool false, .sl 0 [], .bool false, .sl 0 []]] (.fresh 2 0 []):=fF_holds Ypr_ok (memC_holds aw81 (noMemo_holds _)) 400 _ _ _ (by kernel_rfl)
theorem aw83:Runs Yir 64 [.sl 3 [.bool true, .sl 1 [.int .u32 1], .bool false, .sl 0 [], .bool false, .sl 1 [.int .u32 1]], .sl 2 [.bool true, .sl 1 [.int .u32 1], .bool false, .sl 1 [.int .u32 1]]] (.fresh 2 0 []):=fF_holds Ypr_ok (memC_holds aw82 (memC_holds aw80 (memC_holds aw78 (memC_holds aw75 (memC_holds aw68 (memC_holds aw19 (memC_holds aw17 (memC_holds aw16 (memC_holds aw14 (memC_holds aw13 (memC_holds aw12 (memC_holds aw10 (memC_holds aw9 (noMemo_holds _)))))))))))))) 400 _ _ _ (by kernel_rfl)
theorem aw84:Runs Yir 65 [.sl 3 [.bool true, .sl 1 [.int .u32 1], .bool false, .sl 0 [], .bool false, .sl 1 [.int .u32 1]], .sl 2 [.bool true, .sl 1 [.int .u32 2], .bool false, .sl 1 [.int .u32 2]]] (.sl 2 [.bool true, .sl 1 [.int .u32 1], .bool false, .sl 1 [.int .u32 1]]):=fF_holds Ypr_ok (memC_holds aw83 (memC_holds aw74 (memC_holds aw68 (noMemo_holds _)))) 400 _ _ _ (by kernel_rfl)
theorem aw85:Runs Yir 61 [.sl 1 [.sl 2 [.bool true, .sl 1 [.int .u32 1], .bool false, .sl 1 [.int .u32 1]]]] (.bool false):=fF_holds Ypr_ok (noMemo_holds _) 400 _ _ _ (by kernel_rfl)
theorem aw86:Runs Yir 92 [.sl 4 [.bool false, .sl 0 [], .bool false, .sl 0 [], .bool true, .sl 1 [.int .u32 4], .bool false, .sl 1 [.int .u32 4]]] (.fresh 2 4 [.bool false, .sl 0 [], .bool false, .sl 0 [], .bool true, .sl 1 [.int .u32 4], .bool false, .sl 1 [.int .u32 4]]):=fF_holds Ypr_ok (noMemo_holds _) 400 _ _ _ (by kernel_rfl)
theorem aw87:Runs Yir 74 [.sl 4 [.int .i64 0, .int .i64 0, .int .i64 (-4), .int .i64 4]] (.fresh 2 4 [.bool false, .sl 0 [], .bool false, .sl 0 [], .bool true, .sl 1 [.int .u32 4], .bool false, .sl 1 [.int .u32 4]]):=fF_holds Ypr_ok (memC_holds aw86 (noMemo_holds _)) 400 _ _ _ (by kernel_rfl)
theorem aw88:Runs Yir 61 [.sl 1 [.sl 4 [.bool false, .sl 0 [], .bool false, .sl 0 [], .bool true, .sl 1 [.int .u32 4], .bool false, .sl 1 [.int .u32 4]]]] (.bool false):=fF_holds Ypr_ok (noMemo_holds _) 400 _ _ _ (by kernel_rfl)
theorem aw89:Runs Yir 109 [.agg [.bool false, .sl 0 []], .agg [.bool false, .sl 1 [.int .u32 4]]] (.agg [.bool false, .sl 1 [.int .u32 4]]):=fF_holds Ypr_ok (noMemo_holds _) 400 _ _ _ (by kernel_rfl)
theorem aw90:Runs Yir 109 [.agg [.bool false, .sl 1 [.int .u32 4]], .agg [.bool true, .sl 1 [.int .u32 4]]] (.agg [.bool false, .sl 1 [.int .u32 4]]):=fF_holds Ypr_ok (noMemo_holds _) 400 _ _ _ (by kernel_rfl)
theorem aw91:Runs Yir 109 [.agg [.bool false, .sl 1 [.int .u32 4]], .agg [.bool false, .sl 0 []]] (.agg [.bool false, .sl 1 [.int .u32 4]]):=fF_holds Ypr_ok (noMemo_holds _) 400 _ _ _ (by kernel_rfl)
theorem aw92:Runs Yir 85 [.sl 4 [.bool false, .sl 0 [], .bool false, .sl 0 [], .bool true, .sl 1 [.int .u32 4], .bool false, .sl 1 [.int .u32 4]]] (.agg [.bool false, .sl 1 [.int .u32 4]]):=fF_holds Ypr_ok (memC_holds aw91 (memC_holds aw90 (memC_holds aw89 (noMemo_holds _)))) 400 _ _ _ (by kernel_rfl)
theorem aw93:Runs Yir 110 [.agg [.bool false, .sl 0 []], .agg [.bool false, .sl 1 [.int .u32 4]]] (.tup [.agg [.bool false, .sl 0 []], .agg [.bool false, .sl 0 []]]):=fF_holds Ypr_ok (noMemo_holds _) 400 _ _ _ (by kernel_rfl)
theorem aw94:Runs Yir 147 [.sl 1 [.int .u32 4], .sl 1 [.int .u32 4]] (.tup [.sl 1 [.int .u32 1], .sl 1 [.int .u32 0]]):=fF_holds Ypr_ok (noMemo_holds _) 400 _ _ _ (by kernel_rfl)
theorem aw95:Runs Yir 110 [.agg [.bool true, .sl 1 [.int .u32 4]], .agg [.bool false, .sl 1 [.int .u32 4]]] (.tup [.agg [.bool true, .sl 1 [.int .u32 1]], .agg [.bool false, .sl 0 []]]):=fF_holds Ypr_ok (memC_holds aw94 (noMemo_holds _)) 400 _ _ _ (by kernel_rfl)
theorem aw96:Runs Yir 110 [.agg [.bool false, .sl 1 [.int .u32 4]], .agg [.bool false, .sl 1 [.int .u32 4]]] (.tup [.agg [.bool false, .sl 1 [.int .u32 1]], .agg [.bool false, .sl 0 []]]):=fF_holds Ypr_ok (memC_holds aw94 (noMemo_holds _)) 400 _ _ _ (by kernel_rfl)
theorem aw97:Runs Yir 86 [.sl 4 [.bool false, .sl 0 [], .bool false, .sl 0 [], .bool true, .sl 1 [.int .u32 4], .bool false, .sl 1 [.int .u32 4]]] (.fresh 2 4 [.bool false, .sl 0 [], .bool false, .sl 0 [], .bool true, .sl 1 [.int .u32 1], .bool false, .sl 1 [.int .u32 1]]):=fF_holds Ypr_ok (memC_holds aw96 (memC_holds aw95 (memC_holds aw93 (memC_holds aw92 (memC_holds aw86 (noMemo_holds _)))))) 400 _ _ _ (by kernel_rfl)
theorem aw98:Runs Yir 113 [.agg [.bool false, .sl 1 [.int .u32 1]], .agg [.bool false, .sl 1 [.int .u32 3]]] (.agg [.bool false, .sl 1 [.int .u32 3]]):=fF_holds Ypr_ok (noMemo_holds _) 400 _ _ _ (by kernel_rfl)
theorem aw99:Runs Yir 92 [.sl 3 [.bool false, .sl 0 [], .bool true, .sl 1 [.int .u32 2], .bool false, .sl 1 [.int .u32 3]]] (.fresh 2 3 [.bool false, .sl 0 [], .bool true, .sl 1 [.int .u32 2], .bool false, .sl 1 [.int .u32 3]]):=fF_holds Ypr_ok (noMemo_holds _) 400 _ _ _ (by kernel_rfl)
theorem aw100:Runs Yir 75 [.sl 4 [.bool false, .sl 0 [], .bool false, .sl 0 [], .bool true, .sl 1 [.int .u32 1], .bool false, .sl 1 [.int .u32 1]]] (.fresh 2 3 [.bool false, .sl 0 [], .bool true, .sl 1 [.int .u32 2], .bool false, .sl 1 [.int .u32 3]]):=fF_holds Ypr_ok (memC_holds aw99 (memC_holds aw98 (memC_holds aw49 (memC_holds aw13 (noMemo_holds _))))) 400 _ _ _ (by kernel_rfl)
theorem aw101:Runs Yir 92 [.sl 4 [.bool false, .sl 0 [], .bool false, .sl 0 [], .bool true, .sl 1 [.int .u32 1], .bool false, .sl 1 [.int .u32 1]]] (.fresh 2 4 [.bool false, .sl 0 [], .bool false, .sl 0 [], .bool true, .sl 1 [.int .u32 1], .bool false, .sl 1 [.int .u32 1]]):=fF_holds Ypr_ok (noMemo_holds _) 400 _ _ _ (by kernel_rfl)
theorem aw102:Runs Yir 85 [.sl 4 [.bool false, .sl 0 [], .bool false, .sl 0 [], .bool true, .sl 1 [.int .u32 1], .bool false, .sl 1 [.int .u32 1]]] (.agg [.bool false, .sl 1 [.int .u32 1]]):=fF_holds Ypr_ok (memC_holds aw5 (noMemo_holds _)) 400 _ _ _ (by kernel_rfl)
theorem aw103:Runs Yir 86 [.sl 4 [.bool false, .sl 0 [], .bool false, .sl 0 [], .bool true, .sl 1 [.int .u32 1], .bool false, .sl 1 [.int .u32 1]]] (.fresh 2 4 [.bool false, .sl 0 [], .bool false, .sl 0 [], .bool true, .sl 1 [.int .u32 1], .bool false, .sl 1 [.int .u32 1]]):=fF_holds Ypr_ok (memC_holds aw102 (memC_holds aw101 (noMemo_holds _))) 400 _ _ _ (by kernel_rfl)
theorem aw104:Runs Yir 109 [.agg [.bool false, .sl 0 []], .agg [.bool false, .sl 1 [.int .u32 3]]] (.agg [.bool false, .sl 1 [.int .u32 3]]):=fF_holds Ypr_ok (noMemo_holds _) 400 _ _ _ (by kernel_rfl)
theorem aw105:Runs Yir 109 [.agg [.bool false, .sl 1 [.int .u32 3]], .agg [.bool true, .sl 1 [.int .u32 2]]] (.agg [.bool false, .sl 1 [.int .u32 1]]):=fF_holds Ypr_ok (noMemo_holds _) 400 _ _ _ (by kernel_rfl)
theorem aw106:Runs Yir 85 [.sl 3 [.bool false, .sl 0 [], .bool true, .sl 1 [.int .u32 2], .bool false, .sl 1 [.int .u32 3]]] (.agg [.bool false, .sl 1 [.int .u32 1]]):=fF_holds Ypr_ok (memC_holds aw105 (memC_holds aw104 (noMemo_holds _))) 400 _ _ _ (by kernel_rfl)
theorem aw107:Runs Yir 86 [.sl 3 [.bool false, .sl 0 [], .bool true, .sl 1 [.int .u32 2], .bool false, .sl 1 [.int .u32 3]]] (.fresh 2 3 [.bool false, .sl 0 [], .bool true, .sl 1 [.int .u32 2], .bool false, .sl 1 [.int .u32 3]]):=fF_holds Ypr_ok (memC_holds aw106 (memC_holds aw99 (noMemo_holds _))) 400 _ _ _ (by kernel_rfl)
theorem aw108:Runs Yir 109 [.agg [.bool false, .sl 1 [.int .u32 3]], .agg [.bool false, .sl 1 [.int .u32 1]]] (.agg [.bool false, .sl 1 [.int .u32 1]]):=fF_holds Ypr_ok (noMemo_holds _) 400 _ _ _ (by kernel_rfl)
theorem aw109:Runs Yir 147 [.sl 1 [.int .u32 3], .sl 1 [.int .u32 1]] (.tup [.sl 1 [.int .u32 3], .sl 1 [.int .u32 0]]):=fF_holds Ypr_ok (noMemo_holds _) 400 _ _ _ (by kernel_rfl)
theorem aw110:Runs Yir 110 [.agg [.bool false, .sl 1 [.int .u32 3]], .agg [.bool false, .sl 1 [.int .u32 1]]] (.tup [.agg [.bool false, .sl 1 [.int .u32 3]], .agg [.bool false, .sl 0 []]]):=fF_holds Ypr_ok (memC_holds aw109 (noMemo_holds _)) 400 _ _ _ (by kernel_rfl)
theorem aw111:Runs Yir 113 [.agg [.bool false, .sl 0 []], .agg [.bool false, .sl 1 [.int .u32 3]]] (.agg [.bool false, .sl 0 []]):=fF_holds Ypr_ok (noMemo_holds _) 400 _ _ _ (by kernel_rfl)
end Go.Proofs.Ythnnfemologhfaa

namespace Go.Proofs.Ythnnfemologhfaa
open Go.IntKind (i64 u64 u32)
open Go.Ai
set_option maxRecDepth 100000
theorem aw112:Runs Yir 113 [.agg [.bool false, .sl 1 [.int .u32 1]], .agg [.bool false, .sl 0 []]] (.agg [.bool false, .sl 0 []]):=fF_holds Ypr_ok (noMemo_holds _) 400 _ _ _ (by kernel_rfl)
theorem aw113:Runs Yir 114 [.agg [.bool false, .sl 0 []], .agg [.bool false, .sl 0 []]] (.agg [.bool false, .sl 0 []]):=fF_holds Ypr_ok (noMemo_holds _) 400 _ _ _ (by kernel_rfl)
theorem aw114:Runs Yir 113 [.agg [.bool true, .sl 1 [.int .u32 1]], .agg [.bool false, .sl 1 [.int .u32 3]]] (.agg [.bool true, .sl 1 [.int .u32 3]]):=fF_holds Ypr_ok (noMemo_holds _) 400 _ _ _ (by kernel_rfl)
theorem aw115:Runs Yir 113 [.agg [.bool false, .sl 1 [.int .u32 1]], .agg [.bool true, .sl 1 [.int .u32 2]]] (.agg [.bool true, .sl 1 [.int .u32 2]]):=fF_holds Ypr_ok (noMemo_holds _) 400 _ _ _ (by kernel_rfl)
theorem aw116:Runs Yir 148 [.bool true, .sl 1 [.int .u32 3], .bool false, .sl 1 [.int .u32 2]] (.agg [.bool true, .sl 1 [.int .u32 1]]):=fF_holds Ypr_ok (noMemo_holds _) 400 _ _ _ (by kernel_rfl)
theorem aw117:Runs Yir 114 [.agg [.bool true, .sl 1 [.int .u32 3]], .agg [.bool true, .sl 1 [.int .u32 2]]] (.agg [.bool true, .sl 1 [.int .u32 1]]):=fF_holds Ypr_ok (memC_holds aw116 (noMemo_holds _)) 400 _ _ _ (by kernel_rfl)
theorem aw118:Runs Yir 148 [.bool false, .sl 1 [.int .u32 3], .bool true, .sl 1 [.int .u32 3]] (.agg [.bool false, .sl 0 []]):=fF_holds Ypr_ok (noMemo_holds _) 400 _ _ _ (by kernel_rfl)
theorem aw119:Runs Yir 114 [.agg [.bool false, .sl 1 [.int .u32 3]], .agg [.bool false, .sl 1 [.int .u32 3]]] (.agg [.bool false, .sl 0 []]):=fF_holds Ypr_ok (memC_holds aw118 (noMemo_holds _)) 400 _ _ _ (by kernel_rfl)
theorem aw120:Runs Yir 62 [.sl 4 [.bool false, .sl 0 [], .bool false, .sl 0 [], .bool true, .sl 1 [.int .u32 1], .bool false, .sl 0 []]] (.int .i64 2):=fF_holds Ypr_ok (noMemo_holds _) 400 _ _ _ (by kernel_rfl)
theorem aw121:Runs Yir 92 [.sl 4 [.bool false, .sl 0 [], .bool false, .sl 0 [], .bool true, .sl 1 [.int .u32 1], .bool false, .sl 0 []]] (.fresh 2 3 [.bool false, .sl 0 [], .bool false, .sl 0 [], .bool true, .sl 1 [.int .u32 1]]):=fF_holds Ypr_ok (memC_holds aw120 (noMemo_holds _)) 400 _ _ _ (by kernel_rfl)
theorem aw122:Runs Yir 86 [.sl 4 [.bool false, .sl 0 [], .bool false, .sl 0 [], .bool true, .sl 1 [.int .u32 1], .bool false, .sl 0 []]] (.fresh 2 3 [.bool false, .sl 0 [], .bool false, .sl 0 [], .bool true, .sl 1 [.int .u32 1]]):=fF_holds Ypr_ok (memC_holds aw121 (memC_holds aw36 (noMemo_holds _))) 400 _ _ _ (by kernel_rfl)
theorem aw123:Runs Yir 109 [.agg [.bool false, .sl 1 [.int .u32 3]], .agg [.bool true, .sl 1 [.int .u32 1]]] (.agg [.bool false, .sl 1 [.int .u32 1]]):=fF_holds Ypr_ok (noMemo_holds _) 400 _ _ _ (by kernel_rfl)
theorem aw124:Runs Yir 113 [.agg [.bool true, .sl 1 [.int .u32 1]], .agg [.bool false, .sl 0 []]] (.agg [.bool false, .sl 0 []]):=fF_holds Ypr_ok (noMemo_holds _) 400 _ _ _ (by kernel_rfl)
theorem aw125:Runs Yir 113 [.agg [.bool true, .sl 1 [.int .u32 1]], .agg [.bool true, .sl 1 [.int .u32 2]]] (.agg [.bool false, .sl 1 [.int .u32 2]]):=fF_holds Ypr_ok (noMemo_holds _) 400 _ _ _ (by kernel_rfl)
theorem aw126:Runs Yir 148 [.bool false, .sl 0 [], .bool true, .sl 1 [.int .u32 2]] (.agg [.bool true, .sl 1 [.int .u32 2]]):=fF_holds Ypr_ok (noMemo_holds _) 400 _ _ _ (by kernel_rfl)
theorem aw127:Runs Yir 114 [.agg [.bool false, .sl 0 []], .agg [.bool false, .sl 1 [.int .u32 2]]] (.agg [.bool true, .sl 1 [.int .u32 2]]):=fF_holds Ypr_ok (memC_holds aw126 (noMemo_holds _)) 400 _ _ _ (by kernel_rfl)
theorem aw128:Runs Yir 148 [.bool true, .sl 1 [.int .u32 3], .bool false, .sl 1 [.int .u32 3]] (.agg [.bool false, .sl 0 []]):=fF_holds Ypr_ok (noMemo_holds _) 400 _ _ _ (by kernel_rfl)
theorem aw129:Runs Yir 114 [.agg [.bool true, .sl 1 [.int .u32 3]], .agg [.bool true, .sl 1 [.int .u32 3]]] (.agg [.bool false, .sl 0 []]):=fF_holds Ypr_ok (memC_holds aw128 (noMemo_holds _)) 400 _ _ _ (by kernel_rfl)
theorem aw130:Runs Yir 62 [.sl 3 [.bool false, .sl 0 [], .bool true, .sl 1 [.int .u32 2], .bool false, .sl 0 []]] (.int .i64 1):=fF_holds Ypr_ok (noMemo_holds _) 400 _ _ _ (by kernel_rfl)
theorem aw131:Runs Yir 92 [.sl 3 [.bool false, .sl 0 [], .bool true, .sl 1 [.int .u32 2], .bool false, .sl 0 []]] (.fresh 2 2 [.bool false, .sl 0 [], .bool true, .sl 1 [.int .u32 2]]):=fF_holds Ypr_ok (memC_holds aw130 (noMemo_holds _)) 400 _ _ _ (by kernel_rfl)
theorem aw132:Runs Yir 109 [.agg [.bool false, .sl 0 []], .agg [.bool true, .sl 1 [.int .u32 2]]] (.agg [.bool false, .sl 1 [.int .u32 2]]):=fF_holds Ypr_ok (noMemo_holds _) 400 _ _ _ (by kernel_rfl)
theorem aw133:Runs Yir 109 [.agg [.bool false, .sl 1 [.int .u32 2]], .agg [.bool false, .sl 0 []]] (.agg [.bool false, .sl 1 [.int .u32 2]]):=fF_holds Ypr_ok (noMemo_holds _) 400 _ _ _ (by kernel_rfl)
theorem aw134:Runs Yir 85 [.sl 2 [.bool false, .sl 0 [], .bool true, .sl 1 [.int .u32 2]]] (.agg [.bool false, .sl 1 [.int .u32 2]]):=fF_holds Ypr_ok (memC_holds aw133 (memC_holds aw132 (noMemo_holds _))) 400 _ _ _ (by kernel_rfl)
theorem aw135:Runs Yir 110 [.agg [.bool false, .sl 0 []], .agg [.bool false, .sl 1 [.int .u32 2]]] (.tup [.agg [.bool false, .sl 0 []], .agg [.bool false, .sl 0 []]]):=fF_holds Ypr_ok (noMemo_holds _) 400 _ _ _ (by kernel_rfl)
theorem aw136:Runs Yir 86 [.sl 3 [.bool false, .sl 0 [], .bool true, .sl 1 [.int .u32 2], .bool false, .sl 0 []]] (.fresh 2 2 [.bool false, .sl 0 [], .bool true, .sl 1 [.int .u32 1]]):=fF_holds Ypr_ok (memC_holds aw135 (memC_holds aw134 (memC_holds aw131 (memC_holds aw72 (noMemo_holds _))))) 400 _ _ _ (by kernel_rfl)
theorem aw137:Runs Yir 64 [.sl 4 [.bool false, .sl 0 [], .bool false, .sl 0 [], .bool true, .sl 1 [.int .u32 1], .bool false, .sl 1 [.int .u32 1]], .sl 3 [.bool false, .sl 0 [], .bool true, .sl 1 [.int .u32 2], .bool false, .sl 1 [.int .u32 3]]] (.fresh 2 2 [.bool false, .sl 0 [], .bool true, .sl 1 [.int .u32 1]]):=fF_holds Ypr_ok (memC_holds aw136 (memC_holds aw129 (memC_holds aw127 (memC_holds aw125 (memC_holds aw124 (memC_holds aw123 (memC_holds aw122 (memC_holds aw119 (memC_holds aw117 (memC_holds aw115 (memC_holds aw114 (memC_holds aw113 (memC_holds aw112 (memC_holds aw111 (memC_holds aw110 (memC_holds aw108 (memC_holds aw107 (memC_holds aw103 (memC_holds aw98 (memC_holds aw44 (memC_holds aw12 (noMemo_holds _)))))))))))))))))))))) 400 _ _ _ (by kernel_rfl)
theorem aw138:Runs Yir 92 [.sl 2 [.bool false, .sl 0 [], .bool true, .sl 1 [.int .u32 1]]] (.fresh 2 2 [.bool false, .sl 0 [], .bool true, .sl 1 [.int .u32 1]]):=fF_holds Ypr_ok (noMemo_holds _) 400 _ _ _ (by kernel_rfl)
theorem aw139:Runs Yir 86 [.sl 2 [.bool false, .sl 0 [], .bool true, .sl 1 [.int .u32 1]]] (.fresh 2 2 [.bool false, .sl 0 [], .bool true, .sl 1 [.int .u32 1]]):=fF_holds Ypr_ok (memC_holds aw138 (memC_holds aw54 (noMemo_holds _))) 400 _ _ _ (by kernel_rfl)
theorem aw140:Runs Yir 109 [.agg [.bool true, .sl 1 [.int .u32 1]], .agg [.bool false, .sl 1 [.int .u32 3]]] (.agg [.bool false, .sl 1 [.int .u32 1]]):=fF_holds Ypr_ok (noMemo_holds _) 400 _ _ _ (by kernel_rfl)
theorem aw141:Runs Yir 113 [.agg [.bool true, .sl 1 [.int .u32 2]], .agg [.bool false, .sl 1 [.int .u32 1]]] (.agg [.bool true, .sl 1 [.int .u32 2]]):=fF_holds Ypr_ok (noMemo_holds _) 400 _ _ _ (by kernel_rfl)
theorem aw142:Runs Yir 113 [.agg [.bool true, .sl 1 [.int .u32 3]], .agg [.bool false, .sl 0 []]] (.agg [.bool false, .sl 0 []]):=fF_holds Ypr_ok (noMemo_holds _) 400 _ _ _ (by kernel_rfl)
theorem aw143:Runs Yir 148 [.bool true, .sl 1 [.int .u32 2], .bool true, .sl 0 []] (.agg [.bool true, .sl 1 [.int .u32 2]]):=fF_holds Ypr_ok (noMemo_holds _) 400 _ _ _ (by kernel_rfl)
theorem aw144:Runs Yir 114 [.agg [.bool true, .sl 1 [.int .u32 2]], .agg [.bool false, .sl 0 []]] (.agg [.bool true, .sl 1 [.int .u32 2]]):=fF_holds Ypr_ok (memC_holds aw143 (noMemo_holds _)) 400 _ _ _ (by kernel_rfl)
theorem aw145:Runs Yir 113 [.agg [.bool false, .sl 1 [.int .u32 3]], .agg [.bool false, .sl 1 [.int .u32 1]]] (.agg [.bool false, .sl 1 [.int .u32 3]]):=fF_holds Ypr_ok (noMemo_holds _) 400 _ _ _ (by kernel_rfl)
theorem aw146:Runs Yir 113 [.agg [.bool true, .sl 1 [.int .u32 3]], .agg [.bool true, .sl 1 [.int .u32 1]]] (.agg [.bool false, .sl 1 [.int .u32 3]]):=fF_holds Ypr_ok (noMemo_holds _) 400 _ _ _ (by kernel_rfl)
theorem aw147:Runs Yir 109 [.agg [.bool true, .sl 1 [.int .u32 1]], .agg [.bool true, .sl 1 [.int .u32 1]]] (.agg [.bool false, .sl 1 [.int .u32 1]]):=fF_holds Ypr_ok (noMemo_holds _) 400 _ _ _ (by kernel_rfl)
theorem aw148:Runs Yir 64 [.sl 3 [.bool false, .sl 0 [], .bool true, .sl 1 [.int .u32 2], .bool false, .sl 1 [.int .u32 3]], .sl 2 [.bool false, .sl 0 [], .bool true, .sl 1 [.int .u32 1]]] (.fresh 2 0 []):=fF_holds Ypr_ok (memC_holds aw147 (memC_holds aw146 (memC_holds aw145 (memC_holds aw144 (memC_holds aw142 (memC_holds aw141 (memC_holds aw140 (memC_holds aw139 (memC_holds aw136 (memC_holds aw119 (memC_holds aw113 (memC_holds aw112 (memC_holds aw110 (memC_holds aw107 (memC_holds aw82 (memC_holds aw80 (memC_holds aw75 (memC_holds aw44 (memC_holds aw14 (memC_holds aw13 (memC_holds aw12 (noMemo_holds _)))))))))))))))))))))) 400 _ _ _ (by kernel_rfl)
theorem aw149:Runs Yir 127 [.sl 2 [.bool false, .sl 0 [], .bool true, .sl 1 [.int .u32 1]]] (.fresh 2 2 [.bool false, .sl 0 [], .bool false, .sl 1 [.int .u32 1]]):=fF_holds Ypr_ok (noMemo_holds _) 400 _ _ _ (by kernel_rfl)
theorem aw150:Runs Yir 65 [.sl 4 [.bool false, .sl 0 [], .bool false, .sl 0 [], .bool true, .sl 1 [.int .u32 1], .bool false, .sl 1 [.int .u32 1]], .sl 3 [.bool false, .sl 0 [], .bool true, .sl 1 [.int .u32 2], .bool false, .sl 1 [.int .u32 3]]] (.fresh 2 2 [.bool false, .sl 0 [], .bool false, .sl 1 [.int .u32 1]]):=fF_holds Ypr_ok (memC_holds aw149 (memC_holds aw148 (memC_holds aw137 (memC_holds aw107 (memC_holds aw103 (noMemo_holds _)))))) 400 _ _ _ (by kernel_rfl)
theorem aw151:Runs Yir 148 [.bool true, .sl 1 [.int .u32 1], .bool true, .sl 0 []] (.agg [.bool true, .sl 1 [.int .u32 1]]):=fF_holds Ypr_ok (noMemo_holds _) 400 _ _ _ (by kernel_rfl)
theorem aw152:Runs Yir 114 [.agg [.bool true, .sl 1 [.int .u32 1]], .agg [.bool false, .sl 0 []]] (.agg [.bool true, .sl 1 [.int .u32 1]]):=fF_holds Ypr_ok (memC_holds aw151 (noMemo_holds _)) 400 _ _ _ (by kernel_rfl)
theorem aw153:Runs Yir 113 [.agg [.bool false, .sl 0 []], .agg [.bool false, .sl 0 []]] (.agg [.bool false, .sl 0 []]):=fF_holds Ypr_ok (noMemo_holds _) 400 _ _ _ (by kernel_rfl)
theorem aw154:Runs Yir 92 [.sl 3 [.bool false, .sl 0 [], .bool true, .sl 1 [.int .u32 1], .bool false, .sl 1 [.int .u32 1]]] (.fresh 2 3 [.bool false, .sl 0 [], .bool true, .sl 1 [.int .u32 1], .bool false, .sl 1 [.int .u32 1]]):=fF_holds Ypr_ok (noMemo_holds _) 400 _ _ _ (by kernel_rfl)
theorem aw155:Runs Yir 85 [.sl 3 [.bool false, .sl 0 [], .bool true, .sl 1 [.int .u32 1], .bool false, .sl 1 [.int .u32 1]]] (.agg [.bool false, .sl 1 [.int .u32 1]]):=fF_holds Ypr_ok (memC_holds aw5 (noMemo_holds _)) 400 _ _ _ (by kernel_rfl)
theorem aw156:Runs Yir 86 [.sl 3 [.bool false, .sl 0 [], .bool true, .sl 1 [.int .u32 1], .bool false, .sl 1 [.int .u32 1]]] (.fresh 2 3 [.bool false, .sl 0 [], .bool true, .sl 1 [.int .u32 1], .bool false, .sl 1 [.int .u32 1]]):=fF_holds Ypr_ok (memC_holds aw155 (memC_holds aw154 (noMemo_holds _))) 400 _ _ _ (by kernel_rfl)
theorem aw157:Runs Yir 116 [.sl 4 [.bool false, .sl 0 [], .bool false, .sl 0 [], .bool true, .sl 1 [.int .u32 1], .bool false, .sl 1 [.int .u32 1]], .sl 2 [.bool false, .sl 0 [], .bool false, .sl 1 [.int .u32 1]]] (.fresh 2 3 [.bool false, .sl 0 [], .bool true, .sl 1 [.int .u32 1], .bool false, .sl 1 [.int .u32 1]]):=fF_holds Ypr_ok (memC_holds aw156 (memC_holds aw153 (memC_holds aw152 (memC_holds aw124 (memC_holds aw113 (memC_holds aw112 (memC_holds aw101 (memC_holds aw80 (memC_holds aw75 (memC_holds aw19 (memC_holds aw17 (memC_holds aw13 (noMemo_holds _))))))))))))) 400 _ _ _ (by kernel_rfl)
theorem aw158:Runs Yir 66 [.sl 4 [.bool false, .sl 0 [], .bool false, .sl 0 [], .bool true, .sl 1 [.int .u32 4], .bool false, .sl 1 [.int .u32 4]]] (.fresh 2 3 [.bool false, .sl 0 [], .bool true, .sl 1 [.int .u32 1], .bool false, .sl 1 [.int .u32 1]]):=fF_holds Ypr_ok (memC_holds aw157 (memC_holds aw150 (memC_holds aw100 (memC_holds aw97 (noMemo_holds _))))) 400 _ _ _ (by kernel_rfl)
theorem aw159:Runs Yir 61 [.sl 1 [.sl 3 [.bool false, .sl 0 [], .bool true, .sl 1 [.int .u32 1], .bool false, .sl 1 [.int .u32 1]]]] (.bool false):=fF_holds Ypr_ok (noMemo_holds _) 400 _ _ _ (by kernel_rfl)
theorem aw160:Runs Yir 92 [.sl 2 [.bool false, .sl 1 [.int .u32 6], .bool true, .sl 1 [.int .u32 4]]] (.fresh 2 2 [.bool false, .sl 1 [.int .u32 6], .bool true, .sl 1 [.int .u32 4]]):=fF_holds Ypr_ok (noMemo_holds _) 400 _ _ _ (by kernel_rfl)
theorem aw161:Runs Yir 74 [.sl 2 [.int .i64 6, .int .i64 (-4)]] (.fresh 2 2 [.bool false, .sl 1 [.int .u32 6], .bool true, .sl 1 [.int .u32 4]]):=fF_holds Ypr_ok (memC_holds aw160 (noMemo_holds _)) 400 _ _ _ (by kernel_rfl)
theorem aw162:Runs Yir 61 [.sl 1 [.sl 2 [.bool false, .sl 1 [.int .u32 6], .bool true, .sl 1 [.int .u32 4]]]] (.bool false):=fF_holds Ypr_ok (noMemo_holds _) 400 _ _ _ (by kernel_rfl)
theorem aw163:Runs Yir 109 [.agg [.bool false, .sl 0 []], .agg [.bool true, .sl 1 [.int .u32 4]]] (.agg [.bool false, .sl 1 [.int .u32 4]]):=fF_holds Ypr_ok (noMemo_holds _) 400 _ _ _ (by kernel_rfl)
theorem aw164:Runs Yir 109 [.agg [.bool false, .sl 1 [.int .u32 4]], .agg [.bool false, .sl 1 [.int .u32 6]]] (.agg [.bool false, .sl 1 [.int .u32 2]]):=fF_holds Ypr_ok (noMemo_holds _) 400 _ _ _ (by kernel_rfl)
theorem aw165:Runs Yir 85 [.sl 2 [.bool false, .sl 1 [.int .u32 6], .bool true, .sl 1 [.int .u32 4]]] (.agg [.bool false, .sl 1 [.int .u32 2]]):=fF_holds Ypr_ok (memC_holds aw164 (memC_holds aw163 (noMemo_holds _))) 400 _ _ _ (by kernel_rfl)
theorem aw166:Runs Yir 147 [.sl 1 [.int .u32 6], .sl 1 [.int .u32 2]] (.tup [.sl 1 [.int .u32 3], .sl 1 [.int .u32 0]]):=fF_holds Ypr_ok (noMemo_holds _) 400 _ _ _ (by kernel_rfl)
theorem aw167:Runs Yir 110 [.agg [.bool false, .sl 1 [.int .u32 6]], .agg [.bool false, .sl 1 [.int .u32 2]]] (.tup [.agg [.bool false, .sl 1 [.int .u32 3]], .agg [.bool false, .sl 0 []]]):=fF_holds Ypr_ok (memC_holds aw166 (noMemo_holds _)) 400 _ _ _ (by kernel_rfl)
theorem aw168:Runs Yir 147 [.sl 1 [.int .u32 4], .sl 1 [.int .u32 2]] (.tup [.sl 1 [.int .u32 2], .sl 1 [.int .u32 0]]):=fF_holds Ypr_ok (noMemo_holds _) 400 _ _ _ (by kernel_rfl)
theorem aw169:Runs Yir 110 [.agg [.bool true, .sl 1 [.int .u32 4]], .agg [.bool false, .sl 1 [.int .u32 2]]] (.tup [.agg [.bool true, .sl 1 [.int .u32 2]], .agg [.bool false, .sl 0 []]]):=fF_holds Ypr_ok (memC_holds aw168 (noMemo_holds _)) 400 _ _ _ (by kernel_rfl)
theorem aw170:Runs Yir 86 [.sl 2 [.bool false, .sl 1 [.int .u32 6], .bool true, .sl 1 [.int .u32 4]]] (.fresh 2 2 [.bool false, .sl 1 [.int .u32 3], .bool true, .sl 1 [.int .u32 2]]):=fF_holds Ypr_ok (memC_holds aw169 (memC_holds aw167 (memC_holds aw165 (memC_holds aw160 (noMemo_holds _))))) 400 _ _ _ (by kernel_rfl)
theorem aw171:Runs Yir 43 [.sl 1 [.bool false, .sl 1 [.int .u32 1]]] (.fresh 2 1 [.bool false, .sl 1 [.int .u32 1]]):=fF_holds Ypr_ok (noMemo_holds _) 400 _ _ _ (by kernel_rfl)
theorem aw172:Runs Yir 52 [.sl 1 [.int .i64 1]] (.fresh 2 1 [.bool false, .sl 1 [.int .u32 1]]):=fF_holds Ypr_ok (memC_holds aw171 (noMemo_holds _)) 400 _ _ _ (by kernel_rfl)
theorem aw173:Runs Yir 43 [.sl 1 [.bool true, .sl 1 [.int .u32 1]]] (.fresh 2 1 [.bool true, .sl 1 [.int .u32 1]]):=fF_holds Ypr_ok (noMemo_holds _) 400 _ _ _ (by kernel_rfl)
theorem aw174:Runs Yir 52 [.sl 1 [.int .i64 (-1)]] (.fresh 2 1 [.bool true, .sl 1 [.int .u32 1]]):=fF_holds Ypr_ok (memC_holds aw173 (noMemo_holds _)) 400 _ _ _ (by kernel_rfl)
theorem aw175:Runs Yir 43 [.sl 2 [.bool true, .sl 1 [.int .u32 1], .bool false, .sl 1 [.int .u32 1]]] (.fresh 2 2 [.bool true, .sl 1 [.int .u32 1], .bool false, .sl 1 [.int .u32 1]]):=fF_holds Ypr_ok (noMemo_holds _) 400 _ _ _ (by kernel_rfl)
theorem aw176:Runs Yir 52 [.sl 2 [.int .i64 (-1), .int .i64 1]] (.fresh 2 2 [.bool true, .sl 1 [.int .u32 1], .bool false, .sl 1 [.int .u32 1]]):=fF_holds Ypr_ok (memC_holds aw175 (noMemo_holds _)) 400 _ _ _ (by kernel_rfl)
theorem aw177:Runs Yir 28 [.sl 2 [.bool true, .sl 1 [.int .u32 1], .bool false, .sl 1 [.int .u32 1]], .sl 2 [.bool true, .sl 1 [.int .u32 1], .bool false, .sl 1 [.int .u32 1]]] (.bool true):=fF_holds Ypr_ok (noMemo_holds _) 400 _ _ _ (by kernel_rfl)
theorem aw178:Runs Yir 43 [.sl 3 [.bool false, .sl 0 [], .bool true, .sl 1 [.int .u32 1], .bool false, .sl 1 [.int .u32 1]]] (.fresh 2 3 [.bool false, .sl 0 [], .bool true, .sl 1 [.int .u32 1], .bool false, .sl 1 [.int .u32 1]]):=fF_holds Ypr_ok (noMemo_holds _) 400 _ _ _ (by kernel_rfl)
theorem aw179:Runs Yir 52 [.sl 3 [.int .i64 0, .int .i64 (-1), .int .i64 1]] (.fresh 2 3 [.bool false, .sl 0 [], .bool true, .sl 1 [.int .u32 1], .bool false, .sl 1 [.int .u32 1]]):=fF_holds Ypr_ok (memC_holds aw178 (noMemo_holds _)) 400 _ _ _ (by kernel_rfl)
theorem aw180:Runs Yir 28 [.sl 3 [.bool false, .sl 0 [], .bool true, .sl 1 [.int .u32 1], .bool false, .sl 1 [.int .u32 1]], .sl 3 [.bool false, .sl 0 [], .bool true, .sl 1 [.int .u32 1], .bool false, .sl 1 [.int .u32 1]]] (.bool true):=fF_holds Ypr_ok (noMemo_holds _) 400 _ _ _ (by kernel_rfl)
theorem aw181:Runs Yir 43 [.sl 2 [.bool false, .sl 1 [.int .u32 3], .bool true, .sl 1 [.int .u32 2]]] (.fresh 2 2 [.bool false, .sl 1 [.int .u32 3], .bool true, .sl 1 [.int .u32 2]]):=fF_holds Ypr_ok (noMemo_holds _) 400 _ _ _ (by kernel_rfl)
theorem aw182:Runs Yir 52 [.sl 2 [.int .i64 3, .int .i64 (-2)]] (.fresh 2 2 [.bool false, .sl 1 [.int .u32 3], .bool true, .sl 1 [.int .u32 2]]):=fF_holds Ypr_ok (memC_holds aw181 (noMemo_holds _)) 400 _ _ _ (by kernel_rfl)
theorem aw183:Runs Yir 28 [.sl 2 [.bool false, .sl 1 [.int .u32 3], .bool true, .sl 1 [.int .u32 2]], .sl 2 [.bool false, .sl 1 [.int .u32 3], .bool true, .sl 1 [.int .u32 2]]] (.bool true):=fF_holds Ypr_ok (noMemo_holds _) 400 _ _ _ (by kernel_rfl)
theorem aw184:Runs Yir 13 [] (.bool true):=fF_holds Ypr_ok (memC_holds aw183 (memC_holds aw182 (memC_holds aw180 (memC_holds aw179 (memC_holds aw177 (memC_holds aw176 (memC_holds aw174 (memC_holds aw172 (memC_holds aw170 (memC_holds aw162 (memC_holds aw161 (memC_holds aw159 (memC_holds aw158 (memC_holds aw88 (memC_holds aw87 (memC_holds aw85 (memC_holds aw84 (memC_holds aw66 (memC_holds aw65 (memC_holds aw63 (memC_holds aw61 (memC_holds aw33 (memC_holds aw31 (memC_holds aw29 (memC_holds aw3 (memC_holds aw1 (noMemo_holds _))))))))))))))))))))))))))) 400 _ _ _ (by kernel_rfl)
theorem Yrun13:Runs Yir 13 [] (.bool true):=aw184
end Go.Proofs.Ythnnfemologhfaa

namespace Go.Proofs.Ythnnfemologhfaa
open Go.IntKind (i64 u64 u32)
open Go.Ai
set_option maxRecDepth 100000
def Ys28 (o:Bool) (rs:List Rn) (ss:List Rn) (i:Int):State:=(.val (.sl rs.length (pc rs))::(.val (.sl ss.length (pc ss))::(dds 2 (.val (.bool o)::(.val (.int .i64 i)::(dds 21 []))))))
theorem Yk28_1 (o:Bool) (rs:List Rn) (ss:List Rn) (i:Int) (b:Bool) (c1:(decide (i<(rs.length:Int)))=true) (c2:(b)=true) (n1:0≤i∧i<(rs.length:Int)) (n2:0≤i∧i<(ss.length:Int)) (n3:Runs Yir 41 [rawAV (rs.getD (Int.toNat i) z0),rawAV (ss.getD (Int.toNat i) z0)] (.bool b)):RunsW Yir Yc28 (Ys28 o rs ss i) .norm (Ys28 o rs ss (i64.wrap (i+1))):=(RunsW.go TPW_holds 400 [.b true, .v (rawAV (rs.getD (Int.toNat i) z0)), .v (rawAV (ss.getD (Int.toNat i) z0)), .r (.bool b), .b false] [0,1,4,5] (ac c1 (ac n1 (ac (take_pcI n1) (ac n2 (ac (take_pcI n2) (ac n3 (ac (show (!b)=false from (by rw [c2];rfl)) a0))))))) (by kernel_rfl))
theorem Yk28_3 (o:Bool) (rs:List Rn) (ss:List Rn) (i:Int)  (c1:(decide (i<(rs.length:Int)))=false):RunsW Yir Yc28 (Ys28 o rs ss i) (.exit 0) (Ys28 o rs ss i):=(RunsW.go TPW_holds 400 [.b false] [0,1,4,5] (ac c1 a0) (by kernel_rfl))
theorem Yrun28_2 (rs ss:List Rn) (i:Int) (c1:((rs.length:Int) != (ss.length:Int))=false) (hl1:RunsW Yir (.loop Yc28) (Ys28 false rs ss 0) (.exit 0) (Ys28 false rs ss i)):Runs Yir 28 [.sl rs.length (pc rs), .sl ss.length (pc ss)] (.bool true):=Runs.of_bodyW (fn:=Yi28) (s:=(dds 4 (.val (.bool true)::(dds 22 [])))) (ex := .ret) rfl rfl (RunsW.seq (RunsW.go (t:=(vp rs::(vp ss::(dds 2 (.val (.bool false)::(dds 22 [])))))) (ex := .norm) TPW_holds 400 [] [0,1,4] a0 (by kernel_rfl)) (RunsW.seq (RunsW.go (t:=(vp rs::(vp ss::(dds 2 (.val (.bool false)::(dds 22 [])))))) (ex := .norm) TPW_holds 400 [.b false] [0,1,4] (ac c1 a0) (by kernel_rfl)) (RunsW.seq (RunsW.seq (RunsW.go TPW_holds 400 [] [0,1,4,5] a0 (by kernel_rfl)) (RunsW.block hl1)) (RunsW.go TPW_holds 400 [] [4] a0 (by kernel_rfl))))) (by intro i e;cases e) rfl
def Ys41 (o:Bool) (r:Rn) (i:Int):State:=(dds 2 (.box [.bool r.1, .sl r.2.length (lm r.2)]::(.box [.bool r.1, .sl r.2.length (lm r.2)]::(.val (.bool o)::(.val (.int .i64 i)::(dds 32 []))))))
theorem Yk41_2 (o:Bool) (r:Rn) (i:Int)  (c1:(decide (i<(r.2.length:Int)))=true) (c2:((r.2.getD (Int.toNat i) 0) != (r.2.getD (Int.toNat i) 0))=false) (n1:0≤i∧i<(r.2.length:Int)):RunsW Yir Yc41 (Ys41 o r i) .norm (Ys41 o r (i64.wrap (i+1))):=(RunsW.go TPW_holds 400 [.b true, .v (.int .u32 (r.2.getD (Int.toNat i) 0)), .v (.int .u32 (r.2.getD (Int.toNat i) 0)), .b false] [2,3,4,5] (ac c1 (ac n1 (ac (take_limI n1) (ac n1 (ac (take_limI n1) (ac c2 a0)))))) (by kernel_rfl))
theorem Yk41_3 (o:Bool) (r:Rn) (i:Int)  (c1:(decide (i<(r.2.length:Int)))=false):RunsW Yir Yc41 (Ys41 o r i) (.exit 0) (Ys41 o r i):=(RunsW.go TPW_holds 400 [.b false] [2,3,4,5] (ac c1 a0) (by kernel_rfl))
theorem Yrun41_2 (r:Rn) (i:Int) (c1:(r.1==r.1)=true) (c2:((r.2.length:Int) != (r.2.length:Int))=false) (hl1:RunsW Yir (.loop Yc41) (Ys41 false r 0) (.exit 0) (Ys41 false r i)):Runs Yir 41 [rawAV r,rawAV r] (.bool true):=Runs.of_bodyW (fn:=Yi41) (s:=(dds 4 (.val (.bool true)::(dds 33 [])))) (ex := .ret) rfl rfl (RunsW.seq (RunsW.go (t:=(.val (rawAV r)::(.val (rawAV r)::(bR r::(bR r::(.val (.bool false)::(dds 33 []))))))) (ex := .norm) TPW_holds 400 [] [0,1,2,3,4] a0 (by kernel_rfl)) (RunsW.seq (RunsW.go (t:=(.val (rawAV r)::(.val (rawAV r)::(bR r::(bR r::(.val (.bool false)::(dds 33 []))))))) (ex := .norm) TPW_holds 400 [.b false, .b false] [0,1,2,3,4] (ac (show (!(r.1==r.1))=false from (by rw [c1];rfl)) (ac c2 a0)) (by kernel_rfl)) (RunsW.seq (RunsW.seq (RunsW.go TPW_holds 400 [] [2,3,4,5] a0 (by kernel_rfl)) (RunsW.block hl1)) (RunsW.go TPW_holds 400 [] [4] a0 (by kernel_rfl))))) (by intro i e;cases e) rfl
def Yc5:ICode := .seq (.seq (.region false [oM 61 11,oM 62 1,oB 63 .lss 61 62]) (.cond (.t 63) (.skip) (.exit 0))) (.seq (.block 1 (.seq (.region false [oM 67 9,oM 68 7,o1 69 (.un .neg (.t 68)),o1 70 (.bls 2 [.int .i64 0, .int .i64 0] [(0,1, .t 69),(1,1, .c (.int .i64 1))]),oC 71 26 [70],oC 72 24 [67,71],oM 66 72,o1 73 (.ext (.t 66) 0),o1 74 (.ext (.t 66) 1),oM 9 73]) (.region false [oM 76 9,oM 77 8,o1 78 (.un .neg (.t 77)),o1 79 (.bls 2 [.int .i64 0, .int .i64 0] [(0,1, .t 78),(1,1, .c (.int .i64 2))]),oC 80 26 [79],oC 81 24 [76,80],oM 75 81,o1 82 (.ext (.t 75) 0),o1 83 (.ext (.t 75) 1),oM 9 82]))) (.region false [oM 64 11,o1 65 (.bin .add (.t 64) (.c (.int .i64 1))),oM 11 65]))
theorem same1_run (r:Rn) (hN:r.2.length≤1048576):Runs Yir 41 [.agg [.bool r.1, .sl r.2.length (lm r.2)], .agg [.bool r.1, .sl r.2.length (lm r.2)]] (.bool true):=by
 refine Yrun41_2 r (r.2.length:Nat) (by simp) (by simp) ?_
 exact RunsW.upTo (prog:=Yir) (c:=Yc41) (ex := .exit 0) (fun t=>Ys41 false r (t:Nat)) r.2.length (by intro e;cases e) (Yk41_3 false r _ (by simp)) 0 (Nat.zero_le _) (fun t _ h=>by
  have ei:i64.wrap ((t:Int)+1)=((t+1:Nat):Int):=by rw [w64 (by omega) (by omega)];omega
  have k:=Yk41_2 false r (t:Nat) (by simp;omega) (by simp) (by omega)
  rwa [ei] at k)
theorem same2_run {rs:List Rn} (hg:∀ r∈rs,Good 1048576 r) (hN:rs.length≤1048576):Runs Yir 28 [.sl rs.length (pc rs), .sl rs.length (pc rs)] (.bool true):=by
 refine Yrun28_2 rs rs (rs.length:Nat) (by simp) ?_
 exact RunsW.upTo (prog:=Yir) (c:=Yc28) (ex := .exit 0) (fun t=>Ys28 false rs rs (t:Nat)) rs.length (by intro e;cases e) (Yk28_3 false rs rs _ (by simp)) 0 (Nat.zero_le _) (fun t _ h=>by
  have ei:i64.wrap ((t:Int)+1)=((t+1:Nat):Int):=by rw [w64 (by omega) (by omega)];omega
  have k:=Yk28_1 false rs rs (t:Nat) true (by simp;omega) rfl (by omega) (by omega) (by rw [Int.toNat_natCast];exact same1_run _ (good_getD hg t).2)
  rwa [ei] at k)
end Go.Proofs.Ythnnfemologhfaa

namespace Go.Proofs.Ythnnfemologhfaa
open Go.IntKind (i64 u64 u32)
open Go.Ai
set_option maxRecDepth 100000
def TSA:Table:=TWC
theorem TSA_holds:THolds Yir TSA:=TWC_holds
end Go.Proofs.Ythnnfemologhfaa

namespace Go.Proofs.Ythnnfemologhfaa
open Go.IntKind (i64 u64 u32)
open Go.Ai
set_option maxRecDepth 100000
def TSB:Table:=TSA
theorem TSB_holds:THolds Yir TSB:=TSA_holds
end Go.Proofs.Ythnnfemologhfaa

namespace Go.Proofs.Ythnnfemologhfaa
open Go.IntKind (i64 u64 u32)
open Go.Ai
set_option maxRecDepth 100000
def Ys67 (o:Bool) (ts:List Rn) (i:Int):State:=(dds 2 (.val (.bool o)::(.val (.sl ts.length (pc ts))::(.val (.int .i64 i)::(dds 17 [])))))
theorem Yk67_1 (o:Bool) (ts:List Rn) (i:Int) (z:Bool) (c1:(decide (i<(ts.length:Int)))=true) (c2:(z)=true) (n1:0≤i∧i<(ts.length:Int)) (n2:Runs Yir 79 [rawAV (ts.getD (Int.toNat i) z0)] (.bool z)):RunsW Yir Yc67 (Ys67 o ts i) .ret (Ys67 true ts i):=(RunsW.go TSB_holds 400 [.b true, .v (rawAV (ts.getD (Int.toNat i) z0)), .r (.bool z), .b true] [2,3,4] (ac c1 (ac n1 (ac (take_pcI n1) (ac n2 (ac c2 a0))))) (by kernel_rfl))
theorem Yk67_2 (o:Bool) (ts:List Rn) (i:Int) (z:Bool) (c1:(decide (i<(ts.length:Int)))=true) (c2:(z)=false) (n1:0≤i∧i<(ts.length:Int)) (n2:Runs Yir 79 [rawAV (ts.getD (Int.toNat i) z0)] (.bool z)):RunsW Yir Yc67 (Ys67 o ts i) .norm (Ys67 o ts (i64.wrap (i+1))):=(RunsW.go TSB_holds 400 [.b true, .v (rawAV (ts.getD (Int.toNat i) z0)), .r (.bool z), .b false] [2,3,4] (ac c1 (ac n1 (ac (take_pcI n1) (ac n2 (ac c2 a0))))) (by kernel_rfl))
theorem Yk67_3 (o:Bool) (ts:List Rn) (i:Int)  (c1:(decide (i<(ts.length:Int)))=false):RunsW Yir Yc67 (Ys67 o ts i) (.exit 0) (Ys67 o ts i):=(RunsW.go TSB_holds 400 [.b false] [2,3,4] (ac c1 a0) (by kernel_rfl))
theorem Yrun67_n_1 (rs ts:List Rn) (c1:(decide ((i64.wrap ((ts.length:Int)-1))>16))=true) (n1:Runs Yir 43 [.sl rs.length (pc rs)] (.fresh 2 ts.length (pc ts))):Runs Yir 67 [.sl rs.length (pc rs)] (.bool true):=Runs.of_bodyW (fn:=Yi67) (s:=(dds 2 (.val (.bool true)::(dds 19 [])))) (ex := .ret) rfl rfl (RunsW.seq (RunsW.go (t:=(vp rs::(dds 1 (.val (.bool false)::(dds 19 []))))) (ex := .norm) TSB_holds 400 [] [0,2] a0 (by kernel_rfl)) (RunsW.seq (RunsW.go (t:=(vp rs::(dds 1 (.val (.bool false)::(vp ts::(dds 18 [])))))) (ex := .norm) TSB_holds 400 [.r (.fresh 2 ts.length (pc ts))] [0,2,3] (ac n1 a0) (by kernel_rfl)) (RunsW.seq_out (RunsW.go TSB_holds 400 [.b true] [2] (ac c1 a0) (by kernel_rfl)) (by intro e;cases e)))) (by intro i e;cases e) rfl
theorem Yrun67_n_2 (rs ts:List Rn) (i:Int) (c1:(decide ((i64.wrap ((ts.length:Int)-1))>16))=false) (n1:Runs Yir 43 [.sl rs.length (pc rs)] (.fresh 2 ts.length (pc ts))) (hl2:RunsW Yir (.loop Yc67) (Ys67 false ts 0) (.exit 0) (Ys67 false ts i)):Runs Yir 67 [.sl rs.length (pc rs)] (.bool false):=Runs.of_bodyW (fn:=Yi67) (s:=(dds 2 (.val (.bool false)::(dds 19 [])))) (ex := .ret) rfl rfl (RunsW.seq (RunsW.go (t:=(vp rs::(dds 1 (.val (.bool false)::(dds 19 []))))) (ex := .norm) TSB_holds 400 [] [0,2] a0 (by kernel_rfl)) (RunsW.seq (RunsW.go (t:=(vp rs::(dds 1 (.val (.bool false)::(vp ts::(dds 18 [])))))) (ex := .norm) TSB_holds 400 [.r (.fresh 2 ts.length (pc ts))] [0,2,3] (ac n1 a0) (by kernel_rfl)) (RunsW.seq (RunsW.go (t:=(vp rs::(dds 1 (.val (.bool false)::(vp ts::(dds 18 [])))))) (ex := .norm) TSB_holds 400 [.b false] [0,2,3] (ac c1 a0) (by kernel_rfl)) (RunsW.seq (RunsW.seq (RunsW.go TSB_holds 400 [] [2,3,4] a0 (by kernel_rfl)) (RunsW.block hl2)) (RunsW.go TSB_holds 400 [] [2] a0 (by kernel_rfl)))))) (by intro i e;cases e) rfl
theorem Yrun67_y_2 (rs ts:List Rn) (i:Int) (c1:(decide ((i64.wrap ((ts.length:Int)-1))>16))=false) (n1:Runs Yir 43 [.sl rs.length (pc rs)] (.fresh 2 ts.length (pc ts))) (hl2:RunsW Yir (.loop Yc67) (Ys67 false ts 0) .ret (Ys67 true ts i)):Runs Yir 67 [.sl rs.length (pc rs)] (.bool true):=Runs.of_bodyW (fn:=Yi67) (s:=(dds 2 (.val (.bool true)::(.val (.sl ts.length (pc ts))::(.val (.int .i64 i)::(dds 17 [])))))) (ex := .ret) rfl rfl (RunsW.seq (RunsW.go (t:=(vp rs::(dds 1 (.val (.bool false)::(dds 19 []))))) (ex := .norm) TSB_holds 400 [] [0,2] a0 (by kernel_rfl)) (RunsW.seq (RunsW.go (t:=(vp rs::(dds 1 (.val (.bool false)::(vp ts::(dds 18 [])))))) (ex := .norm) TSB_holds 400 [.r (.fresh 2 ts.length (pc ts))] [0,2,3] (ac n1 a0) (by kernel_rfl)) (RunsW.seq (RunsW.go (t:=(vp rs::(dds 1 (.val (.bool false)::(vp ts::(dds 18 [])))))) (ex := .norm) TSB_holds 400 [.b false] [0,2,3] (ac c1 a0) (by kernel_rfl)) (RunsW.seq_out (RunsW.seq (RunsW.go TSB_holds 400 [] [2,3,4] a0 (by kernel_rfl)) (RunsW.block_ret hl2)) (by intro e;cases e))))) (by intro i e;cases e) rfl
theorem Yrun44 (rs ts:List Rn) (n1:Runs Yir 43 [.sl rs.length (pc rs)] (.fresh 2 ts.length (pc ts))):Runs Yir 44 [.sl rs.length (pc rs)] (.int .i64 (i64.wrap ((ts.length:Int)-1))):=Runs.go (fn:=Yi44) TSB_holds rfl 400 rfl [.r (.fresh 2 ts.length (pc ts))] (ac n1 a0) (by kernel_rfl)
def TGA:Table:=TSB
theorem TGA_holds:THolds Yir TGA:=TSB_holds
end Go.Proofs.Ythnnfemologhfaa

namespace Go.Proofs.Ythnnfemologhfaa
open Go.IntKind (i64 u64 u32)
open Go.Ai
set_option maxRecDepth 100000
theorem trimL_limbs2 {xs:List Int} (hu:U32 xs) (neg:Bool):decide (256<(trimL xs).length)=bigC (rv neg xs):=by
 unfold bigC
 rw [trimL_rv (neg:=neg) hu]
theorem r2large_run {rs:List Rn} (hg:∀ r∈rs,Good 1048576 r) (hN:rs.length≤1048576):Runs Yir 67 [.sl rs.length (pc rs)] (.bool (largeV (vals rs))):=by
 have htr:=qtrim_run hg hN
 have hl:=trim_len (vals rs)
 rw [vals_length] at hl
 have hf:∀ x∈trimL (vals rs),Fits 1048576 x:=fits_mem_trim (fits_vals hg)
 have gts:=good_cns hf
 have hvs:=vals_cn (trimL (vals rs))
 have hpk:pk (trimL (vals rs))=pc ((trimL (vals rs)).map cn):=rfl
 rw [hpk,← List.length_map (f:=cn)] at htr
 have hlm:((trimL (vals rs)).map cn).length=(trimL (vals rs)).length:=List.length_map ..
 have hgd:∀ t,rval (((trimL (vals rs)).map cn).getD t z0)=(trimL (vals rs)).getD t 0:=fun t=>by rw [← vals_getD,hvs]
 generalize (trimL (vals rs)).map cn=ts at *
 have e1:i64.wrap ((ts.length:Int)-1)=(ts.length:Int)-1:=w64 (by omega) (by omega)
 have hcall:∀ t,Runs Yir 79 [.agg [.bool (ts.getD t z0).1, .sl (ts.getD t z0).2.length (lm (ts.getD t z0).2)]] (.bool (bigC ((trimL (vals rs)).getD t 0))):=fun t=>by
  obtain ⟨g1,g2⟩:=good_getD gts t
  have h:=rlarge_run (neg:=(ts.getD t z0).1) (xs:=(ts.getD t z0).2) g2
  rw [trimL_limbs2 g1 (ts.getD t z0).1,show rv (ts.getD t z0).1 (ts.getD t z0).2=rval (ts.getD t z0) from rfl,hgd] at h
  exact h
 have step:∀ t:Nat,t<ts.length→bigC ((trimL (vals rs)).getD t 0)=false→RunsW Yir Yc67 (Ys67 false ts (t:Nat)) .norm (Ys67 false ts ((t+1:Nat):Int)):=by
  intro t ht hb
  have ei:i64.wrap ((t:Int)+1)=((t+1:Nat):Int):=by rw [w64 (by omega) (by omega)];omega
  have hc:=hcall t
  rw [hb] at hc
  have k2:=Yk67_2 false ts (t:Nat) false (by simp;omega) rfl (by omega) (by rw [Int.toNat_natCast];exact hc)
  rwa [ei] at k2
 by_cases h17:(trimL (vals rs)).length≤17
 ·have c1:decide (i64.wrap ((ts.length:Int)-1)>16)=false:=by rw [e1,decide_eq_false_iff_not];omega
  rcases first_from (fun j=>bigC ((trimL (vals rs)).getD j 0)) ts.length _ 0 (by rw [Nat.zero_add]) with h | ⟨j,_,h2,h3,h4⟩
  ·have hf:largeV (vals rs)=false:=by
    unfold largeV
    rw [decide_eq_false (by omega),Bool.false_or,List.any_eq_false]
    intro x hx
    obtain ⟨i,hi,rfl⟩:=List.mem_iff_getElem.1 hx
    have:=h i (by omega) (by omega)
    rw [List.getD_eq_getElem?_getD,List.getElem?_eq_getElem hi] at this
    simpa using this
   rw [hf]
   exact Yrun67_n_2 rs ts _ c1 htr (RunsW.upTo (prog:=Yir) (c:=Yc67) (ex := .exit 0) (fun t=>Ys67 false ts (t:Nat)) ts.length (by intro e;cases e) (Yk67_3 false ts _ (by simp)) 0 (Nat.zero_le _) (fun t _ h6=>step t h6 (h t (by omega) h6)))
  ·have hf:largeV (vals rs)=true:=by
    unfold largeV
    rw [decide_eq_false (by omega),Bool.false_or,List.any_eq_true]
    refine ⟨(trimL (vals rs)).getD j 0,?_,h3⟩
    rw [List.getD_eq_getElem?_getD,List.getElem?_eq_getElem (by omega)]
    exact List.getElem_mem _
   rw [hf]
   have hc:=hcall j
   rw [h3] at hc
   have out:=Yk67_1 false ts (j:Nat) true (by simp;omega) rfl (by omega) (by rw [Int.toNat_natCast];exact hc)
   exact Yrun67_y_2 rs ts _ c1 htr (RunsW.upTo (prog:=Yir) (c:=Yc67) (ex := .ret) (fun t=>Ys67 false ts (t:Nat)) j (by intro e;cases e) out 0 (Nat.zero_le _) (fun t _ h6=>step t (by omega) (h4 t (by omega) h6)))
 ·have hf:largeV (vals rs)=true:=by unfold largeV;rw [decide_eq_true (by omega)];rfl
  rw [hf]
  exact Yrun67_n_1 rs ts (by rw [e1,decide_eq_true_eq];omega) htr
theorem r2degree_run {rs:List Rn} (hg:∀ r∈rs,Good 1048576 r) (hN:rs.length≤1048576):Runs Yir 44 [.sl rs.length (pc rs)] (.int .i64 (((trimL (vals rs)).length:Nat)-1:Int)):=by
 have htr:=qtrim_run hg hN
 have hl:=trim_len (vals rs)
 rw [vals_length] at hl
 have hpk:pk (trimL (vals rs))=pc ((trimL (vals rs)).map cn):=rfl
 rw [hpk,← List.length_map (f:=cn)] at htr
 have h:=Yrun44 rs _ htr
 rw [w64 (by omega) (by rw [List.length_map];omega),List.length_map] at h
 exact h
section
variable {K X:Nat} {rs:List Rn} {r:Rn} {e:Int}
end
def TGB:Table:=TGA
theorem TGB_holds:THolds Yir TGB:=TGA_holds
end Go.Proofs.Ythnnfemologhfaa

namespace Go.Proofs.Ythnnfemologhfaa
open Go.IntKind (i64 u64 u32)
open Go.Ai
set_option maxRecDepth 100000
def Ys14 (o:Bool) (rs:List Rn) (i:Int):State:=(.val (.sl rs.length (pc rs))::(dds 1 (.val (.bool o)::(.val (.int .i64 i)::(dds 16 [])))))
theorem Yk14_1 (o:Bool) (rs:List Rn) (i:Int)  (c1:(decide (i<(rs.length:Int)))=true) (c2:(decide ((((rs.getD (Int.toNat i) z0).2.length:Nat):Int)>6))=true) (n1:0≤i∧i<(rs.length:Int)):RunsW Yir Yc14 (Ys14 o rs i) .ret (Ys14 false rs i):=(RunsW.go TGB_holds 400 [.b true, .v (.sl ((rs.getD (Int.toNat i) z0).2.length) (lm (rs.getD (Int.toNat i) z0).2)), .b true] [0,2,3] (ac c1 (ac n1 (ac (take_pcL n1) (ac c2 a0)))) (by kernel_rfl))
theorem Yk14_2 (o:Bool) (rs:List Rn) (i:Int)  (c1:(decide (i<(rs.length:Int)))=true) (c2:(decide ((((rs.getD (Int.toNat i) z0).2.length:Nat):Int)>6))=false) (n1:0≤i∧i<(rs.length:Int)):RunsW Yir Yc14 (Ys14 o rs i) .norm (Ys14 o rs (i64.wrap (i+1))):=(RunsW.go TGB_holds 400 [.b true, .v (.sl ((rs.getD (Int.toNat i) z0).2.length) (lm (rs.getD (Int.toNat i) z0).2)), .b false] [0,2,3] (ac c1 (ac n1 (ac (take_pcL n1) (ac c2 a0)))) (by kernel_rfl))
theorem Yk14_3 (o:Bool) (rs:List Rn) (i:Int)  (c1:(decide (i<(rs.length:Int)))=false):RunsW Yir Yc14 (Ys14 o rs i) (.exit 0) (Ys14 o rs i):=(RunsW.go TGB_holds 400 [.b false] [0,2,3] (ac c1 a0) (by kernel_rfl))
theorem Yrun14_n_1 (rs:List Rn) (c1:(decide ((rs.length:Int)>10))=true):Runs Yir 14 [.sl rs.length (pc rs)] (.bool false):=Runs.of_bodyW (fn:=Yi14) (s:=(dds 2 (.val (.bool false)::(dds 17 [])))) (ex := .ret) rfl rfl (RunsW.seq (RunsW.go (t:=(vp rs::(dds 1 (.val (.bool false)::(dds 17 []))))) (ex := .norm) TGB_holds 400 [] [0,2] a0 (by kernel_rfl)) (RunsW.seq_out (RunsW.go TGB_holds 400 [.b true] [2] (ac c1 a0) (by kernel_rfl)) (by intro e;cases e))) (by intro i e;cases e) rfl
theorem Yrun14_n_2 (rs:List Rn) (i:Int) (c1:(decide ((rs.length:Int)>10))=false) (hl1:RunsW Yir (.loop Yc14) (Ys14 false rs 0) .ret (Ys14 false rs i)):Runs Yir 14 [.sl rs.length (pc rs)] (.bool false):=Runs.of_bodyW (fn:=Yi14) (s:=(.val (.sl rs.length (pc rs))::(dds 1 (.val (.bool false)::(.val (.int .i64 i)::(dds 16 [])))))) (ex := .ret) rfl rfl (RunsW.seq (RunsW.go (t:=(vp rs::(dds 1 (.val (.bool false)::(dds 17 []))))) (ex := .norm) TGB_holds 400 [] [0,2] a0 (by kernel_rfl)) (RunsW.seq (RunsW.go (t:=(vp rs::(dds 1 (.val (.bool false)::(dds 3 (.val (.bool (decide ((rs.length:Int)>10)))::(dds 13 []))))))) (ex := .norm) TGB_holds 400 [.b false] [0,2,6] (ac c1 a0) (by kernel_rfl)) (RunsW.seq_out (RunsW.seq (RunsW.go TGB_holds 400 [] [0,2,3] a0 (by kernel_rfl)) (RunsW.block_ret hl1)) (by intro e;cases e)))) (by intro i e;cases e) rfl
theorem Yrun14_y_2 (rs:List Rn) (i:Int) (c1:(decide ((rs.length:Int)>10))=false) (hl1:RunsW Yir (.loop Yc14) (Ys14 false rs 0) (.exit 0) (Ys14 false rs i)):Runs Yir 14 [.sl rs.length (pc rs)] (.bool true):=Runs.of_bodyW (fn:=Yi14) (s:=(dds 2 (.val (.bool true)::(dds 17 [])))) (ex := .ret) rfl rfl (RunsW.seq (RunsW.go (t:=(vp rs::(dds 1 (.val (.bool false)::(dds 17 []))))) (ex := .norm) TGB_holds 400 [] [0,2] a0 (by kernel_rfl)) (RunsW.seq (RunsW.go (t:=(vp rs::(dds 1 (.val (.bool false)::(dds 3 (.val (.bool (decide ((rs.length:Int)>10)))::(dds 13 []))))))) (ex := .norm) TGB_holds 400 [.b false] [0,2,6] (ac c1 a0) (by kernel_rfl)) (RunsW.seq (RunsW.seq (RunsW.go TGB_holds 400 [] [0,2,3] a0 (by kernel_rfl)) (RunsW.block hl1)) (RunsW.go TGB_holds 400 [] [2] a0 (by kernel_rfl))))) (by intro i e;cases e) rfl
def fewB (n m:Nat) (rs:List Rn):Bool:=decide (rs.length≤n)&&rs.all (fun r=>decide (r.2.length≤m))
theorem fewB_yes {n m:Nat} {rs:List Rn} (h:fewB n m rs=true) (hu:∀ r∈rs,U32 r.2):rs.length≤n∧∀ r∈rs,Good m r:=by
 unfold fewB at h
 rw [Bool.and_eq_true,decide_eq_true_eq,List.all_eq_true] at h
 exact ⟨h.1,fun r hr=>⟨hu r hr,by simpa using h.2 r hr⟩⟩
theorem few_run (rs:List Rn):Runs Yir 14 [.sl rs.length (pc rs)] (.bool (fewB 10 6 rs)):=by
 unfold fewB
 by_cases h10:rs.length≤10
 ·rw [decide_eq_true h10,Bool.true_and]
  have c1:decide ((rs.length:Int)>10)=false:=by rw [decide_eq_false_iff_not];omega
  have step:∀ t:Nat,t<rs.length→(rs.getD t z0).2.length≤6→RunsW Yir Yc14 (Ys14 false rs (t:Nat)) .norm (Ys14 false rs ((t+1:Nat):Int)):=by
   intro t ht hb
   have ei:i64.wrap ((t:Int)+1)=((t+1:Nat):Int):=by rw [w64 (by omega) (by omega)];omega
   have k2:=Yk14_2 false rs (t:Nat) (by simp;omega) (by rw [Int.toNat_natCast,decide_eq_false_iff_not];omega) (by omega)
   rwa [ei] at k2
  rcases first_from (fun j => !decide ((rs.getD j z0).2.length≤6)) rs.length _ 0 (by rw [Nat.zero_add]) with h | ⟨j,_,h2,h3,h4⟩
  ·have hall:(rs.all fun r=>decide (r.2.length≤6))=true:=by
    rw [List.all_eq_true]
    intro r hr
    obtain ⟨i,hi,rfl⟩:=List.mem_iff_getElem.1 hr
    have:=h i (by omega) hi
    rw [List.getD_eq_getElem?_getD,List.getElem?_eq_getElem hi] at this
    simpa using this
   rw [hall]
   exact Yrun14_y_2 rs _ c1 (RunsW.upTo (prog:=Yir) (c:=Yc14) (ex := .exit 0) (fun t=>Ys14 false rs (t:Nat)) rs.length (by intro e;cases e) (Yk14_3 false rs _ (by simp)) 0 (Nat.zero_le _) (fun t _ h6=>step t h6 (by simpa using h t (by omega) h6)))
  ·have hall:(rs.all fun r=>decide (r.2.length≤6))=false:=by
    rw [List.all_eq_false]
    refine ⟨rs.getD j z0,?_,by simpa using h3⟩
    rw [List.getD_eq_getElem?_getD,List.getElem?_eq_getElem h2]
    exact List.getElem_mem h2
   rw [hall]
   have h3':¬ (rs.getD j z0).2.length≤6:=by simpa using h3
   have out:=Yk14_1 false rs (j:Nat) (by simp;omega) (by rw [Int.toNat_natCast,decide_eq_true_eq];omega) (by omega)
   exact Yrun14_n_2 rs _ c1 (RunsW.upTo (prog:=Yir) (c:=Yc14) (ex := .ret) (fun t=>Ys14 false rs (t:Nat)) j (by intro e;cases e) out 0 (Nat.zero_le _) (fun t _ h6=>step t (by omega) (by simpa using h4 t (by omega) h6)))
 ·rw [decide_eq_false h10,Bool.false_and]
  exact Yrun14_n_1 rs (by rw [decide_eq_true_eq];omega)
end Go.Proofs.Ythnnfemologhfaa

namespace Go.Proofs.Ythnnfemologhfaa
open Go.IntKind (i64 u64 u32)
open Go.Ai
set_option maxRecDepth 100000
theorem Yrun68_2 (rs ss us:List Rn) (b:Bool) (c1:(b)=false) (n1:Runs Yir 67 [.sl rs.length (pc rs)] (.bool false)) (n2:Runs Yir 67 [.sl ss.length (pc ss)] (.bool false)) (n3:Runs Yir 67 [.sl us.length (pc us)] (.bool b)):Runs Yir 68 [.sl rs.length (pc rs), .sl ss.length (pc ss), .sl us.length (pc us)] (.tup [.sl us.length (pc us), .int .i64 0]):=Runs.go (fn:=Yi68) TMC_holds rfl 400 rfl [.r (.bool false), .b false, .r (.bool false), .b false, .r (.bool b), .b false] (ac n1 (ac (show false=false from rfl) (ac n2 (ac (show false=false from rfl) (ac n3 (ac c1 a0)))))) (by kernel_rfl)
theorem Yrun18_1 (rs ss:List Rn) (d:Int) (c1:(decide (d<0))=true) (n1:Runs Yir 67 [.sl rs.length (pc rs)] (.bool false)) (n2:Runs Yir 67 [.sl ss.length (pc ss)] (.bool false)) (n3:Runs Yir 44 [.sl ss.length (pc ss)] (.int .i64 d)):Runs Yir 18 [.sl rs.length (pc rs), .sl ss.length (pc ss)] (.tup [.sl 0 [], .int .i64 3]):=Runs.go (fn:=Yi18) TMC_holds rfl 400 rfl [.r (.bool false), .b false, .r (.bool false), .b false, .r (.int .i64 d), .b true] (ac n1 (ac (show false=false from rfl) (ac n2 (ac (show false=false from rfl) (ac n3 (ac c1 a0)))))) (by kernel_rfl)
theorem Yrun18_2 (rs ss us vs:List Rn) (d e:Int) (c1:(decide (d<0))=false) (n1:Runs Yir 67 [.sl rs.length (pc rs)] (.bool false)) (n2:Runs Yir 67 [.sl ss.length (pc ss)] (.bool false)) (n3:Runs Yir 44 [.sl ss.length (pc ss)] (.int .i64 d)) (n4:Runs Yir 69 [.sl rs.length (pc rs), .sl ss.length (pc ss)] (.sl us.length (pc us))) (n5:Runs Yir 68 [.sl rs.length (pc rs), .sl ss.length (pc ss), .sl us.length (pc us)] (.tup [.sl vs.length (pc vs), .int .i64 e])):Runs Yir 18 [.sl rs.length (pc rs), .sl ss.length (pc ss)] (.tup [.sl vs.length (pc vs), .int .i64 e]):=Runs.go (fn:=Yi18) TMC_holds rfl 400 rfl [.r (.bool false), .b false, .r (.bool false), .b false, .r (.int .i64 d), .b false, .r (.sl us.length (pc us)), .r (.tup [.sl vs.length (pc vs), .int .i64 e])] (ac n1 (ac (show false=false from rfl) (ac n2 (ac (show false=false from rfl) (ac n3 (ac c1 (ac n4 (ac n5 a0)))))))) (by kernel_rfl)
theorem Yrun19_f (rs ss us vs:List Rn) (e:Int) (n1:Runs Yir 67 [.sl rs.length (pc rs)] (.bool false)) (n2:Runs Yir 67 [.sl ss.length (pc ss)] (.bool false)) (n3:Runs Yir 70 [.sl rs.length (pc rs), .sl ss.length (pc ss)] (.fresh 2 us.length (pc us))) (n4:Runs Yir 68 [.sl rs.length (pc rs), .sl ss.length (pc ss), .sl us.length (pc us)] (.tup [.sl vs.length (pc vs), .int .i64 e])):Runs Yir 19 [.sl rs.length (pc rs), .sl ss.length (pc ss)] (.tup [.sl vs.length (pc vs), .int .i64 e]):=Runs.go (fn:=Yi19) TMC_holds rfl 400 rfl [.r (.bool false), .b false, .r (.bool false), .b false, .r (.fresh 2 us.length (pc us)), .r (.tup [.sl vs.length (pc vs), .int .i64 e])] (ac n1 (ac (show false=false from rfl) (ac n2 (ac (show false=false from rfl) (ac n3 (ac n4 a0)))))) (by kernel_rfl)
theorem Yrun19_s (rs ss us vs:List Rn) (e:Int) (n1:Runs Yir 67 [.sl rs.length (pc rs)] (.bool false)) (n2:Runs Yir 67 [.sl ss.length (pc ss)] (.bool false)) (n3:Runs Yir 70 [.sl rs.length (pc rs), .sl ss.length (pc ss)] (.sl us.length (pc us))) (n4:Runs Yir 68 [.sl rs.length (pc rs), .sl ss.length (pc ss), .sl us.length (pc us)] (.tup [.sl vs.length (pc vs), .int .i64 e])):Runs Yir 19 [.sl rs.length (pc rs), .sl ss.length (pc ss)] (.tup [.sl vs.length (pc vs), .int .i64 e]):=Runs.go (fn:=Yi19) TMC_holds rfl 400 rfl [.r (.bool false), .b false, .r (.bool false), .b false, .r (.sl us.length (pc us)), .r (.tup [.sl vs.length (pc vs), .int .i64 e])] (ac n1 (ac (show false=false from rfl) (ac n2 (ac (show false=false from rfl) (ac n3 (ac n4 a0)))))) (by kernel_rfl)
theorem Yrun20 (rs us vs:List Rn) (e:Int) (n1:Runs Yir 67 [.sl rs.length (pc rs)] (.bool false)) (n2:Runs Yir 71 [.sl rs.length (pc rs)] (.sl us.length (pc us))) (n3:Runs Yir 68 [.sl rs.length (pc rs), .sl rs.length (pc rs), .sl us.length (pc us)] (.tup [.sl vs.length (pc vs), .int .i64 e])):Runs Yir 20 [.sl rs.length (pc rs)] (.tup [.sl vs.length (pc vs), .int .i64 e]):=Runs.go (fn:=Yi20) TMC_holds rfl 400 rfl [.r (.bool false), .b false, .r (.sl us.length (pc us)), .r (.tup [.sl vs.length (pc vs), .int .i64 e])] (ac n1 (ac (show false=false from rfl) (ac n2 (ac n3 a0)))) (by kernel_rfl)
theorem Yrun21 (rs:List Rn) (e:Int) (c1:(e==e)=true) (n1:Runs Yir 28 [.sl rs.length (pc rs), .sl rs.length (pc rs)] (.bool true)):Runs Yir 21 [.sl rs.length (pc rs), .int .i64 e, .sl rs.length (pc rs), .int .i64 e] (.bool true):=Runs.go (fn:=Yi21) TMC_holds rfl 400 rfl [.b true, .r (.bool true)] (ac c1 (ac n1 a0)) (by kernel_rfl)
theorem Yrun3_1 (rs ss:List Rn) (c1:(decide ((rs.length:Int)>9))=true) (n1:Runs Yir 13 [] (.bool true)):Runs Yir 3 [.sl rs.length (pc rs), .sl ss.length (pc ss)] (.bool true):=Runs.go (fn:=Yi3) TMC_holds rfl 400 rfl [.r (.bool true), .b false, .b true, .b true, .b true, .b true, .r (.bool true)] (ac n1 (ac (show false=false from rfl) (ac c1 (ac (show true=true from rfl) (ac (show true=true from rfl) (ac (show true=true from rfl) (ac n1 a0))))))) (by kernel_rfl)
theorem Yrun3_2 (rs ss:List Rn) (c1:(decide ((rs.length:Int)>9))=false) (c2:(decide ((ss.length:Int)>9))=true) (n1:Runs Yir 13 [] (.bool true)):Runs Yir 3 [.sl rs.length (pc rs), .sl ss.length (pc ss)] (.bool true):=Runs.go (fn:=Yi3) TMC_holds rfl 400 rfl [.r (.bool true), .b false, .b false, .b true, .b true, .b true, .r (.bool true)] (ac n1 (ac (show false=false from rfl) (ac c1 (ac c2 (ac (show true=true from rfl) (ac (show true=true from rfl) (ac n1 a0))))))) (by kernel_rfl)
theorem Yrun3_3 (rs ss as1 bs cs:List Rn) (ae be ce:Int) (f_rs f_ss:Bool) (c1:(decide ((rs.length:Int)>9))=false) (c2:(decide ((ss.length:Int)>9))=false) (c3:(f_rs)=true) (c4:(f_ss)=true) (n1:Runs Yir 13 [] (.bool true)) (n2:Runs Yir 14 [.sl rs.length (pc rs)] (.bool f_rs)) (n3:Runs Yir 14 [.sl ss.length (pc ss)] (.bool f_ss)) (n4:Runs Yir 15 [.sl rs.length (pc rs), .sl ss.length (pc ss)] (.tup [.sl as1.length (pc as1), .int .i64 ae])) (n5:Runs Yir 16 [.sl rs.length (pc rs), .sl ss.length (pc ss)] (.tup [.sl bs.length (pc bs), .int .i64 be])) (n6:Runs Yir 17 [.sl rs.length (pc rs)] (.tup [.sl cs.length (pc cs), .int .i64 ce])) (n7:Runs Yir 18 [.sl rs.length (pc rs), .sl ss.length (pc ss)] (.tup [.sl as1.length (pc as1), .int .i64 ae])) (n8:Runs Yir 19 [.sl rs.length (pc rs), .sl ss.length (pc ss)] (.tup [.sl bs.length (pc bs), .int .i64 be])) (n9:Runs Yir 20 [.sl rs.length (pc rs)] (.tup [.sl cs.length (pc cs), .int .i64 ce])) (n10:Runs Yir 21 [.sl as1.length (pc as1), .int .i64 ae, .sl as1.length (pc as1), .int .i64 ae] (.bool true)) (n11:Runs Yir 21 [.sl bs.length (pc bs), .int .i64 be, .sl bs.length (pc bs), .int .i64 be] (.bool true)) (n12:Runs Yir 21 [.sl cs.length (pc cs), .int .i64 ce, .sl cs.length (pc cs), .int .i64 ce] (.bool true)):Runs Yir 3 [.sl rs.length (pc rs), .sl ss.length (pc ss)] (.bool true):=Runs.go (fn:=Yi3) TMC_holds rfl 400 rfl [.r (.bool true), .b false, .b false, .b false, .r (.bool f_rs), .b false, .r (.bool f_ss), .b false, .r (.tup [.sl as1.length (pc as1), .int .i64 ae]), .r (.tup [.sl bs.length (pc bs), .int .i64 be]), .r (.tup [.sl cs.length (pc cs), .int .i64 ce]), .r (.tup [.sl as1.length (pc as1), .int .i64 ae]), .r (.tup [.sl bs.length (pc bs), .int .i64 be]), .r (.tup [.sl cs.length (pc cs), .int .i64 ce]), .r (.bool true), .b true, .r (.bool true), .b true, .r (.bool true)] (ac n1 (ac (show false=false from rfl) (ac c1 (ac c2 (ac n2 (ac (show (!f_rs)=false from (by rw [c3];rfl)) (ac n3 (ac (show (!f_ss)=false from (by rw [c4];rfl)) (ac n4 (ac n5 (ac n6 (ac n7 (ac n8 (ac n9 (ac n10 (ac (show true=true from rfl) (ac n11 (ac (show true=true from rfl) (ac n12 a0))))))))))))))))))) (by kernel_rfl)
theorem Yrun3_4 (rs ss:List Rn) (f_rs f_ss:Bool) (c1:(decide ((rs.length:Int)>9))=false) (c2:(decide ((ss.length:Int)>9))=false) (c3:(f_rs)=true) (c4:(f_ss)=false) (n1:Runs Yir 13 [] (.bool true)) (n2:Runs Yir 14 [.sl rs.length (pc rs)] (.bool f_rs)) (n3:Runs Yir 14 [.sl ss.length (pc ss)] (.bool f_ss)):Runs Yir 3 [.sl rs.length (pc rs), .sl ss.length (pc ss)] (.bool true):=Runs.go (fn:=Yi3) TMC_holds rfl 400 rfl [.r (.bool true), .b false, .b false, .b false, .r (.bool f_rs), .b false, .r (.bool f_ss), .b true, .r (.bool true)] (ac n1 (ac (show false=false from rfl) (ac c1 (ac c2 (ac n2 (ac (show (!f_rs)=false from (by rw [c3];rfl)) (ac n3 (ac (show (!f_ss)=true from (by rw [c4];rfl)) (ac n1 a0))))))))) (by kernel_rfl)
theorem Yrun3_5 (rs ss:List Rn) (f_rs:Bool) (c1:(decide ((rs.length:Int)>9))=false) (c2:(decide ((ss.length:Int)>9))=false) (c3:(f_rs)=false) (n1:Runs Yir 13 [] (.bool true)) (n2:Runs Yir 14 [.sl rs.length (pc rs)] (.bool f_rs)):Runs Yir 3 [.sl rs.length (pc rs), .sl ss.length (pc ss)] (.bool true):=Runs.go (fn:=Yi3) TMC_holds rfl 400 rfl [.r (.bool true), .b false, .b false, .b false, .r (.bool f_rs), .b true, .b true, .r (.bool true)] (ac n1 (ac (show false=false from rfl) (ac c1 (ac c2 (ac n2 (ac (show (!f_rs)=true from (by rw [c3];rfl)) (ac (show true=true from rfl) (ac n1 a0)))))))) (by kernel_rfl)
end Go.Proofs.Ythnnfemologhfaa

namespace Go.Proofs.Ythnnfemologhfaa
open Go.IntKind (i64 u64 u32)
open Go.Ai
set_option maxRecDepth 100000
theorem r2large_small {rs:List Rn} {K:Nat} (hg:∀ r∈rs,Good K r) (hK:K≤256) (hl:rs.length≤17):Runs Yir 67 [.sl rs.length (pc rs)] (.bool false):=by
 have h:=r2large_run (rs:=rs) (fun r hr=>(hg r hr).mono (by omega)) (by omega)
 rwa [small_vals hg hK hl] at h
theorem qsized_run {rs ss:List Rn} {K L:Nat} (hr:∀ r∈rs,Good K r) (hK:K≤256) (hl:rs.length≤17) (hs:∀ r∈ss,Good L r) (hL:L≤256) (hl':ss.length≤17) {p:List Int} (hp:Kb 256 p) (hn:p.length≤17) :
  RunsT 68 [.sl rs.length (pc rs), .sl ss.length (pc ss), .sl (p.map cn).length (pc (p.map cn))] p :=
 Yrun68_2 rs ss (p.map cn) false rfl (r2large_small hr hK hl) (r2large_small hs hL hl') (r2large_small (mcn_good hp) (Nat.le_refl _) (by rw [List.length_map];exact hn))
theorem same_run {p:List Int} {K:Nat} (e:Int) (hp:Kb K p) (hK:K≤1048576) (hl:p.length≤1048576):Runs Yir 21 [.sl (p.map cn).length (pc (p.map cn)), .int .i64 e, .sl (p.map cn).length (pc (p.map cn)), .int .i64 e] (.bool true) :=
 Yrun21 (p.map cn) e (beq_self_eq_true _) (same2_run (fun r hr=>(mcn_good hp r hr).mono hK) (by rw [List.length_map];exact hl))
theorem kb_nil (K:Nat):Kb K []:=fun i=>by simp;exact fits_zero _
section
variable {rs ss:List Rn} (hr:∀ r∈rs,Good 6 r) (hs:∀ r∈ss,Good 6 r) (hn:rs.length≤9) (hm:ss.length≤9)
include hr hs hn hm
theorem rem_both:∃ (p:List Int) (e:Int),Kb 256 p∧p.length≤17∧Runs Yir 15 [.sl rs.length (pc rs), .sl ss.length (pc ss)] (.tup [.sl (p.map cn).length (pc (p.map cn)), .int .i64 e])∧Runs Yir 18 [.sl rs.length (pc rs), .sl ss.length (pc ss)] (.tup [.sl (p.map cn).length (pc (p.map cn)), .int .i64 e]):=by
 have hlg:=large2 hr (by omega) (by omega) hs (by omega) (by omega)
 have l1:=r2large_small hr (by omega) (by omega)
 have l2:=r2large_small hs (by omega) (by omega)
 have hdeg:=degree_run (rs:=ss) (fun r h=>(hs r h).mono (by omega)) (by omega)
 have e:(trimL (vals ss)).length=topN (vals ss) ss.length:=by rw [trim_length,vals_length]
 have hdeg2:=r2degree_run (rs:=ss) (fun r h=>(hs r h).mono (by omega)) (by omega)
 rw [e] at hdeg2
 by_cases h0:trimL (vals ss)=[]
 ·have hz:(trimL (vals ss)).length=0:=by rw [h0];rfl
  refine ⟨[],3,kb_nil _,by simp,?_,?_⟩
  ·exact Yrun15_1 rs ss _ (by rw [decide_eq_true_eq];omega) hlg hdeg
  ·exact Yrun18_1 rs ss _ (by rw [decide_eq_true_eq];omega) l1 l2 hdeg2
 ·have hp:prim (vals ss) ≠ []:=by intro h;rw [prim_nil,← trim_nil] at h;exact h0 h
  have hl1:(prim (vals rs)).length≤9:=by rw [prim_length];have:=trim_vals_len rs;omega
  have ht1:(trimL (vals rs)).length≤9:=by have:=trim_vals_len rs;omega
  have hl2:(prim (vals ss)).length≤9:=by rw [prim_length];have:=trim_vals_len ss;omega
  have hpos:=List.length_pos_iff.2 h0
  have hpp:=List.length_pos_iff.2 hp
  have k1:Kb 6 (prim (vals rs)):=(kb_of (fits_vals hr)).prim
  have k2:Kb 6 (prim (vals ss)):=(kb_of (fits_vals hs)).prim
  obtain ⟨_,a2,a3⟩:=restN_ok hp k2 (prim (vals rs)).length (prim (vals rs)) 6 (Nat.le_refl _) (lead_prim _) k1
  have hb:((prim (vals rs)).length+1-(prim (vals ss)).length)*(6+1)≤9*7:=Nat.mul_le_mul_right _ (by omega)
  have hb2:((trimL (vals rs)).length+1-(trimL (vals ss)).length)*(6+1)≤9*7:=Nat.mul_le_mul_right _ (by omega)
  have r1:=aremainder_run hr hs (by omega) (by omega) (by omega) (by omega) hp (by omega)
  have r2:=qrest_run hr hs (by omega) (by omega) (by omega) (by omega) h0 (by omega)
  have kp:Kb 256 (prest (prim (vals rs)) (prim (vals ss))):=a3.mono (by omega)
  have lp:(prest (prim (vals rs)) (prim (vals ss))).length≤17:=by unfold prest;omega
  refine ⟨prest (prim (vals rs)) (prim (vals ss)),0,kp,lp,?_,?_⟩
  ·exact Yrun15_2 rs ss _ _ (by rw [decide_eq_false_iff_not];omega) hlg hdeg (fr_cn r1) (sized_run kp lp)
  ·exact Yrun18_2 rs ss _ _ _ _ (by rw [decide_eq_false_iff_not];omega) l1 l2 hdeg2 r2 (qsized_run hr (by omega) (by omega) hs (by omega) (by omega) kp lp)
theorem gcd_both:∃ p:List Int,Kb 256 p∧p.length≤17∧RunsT 16 [.sl rs.length (pc rs), .sl ss.length (pc ss)] p∧RunsT 19 [.sl rs.length (pc rs), .sl ss.length (pc ss)] p:=by
 have hlg:=large2 hr (by omega) (by omega) hs (by omega) (by omega)
 have l1:=r2large_small hr (by omega) (by omega)
 have l2:=r2large_small hs (by omega) (by omega)
 have h1:=acommon_run hr hs hn hm (by omega) (by decide)
 have h2:=qcommon_run hr hs hn hm (by omega) (by decide)
 change RunsP 65 _ (pcom (vals rs) (vals ss)) at h1
 change RunsP 70 _ (pcom (vals rs) (vals ss)) at h2
 have t1:=trim_vals_len rs
 have t2:=trim_vals_len ss
 have hk:Kb 256 (pcom (vals rs) (vals ss))∧(pcom (vals rs) (vals ss)).length≤17:=by
  by_cases h0:trimL (vals rs)=[]
  ·have hz:prim (vals rs)=[]:=by rw [prim_nil,← trim_nil];exact h0
   have e:pgcd (prim (vals rs)) (prim (vals ss))=prim (vals ss):=by
    rw [hz];unfold pgcd
    split
    ·rename_i h
     have:prim (vals ss)=[]:=List.eq_nil_of_length_eq_zero (by simpa using h)
     rw [this];rfl
    ·rfl
   have k2:Kb 6 (prim (vals ss)):=(kb_of (fits_vals hs)).prim
   unfold pcom
   rw [e]
   refine ⟨?_,by rw [ppos_length,prim_length];omega⟩
   unfold ppos;split
   ·intro i;rw [getD_pneg];exact ((k2 i).mono (by omega)).neg
   ·exact k2.mono (by omega)
  ·obtain ⟨k1,k2⟩:=kb_pcom (t:=vals ss) h0 (by rw [vals_length];omega) (kb_of (fits_vals hr))
   exact ⟨k1.mono (by omega),by omega⟩
 obtain ⟨kp,lp⟩:=hk
 refine ⟨_,kp,lp,?_,?_⟩
 ·rcases h1 with h | h
  ·exact Yrun16_f rs ss _ hlg h (sized_run kp lp)
  ·exact Yrun16_s rs ss _ hlg h (sized_run kp lp)
 ·have hsz:=qsized_run hr (by omega) (by omega) hs (by omega) (by omega) kp lp
  rcases h2 with h | h
  ·exact Yrun19_f rs ss _ _ _ l1 l2 h hsz
  ·exact Yrun19_s rs ss _ _ _ l1 l2 h hsz
end
theorem free_both {rs:List Rn} (hr:∀ r∈rs,Good 6 r) (hn:rs.length≤9):∃ p:List Int,Kb 256 p∧p.length≤17∧RunsT 17 [.sl rs.length (pc rs)] p∧RunsT 20 [.sl rs.length (pc rs)] p:=by
 have hlg:=large1 hr (by omega) (by omega)
 have l1:=r2large_small hr (by omega) (by omega)
 have h1:=afree_run hr hn (by omega) (by decide)
 have h2:=qsimple_run hr hn (by omega) (by decide)
 have t1:=trim_vals_len rs
 have hk:Kb 256 (pfree (vals rs))∧(pfree (vals rs)).length≤17:=by
  by_cases h0:trimL (vals rs)=[]
  ·have hz:prim (vals rs)=[]:=by rw [prim_nil,← trim_nil];exact h0
   have e:pfree (vals rs)=[]:=by unfold pfree;rw [hz];rfl
   rw [e];exact ⟨kb_nil _,by simp⟩
  ·obtain ⟨k1,k2⟩:=kb_pfree h0 (by rw [vals_length];omega) (kb_of (fits_vals hr))
   exact ⟨k1.mono (by omega),by omega⟩
 obtain ⟨kp,lp⟩:=hk
 refine ⟨_,kp,lp,?_,?_⟩
 ·rcases h1 with h | h
  ·exact Yrun17_f rs _ hlg h (sized_run kp lp)
  ·exact Yrun17_s rs _ hlg h (sized_run kp lp)
 ·exact Yrun20 rs _ _ _ l1 h2 (qsized_run hr (by omega) (by omega) hr (by omega) (by omega) kp lp)
theorem prem_run {rs ss:List Rn} (h1:∀ r∈rs,U32 r.2) (h2:∀ r∈ss,U32 r.2):Runs Yir 3 [.sl rs.length (pc rs), .sl ss.length (pc ss)] (.bool true):=by
 have haw:=Yrun13
 by_cases c1:rs.length>9
 ·exact Yrun3_1 rs ss (by rw [decide_eq_true_eq];omega) haw
 by_cases c2:ss.length>9
 ·exact Yrun3_2 rs ss (by rw [decide_eq_false_iff_not];omega) (by rw [decide_eq_true_eq];omega) haw
 have d1:decide ((rs.length:Int)>9)=false:=by rw [decide_eq_false_iff_not];omega
 have d2:decide ((ss.length:Int)>9)=false:=by rw [decide_eq_false_iff_not];omega
 have f1:=few_run rs
 have f2:=few_run ss
 cases b1:fewB 10 6 rs with
 | false=>rw [b1] at f1;exact Yrun3_5 rs ss false d1 d2 rfl haw f1
 | true =>
  rw [b1] at f1
  cases b2:fewB 10 6 ss with
  | false=>rw [b2] at f2;exact Yrun3_4 rs ss true false d1 d2 rfl rfl haw f1 f2
  | true =>
   rw [b2] at f2
   obtain ⟨_,hr⟩:=fewB_yes b1 h1
   obtain ⟨_,hs⟩:=fewB_yes b2 h2
   obtain ⟨p,e,kp,lp,x1,x2⟩:=rem_both hr hs (by omega) (by omega)
   obtain ⟨g,kg,lg,y1,y2⟩:=gcd_both hr hs (by omega) (by omega)
   obtain ⟨f,kf,lf,z1,z2⟩:=free_both hr (by omega)
   exact Yrun3_3 rs ss (p.map cn) (g.map cn) (f.map cn) e 0 0 true true d1 d2 rfl rfl haw f1 f2 x1 y1 z1 x2 y2 z2
    (same_run e kp (by omega) (by omega)) (same_run 0 kg (by omega) (by omega)) (same_run 0 kf (by omega) (by omega))
end Go.Proofs.Ythnnfemologhfaa
