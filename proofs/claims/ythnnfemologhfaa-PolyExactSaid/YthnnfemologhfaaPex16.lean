/- Texts of the proof of PolyExact, packed by pack.py: part 16 of 19. -/
import Derived.Test.YthnnfemologhfaaPex15
namespace Go.Proofs.Ythnnfemologhfaa
open Go.IntKind (i64 u64 u32)
open Go.Ai
set_option maxRecDepth 100000
theorem trimL_limbs2 {xs:List Int} (hu:U32 xs) (neg:Bool):decide (256<(trimL xs).length)=bigC (rv neg xs):=by
 unfold bigC
 rw [trimL_rv (neg:=neg) hu]
theorem r2large_run {rs:List Rn} (hg:∀ r∈rs,Good 1048576 r) (hN:rs.length≤1048576):Runs Yir 67 [.sl rs.length (pc rs)] (.bool (largeV (vals rs))):=by
 have htr:=qtrim_run hg hN
 have hl:=trim_len (vals rs)
 rw [vals_length] at hl
 have hf:∀ x∈trimL (vals rs),Fits 1048576 x:=fits_mem_trim (fits_vals hg)
 have gts:=good_cns hf
 have hvs:=vals_cn (trimL (vals rs))
 have hpk:pk (trimL (vals rs))=pc ((trimL (vals rs)).map cn):=rfl
 rw [hpk,← List.length_map (f:=cn)] at htr
 have hlm:((trimL (vals rs)).map cn).length=(trimL (vals rs)).length:=List.length_map ..
 have hgd:∀ t,rval (((trimL (vals rs)).map cn).getD t z0)=(trimL (vals rs)).getD t 0:=fun t=>by rw [← vals_getD,hvs]
 generalize (trimL (vals rs)).map cn=ts at *
 have e1:i64.wrap ((ts.length:Int)-1)=(ts.length:Int)-1:=w64 (by omega) (by omega)
 have hcall:∀ t,Runs Yir 79 [.agg [.bool (ts.getD t z0).1, .sl (ts.getD t z0).2.length (lm (ts.getD t z0).2)]] (.bool (bigC ((trimL (vals rs)).getD t 0))):=fun t=>by
  obtain ⟨g1,g2⟩:=good_getD gts t
  have h:=rlarge_run (neg:=(ts.getD t z0).1) (xs:=(ts.getD t z0).2) g2
  rw [trimL_limbs2 g1 (ts.getD t z0).1,show rv (ts.getD t z0).1 (ts.getD t z0).2=rval (ts.getD t z0) from rfl,hgd] at h
  exact h
 have step:∀ t:Nat,t<ts.length→bigC ((trimL (vals rs)).getD t 0)=false→RunsW Yir Yc67 (Ys67 false ts (t:Nat)) .norm (Ys67 false ts ((t+1:Nat):Int)):=by
  intro t ht hb
  have ei:i64.wrap ((t:Int)+1)=((t+1:Nat):Int):=by rw [w64 (by omega) (by omega)];omega
  have hc:=hcall t
  rw [hb] at hc
  have k2:=Yk67_2 false ts (t:Nat) false (by simp;omega) rfl (by omega) (by rw [Int.toNat_natCast];exact hc)
  rwa [ei] at k2
 by_cases h17:(trimL (vals rs)).length≤17
 ·have c1:decide (i64.wrap ((ts.length:Int)-1)>16)=false:=by rw [e1,decide_eq_false_iff_not];omega
  rcases first_from (fun j=>bigC ((trimL (vals rs)).getD j 0)) ts.length _ 0 (by rw [Nat.zero_add]) with h | ⟨j,_,h2,h3,h4⟩
  ·have hf:largeV (vals rs)=false:=by
    unfold largeV
    rw [decide_eq_false (by omega),Bool.false_or,List.any_eq_false]
    intro x hx
    obtain ⟨i,hi,rfl⟩:=List.mem_iff_getElem.1 hx
    have:=h i (by omega) (by omega)
    rw [List.getD_eq_getElem?_getD,List.getElem?_eq_getElem hi] at this
    simpa using this
   rw [hf]
   exact Yrun67_n_2 rs ts _ c1 htr (RunsW.upTo (prog:=Yir) (c:=Yc67) (ex := .exit 0) (fun t=>Ys67 false ts (t:Nat)) ts.length (by intro e;cases e) (Yk67_3 false ts _ (by simp)) 0 (Nat.zero_le _) (fun t _ h6=>step t h6 (h t (by omega) h6)))
  ·have hf:largeV (vals rs)=true:=by
    unfold largeV
    rw [decide_eq_false (by omega),Bool.false_or,List.any_eq_true]
    refine ⟨(trimL (vals rs)).getD j 0,?_,h3⟩
    rw [List.getD_eq_getElem?_getD,List.getElem?_eq_getElem (by omega)]
    exact List.getElem_mem _
   rw [hf]
   have hc:=hcall j
   rw [h3] at hc
   have out:=Yk67_1 false ts (j:Nat) true (by simp;omega) rfl (by omega) (by rw [Int.toNat_natCast];exact hc)
   exact Yrun67_y_2 rs ts _ c1 htr (RunsW.upTo (prog:=Yir) (c:=Yc67) (ex := .ret) (fun t=>Ys67 false ts (t:Nat)) j (by intro e;cases e) out 0 (Nat.zero_le _) (fun t _ h6=>step t (by omega) (h4 t (by omega) h6)))
 ·have hf:largeV (vals rs)=true:=by unfold largeV;rw [decide_eq_true (by omega)];rfl
  rw [hf]
  exact Yrun67_n_1 rs ts (by rw [e1,decide_eq_true_eq];omega) htr
theorem r2degree_run {rs:List Rn} (hg:∀ r∈rs,Good 1048576 r) (hN:rs.length≤1048576):Runs Yir 44 [.sl rs.length (pc rs)] (.int .i64 (((trimL (vals rs)).length:Nat)-1:Int)):=by
 have htr:=qtrim_run hg hN
 have hl:=trim_len (vals rs)
 rw [vals_length] at hl
 have hpk:pk (trimL (vals rs))=pc ((trimL (vals rs)).map cn):=rfl
 rw [hpk,← List.length_map (f:=cn)] at htr
 have h:=Yrun44 rs _ htr
 rw [w64 (by omega) (by rw [List.length_map];omega),List.length_map] at h
 exact h
section
variable {K X:Nat} {rs:List Rn} {r:Rn} {e:Int}
end
def TGB:Table:=TGA
theorem TGB_holds:THolds Yir TGB:=TGA_holds
end Go.Proofs.Ythnnfemologhfaa

namespace Go.Proofs.Ythnnfemologhfaa
open Go.IntKind (i64 u64 u32)
open Go.Ai
set_option maxRecDepth 100000
def Ys14 (o:Bool) (rs:List Rn) (i:Int):State:=(.val (.sl rs.length (pc rs))::(dds 1 (.val (.bool o)::(.val (.int .i64 i)::(dds 16 [])))))
theorem Yk14_1 (o:Bool) (rs:List Rn) (i:Int)  (c1:(decide (i<(rs.length:Int)))=true) (c2:(decide ((((rs.getD (Int.toNat i) z0).2.length:Nat):Int)>6))=true) (n1:0≤i∧i<(rs.length:Int)):RunsW Yir Yc14 (Ys14 o rs i) .ret (Ys14 false rs i):=(RunsW.go TGB_holds 400 [.b true, .v (.sl ((rs.getD (Int.toNat i) z0).2.length) (lm (rs.getD (Int.toNat i) z0).2)), .b true] [0,2,3] (ac c1 (ac n1 (ac (take_pcL n1) (ac c2 a0)))) (by kernel_rfl))
theorem Yk14_2 (o:Bool) (rs:List Rn) (i:Int)  (c1:(decide (i<(rs.length:Int)))=true) (c2:(decide ((((rs.getD (Int.toNat i) z0).2.length:Nat):Int)>6))=false) (n1:0≤i∧i<(rs.length:Int)):RunsW Yir Yc14 (Ys14 o rs i) .norm (Ys14 o rs (i64.wrap (i+1))):=(RunsW.go TGB_holds 400 [.b true, .v (.sl ((rs.getD (Int.toNat i) z0).2.length) (lm (rs.getD (Int.toNat i) z0).2)), .b false] [0,2,3] (ac c1 (ac n1 (ac (take_pcL n1) (ac c2 a0)))) (by kernel_rfl))
theorem Yk14_3 (o:Bool) (rs:List Rn) (i:Int)  (c1:(decide (i<(rs.length:Int)))=false):RunsW Yir Yc14 (Ys14 o rs i) (.exit 0) (Ys14 o rs i):=(RunsW.go TGB_holds 400 [.b false] [0,2,3] (ac c1 a0) (by kernel_rfl))
theorem Yrun14_n_1 (rs:List Rn) (c1:(decide ((rs.length:Int)>10))=true):Runs Yir 14 [.sl rs.length (pc rs)] (.bool false):=Runs.of_bodyW (fn:=Yi14) (s:=(dds 2 (.val (.bool false)::(dds 17 [])))) (ex := .ret) rfl rfl (RunsW.seq (RunsW.go (t:=(vp rs::(dds 1 (.val (.bool false)::(dds 17 []))))) (ex := .norm) TGB_holds 400 [] [0,2] a0 (by kernel_rfl)) (RunsW.seq_out (RunsW.go TGB_holds 400 [.b true] [2] (ac c1 a0) (by kernel_rfl)) (by intro e;cases e))) (by intro i e;cases e) rfl
theorem Yrun14_n_2 (rs:List Rn) (i:Int) (c1:(decide ((rs.length:Int)>10))=false) (hl1:RunsW Yir (.loop Yc14) (Ys14 false rs 0) .ret (Ys14 false rs i)):Runs Yir 14 [.sl rs.length (pc rs)] (.bool false):=Runs.of_bodyW (fn:=Yi14) (s:=(.val (.sl rs.length (pc rs))::(dds 1 (.val (.bool false)::(.val (.int .i64 i)::(dds 16 [])))))) (ex := .ret) rfl rfl (RunsW.seq (RunsW.go (t:=(vp rs::(dds 1 (.val (.bool false)::(dds 17 []))))) (ex := .norm) TGB_holds 400 [] [0,2] a0 (by kernel_rfl)) (RunsW.seq (RunsW.go (t:=(vp rs::(dds 1 (.val (.bool false)::(dds 3 (.val (.bool (decide ((rs.length:Int)>10)))::(dds 13 []))))))) (ex := .norm) TGB_holds 400 [.b false] [0,2,6] (ac c1 a0) (by kernel_rfl)) (RunsW.seq_out (RunsW.seq (RunsW.go TGB_holds 400 [] [0,2,3] a0 (by kernel_rfl)) (RunsW.block_ret hl1)) (by intro e;cases e)))) (by intro i e;cases e) rfl
theorem Yrun14_y_2 (rs:List Rn) (i:Int) (c1:(decide ((rs.length:Int)>10))=false) (hl1:RunsW Yir (.loop Yc14) (Ys14 false rs 0) (.exit 0) (Ys14 false rs i)):Runs Yir 14 [.sl rs.length (pc rs)] (.bool true):=Runs.of_bodyW (fn:=Yi14) (s:=(dds 2 (.val (.bool true)::(dds 17 [])))) (ex := .ret) rfl rfl (RunsW.seq (RunsW.go (t:=(vp rs::(dds 1 (.val (.bool false)::(dds 17 []))))) (ex := .norm) TGB_holds 400 [] [0,2] a0 (by kernel_rfl)) (RunsW.seq (RunsW.go (t:=(vp rs::(dds 1 (.val (.bool false)::(dds 3 (.val (.bool (decide ((rs.length:Int)>10)))::(dds 13 []))))))) (ex := .norm) TGB_holds 400 [.b false] [0,2,6] (ac c1 a0) (by kernel_rfl)) (RunsW.seq (RunsW.seq (RunsW.go TGB_holds 400 [] [0,2,3] a0 (by kernel_rfl)) (RunsW.block hl1)) (RunsW.go TGB_holds 400 [] [2] a0 (by kernel_rfl))))) (by intro i e;cases e) rfl
def fewB (n m:Nat) (rs:List Rn):Bool:=decide (rs.length≤n)&&rs.all (fun r=>decide (r.2.length≤m))
theorem fewB_yes {n m:Nat} {rs:List Rn} (h:fewB n m rs=true) (hu:∀ r∈rs,U32 r.2):rs.length≤n∧∀ r∈rs,Good m r:=by
 unfold fewB at h
 rw [Bool.and_eq_true,decide_eq_true_eq,List.all_eq_true] at h
 exact ⟨h.1,fun r hr=>⟨hu r hr,by simpa using h.2 r hr⟩⟩
theorem few_run (rs:List Rn):Runs Yir 14 [.sl rs.length (pc rs)] (.bool (fewB 10 6 rs)):=by
 unfold fewB
 by_cases h10:rs.length≤10
 ·rw [decide_eq_true h10,Bool.true_and]
  have c1:decide ((rs.length:Int)>10)=false:=by rw [decide_eq_false_iff_not];omega
  have step:∀ t:Nat,t<rs.length→(rs.getD t z0).2.length≤6→RunsW Yir Yc14 (Ys14 false rs (t:Nat)) .norm (Ys14 false rs ((t+1:Nat):Int)):=by
   intro t ht hb
   have ei:i64.wrap ((t:Int)+1)=((t+1:Nat):Int):=by rw [w64 (by omega) (by omega)];omega
   have k2:=Yk14_2 false rs (t:Nat) (by simp;omega) (by rw [Int.toNat_natCast,decide_eq_false_iff_not];omega) (by omega)
   rwa [ei] at k2
  rcases first_from (fun j => !decide ((rs.getD j z0).2.length≤6)) rs.length _ 0 (by rw [Nat.zero_add]) with h | ⟨j,_,h2,h3,h4⟩
  ·have hall:(rs.all fun r=>decide (r.2.length≤6))=true:=by
    rw [List.all_eq_true]
    intro r hr
    obtain ⟨i,hi,rfl⟩:=List.mem_iff_getElem.1 hr
    have:=h i (by omega) hi
    rw [List.getD_eq_getElem?_getD,List.getElem?_eq_getElem hi] at this
    simpa using this
   rw [hall]
   exact Yrun14_y_2 rs _ c1 (RunsW.upTo (prog:=Yir) (c:=Yc14) (ex := .exit 0) (fun t=>Ys14 false rs (t:Nat)) rs.length (by intro e;cases e) (Yk14_3 false rs _ (by simp)) 0 (Nat.zero_le _) (fun t _ h6=>step t h6 (by simpa using h t (by omega) h6)))
  ·have hall:(rs.all fun r=>decide (r.2.length≤6))=false:=by
    rw [List.all_eq_false]
    refine ⟨rs.getD j z0,?_,by simpa using h3⟩
    rw [List.getD_eq_getElem?_getD,List.getElem?_eq_getElem h2]
    exact List.getElem_mem h2
   rw [hall]
   have h3':¬ (rs.getD j z0).2.length≤6:=by simpa using h3
   have out:=Yk14_1 false rs (j:Nat) (by simp;omega) (by rw [Int.toNat_natCast,decide_eq_true_eq];omega) (by omega)
   exact Yrun14_n_2 rs _ c1 (RunsW.upTo (prog:=Yir) (c:=Yc14) (ex := .ret) (fun t=>Ys14 false rs (t:Nat)) j (by intro e;cases e) out 0 (Nat.zero_le _) (fun t _ h6=>step t (by omega) (by simpa using h4 t (by omega) h6)))
 ·rw [decide_eq_false h10,Bool.false_and]
  exact Yrun14_n_1 rs (by rw [decide_eq_true_eq];omega)
end Go.Proofs.Ythnnfemologhfaa

namespace Go.Proofs.Ythnnfemologhfaa
open Go.IntKind (i64 u64 u32)
open Go.Ai
set_option maxRecDepth 100000
theorem Yrun68_1 (rs ss us:List Rn) (b:Bool) (c1:(b)=true) (n1:Runs Yir 67 [.sl rs.length (pc rs)] (.bool false)) (n2:Runs Yir 67 [.sl ss.length (pc ss)] (.bool false)) (n3:Runs Yir 67 [.sl us.length (pc us)] (.bool b)):Runs Yir 68 [.sl rs.length (pc rs), .sl ss.length (pc ss), .sl us.length (pc us)] (.tup [.sl 0 [], .int .i64 2]):=Runs.go (fn:=Yi68) TMC_holds rfl 400 rfl [.r (.bool false), .b false, .r (.bool false), .b false, .r (.bool b), .b true] (ac n1 (ac (show false=false from rfl) (ac n2 (ac (show false=false from rfl) (ac n3 (ac c1 a0)))))) (by kernel_rfl)
theorem Yrun68_2 (rs ss us:List Rn) (b:Bool) (c1:(b)=false) (n1:Runs Yir 67 [.sl rs.length (pc rs)] (.bool false)) (n2:Runs Yir 67 [.sl ss.length (pc ss)] (.bool false)) (n3:Runs Yir 67 [.sl us.length (pc us)] (.bool b)):Runs Yir 68 [.sl rs.length (pc rs), .sl ss.length (pc ss), .sl us.length (pc us)] (.tup [.sl us.length (pc us), .int .i64 0]):=Runs.go (fn:=Yi68) TMC_holds rfl 400 rfl [.r (.bool false), .b false, .r (.bool false), .b false, .r (.bool b), .b false] (ac n1 (ac (show false=false from rfl) (ac n2 (ac (show false=false from rfl) (ac n3 (ac c1 a0)))))) (by kernel_rfl)
theorem Yrun35 (rs ss us vs:List Rn) (e:Int) (n1:Runs Yir 87 [.sl rs.length (pc rs), .sl ss.length (pc ss)] (.fresh 2 us.length (pc us))) (n2:Runs Yir 68 [.sl rs.length (pc rs), .sl ss.length (pc ss), .sl us.length (pc us)] (.tup [.sl vs.length (pc vs), .int .i64 e])):Runs Yir 35 [.sl rs.length (pc rs), .sl ss.length (pc ss)] (.tup [.sl vs.length (pc vs), .int .i64 e]):=Runs.go (fn:=Yi35) TMC_holds rfl 400 rfl [.r (.fresh 2 us.length (pc us)), .r (.tup [.sl vs.length (pc vs), .int .i64 e])] (ac n1 (ac n2 a0)) (by kernel_rfl)
theorem Yrun36 (rs ss us vs:List Rn) (e:Int) (n1:Runs Yir 88 [.sl rs.length (pc rs), .sl ss.length (pc ss)] (.fresh 2 us.length (pc us))) (n2:Runs Yir 68 [.sl rs.length (pc rs), .sl ss.length (pc ss), .sl us.length (pc us)] (.tup [.sl vs.length (pc vs), .int .i64 e])):Runs Yir 36 [.sl rs.length (pc rs), .sl ss.length (pc ss)] (.tup [.sl vs.length (pc vs), .int .i64 e]):=Runs.go (fn:=Yi36) TMC_holds rfl 400 rfl [.r (.fresh 2 us.length (pc us)), .r (.tup [.sl vs.length (pc vs), .int .i64 e])] (ac n1 (ac n2 a0)) (by kernel_rfl)
theorem Yrun37 (rs ss xs ys us vs:List Rn) (e:Int) (n1:Runs Yir 67 [.sl rs.length (pc rs)] (.bool false)) (n2:Runs Yir 67 [.sl ss.length (pc ss)] (.bool false)) (n3:Runs Yir 43 [.sl rs.length (pc rs)] (.fresh 2 xs.length (pc xs))) (n4:Runs Yir 43 [.sl ss.length (pc ss)] (.fresh 2 ys.length (pc ys))) (n5:Runs Yir 53 [.sl xs.length (pc xs), .sl ys.length (pc ys)] (.fresh 2 us.length (pc us))) (n6:Runs Yir 68 [.sl rs.length (pc rs), .sl ss.length (pc ss), .sl us.length (pc us)] (.tup [.sl vs.length (pc vs), .int .i64 e])):Runs Yir 37 [.sl rs.length (pc rs), .sl ss.length (pc ss)] (.tup [.sl vs.length (pc vs), .int .i64 e]):=Runs.go (fn:=Yi37) TMC_holds rfl 400 rfl [.r (.bool false), .b false, .r (.bool false), .b false, .r (.fresh 2 xs.length (pc xs)), .r (.fresh 2 ys.length (pc ys)), .r (.fresh 2 us.length (pc us)), .r (.tup [.sl vs.length (pc vs), .int .i64 e])] (ac n1 (ac (show false=false from rfl) (ac n2 (ac (show false=false from rfl) (ac n3 (ac n4 (ac n5 (ac n6 a0)))))))) (by kernel_rfl)
theorem Yrun38 (rs us vs:List Rn) (e:Int) (n1:Runs Yir 89 [.sl rs.length (pc rs)] (.fresh 2 us.length (pc us))) (n2:Runs Yir 68 [.sl rs.length (pc rs), .sl rs.length (pc rs), .sl us.length (pc us)] (.tup [.sl vs.length (pc vs), .int .i64 e])):Runs Yir 38 [.sl rs.length (pc rs)] (.tup [.sl vs.length (pc vs), .int .i64 e]):=Runs.go (fn:=Yi38) TMC_holds rfl 400 rfl [.r (.fresh 2 us.length (pc us)), .r (.tup [.sl vs.length (pc vs), .int .i64 e])] (ac n1 (ac n2 a0)) (by kernel_rfl)
theorem Yrun39 (rs:List Rn) (c:Int) (n1:Runs Yir 67 [.sl rs.length (pc rs)] (.bool false)) (n2:Runs Yir 90 [.sl rs.length (pc rs)] (bigAV c)):Runs Yir 39 [.sl rs.length (pc rs)] (.tup [bigAV c, .int .i64 0]):=Runs.go (fn:=Yi39) TMC_holds rfl 400 rfl [.r (.bool false), .b false, .r (bigAV c)] (ac n1 (ac (show false=false from rfl) (ac n2 a0))) (by kernel_rfl)
theorem Yrun40 (rs us:List Rn) (n1:Runs Yir 67 [.sl rs.length (pc rs)] (.bool false)) (n2:Runs Yir 91 [.sl rs.length (pc rs)] (.fresh 2 us.length (pc us))):Runs Yir 40 [.sl rs.length (pc rs)] (.tup [.sl us.length (pc us), .int .i64 0]):=Runs.go (fn:=Yi40) TMC_holds rfl 400 rfl [.r (.bool false), .b false, .r (.fresh 2 us.length (pc us))] (ac n1 (ac (show false=false from rfl) (ac n2 a0))) (by kernel_rfl)
theorem Yrun63_l (rs:List Rn) (n1:Runs Yir 61 [.sl 1 [.sl rs.length (pc rs)]] (.bool true)):Runs Yir 63 [.sl rs.length (pc rs)] (.tup [.sl 0 [], .int .i64 2]):=Runs.go (fn:=Yi63) TMC_holds rfl 400 rfl [.r (.bool true), .b true] (ac n1 (ac (show true=true from rfl) a0)) (by kernel_rfl)
theorem Yrun31_e (rs ss us vs:List Rn) (e:Int) (n1:Runs Yir 61 [.sl 2 [.sl rs.length (pc rs), .sl ss.length (pc ss)]] (.bool false)) (n2:Runs Yir 83 [.sl rs.length (pc rs), .sl ss.length (pc ss)] (.fresh 2 us.length (pc us))) (n3:Runs Yir 63 [.sl us.length (pc us)] (.tup [.sl vs.length (pc vs), .int .i64 e])):Runs Yir 31 [.sl rs.length (pc rs), .sl ss.length (pc ss)] (.tup [.sl vs.length (pc vs), .int .i64 e]):=Runs.go (fn:=Yi31) TMC_holds rfl 400 rfl [.r (.bool false), .b false, .r (.fresh 2 us.length (pc us)), .r (.tup [.sl vs.length (pc vs), .int .i64 e])] (ac n1 (ac (show false=false from rfl) (ac n2 (ac n3 a0)))) (by kernel_rfl)
theorem Yrun32_e (rs ss us vs:List Rn) (e:Int) (n1:Runs Yir 61 [.sl 2 [.sl rs.length (pc rs), .sl ss.length (pc ss)]] (.bool false)) (n2:Runs Yir 84 [.sl rs.length (pc rs), .sl ss.length (pc ss)] (.fresh 2 us.length (pc us))) (n3:Runs Yir 63 [.sl us.length (pc us)] (.tup [.sl vs.length (pc vs), .int .i64 e])):Runs Yir 32 [.sl rs.length (pc rs), .sl ss.length (pc ss)] (.tup [.sl vs.length (pc vs), .int .i64 e]):=Runs.go (fn:=Yi32) TMC_holds rfl 400 rfl [.r (.bool false), .b false, .r (.fresh 2 us.length (pc us)), .r (.tup [.sl vs.length (pc vs), .int .i64 e])] (ac n1 (ac (show false=false from rfl) (ac n2 (ac n3 a0)))) (by kernel_rfl)
theorem Yrun24_e (rs ss us vs:List Rn) (e:Int) (n1:Runs Yir 61 [.sl 2 [.sl rs.length (pc rs), .sl ss.length (pc ss)]] (.bool false)) (n2:Runs Yir 72 [.sl rs.length (pc rs), .sl ss.length (pc ss)] (.fresh 2 us.length (pc us))) (n3:Runs Yir 63 [.sl us.length (pc us)] (.tup [.sl vs.length (pc vs), .int .i64 e])):Runs Yir 24 [.sl rs.length (pc rs), .sl ss.length (pc ss)] (.tup [.sl vs.length (pc vs), .int .i64 e]):=Runs.go (fn:=Yi24) TMC_holds rfl 400 rfl [.r (.bool false), .b false, .r (.fresh 2 us.length (pc us)), .r (.tup [.sl vs.length (pc vs), .int .i64 e])] (ac n1 (ac (show false=false from rfl) (ac n2 (ac n3 a0)))) (by kernel_rfl)
theorem Yrun33 (rs:List Rn) (d c:Int) (n1:0≤(i64.wrap (d+1))) (n2:0≤(Int.toNat (i64.wrap (d+1)))∧(Int.toNat (i64.wrap (d+1)))≤rs.length∧rs.length≤rs.length∧(false=true→true=true)) (n3:Runs Yir 61 [.sl 1 [.sl rs.length (pc rs)]] (.bool false)) (n4:Runs Yir 62 [.sl rs.length (pc rs)] (.int .i64 d)) (n5:Runs Yir 85 [.sl ((Int.toNat (i64.wrap (d+1)))-0) (List.take (((Int.toNat (i64.wrap (d+1)))-0)*2) (List.drop (0*2) (pc rs)))] (bigAV c)):Runs Yir 33 [.sl rs.length (pc rs)] (.tup [bigAV c, .int .i64 0]):=Runs.go (fn:=Yi33) TMC_holds rfl 400 rfl [.r (.bool false), .b false, .r (.int .i64 d), .r (bigAV c)] (ac n3 (ac (show false=false from rfl) (ac n4 (ac n1 (ac n2 (ac n5 a0)))))) (by kernel_rfl)
theorem Yrun34 (rs us:List Rn) (n1:Runs Yir 61 [.sl 1 [.sl rs.length (pc rs)]] (.bool false)) (n2:Runs Yir 86 [.sl rs.length (pc rs)] (.fresh 2 us.length (pc us))):Runs Yir 34 [.sl rs.length (pc rs)] (.tup [.sl us.length (pc us), .int .i64 0]):=Runs.go (fn:=Yi34) TMC_holds rfl 400 rfl [.r (.bool false), .b false, .r (.fresh 2 us.length (pc us))] (ac n1 (ac (show false=false from rfl) (ac n2 a0))) (by kernel_rfl)
theorem Yrun42 (rs us:List Rn) (n1:Runs Yir 92 [.sl rs.length (pc rs)] (.fresh 2 us.length (pc us))):Runs Yir 42 [.sl rs.length (pc rs)] (.fresh 2 us.length (pc us)):=Runs.go (fn:=Yi42) TMC_holds rfl 400 rfl [.r (.fresh 2 us.length (pc us))] (ac n1 a0) (by kernel_rfl)
theorem Yrun21 (rs:List Rn) (e:Int) (c1:(e==e)=true) (n1:Runs Yir 28 [.sl rs.length (pc rs), .sl rs.length (pc rs)] (.bool true)):Runs Yir 21 [.sl rs.length (pc rs), .int .i64 e, .sl rs.length (pc rs), .int .i64 e] (.bool true):=Runs.go (fn:=Yi21) TMC_holds rfl 400 rfl [.b true, .r (.bool true)] (ac c1 (ac n1 a0)) (by kernel_rfl)
theorem Yrun7_1 (rs ss xs ys zs ds ms ts:List Rn) (n d e_xs e_ys e_zs e_ds e_ms e_n:Int) (f_rs f_ss:Bool) (c1:(e_n==e_n)=true) (c3:(f_rs)=true) (c4:(f_ss)=true) (n1:Runs Yir 13 [] (.bool true)) (n2:Runs Yir 14 [.sl rs.length (pc rs)] (.bool f_rs)) (n3:Runs Yir 14 [.sl ss.length (pc ss)] (.bool f_ss)) (n4:Runs Yir 31 [.sl rs.length (pc rs), .sl ss.length (pc ss)] (.tup [.sl xs.length (pc xs), .int .i64 e_xs])) (n5:Runs Yir 32 [.sl rs.length (pc rs), .sl ss.length (pc ss)] (.tup [.sl ys.length (pc ys), .int .i64 e_ys])) (n6:Runs Yir 24 [.sl rs.length (pc rs), .sl ss.length (pc ss)] (.tup [.sl zs.length (pc zs), .int .i64 e_zs])) (n7:Runs Yir 27 [.sl rs.length (pc rs)] (.tup [.sl ds.length (pc ds), .int .i64 e_ds])) (n8:Runs Yir 33 [.sl rs.length (pc rs)] (.tup [bigAV n, .int .i64 e_n])) (n9:Runs Yir 34 [.sl rs.length (pc rs)] (.tup [.sl ms.length (pc ms), .int .i64 e_ms])) (n10:Runs Yir 35 [.sl rs.length (pc rs), .sl ss.length (pc ss)] (.tup [.sl xs.length (pc xs), .int .i64 e_xs])) (n11:Runs Yir 36 [.sl rs.length (pc rs), .sl ss.length (pc ss)] (.tup [.sl ys.length (pc ys), .int .i64 e_ys])) (n12:Runs Yir 37 [.sl rs.length (pc rs), .sl ss.length (pc ss)] (.tup [.sl zs.length (pc zs), .int .i64 e_zs])) (n13:Runs Yir 38 [.sl rs.length (pc rs)] (.tup [.sl ds.length (pc ds), .int .i64 e_ds])) (n14:Runs Yir 39 [.sl rs.length (pc rs)] (.tup [bigAV n, .int .i64 e_n])) (n15:Runs Yir 40 [.sl rs.length (pc rs)] (.tup [.sl ms.length (pc ms), .int .i64 e_ms])) (n16:Runs Yir 21 [.sl xs.length (pc xs), .int .i64 e_xs, .sl xs.length (pc xs), .int .i64 e_xs] (.bool true)) (n17:Runs Yir 21 [.sl ys.length (pc ys), .int .i64 e_ys, .sl ys.length (pc ys), .int .i64 e_ys] (.bool true)) (n18:Runs Yir 21 [.sl zs.length (pc zs), .int .i64 e_zs, .sl zs.length (pc zs), .int .i64 e_zs] (.bool true)) (n19:Runs Yir 21 [.sl ds.length (pc ds), .int .i64 e_ds, .sl ds.length (pc ds), .int .i64 e_ds] (.bool true)) (n20:Runs Yir 21 [.sl ms.length (pc ms), .int .i64 e_ms, .sl ms.length (pc ms), .int .i64 e_ms] (.bool true)) (n21:Runs Yir 41 [bigAV n,bigAV n] (.bool true)) (n22:Runs Yir 42 [.sl rs.length (pc rs)] (.fresh 2 ts.length (pc ts))) (n23:Runs Yir 43 [.sl rs.length (pc rs)] (.fresh 2 ts.length (pc ts))) (n24:Runs Yir 28 [.sl ts.length (pc ts), .sl ts.length (pc ts)] (.bool true)) (n25:Runs Yir 23 [.sl rs.length (pc rs)] (.int .i64 d)) (n26:Runs Yir 44 [.sl rs.length (pc rs)] (.int .i64 d)):Runs Yir 7 [.sl rs.length (pc rs), .sl ss.length (pc ss)] (.bool (d==d)):=Runs.go (fn:=Yi7) TMC_holds rfl 400 rfl ((.r (.bool true))::(.b false)::(.r (.bool f_rs))::(.b false)::(.r (.bool f_ss))::(.b false)::(.r (.tup [.sl xs.length (pc xs), .int .i64 e_xs]))::(.r (.tup [.sl ys.length (pc ys), .int .i64 e_ys]))::(.r (.tup [.sl zs.length (pc zs), .int .i64 e_zs]))::(.r (.tup [.sl ds.length (pc ds), .int .i64 e_ds]))::(.r (.tup [bigAV n, .int .i64 e_n]))::(.r (.tup [.sl ms.length (pc ms), .int .i64 e_ms]))::(.r (.tup [.sl xs.length (pc xs), .int .i64 e_xs]))::(.r (.tup [.sl ys.length (pc ys), .int .i64 e_ys]))::(.r (.tup [.sl zs.length (pc zs), .int .i64 e_zs]))::(.r (.tup [.sl ds.length (pc ds), .int .i64 e_ds]))::(.r (.tup [bigAV n, .int .i64 e_n]))::(.r (.tup [.sl ms.length (pc ms), .int .i64 e_ms]))::(.r (.bool true))::(.b true)::(.r (.bool true))::(.b true)::(.r (.bool true))::(.b true)::(.r (.bool true))::(.b true)::(.r (.bool true))::(.b true)::(.b true)::(.r (.bool true))::(.b true)::(.r (.fresh 2 ts.length (pc ts)))::(.r (.fresh 2 ts.length (pc ts)))::(.r (.bool true))::(.b true)::(.r (.int .i64 d))::(.r (.int .i64 d))::[]) (ac n1 (ac (show false=false from rfl) (ac n2 (ac (show (!f_rs)=false from (by rw [c3];rfl)) (ac n3 (ac (show (!f_ss)=false from (by rw [c4];rfl)) (ac n4 (ac n5 (ac n6 (ac n7 (ac n8 (ac n9 (ac n10 (ac n11 (ac n12 (ac n13 (ac n14 (ac n15 (ac n16 (ac (show true=true from rfl) (ac n17 (ac (show true=true from rfl) (ac n18 (ac (show true=true from rfl) (ac n19 (ac (show true=true from rfl) (ac n20 (ac (show true=true from rfl) (ac c1 (ac n21 (ac (show true=true from rfl) (ac n22 (ac n23 (ac n24 (ac (show true=true from rfl) (ac n25 (ac n26 a0))))))))))))))))))))))))))))))))))))) (by kernel_rfl)
theorem Yrun7_2 (rs ss:List Rn) (f_rs f_ss:Bool) (c3:(f_rs)=true) (c4:(f_ss)=false) (n1:Runs Yir 13 [] (.bool true)) (n2:Runs Yir 14 [.sl rs.length (pc rs)] (.bool f_rs)) (n3:Runs Yir 14 [.sl ss.length (pc ss)] (.bool f_ss)):Runs Yir 7 [.sl rs.length (pc rs), .sl ss.length (pc ss)] (.bool true):=Runs.go (fn:=Yi7) TMC_holds rfl 400 rfl [.r (.bool true), .b false, .r (.bool f_rs), .b false, .r (.bool f_ss), .b true, .r (.bool true)] (ac n1 (ac (show false=false from rfl) (ac n2 (ac (show (!f_rs)=false from (by rw [c3];rfl)) (ac n3 (ac (show (!f_ss)=true from (by rw [c4];rfl)) (ac n1 a0))))))) (by kernel_rfl)
theorem Yrun7_3 (rs ss:List Rn) (f_rs:Bool) (c3:(f_rs)=false) (n1:Runs Yir 13 [] (.bool true)) (n2:Runs Yir 14 [.sl rs.length (pc rs)] (.bool f_rs)):Runs Yir 7 [.sl rs.length (pc rs), .sl ss.length (pc ss)] (.bool true):=Runs.go (fn:=Yi7) TMC_holds rfl 400 rfl [.r (.bool true), .b false, .r (.bool f_rs), .b true, .b true, .r (.bool true)] (ac n1 (ac (show false=false from rfl) (ac n2 (ac (show (!f_rs)=true from (by rw [c3];rfl)) (ac (show true=true from rfl) (ac n1 a0)))))) (by kernel_rfl)
end Go.Proofs.Ythnnfemologhfaa

namespace Go.Proofs.Ythnnfemologhfaa
open Go.IntKind (i64 u64 u32)
open Go.Ai
set_option maxRecDepth 100000
theorem r2large_small {rs:List Rn} {K:Nat} (hg:∀ r∈rs,Good K r) (hK:K≤256) (hl:rs.length≤17):Runs Yir 67 [.sl rs.length (pc rs)] (.bool false):=by
 have h:=r2large_run (rs:=rs) (fun r hr=>(hg r hr).mono (by omega)) (by omega)
 rwa [small_vals hg hK hl] at h
theorem qsized_run {rs ss:List Rn} {K L:Nat} (hr:∀ r∈rs,Good K r) (hK:K≤256) (hl:rs.length≤17) (hs:∀ r∈ss,Good L r) (hL:L≤256) (hl':ss.length≤17) {p:List Int} (hp:Kb 256 p) (hn:p.length≤17) :
  RunsT 68 [.sl rs.length (pc rs), .sl ss.length (pc ss), .sl (p.map cn).length (pc (p.map cn))] p :=
 Yrun68_2 rs ss (p.map cn) false rfl (r2large_small hr hK hl) (r2large_small hs hL hl') (r2large_small (mcn_good hp) (Nat.le_refl _) (by rw [List.length_map];exact hn))
theorem same_run {p:List Int} {K:Nat} (e:Int) (hp:Kb K p) (hK:K≤1048576) (hl:p.length≤1048576):Runs Yir 21 [.sl (p.map cn).length (pc (p.map cn)), .int .i64 e, .sl (p.map cn).length (pc (p.map cn)), .int .i64 e] (.bool true) :=
 Yrun21 (p.map cn) e (beq_self_eq_true _) (same2_run (fun r hr=>(mcn_good hp r hr).mono hK) (by rw [List.length_map];exact hl))
theorem kb_nil (K:Nat):Kb K []:=fun i=>by simp;exact fits_zero _
section
variable {rs ss:List Rn} (hr:∀ r∈rs,Good 6 r) (hs:∀ r∈ss,Good 6 r) (hn:rs.length≤9) (hm:ss.length≤9)
include hr hs hn hm
end
end Go.Proofs.Ythnnfemologhfaa

namespace Go.Proofs.Ythnnfemologhfaa
open Go.IntKind (i64 u64 u32)
open Go.Ai
set_option maxRecDepth 100000
def szP (p:List Int):List Int:=if largeV p then [] else p
def szE (p:List Int):Int:=if largeV p then 2 else 0
theorem sizedE_run {p:List Int} {K:Nat} (hK:Kb K p) (h1:K≤1048576) (hl:p.length≤1048576):Runs Yir 63 [.sl (p.map cn).length (pc (p.map cn))] (.tup [.sl ((szP p).map cn).length (pc ((szP p).map cn)), .int .i64 (szE p)]):=by
 have h:=plarge1_run (rs:=p.map cn) (fun r hr=>(mcn_good hK r hr).mono h1) (by rw [List.length_map];exact hl)
 rw [vals_cn] at h
 unfold szP szE
 cases c:largeV p with
 | true=>rw [c] at h;exact Yrun63_l (p.map cn) h
 | false=>rw [c] at h;exact Yrun63 (p.map cn) h
theorem qsizedE_run {rs ss:List Rn} {K L:Nat} (hr:∀ r∈rs,Good K r) (hK:K≤256) (hl:rs.length≤17) (hs:∀ r∈ss,Good L r) (hL:L≤256) (hl':ss.length≤17) {p:List Int} {J:Nat} (hp:Kb J p) (hJ:J≤1048576) (hn:p.length≤1048576) :
  Runs Yir 68 [.sl rs.length (pc rs), .sl ss.length (pc ss), .sl (p.map cn).length (pc (p.map cn))] (.tup [.sl ((szP p).map cn).length (pc ((szP p).map cn)), .int .i64 (szE p)]):=by
 have h:=r2large_run (rs:=p.map cn) (fun r hr=>(mcn_good hp r hr).mono hJ) (by rw [List.length_map];exact hn)
 rw [vals_cn] at h
 unfold szP szE
 cases c:largeV p with
 | true=>rw [c] at h;exact Yrun68_1 rs ss (p.map cn) true rfl (r2large_small hr hK hl) (r2large_small hs hL hl') h
 | false=>rw [c] at h;exact Yrun68_2 rs ss (p.map cn) false rfl (r2large_small hr hK hl) (r2large_small hs hL hl') h
theorem kb_szP {p:List Int} {K:Nat} (h:Kb K p):Kb K (szP p):=by unfold szP;split;exact kb_nil K;exact h
theorem len_szP (p:List Int):(szP p).length≤p.length:=by unfold szP;split <;> simp
section
variable {rs ss:List Rn} (hr:∀ r∈rs,Good 6 r) (hs:∀ r∈ss,Good 6 r) (hn:rs.length≤10) (hm:ss.length≤10)
include hr hs hn hm
theorem add_both:∃ (p:List Int) (e:Int),Kb 500 p∧p.length≤100∧Runs Yir 31 [.sl rs.length (pc rs), .sl ss.length (pc ss)] (.tup [.sl (p.map cn).length (pc (p.map cn)), .int .i64 e])∧Runs Yir 35 [.sl rs.length (pc rs), .sl ss.length (pc ss)] (.tup [.sl (p.map cn).length (pc (p.map cn)), .int .i64 e]):=by
 have hlg:=large2 hr (by omega) (by omega) hs (by omega) (by omega)
 have h1:=aplus_run hr hs (by omega) (by omega) (by omega)
 have h2:=qplus_run hr hs (by omega) (by omega) (by omega)
 have hk:Kb 7 (padd (vals rs) (vals ss)):=kb_of (fits_mem_padd (fits_vals hr) (fits_vals hs))
 have hlen:=padd_len (vals rs) (vals ss)
 rw [vals_length,vals_length] at hlen
 have hl2:=len_szP (padd (vals rs) (vals ss))
 exact ⟨_,_,(kb_szP hk).mono (by omega),by omega,Yrun31_e rs ss _ _ _ hlg (fr_cn h1) (sizedE_run hk (by omega) (by omega)),Yrun35 rs ss _ _ _ (fr_cn h2) (qsizedE_run hr (by omega) (by omega) hs (by omega) (by omega) hk (by omega) (by omega))⟩
theorem sub_both:∃ (p:List Int) (e:Int),Kb 500 p∧p.length≤100∧Runs Yir 32 [.sl rs.length (pc rs), .sl ss.length (pc ss)] (.tup [.sl (p.map cn).length (pc (p.map cn)), .int .i64 e])∧Runs Yir 36 [.sl rs.length (pc rs), .sl ss.length (pc ss)] (.tup [.sl (p.map cn).length (pc (p.map cn)), .int .i64 e]):=by
 have hlg:=large2 hr (by omega) (by omega) hs (by omega) (by omega)
 have h1:=aminus_run hr hs (by omega) (by omega) (by omega)
 have h2:=qminus_run hr hs (by omega) (by omega) (by omega)
 have hk:Kb 7 (psub (vals rs) (vals ss)):=kb_of (fits_mem_psub (fits_vals hr) (fits_vals hs))
 have hlen:=psub_len (vals rs) (vals ss)
 rw [vals_length,vals_length] at hlen
 have hl2:=len_szP (psub (vals rs) (vals ss))
 exact ⟨_,_,(kb_szP hk).mono (by omega),by omega,Yrun32_e rs ss _ _ _ hlg (fr_cn h1) (sizedE_run hk (by omega) (by omega)),Yrun36 rs ss _ _ _ (fr_cn h2) (qsizedE_run hr (by omega) (by omega) hs (by omega) (by omega) hk (by omega) (by omega))⟩
theorem mul_both:∃ (p:List Int) (e:Int),Kb 500 p∧p.length≤100∧Runs Yir 24 [.sl rs.length (pc rs), .sl ss.length (pc ss)] (.tup [.sl (p.map cn).length (pc (p.map cn)), .int .i64 e])∧Runs Yir 37 [.sl rs.length (pc rs), .sl ss.length (pc ss)] (.tup [.sl (p.map cn).length (pc (p.map cn)), .int .i64 e]):=by
 have hlg:=large2 hr (by omega) (by omega) hs (by omega) (by omega)
 have h1:=atimes_run hr hs (by omega) (by omega)
 have t1:=qtrim_run (fun r h=>(hr r h).mono (show 6≤1048576 by omega)) (by omega)
 have t2:=qtrim_run (fun r h=>(hs r h).mono (show 6≤1048576 by omega)) (by omega)
 have l1:=trim_vals_len rs
 have l2:=trim_vals_len ss
 have h2:=qtimes_run (rs:=(trimL (vals rs)).map cn) (ss:=(trimL (vals ss)).map cn) (K:=6) (good_cns (fits_mem_trim (fits_vals hr))) (good_cns (fits_mem_trim (fits_vals hs))) (by rw [List.length_map];omega) (by rw [List.length_map,List.length_map];omega)
 rw [vals_cn,vals_cn] at h2
 have e:pmul (trimL (vals rs)) (trimL (vals ss))=pmul (vals rs) (vals ss):=by
  rw [← pmul_trim (trimL (vals rs)),← pmul_trim (vals rs)]
  exact peval_inj fun x=>by rw [peval_pmul,peval_pmul,peval_trim,peval_trim]
 rw [e] at h2
 have hk:Kb (6+6+rs.length) (pmul (vals rs) (vals ss)):=by
  have:=fits_mem_pmul (fits_vals hr) (fits_vals hs)
  rw [vals_length] at this
  exact kb_of this
 have hlen:=pmul_len (vals rs) (vals ss)
 rw [vals_length,vals_length] at hlen
 have hl2:=len_szP (pmul (vals rs) (vals ss))
 exact ⟨_,_,(kb_szP hk).mono (by omega),by omega,Yrun24_e rs ss _ _ _ hlg (fr_cn h1) (sizedE_run hk (by omega) (by omega)),Yrun37 rs ss _ _ _ _ _ (r2large_small hr (by omega) (by omega)) (r2large_small hs (by omega) (by omega)) (fr_cn t1) (fr_cn t2) (fr_cn h2) (qsizedE_run hr (by omega) (by omega) hs (by omega) (by omega) hk (by omega) (by omega))⟩
end
section
variable {rs:List Rn} (hr:∀ r∈rs,Good 6 r) (hn:rs.length≤10)
include hr hn
theorem der_both:∃ p:List Int,Kb 500 p∧p.length≤100∧RunsT 27 [.sl rs.length (pc rs)] p∧RunsT 38 [.sl rs.length (pc rs)] p:=by
 have h2:=qder_run hr (by omega) (by omega)
 have hk:Kb 8 (pder (vals rs)):=kb_pder (kb_of (fits_vals hr)) (by rw [vals_length];omega)
 have hlen:=pder_len (vals rs)
 rw [vals_length] at hlen
 exact ⟨_,hk.mono (by omega),by omega,pderiveT_run hr (by omega) (by omega),Yrun38 rs _ _ _ (fr_cn h2) (qsized_run hr (by omega) (by omega) hr (by omega) (by omega) (hk.mono (by omega)) (by omega))⟩
theorem prim_both:∃ p:List Int,Kb 500 p∧p.length≤100∧RunsT 34 [.sl rs.length (pc rs)] p∧RunsT 40 [.sl rs.length (pc rs)] p:=by
 have h1:=aprimitive_run hr (by omega) (by omega)
 have h2:=qprim_run hr (by omega) (by omega)
 have hk:Kb 6 (prim (vals rs)):=(kb_of (fits_vals hr)).prim
 have hlen:(prim (vals rs)).length≤rs.length:=by rw [prim_length];exact trim_vals_len rs
 exact ⟨_,hk.mono (by omega),by omega,Yrun34 rs _ (large1 hr (by omega) (by omega)) (fr_cn h1),Yrun40 rs _ (r2large_small hr (by omega) (by omega)) (fr_cn h2)⟩
theorem cont_both:∃ c:Int,Fits 6 c∧Runs Yir 33 [.sl rs.length (pc rs)] (.tup [bigAV c, .int .i64 0])∧Runs Yir 39 [.sl rs.length (pc rs)] (.tup [bigAV c, .int .i64 0]):=by
 have h2:=qinner_run hr (by omega) (by omega)
 have hdeg:=degree_run (rs:=rs) (fun r h=>(hr r h).mono (by omega)) (by omega)
 have e:(trimL (vals rs)).length=topN (vals rs) rs.length:=by rw [trim_length,vals_length]
 rw [← e] at hdeg
 have hl:=trim_vals_len rs
 have ed:Int.toNat (i64.wrap ((((trimL (vals rs)).length:Nat):Int)-1+1))=(trimL (vals rs)).length:=by rw [w64 (by omega) (by omega)];omega
 have h1:=acontent_run (rs:=rs.take (trimL (vals rs)).length) (fun r h=>hr r (List.mem_of_mem_take h)) (by omega) (by rw [List.length_take];omega)
 have ev:vals (rs.take (trimL (vals rs)).length)=trimL (vals rs):=by
  show (rs.take _).map rval=_
  rw [List.map_take,e]
  show (vals rs).take _=_
  unfold trimL
  rw [vals_length]
 rw [ev,cont_trim,List.length_take,Nat.min_eq_left hl] at h1
 have hf:Fits 6 ((cont (vals rs):Nat):Int):=cont_le (fits_vals hr)
 refine ⟨_,hf,Yrun33 rs _ _ (by rw [w64 (by omega) (by omega)];omega) (by rw [ed];exact ⟨by omega,hl,Nat.le_refl _,fun _=>rfl⟩) (large1 hr (by omega) (by omega)) hdeg ?_,Yrun39 rs _ (r2large_small hr (by omega) (by omega)) h2⟩
 rw [ed,Nat.sub_zero,Nat.zero_mul,List.drop_zero,pc_take]
 exact h1
end
theorem pexa_run {rs ss:List Rn} (h1:∀ r∈rs,U32 r.2) (h2:∀ r∈ss,U32 r.2):Runs Yir 7 [.sl rs.length (pc rs), .sl ss.length (pc ss)] (.bool true):=by
 have haw:=Yrun13
 have f1:=few_run rs
 have f2:=few_run ss
 cases b1:fewB 10 6 rs with
 | false=>rw [b1] at f1;exact Yrun7_3 rs ss false rfl haw f1
 | true =>
  rw [b1] at f1
  cases b2:fewB 10 6 ss with
  | false=>rw [b2] at f2;exact Yrun7_2 rs ss true false rfl rfl haw f1 f2
  | true =>
   rw [b2] at f2
   obtain ⟨hn,hr⟩:=fewB_yes b1 h1
   obtain ⟨hm,hs⟩:=fewB_yes b2 h2
   obtain ⟨p1,e1,k1,l1,x1,y1⟩:=add_both hr hs hn hm
   obtain ⟨p2,e2,k2,l2,x2,y2⟩:=sub_both hr hs hn hm
   obtain ⟨p3,e3,k3,l3,x3,y3⟩:=mul_both hr hs hn hm
   obtain ⟨p4,k4,l4,x4,y4⟩:=der_both hr hn
   obtain ⟨p5,k5,l5,x5,y5⟩:=prim_both hr hn
   obtain ⟨c,kc,xc,yc⟩:=cont_both hr hn
   have t1:=fr_cn (atrim_run (fun r h=>(hr r h).mono (show 6≤1048576 by omega)) (by omega))
   have t2:=fr_cn (qtrim_run (fun r h=>(hr r h).mono (show 6≤1048576 by omega)) (by omega))
   have tp:=Yrun42 rs _ t1
   have kt:Kb 6 (trimL (vals rs)):=(kb_of (fits_vals hr)).trim
   have lt:=trim_vals_len rs
   have st:=same2_run (rs:=(trimL (vals rs)).map cn) (fun r h=>(mcn_good kt r h).mono (by omega)) (by rw [List.length_map];omega)
   have d1:=pdeg_run (rs:=rs) (fun r h=>(hr r h).mono (by omega)) (by omega)
   have d2:=r2degree_run (rs:=rs) (fun r h=>(hr r h).mono (by omega)) (by omega)
   have sc:=same1_run (cn c) (by have:=(good_cn kc).2;omega)
   have k:=Yrun7_1 rs ss (p1.map cn) (p2.map cn) (p3.map cn) (p4.map cn) (p5.map cn) _ c _ e1 e2 e3 0 0 0 true true rfl rfl rfl haw f1 f2 x1 x2 x3 x4 xc x5 y1 y2 y3 y4 yc y5
    (same_run e1 k1 (by omega) (by omega)) (same_run e2 k2 (by omega) (by omega)) (same_run e3 k3 (by omega) (by omega)) (same_run 0 k4 (by omega) (by omega)) (same_run 0 k5 (by omega) (by omega)) sc tp t2 st d1 d2
   rwa [beq_self_eq_true] at k
end Go.Proofs.Ythnnfemologhfaa
