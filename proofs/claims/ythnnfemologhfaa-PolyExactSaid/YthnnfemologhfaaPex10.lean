/- Texts of the proof of PolyExact, packed by pack.py: part 10 of 19. -/
import Derived.Test.YthnnfemologhfaaPex9
namespace Go.Proofs.Ythnnfemologhfaa
open Go.IntKind (i64 u64 u32)
open Go.Ai
set_option maxRecDepth 100000
def TQ0:Table:=[]
theorem TQ0_holds:THolds Yir TQ0:=THolds.nil _
def Ys122 (neg:Bool) (N:Nat) (cs:List AV) (n:Int):State:=(dds 1 (.box [.bool neg, .sl N cs]::(.val (.bool false)::(.own 1 0 []::(.val (.int .i64 n)::(dds 26 []))))))
theorem Yk122_1 (neg:Bool) (N:Nat) (cs:List AV) (n:Int) (x:Int) (c1:(decide (n>0))=true) (c2:(x==0)=true) (n1:0≤(i64.wrap (n-1))∧(i64.wrap (n-1))<(N:Int)) (n2:takeA (List.drop (Int.toNat (i64.wrap (n-1))*1) cs) 0 1 true=some (.int .u32 x)):RunsW Yir Yc122 (Ys122 neg N cs n) .norm (Ys122 neg N cs (i64.wrap (n-1))):=RunsW.script (ps:=[(decide (n>0))=true,0≤(i64.wrap (n-1))∧(i64.wrap (n-1))<(N:Int),takeA (List.drop (Int.toNat (i64.wrap (n-1))*1) cs) 0 1 true=some (.int .u32 x),(x==0)=true]) TQ0_holds 300 [.b true, .v (.int .u32 x), .b true] [1,2,3,4] (by kernel_rfl) ⟨c1,n1,n2,c2,trivial⟩
theorem Yk122_2 (neg:Bool) (N:Nat) (cs:List AV) (n:Int) (x:Int) (c1:(decide (n>0))=true) (c2:(x==0)=false) (n1:0≤(i64.wrap (n-1))∧(i64.wrap (n-1))<(N:Int)) (n2:takeA (List.drop (Int.toNat (i64.wrap (n-1))*1) cs) 0 1 true=some (.int .u32 x)):RunsW Yir Yc122 (Ys122 neg N cs n) (.exit 0) (Ys122 neg N cs n):=RunsW.script (ps:=[(decide (n>0))=true,0≤(i64.wrap (n-1))∧(i64.wrap (n-1))<(N:Int),takeA (List.drop (Int.toNat (i64.wrap (n-1))*1) cs) 0 1 true=some (.int .u32 x),(x==0)=false]) TQ0_holds 300 [.b true, .v (.int .u32 x), .b false] [1,2,3,4] (by kernel_rfl) ⟨c1,n1,n2,c2,trivial⟩
theorem Yk122_3 (neg:Bool) (N:Nat) (cs:List AV) (n:Int) (c1:(decide (n>0))=false):RunsW Yir Yc122 (Ys122 neg N cs n) (.exit 0) (Ys122 neg N cs n):=RunsW.script (ps:=[(decide (n>0))=false,false=false]) TQ0_holds 300 [.b false, .b false] [1,2,3,4] (by kernel_rfl) ⟨c1,rfl,trivial⟩
theorem Yloop122 (neg:Bool) (xs:List Int) (hN:xs.length≤1048576):∀ m,m≤xs.length→RunsW Yir (.loop Yc122) (Ys122 neg xs.length (lm xs) (m:Int)) (.exit 0) (Ys122 neg xs.length (lm xs) ((topN xs m:Nat):Int)):=by
 intro m
 induction m with
 | zero =>
  intro _
  exact RunsW.loop_out (Yk122_3 neg xs.length (lm xs) ((0:Nat):Int) (by simp)) (by intro e;cases e)
 | succ m ih =>
  intro hm
  have e1:i64.wrap (((m+1:Nat):Int)-1)=(m:Int):=by rw [w64 (by omega) (by omega)];omega
  have hx:=take_lim (xs:=xs) (i:=m) (by omega)
  simp only [topN]
  by_cases h0:xs.getD m 0=0
  ·rw [if_pos h0]
   have h1:=Yk122_1 neg xs.length (lm xs) ((m+1:Nat):Int) (xs.getD m 0) (by simp) (by rw [h0];rfl) (by rw [e1];omega) (by rw [e1,Int.toNat_natCast];exact hx)
   rw [e1] at h1
   exact RunsW.loop h1 (ih (by omega))
  ·rw [if_neg h0]
   exact RunsW.loop_out (Yk122_2 neg xs.length (lm xs) ((m+1:Nat):Int) (xs.getD m 0) (by simp) (by simpa using h0) (by rw [e1];omega) (by rw [e1,Int.toNat_natCast];exact hx)) (by intro e;cases e)
theorem Yrun122_true (xs:List Int) (hl:RunsW Yir (.loop Yc122) (Ys122 true xs.length (lm xs) (xs.length:Int)) (.exit 0) (Ys122 true xs.length (lm xs) ((topN xs xs.length:Nat):Int))) (hsc:0≤(Int.toNat ((topN xs xs.length:Nat):Int))∧(Int.toNat ((topN xs xs.length:Nat):Int))≤xs.length∧xs.length≤xs.length∧(false=true→true=true)):Runs Yir 122 [.agg [.bool true, .sl xs.length (lm xs)]] (.tup [.bool (decide (((topN xs xs.length:Nat):Int)>0)), .sl ((Int.toNat ((topN xs xs.length:Nat):Int))-0) (List.take (((Int.toNat ((topN xs xs.length:Nat):Int))-0)*1) (List.drop (0*1) (lm xs)))]):=Runs.of_bodyW (fn:=Yi122) (s:=(dds 1 (.box [.bool true, .sl xs.length (lm xs)]::(.val (.bool (decide (((topN xs xs.length:Nat):Int)>0)))::(.val (.sl ((Int.toNat ((topN xs xs.length:Nat):Int))-0) (List.take (((Int.toNat ((topN xs xs.length:Nat):Int))-0)*1) (List.drop (0*1) (lm xs))))::(.val (.int .i64 ((topN xs xs.length:Nat):Int))::(dds 16 (.ptr 1 0::(.val (.bool true)::(.val (.bool true)::(.val (.int .i64 ((topN xs xs.length:Nat):Int))::(.val (.bool (decide (((topN xs xs.length:Nat):Int)>0)))::(.val (.bool (decide (((topN xs xs.length:Nat):Int)>0)))::(.ptr 1 1::(.val (.sl xs.length (lm xs))::(.val (.int .i64 ((topN xs xs.length:Nat):Int))::(.val (.sl ((Int.toNat ((topN xs xs.length:Nat):Int))-0) (List.take (((Int.toNat ((topN xs xs.length:Nat):Int))-0)*1) (List.drop (0*1) (lm xs))))::[]))))))))))))))))) (ex := .ret) rfl rfl (RunsW.seq (RunsW.script (t:=(.val (.agg [.bool true, .sl xs.length (lm xs)])::(.box [.bool true, .sl xs.length (lm xs)]::(.val (.bool false)::(.own 1 0 []::(dds 27 [])))))) (ex := .norm) (ps:=[]) TQ0_holds 300 [] [0,1,2,3] (by kernel_rfl) trivial) (RunsW.seq (RunsW.script (t:=(dds 1 (.box [.bool true, .sl xs.length (lm xs)]::(.val (.bool false)::(.own 1 0 []::(vi (xs.length:Int)::(dds 26 []))))))) (ex := .norm) (ps:=[]) TQ0_holds 300 [] [1,2,3,4] (by kernel_rfl) trivial) (RunsW.seq (RunsW.block hl) (RunsW.script (t:=(dds 1 (.box [.bool true, .sl xs.length (lm xs)]::(.val (.bool (decide (((topN xs xs.length:Nat):Int)>0)))::(.val (.sl ((Int.toNat ((topN xs xs.length:Nat):Int))-0) (List.take (((Int.toNat ((topN xs xs.length:Nat):Int))-0)*1) (List.drop (0*1) (lm xs))))::(vi ((topN xs xs.length:Nat):Int)::(dds 16 (.ptr 1 0::(.val (.bool true)::(.val (.bool true)::(vi ((topN xs xs.length:Nat):Int)::(.val (.bool (decide (((topN xs xs.length:Nat):Int)>0)))::(.val (.bool (decide (((topN xs xs.length:Nat):Int)>0)))::(.ptr 1 1::(vl xs::(vi ((topN xs xs.length:Nat):Int)::(.val (.sl ((Int.toNat ((topN xs xs.length:Nat):Int))-0) (List.take (((Int.toNat ((topN xs xs.length:Nat):Int))-0)*1) (List.drop (0*1) (lm xs))))::[]))))))))))))))))) (ex := .ret) (ps:=[true=true,0≤((topN xs xs.length:Nat):Int),0≤(Int.toNat ((topN xs xs.length:Nat):Int))∧(Int.toNat ((topN xs xs.length:Nat):Int))≤xs.length∧xs.length≤xs.length∧(false=true→true=true)]) TQ0_holds 300 [.b true] [1,2,3,4,21,22,23,24,25,26,27,28,29,30] (by kernel_rfl) ⟨rfl,(Int.natCast_nonneg _),hsc,trivial⟩)))) (by intro i e;cases e) rfl
theorem Yrun122_false (xs:List Int) (hl:RunsW Yir (.loop Yc122) (Ys122 false xs.length (lm xs) (xs.length:Int)) (.exit 0) (Ys122 false xs.length (lm xs) ((topN xs xs.length:Nat):Int))) (hsc:0≤(Int.toNat ((topN xs xs.length:Nat):Int))∧(Int.toNat ((topN xs xs.length:Nat):Int))≤xs.length∧xs.length≤xs.length∧(false=true→true=true)):Runs Yir 122 [.agg [.bool false, .sl xs.length (lm xs)]] (.tup [.bool false, .sl ((Int.toNat ((topN xs xs.length:Nat):Int))-0) (List.take (((Int.toNat ((topN xs xs.length:Nat):Int))-0)*1) (List.drop (0*1) (lm xs)))]):=Runs.of_bodyW (fn:=Yi122) (s:=(dds 1 (.box [.bool false, .sl xs.length (lm xs)]::(.val (.bool false)::(.val (.sl ((Int.toNat ((topN xs xs.length:Nat):Int))-0) (List.take (((Int.toNat ((topN xs xs.length:Nat):Int))-0)*1) (List.drop (0*1) (lm xs))))::(.val (.int .i64 ((topN xs xs.length:Nat):Int))::(dds 16 (.ptr 1 0::(.val (.bool false)::(.val (.bool false)::(.val (.undef)::(.val (.undef)::(.val (.bool false)::(.ptr 1 1::(.val (.sl xs.length (lm xs))::(.val (.int .i64 ((topN xs xs.length:Nat):Int))::(.val (.sl ((Int.toNat ((topN xs xs.length:Nat):Int))-0) (List.take (((Int.toNat ((topN xs xs.length:Nat):Int))-0)*1) (List.drop (0*1) (lm xs))))::[]))))))))))))))))) (ex := .ret) rfl rfl (RunsW.seq (RunsW.script (t:=(.val (.agg [.bool false, .sl xs.length (lm xs)])::(.box [.bool false, .sl xs.length (lm xs)]::(.val (.bool false)::(.own 1 0 []::(dds 27 [])))))) (ex := .norm) (ps:=[]) TQ0_holds 300 [] [0,1,2,3] (by kernel_rfl) trivial) (RunsW.seq (RunsW.script (t:=(dds 1 (.box [.bool false, .sl xs.length (lm xs)]::(.val (.bool false)::(.own 1 0 []::(vi (xs.length:Int)::(dds 26 []))))))) (ex := .norm) (ps:=[]) TQ0_holds 300 [] [1,2,3,4] (by kernel_rfl) trivial) (RunsW.seq (RunsW.block hl) (RunsW.script (t:=(dds 1 (.box [.bool false, .sl xs.length (lm xs)]::(.val (.bool false)::(.val (.sl ((Int.toNat ((topN xs xs.length:Nat):Int))-0) (List.take (((Int.toNat ((topN xs xs.length:Nat):Int))-0)*1) (List.drop (0*1) (lm xs))))::(vi ((topN xs xs.length:Nat):Int)::(dds 16 (.ptr 1 0::(.val (.bool false)::(.val (.bool false)::(.val (.undef)::(.val (.undef)::(.val (.bool false)::(.ptr 1 1::(vl xs::(vi ((topN xs xs.length:Nat):Int)::(.val (.sl ((Int.toNat ((topN xs xs.length:Nat):Int))-0) (List.take (((Int.toNat ((topN xs xs.length:Nat):Int))-0)*1) (List.drop (0*1) (lm xs))))::[]))))))))))))))))) (ex := .ret) (ps:=[false=false,0≤((topN xs xs.length:Nat):Int),0≤(Int.toNat ((topN xs xs.length:Nat):Int))∧(Int.toNat ((topN xs xs.length:Nat):Int))≤xs.length∧xs.length≤xs.length∧(false=true→true=true)]) TQ0_holds 300 [.b false] [1,2,3,4,21,22,23,24,25,26,27,28,29,30] (by kernel_rfl) ⟨rfl,(Int.natCast_nonneg _),hsc,trivial⟩)))) (by intro i e;cases e) rfl
theorem topN_sl (xs:List Int):(Int.toNat ((topN xs xs.length:Nat):Int)-0)=(trimL xs).length∧(List.take ((Int.toNat ((topN xs xs.length:Nat):Int)-0)*1) (List.drop (0*1) (lm xs)))=lm (trimL xs)∧(0≤(Int.toNat ((topN xs xs.length:Nat):Int))∧(Int.toNat ((topN xs xs.length:Nat):Int))≤xs.length∧xs.length≤xs.length∧(false=true→true=true)):=by
 have hle:=topN_le xs xs.length
 rw [Int.toNat_natCast]
 refine ⟨by simp [trimL];omega,by simp [lm,trimL,List.map_take],by omega,hle,Nat.le_refl _,fun h=>by cases h⟩
theorem limbs_run {neg:Bool} {xs:List Int} (hu:U32 xs) (hN:xs.length≤1048576):Runs Yir 122 [.agg [.bool neg, .sl xs.length (lm xs)]]
  (.tup [.bool (decide (rv neg xs<0)), .sl (limbs (rv neg xs).natAbs).length (lm (limbs (rv neg xs).natAbs))]):=by
 obtain ⟨e1,e2,e3⟩:=topN_sl xs
 have ht:=trimL_rv (neg:=neg) hu
 have hn:=neg_rv (neg:=neg) hu
 have hlen:(trimL xs).length=topN xs xs.length:=by rw [← e1,Int.toNat_natCast];rfl
 cases neg with
 | true =>
  have h:=Yrun122_true xs (Yloop122 true xs hN xs.length (Nat.le_refl _)) e3
  rw [e2,e1,ht] at h
  have e4:decide (((topN xs xs.length:Nat):Int)>0)=decide (rv true xs<0):=by
   rw [← hn,Bool.true_and,← ht,hlen,decide_eq_decide];omega
  rw [e4] at h
  exact h
 | false =>
  have h:=Yrun122_false xs (Yloop122 false xs hN xs.length (Nat.le_refl _)) e3
  rw [e2,e1,ht] at h
  rw [Bool.false_and] at hn
  rw [← hn]
  exact h
def Ys133 (neg:Bool) (N:Nat) (cs:List AV) (n:Int):State:=(.val (.bool neg)::(.val (.sl N cs)::(dds 2 (.box [.bool false, .sl 0 []]::(.val (.int .i64 n)::(dds 23 []))))))
theorem Yk133_1 (neg:Bool) (N:Nat) (cs:List AV) (n:Int) (x:Int) (c1:(decide (n>0))=true) (c2:(x==0)=true) (n1:0≤(i64.wrap (n-1))∧(i64.wrap (n-1))<(N:Int)) (n2:takeA (List.drop (Int.toNat (i64.wrap (n-1))*1) cs) 0 1 true=some (.int .u32 x)):RunsW Yir Yc133 (Ys133 neg N cs n) .norm (Ys133 neg N cs (i64.wrap (n-1))):=RunsW.script (ps:=[(decide (n>0))=true,0≤(i64.wrap (n-1))∧(i64.wrap (n-1))<(N:Int),takeA (List.drop (Int.toNat (i64.wrap (n-1))*1) cs) 0 1 true=some (.int .u32 x),(x==0)=true]) TQ0_holds 300 [.b true, .v (.int .u32 x), .b true] [0,1,4,5] (by kernel_rfl) ⟨c1,n1,n2,c2,trivial⟩
theorem Yk133_2 (neg:Bool) (N:Nat) (cs:List AV) (n:Int) (x:Int) (c1:(decide (n>0))=true) (c2:(x==0)=false) (n1:0≤(i64.wrap (n-1))∧(i64.wrap (n-1))<(N:Int)) (n2:takeA (List.drop (Int.toNat (i64.wrap (n-1))*1) cs) 0 1 true=some (.int .u32 x)):RunsW Yir Yc133 (Ys133 neg N cs n) (.exit 0) (Ys133 neg N cs n):=RunsW.script (ps:=[(decide (n>0))=true,0≤(i64.wrap (n-1))∧(i64.wrap (n-1))<(N:Int),takeA (List.drop (Int.toNat (i64.wrap (n-1))*1) cs) 0 1 true=some (.int .u32 x),(x==0)=false]) TQ0_holds 300 [.b true, .v (.int .u32 x), .b false] [0,1,4,5] (by kernel_rfl) ⟨c1,n1,n2,c2,trivial⟩
theorem Yk133_3 (neg:Bool) (N:Nat) (cs:List AV) (n:Int) (c1:(decide (n>0))=false):RunsW Yir Yc133 (Ys133 neg N cs n) (.exit 0) (Ys133 neg N cs n):=RunsW.script (ps:=[(decide (n>0))=false,false=false]) TQ0_holds 300 [.b false, .b false] [0,1,4,5] (by kernel_rfl) ⟨c1,rfl,trivial⟩
theorem Yloop133 (neg:Bool) (xs:List Int) (hN:xs.length≤1048576):∀ m,m≤xs.length→RunsW Yir (.loop Yc133) (Ys133 neg xs.length (lm xs) (m:Int)) (.exit 0) (Ys133 neg xs.length (lm xs) ((topN xs m:Nat):Int)):=by
 intro m
 induction m with
 | zero =>
  intro _
  exact RunsW.loop_out (Yk133_3 neg xs.length (lm xs) ((0:Nat):Int) (by simp)) (by intro e;cases e)
 | succ m ih =>
  intro hm
  have e1:i64.wrap (((m+1:Nat):Int)-1)=(m:Int):=by rw [w64 (by omega) (by omega)];omega
  have hx:=take_lim (xs:=xs) (i:=m) (by omega)
  simp only [topN]
  by_cases h0:xs.getD m 0=0
  ·rw [if_pos h0]
   have h1:=Yk133_1 neg xs.length (lm xs) ((m+1:Nat):Int) (xs.getD m 0) (by simp) (by rw [h0];rfl) (by rw [e1];omega) (by rw [e1,Int.toNat_natCast];exact hx)
   rw [e1] at h1
   exact RunsW.loop h1 (ih (by omega))
  ·rw [if_neg h0]
   exact RunsW.loop_out (Yk133_2 neg xs.length (lm xs) ((m+1:Nat):Int) (xs.getD m 0) (by simp) (by simpa using h0) (by rw [e1];omega) (by rw [e1,Int.toNat_natCast];exact hx)) (by intro e;cases e)
theorem Yrun133_z (neg:Bool) (xs:List Int) (hz:(((topN xs xs.length:Nat):Int)==0)=true) (hl:RunsW Yir (.loop Yc133) (Ys133 neg xs.length (lm xs) (xs.length:Int)) (.exit 0) (Ys133 neg xs.length (lm xs) ((topN xs xs.length:Nat):Int))):Runs Yir 133 [.bool neg, .sl xs.length (lm xs)] (.agg [.bool false, .sl 0 []]):=Runs.of_bodyW (fn:=Yi133) (s:=(.val (.bool neg)::(.val (.sl xs.length (lm xs))::(dds 2 (.box [.bool false, .sl 0 []]::(.val (.int .i64 ((topN xs xs.length:Nat):Int))::(dds 14 (.val (.int .i64 ((topN xs xs.length:Nat):Int))::(.val (.bool (((topN xs xs.length:Nat):Int)==0))::(.val (.agg [.bool false, .sl 0 []])::(dds 6 []))))))))))) (ex := .ret) rfl rfl (RunsW.seq (RunsW.script (t:=(.val (.bool neg)::(vl xs::(dds 2 (.box [.bool false, .sl 0 []]::(dds 24 [])))))) (ex := .norm) (ps:=[]) TQ0_holds 300 [] [0,1,4] (by kernel_rfl) trivial) (RunsW.seq (RunsW.script (t:=(.val (.bool neg)::(vl xs::(dds 2 (.box [.bool false, .sl 0 []]::(vi (xs.length:Int)::(dds 23 []))))))) (ex := .norm) (ps:=[]) TQ0_holds 300 [] [0,1,4,5] (by kernel_rfl) trivial) (RunsW.seq (RunsW.block hl) (RunsW.script (t:=(.val (.bool neg)::(vl xs::(dds 2 (.box [.bool false, .sl 0 []]::(vi ((topN xs xs.length:Nat):Int)::(dds 14 (vi ((topN xs xs.length:Nat):Int)::(.val (.bool (((topN xs xs.length:Nat):Int)==0))::(.val (.agg [.bool false, .sl 0 []])::(dds 6 []))))))))))) (ex := .ret) (ps:=[(((topN xs xs.length:Nat):Int)==0)=true]) TQ0_holds 300 [.b true] [0,1,4,5,20,21,22] (by kernel_rfl) ⟨hz,trivial⟩)))) (by intro i e;cases e) rfl
theorem Yrun133_p (neg:Bool) (xs:List Int) (hz:(((topN xs xs.length:Nat):Int)==0)=false) (hl:RunsW Yir (.loop Yc133) (Ys133 neg xs.length (lm xs) (xs.length:Int)) (.exit 0) (Ys133 neg xs.length (lm xs) ((topN xs xs.length:Nat):Int))) (hsc:0≤(Int.toNat ((topN xs xs.length:Nat):Int))∧(Int.toNat ((topN xs xs.length:Nat):Int))≤(Int.toNat ((topN xs xs.length:Nat):Int))∧(Int.toNat ((topN xs xs.length:Nat):Int))≤xs.length∧(true=true→true=true)):Runs Yir 133 [.bool neg, .sl xs.length (lm xs)] (.agg [.bool neg, .sl ((Int.toNat ((topN xs xs.length:Nat):Int))-0) (List.take (((Int.toNat ((topN xs xs.length:Nat):Int))-0)*1) (List.drop (0*1) (lm xs)))]):=Runs.of_bodyW (fn:=Yi133) (s:=(.val (.bool neg)::(.val (.sl xs.length (lm xs))::(dds 2 (.box [.bool neg, .sl ((Int.toNat ((topN xs xs.length:Nat):Int))-0) (List.take (((Int.toNat ((topN xs xs.length:Nat):Int))-0)*1) (List.drop (0*1) (lm xs)))]::(.val (.int .i64 ((topN xs xs.length:Nat):Int))::(dds 14 (.val (.int .i64 ((topN xs xs.length:Nat):Int))::(.val (.bool (((topN xs xs.length:Nat):Int)==0))::(dds 1 (.val (.bool neg)::(.val (.sl xs.length (lm xs))::(.val (.int .i64 ((topN xs xs.length:Nat):Int))::(.val (.int .i64 ((topN xs xs.length:Nat):Int))::(.val (.sl ((Int.toNat ((topN xs xs.length:Nat):Int))-0) (List.take (((Int.toNat ((topN xs xs.length:Nat):Int))-0)*1) (List.drop (0*1) (lm xs))))::(.val (.agg [.bool neg, .sl ((Int.toNat ((topN xs xs.length:Nat):Int))-0) (List.take (((Int.toNat ((topN xs xs.length:Nat):Int))-0)*1) (List.drop (0*1) (lm xs)))])::[])))))))))))))))) (ex := .ret) rfl rfl (RunsW.seq (RunsW.script (t:=(.val (.bool neg)::(vl xs::(dds 2 (.box [.bool false, .sl 0 []]::(dds 24 [])))))) (ex := .norm) (ps:=[]) TQ0_holds 300 [] [0,1,4] (by kernel_rfl) trivial) (RunsW.seq (RunsW.script (t:=(.val (.bool neg)::(vl xs::(dds 2 (.box [.bool false, .sl 0 []]::(vi (xs.length:Int)::(dds 23 []))))))) (ex := .norm) (ps:=[]) TQ0_holds 300 [] [0,1,4,5] (by kernel_rfl) trivial) (RunsW.seq (RunsW.block hl) (RunsW.script (t:=(.val (.bool neg)::(vl xs::(dds 2 (.box [.bool neg, .sl ((Int.toNat ((topN xs xs.length:Nat):Int))-0) (List.take (((Int.toNat ((topN xs xs.length:Nat):Int))-0)*1) (List.drop (0*1) (lm xs)))]::(vi ((topN xs xs.length:Nat):Int)::(dds 14 (vi ((topN xs xs.length:Nat):Int)::(.val (.bool (((topN xs xs.length:Nat):Int)==0))::(dds 1 (.val (.bool neg)::(vl xs::(vi ((topN xs xs.length:Nat):Int)::(vi ((topN xs xs.length:Nat):Int)::(.val (.sl ((Int.toNat ((topN xs xs.length:Nat):Int))-0) (List.take (((Int.toNat ((topN xs xs.length:Nat):Int))-0)*1) (List.drop (0*1) (lm xs))))::(.val (.agg [.bool neg, .sl ((Int.toNat ((topN xs xs.length:Nat):Int))-0) (List.take (((Int.toNat ((topN xs xs.length:Nat):Int))-0)*1) (List.drop (0*1) (lm xs)))])::[])))))))))))))))) (ex := .ret) (ps:=[(((topN xs xs.length:Nat):Int)==0)=false,0≤((topN xs xs.length:Nat):Int),0≤((topN xs xs.length:Nat):Int),0≤(Int.toNat ((topN xs xs.length:Nat):Int))∧(Int.toNat ((topN xs xs.length:Nat):Int))≤(Int.toNat ((topN xs xs.length:Nat):Int))∧(Int.toNat ((topN xs xs.length:Nat):Int))≤xs.length∧(true=true→true=true)]) TQ0_holds 300 [.b false] [0,1,4,5,20,21,23,24,25,26,27,28] (by kernel_rfl) ⟨hz,(Int.natCast_nonneg _),(Int.natCast_nonneg _),hsc,trivial⟩)))) (by intro i e;cases e) rfl
theorem made_run {neg:Bool} {xs:List Int} (hu:U32 xs) (hN:xs.length≤1048576):Runs Yir 133 [.bool neg, .sl xs.length (lm xs)] (bigAV (rv neg xs)):=by
 obtain ⟨e1,e2,e3⟩:=topN_sl xs
 have ht:=trimL_rv (neg:=neg) hu
 have hn:=neg_rv (neg:=neg) hu
 have hlen:(trimL xs).length=topN xs xs.length:=by rw [← e1,Int.toNat_natCast];rfl
 have hl:=Yloop133 neg xs hN xs.length (Nat.le_refl _)
 by_cases h0:topN xs xs.length=0
 ·have h:=Yrun133_z neg xs (by rw [h0];rfl) hl
  have hz:(limbs (rv neg xs).natAbs).length=0:=by rw [← ht,hlen,h0]
  have hv:rv neg xs=0:=by have:=(limbs_zero_len _).1 hz;omega
  rw [hv]
  exact h
 ·have h:=Yrun133_p neg xs (by rw [beq_eq_false_iff_ne];omega) hl ⟨e3.1,Nat.le_refl _,e3.2.1,fun _=>rfl⟩
  rw [e2,e1,ht] at h
  have hp:decide (0<(limbs (rv neg xs).natAbs).length)=true:=by rw [← ht,hlen];simp;omega
  rw [hp,Bool.and_true] at hn
  rw [bigAV,← hn]
  exact h
theorem Yrun94_n (n:Int) (c1:decide (n<0)=true) (hcall:Runs Yir 133 [.bool (decide (n<0)), .sl 2 [.int .u32 (u32.wrap (u64.wrap (0-(u64.wrap n)))), .int .u32 (u32.wrap (Int.fdiv (u64.wrap (0-(u64.wrap n))) (2^(min (Int.toNat 32) (IntKind.bits .u64)))))]] (.agg [.bool (decide (n<0)), .sl ((limbs (Int.natAbs n)).length) (lm (limbs (Int.natAbs n)))])):Runs Yir 94 [.int .i64 n] (.agg [.bool (decide (n<0)), .sl ((limbs (Int.natAbs n)).length) (lm (limbs (Int.natAbs n)))]):=Runs.script (ps:=[(decide (n<0))=true,¬ (32:Int)<0,Runs Yir 133 [.bool (decide (n<0)), .sl 2 [.int .u32 (u32.wrap (u64.wrap (0-(u64.wrap n)))), .int .u32 (u32.wrap (Int.fdiv (u64.wrap (0-(u64.wrap n))) (2^(min (Int.toNat 32) (IntKind.bits .u64)))))]] (.agg [.bool (decide (n<0)), .sl ((limbs (Int.natAbs n)).length) (lm (limbs (Int.natAbs n)))])]) TQ0_holds rfl 300 rfl [.b true, .r (.agg [.bool (decide (n<0)), .sl ((limbs (Int.natAbs n)).length) (lm (limbs (Int.natAbs n)))])] (by kernel_rfl) ⟨c1,(by decide),hcall,trivial⟩
theorem Yrun94_p (n:Int) (c1:decide (n<0)=false) (hcall:Runs Yir 133 [.bool (decide (n<0)), .sl 2 [.int .u32 (u32.wrap (u64.wrap n)), .int .u32 (u32.wrap (Int.fdiv (u64.wrap n) (2^(min (Int.toNat 32) (IntKind.bits .u64)))))]] (.agg [.bool (decide (n<0)), .sl ((limbs (Int.natAbs n)).length) (lm (limbs (Int.natAbs n)))])):Runs Yir 94 [.int .i64 n] (.agg [.bool (decide (n<0)), .sl ((limbs (Int.natAbs n)).length) (lm (limbs (Int.natAbs n)))]):=Runs.script (ps:=[(decide (n<0))=false,¬ (32:Int)<0,Runs Yir 133 [.bool (decide (n<0)), .sl 2 [.int .u32 (u32.wrap (u64.wrap n)), .int .u32 (u32.wrap (Int.fdiv (u64.wrap n) (2^(min (Int.toNat 32) (IntKind.bits .u64)))))]] (.agg [.bool (decide (n<0)), .sl ((limbs (Int.natAbs n)).length) (lm (limbs (Int.natAbs n)))])]) TQ0_holds rfl 300 rfl [.b false, .r (.agg [.bool (decide (n<0)), .sl ((limbs (Int.natAbs n)).length) (lm (limbs (Int.natAbs n)))])] (by kernel_rfl) ⟨c1,(by decide),hcall,trivial⟩
theorem wof_run {n:Int} (hn : -9223372036854775808≤n∧n≤9223372036854775807):Runs Yir 94 [.int .i64 n] (bigAV n):=by
 cases c1:decide (n<0) with
 | true =>
  have h0:n<0:=by simpa using c1
  have eu:(u64.wrap (0-u64.wrap n)) = -n:=by rw [wu64m,wu64m];omega
  obtain ⟨k1,k2⟩:=of_limbs (u:=(u64.wrap (0-u64.wrap n))) (by rw [eu];omega)
  refine Yrun94_n n c1 ?_
  have:=made_run (neg:=true) k1 (by simp)
  have e:rv true [u32.wrap (u64.wrap (0-u64.wrap n)),u32.wrap (Int.fdiv (u64.wrap (0-u64.wrap n)) (2^(min (Int.toNat 32) (IntKind.bits .u64))))]=n:=by
   unfold rv;rw [k2,if_pos rfl,eu];omega
  rw [e,bigAV,c1] at this
  rw [c1]
  exact this
 | false =>
  have h0:¬ n<0:=by simpa using c1
  have eu:u64.wrap n=n:=by rw [wu64m];omega
  obtain ⟨k1,k2⟩:=of_limbs (u:=u64.wrap n) (by rw [eu];omega)
  refine Yrun94_p n c1 ?_
  have:=made_run (neg:=false) k1 (by simp)
  have e:rv false [u32.wrap (u64.wrap n),u32.wrap (Int.fdiv (u64.wrap n) (2^(min (Int.toNat 32) (IntKind.bits .u64))))]=n:=by
   unfold rv;rw [if_neg (by decide),k2,eu]
  rw [e,bigAV,c1] at this
  rw [c1]
  exact this
theorem Yrun132 (neg:Bool) (xs:List Int) (a r:Int) (h1:Runs Yir 122 [.agg [.bool neg, .sl xs.length (lm xs)]] (.tup [.bool (decide (a<0)), .sl ((limbs (Int.natAbs a)).length) (lm (limbs (Int.natAbs a)))])) (h2:Runs Yir 133 [.bool (decide (a<0)), .sl (limbs (Int.natAbs a)).length (lm (limbs (Int.natAbs a)))] (.agg [.bool (decide (r<0)), .sl ((limbs (Int.natAbs r)).length) (lm (limbs (Int.natAbs r)))])) (hal:List.length (lm (limbs (Int.natAbs a)))=(limbs (Int.natAbs a)).length*1) (han:(limbs (Int.natAbs a)).length≤1048576):Runs Yir 132 [.agg [.bool neg, .sl xs.length (lm xs)]] (.agg [.bool (decide (r<0)), .sl ((limbs (Int.natAbs r)).length) (lm (limbs (Int.natAbs r)))]):=Runs.script (ps:=[Runs Yir 122 [.agg [.bool neg, .sl xs.length (lm xs)]] (.tup [.bool (decide (a<0)), .sl ((limbs (Int.natAbs a)).length) (lm (limbs (Int.natAbs a)))]),List.length (lm (limbs (Int.natAbs a)))=((limbs (Int.natAbs a)).length)*1,((limbs (Int.natAbs a)).length)≤1048576,Runs Yir 133 [.bool (decide (a<0)), .sl ((limbs (Int.natAbs a)).length) (lm (limbs (Int.natAbs a)))] (.agg [.bool (decide (r<0)), .sl ((limbs (Int.natAbs r)).length) (lm (limbs (Int.natAbs r)))])]) TQ0_holds rfl 300 rfl [.r (.tup [.bool (decide (a<0)), .sl ((limbs (Int.natAbs a)).length) (lm (limbs (Int.natAbs a)))]), .r (.agg [.bool (decide (r<0)), .sl ((limbs (Int.natAbs r)).length) (lm (limbs (Int.natAbs r)))])] (by kernel_rfl) ⟨h1,hal,han,h2,trivial⟩
theorem Yrun112 (neg:Bool) (xs:List Int) (a r:Int) (h1:Runs Yir 122 [.agg [.bool neg, .sl xs.length (lm xs)]] (.tup [.bool (decide (a<0)), .sl ((limbs (Int.natAbs a)).length) (lm (limbs (Int.natAbs a)))])) (h2:Runs Yir 133 [.bool (!(decide (a<0))), .sl (limbs (Int.natAbs a)).length (lm (limbs (Int.natAbs a)))] (.agg [.bool (decide (r<0)), .sl ((limbs (Int.natAbs r)).length) (lm (limbs (Int.natAbs r)))])) (hal:List.length (lm (limbs (Int.natAbs a)))=(limbs (Int.natAbs a)).length*1) (han:(limbs (Int.natAbs a)).length≤1048576):Runs Yir 112 [.agg [.bool neg, .sl xs.length (lm xs)]] (.agg [.bool (decide (r<0)), .sl ((limbs (Int.natAbs r)).length) (lm (limbs (Int.natAbs r)))]):=Runs.script (ps:=[Runs Yir 122 [.agg [.bool neg, .sl xs.length (lm xs)]] (.tup [.bool (decide (a<0)), .sl ((limbs (Int.natAbs a)).length) (lm (limbs (Int.natAbs a)))]),List.length (lm (limbs (Int.natAbs a)))=((limbs (Int.natAbs a)).length)*1,((limbs (Int.natAbs a)).length)≤1048576,Runs Yir 133 [.bool (!(decide (a<0))), .sl ((limbs (Int.natAbs a)).length) (lm (limbs (Int.natAbs a)))] (.agg [.bool (decide (r<0)), .sl ((limbs (Int.natAbs r)).length) (lm (limbs (Int.natAbs r)))])]) TQ0_holds rfl 300 rfl [.r (.tup [.bool (decide (a<0)), .sl ((limbs (Int.natAbs a)).length) (lm (limbs (Int.natAbs a)))]), .r (.agg [.bool (decide (r<0)), .sl ((limbs (Int.natAbs r)).length) (lm (limbs (Int.natAbs r)))])] (by kernel_rfl) ⟨h1,hal,han,h2,trivial⟩
theorem lim_al (xs:List Int):List.length (lm xs)=xs.length*1:=by rw [lim_length,Nat.mul_one]
theorem rv_pos (n:Int):rv false (limbs n.natAbs)=(n.natAbs:Int):=by unfold rv;rw [if_neg (by decide),limbs_val]
theorem rv_not (n:Int):rv (!decide (n<0)) (limbs n.natAbs) = -n:=by
 unfold rv
 rw [limbs_val]
 by_cases h:n<0 <;> simp [h] <;> omega
theorem wtrim_run {neg:Bool} {xs:List Int} (hu:U32 xs) (hN:xs.length≤1048576):Runs Yir 132 [.agg [.bool neg, .sl xs.length (lm xs)]] (bigAV (rv neg xs)):=by
 have hl:(limbs (rv neg xs).natAbs).length≤1048576:=Nat.le_trans (rv_len hu) hN
 have h2:=made_run (neg:=decide (rv neg xs<0)) (big_u32 (rv neg xs).natAbs) hl
 rw [rv_big] at h2
 exact Yrun132 neg xs (rv neg xs) (rv neg xs) (limbs_run hu hN) h2 (lim_al _) hl
theorem wneg_run {neg:Bool} {xs:List Int} (hu:U32 xs) (hN:xs.length≤1048576):Runs Yir 112 [.agg [.bool neg, .sl xs.length (lm xs)]] (bigAV (-(rv neg xs))):=by
 have hl:(limbs (rv neg xs).natAbs).length≤1048576:=Nat.le_trans (rv_len hu) hN
 have h2:=made_run (neg := !decide (rv neg xs<0)) (big_u32 (rv neg xs).natAbs) hl
 rw [rv_not] at h2
 exact Yrun112 neg xs (rv neg xs) (-(rv neg xs)) (limbs_run hu hN) h2 (lim_al _) hl
def Ysh73 (a:Int):AV :=
 match (((limbs (Int.natAbs a)).length:Nat):Int)==0 with
 | true=>(.int .i64 0)
 | false=>(match decide (a<0) with
 | true=>(.int .i64 (-1))
 | false=>(.int .i64 1))
theorem Yrun73 (neg:Bool) (xs:List Int) (a:Int) (h1:Runs Yir 122 [.agg [.bool neg, .sl xs.length (lm xs)]] (.tup [.bool (decide (a<0)), .sl ((limbs (Int.natAbs a)).length) (lm (limbs (Int.natAbs a)))])):Runs Yir 73 [.agg [.bool neg, .sl xs.length (lm xs)]] (Ysh73 a):=by
 unfold Ysh73
 cases c1:((((limbs (Int.natAbs a)).length:Nat):Int)==0)
 ·cases c2:(decide (a<0))
  ·exact Runs.script (r := .int .i64 1) (ps:=[Runs Yir 122 [.agg [.bool neg, .sl xs.length (lm xs)]] (.tup [.bool (decide (a<0)), .sl ((limbs (Int.natAbs a)).length) (lm (limbs (Int.natAbs a)))]),((((limbs (Int.natAbs a)).length:Nat):Int)==0)=false,(decide (a<0))=false]) TQ0_holds rfl 300 rfl [.r (.tup [.bool (decide (a<0)), .sl ((limbs (Int.natAbs a)).length) (lm (limbs (Int.natAbs a)))]), .b false, .b false] (by kernel_rfl) ⟨h1,c1,c2,trivial⟩
  ·exact Runs.script (r := .int .i64 (-1)) (ps:=[Runs Yir 122 [.agg [.bool neg, .sl xs.length (lm xs)]] (.tup [.bool (decide (a<0)), .sl ((limbs (Int.natAbs a)).length) (lm (limbs (Int.natAbs a)))]),((((limbs (Int.natAbs a)).length:Nat):Int)==0)=false,(decide (a<0))=true]) TQ0_holds rfl 300 rfl [.r (.tup [.bool (decide (a<0)), .sl ((limbs (Int.natAbs a)).length) (lm (limbs (Int.natAbs a)))]), .b false, .b true] (by kernel_rfl) ⟨h1,c1,c2,trivial⟩
 ·exact Runs.script (r := .int .i64 0) (ps:=[Runs Yir 122 [.agg [.bool neg, .sl xs.length (lm xs)]] (.tup [.bool (decide (a<0)), .sl ((limbs (Int.natAbs a)).length) (lm (limbs (Int.natAbs a)))]),((((limbs (Int.natAbs a)).length:Nat):Int)==0)=true]) TQ0_holds rfl 300 rfl [.r (.tup [.bool (decide (a<0)), .sl ((limbs (Int.natAbs a)).length) (lm (limbs (Int.natAbs a)))]), .b true] (by kernel_rfl) ⟨h1,c1,trivial⟩
theorem wsign_run {neg:Bool} {xs:List Int} (hu:U32 xs) (hN:xs.length≤1048576):Runs Yir 73 [.agg [.bool neg, .sl xs.length (lm xs)]] (.int .i64 (sgnI (rv neg xs))):=by
 have h:=Yrun73 neg xs (rv neg xs) (limbs_run hu hN)
 have e:Ysh73 (rv neg xs) = .int .i64 (sgnI (rv neg xs)):=by
  unfold Ysh73 sgnI
  have hz:=limbs_zero_len (rv neg xs).natAbs
  by_cases h0:rv neg xs=0
  ·rw [h0];rfl
  ·have e1:((((limbs (rv neg xs).natAbs).length:Nat):Int)==0)=false:=by rw [beq_eq_false_iff_ne];omega
   rw [e1]
   by_cases h1:rv neg xs<0
   ·simp [h1]
   ·have h2:0<rv neg xs:=by omega
    simp [h1,h2]
 rw [← e];exact h
def TWA:Table:=TQ0
theorem TWA_holds:THolds Yir TWA:=TQ0_holds
end Go.Proofs.Ythnnfemologhfaa

namespace Go.Proofs.Ythnnfemologhfaa
open Go.IntKind (i64 u64 u32)
open Go.Ai
set_option maxRecDepth 100000
def Ys150 (N:Nat) (cs:List AV) (M:Nat) (ds:List AV) (v i:Int):State:=(.val (.sl N cs)::(.val (.sl M ds)::(dds 2 (.val (.int .i64 v)::(.val (.int .i64 i)::(dds 35 []))))))
theorem Yk150_1 (N:Nat) (cs:List AV) (M:Nat) (ds:List AV) (v i x y:Int) (c1:(decide (i≥0))=true) (c2:(x != y)=true) (c3:(decide (x<y))=true) (n1:0≤i∧i<(N:Int)) (n2:takeA (List.drop (Int.toNat i*1) cs) 0 1 true=some (.int .u32 x)) (n3:0≤i∧i<(M:Int)) (n4:takeA (List.drop (Int.toNat i*1) ds) 0 1 true=some (.int .u32 y)) (n5:0≤i∧i<(N:Int)) (n6:takeA (List.drop (Int.toNat i*1) cs) 0 1 true=some (.int .u32 x)) (n7:0≤i∧i<(M:Int)) (n8:takeA (List.drop (Int.toNat i*1) ds) 0 1 true=some (.int .u32 y)):RunsW Yir Yc150 (Ys150 N cs M ds v i) .ret (Ys150 N cs M ds (-1) i):=RunsW.script (ps:=[(decide (i≥0))=true,0≤i∧i<(N:Int),takeA (List.drop (Int.toNat i*1) cs) 0 1 true=some (.int .u32 x),0≤i∧i<(M:Int),takeA (List.drop (Int.toNat i*1) ds) 0 1 true=some (.int .u32 y),(x != y)=true,0≤i∧i<(N:Int),takeA (List.drop (Int.toNat i*1) cs) 0 1 true=some (.int .u32 x),0≤i∧i<(M:Int),takeA (List.drop (Int.toNat i*1) ds) 0 1 true=some (.int .u32 y),(decide (x<y))=true]) TWA_holds 300 [.b true, .v (.int .u32 x), .v (.int .u32 y), .b true, .v (.int .u32 x), .v (.int .u32 y), .b true] [0,1,4,5] (by kernel_rfl) ⟨c1,n1,n2,n3,n4,c2,n5,n6,n7,n8,c3,trivial⟩
theorem Yk150_2 (N:Nat) (cs:List AV) (M:Nat) (ds:List AV) (v i x y:Int) (c1:(decide (i≥0))=true) (c2:(x != y)=true) (c3:(decide (x<y))=false) (n1:0≤i∧i<(N:Int)) (n2:takeA (List.drop (Int.toNat i*1) cs) 0 1 true=some (.int .u32 x)) (n3:0≤i∧i<(M:Int)) (n4:takeA (List.drop (Int.toNat i*1) ds) 0 1 true=some (.int .u32 y)) (n5:0≤i∧i<(N:Int)) (n6:takeA (List.drop (Int.toNat i*1) cs) 0 1 true=some (.int .u32 x)) (n7:0≤i∧i<(M:Int)) (n8:takeA (List.drop (Int.toNat i*1) ds) 0 1 true=some (.int .u32 y)):RunsW Yir Yc150 (Ys150 N cs M ds v i) .ret (Ys150 N cs M ds 1 i):=RunsW.script (ps:=[(decide (i≥0))=true,0≤i∧i<(N:Int),takeA (List.drop (Int.toNat i*1) cs) 0 1 true=some (.int .u32 x),0≤i∧i<(M:Int),takeA (List.drop (Int.toNat i*1) ds) 0 1 true=some (.int .u32 y),(x != y)=true,0≤i∧i<(N:Int),takeA (List.drop (Int.toNat i*1) cs) 0 1 true=some (.int .u32 x),0≤i∧i<(M:Int),takeA (List.drop (Int.toNat i*1) ds) 0 1 true=some (.int .u32 y),(decide (x<y))=false]) TWA_holds 300 [.b true, .v (.int .u32 x), .v (.int .u32 y), .b true, .v (.int .u32 x), .v (.int .u32 y), .b false] [0,1,4,5] (by kernel_rfl) ⟨c1,n1,n2,n3,n4,c2,n5,n6,n7,n8,c3,trivial⟩
theorem Yk150_3 (N:Nat) (cs:List AV) (M:Nat) (ds:List AV) (v i x y:Int) (c1:(decide (i≥0))=true) (c2:(x != y)=false) (n1:0≤i∧i<(N:Int)) (n2:takeA (List.drop (Int.toNat i*1) cs) 0 1 true=some (.int .u32 x)) (n3:0≤i∧i<(M:Int)) (n4:takeA (List.drop (Int.toNat i*1) ds) 0 1 true=some (.int .u32 y)):RunsW Yir Yc150 (Ys150 N cs M ds v i) .norm (Ys150 N cs M ds v (i64.wrap (i-1))):=RunsW.script (ps:=[(decide (i≥0))=true,0≤i∧i<(N:Int),takeA (List.drop (Int.toNat i*1) cs) 0 1 true=some (.int .u32 x),0≤i∧i<(M:Int),takeA (List.drop (Int.toNat i*1) ds) 0 1 true=some (.int .u32 y),(x != y)=false]) TWA_holds 300 [.b true, .v (.int .u32 x), .v (.int .u32 y), .b false] [0,1,4,5] (by kernel_rfl) ⟨c1,n1,n2,n3,n4,c2,trivial⟩
theorem Yk150_4 (N:Nat) (cs:List AV) (M:Nat) (ds:List AV) (v i:Int) (c1:(decide (i≥0))=false):RunsW Yir Yc150 (Ys150 N cs M ds v i) (.exit 0) (Ys150 N cs M ds v i):=RunsW.script (ps:=[(decide (i≥0))=false]) TWA_holds 300 [.b false] [0,1,4,5] (by kernel_rfl) ⟨c1,trivial⟩
theorem Yloop150 (xs ys:List Int) (hN:xs.length≤1048576) (hl:xs.length=ys.length):∀ m,m≤xs.length →
  (cmpGo xs ys m=0∧RunsW Yir (.loop Yc150) (Ys150 xs.length (lm xs) ys.length (lm ys) 0 ((m:Int)-1)) (.exit 0) (Ys150 xs.length (lm xs) ys.length (lm ys) 0 (-1))) ∨
  (cmpGo xs ys m ≠ 0∧∃ j,RunsW Yir (.loop Yc150) (Ys150 xs.length (lm xs) ys.length (lm ys) 0 ((m:Int)-1)) .ret (Ys150 xs.length (lm xs) ys.length (lm ys) (cmpGo xs ys m) j)):=by
 intro m
 induction m with
 | zero =>
  intro _
  left
  refine ⟨rfl,?_⟩
  exact RunsW.loop_out (Yk150_4 xs.length (lm xs) ys.length (lm ys) 0 (((0:Nat):Int)-1) (by simp)) (by intro e;cases e)
 | succ m ih =>
  intro hm
  have e0:((m+1:Nat):Int)-1=(m:Int):=by omega
  have e1:i64.wrap ((m:Int)-1)=(m:Int)-1:=w64 (by omega) (by omega)
  have hx:=take_lim (xs:=xs) (i:=m) (by omega)
  have hy:=take_lim (xs:=ys) (i:=m) (by omega)
  rw [e0]
  simp only [cmpGo]
  by_cases h:xs.getD m 0=ys.getD m 0
  ·rw [if_pos h]
   have h1:=Yk150_3 xs.length (lm xs) ys.length (lm ys) 0 (m:Int) (xs.getD m 0) (ys.getD m 0) (by simp) (by simpa using h) (by omega) (by rw [Int.toNat_natCast];exact hx) (by omega) (by rw [Int.toNat_natCast];exact hy)
   rw [e1] at h1
   rcases ih (by omega) with ⟨k1,k2⟩ | ⟨k1,j,k2⟩
   ·exact .inl ⟨k1,RunsW.loop h1 k2⟩
   ·exact .inr ⟨k1,j,RunsW.loop h1 k2⟩
  ·rw [if_neg h]
   right
   by_cases hlt:xs.getD m 0<ys.getD m 0
   ·rw [if_pos hlt]
    refine ⟨by decide,(m:Int),?_⟩
    exact RunsW.loop_out (Yk150_1 xs.length (lm xs) ys.length (lm ys) 0 (m:Int) (xs.getD m 0) (ys.getD m 0) (by simp) (by simpa using h) (by simpa using hlt) (by omega) (by rw [Int.toNat_natCast];exact hx) (by omega) (by rw [Int.toNat_natCast];exact hy) (by omega) (by rw [Int.toNat_natCast];exact hx) (by omega) (by rw [Int.toNat_natCast];exact hy)) (by intro e;cases e)
   ·rw [if_neg hlt]
    refine ⟨by decide,(m:Int),?_⟩
    exact RunsW.loop_out (Yk150_2 xs.length (lm xs) ys.length (lm ys) 0 (m:Int) (xs.getD m 0) (ys.getD m 0) (by simp) (by simpa using h) (by simpa using hlt) (by omega) (by rw [Int.toNat_natCast];exact hx) (by omega) (by rw [Int.toNat_natCast];exact hy) (by omega) (by rw [Int.toNat_natCast];exact hx) (by omega) (by rw [Int.toNat_natCast];exact hy)) (by intro e;cases e)
theorem Yrun150_lt (xs ys:List Int) (h:((xs.length:Int) != (ys.length:Int))=true) (h2:(decide ((xs.length:Int)<(ys.length:Int)))=true):Runs Yir 150 [.sl xs.length (lm xs), .sl ys.length (lm ys)] (.int .i64 (-1)):=Runs.script (ps:=[((xs.length:Int) != (ys.length:Int))=true,(decide ((xs.length:Int)<(ys.length:Int)))=true]) TWA_holds rfl 300 rfl [.b true, .b true] (by kernel_rfl) ⟨h,h2,trivial⟩
theorem Yrun150_gt (xs ys:List Int) (h:((xs.length:Int) != (ys.length:Int))=true) (h2:(decide ((xs.length:Int)<(ys.length:Int)))=false):Runs Yir 150 [.sl xs.length (lm xs), .sl ys.length (lm ys)] (.int .i64 1):=Runs.script (ps:=[((xs.length:Int) != (ys.length:Int))=true,(decide ((xs.length:Int)<(ys.length:Int)))=false]) TWA_holds rfl 300 rfl [.b true, .b false] (by kernel_rfl) ⟨h,h2,trivial⟩
theorem Yrun150_eq (xs ys:List Int) (h:((xs.length:Int) != (ys.length:Int))=false) (hl:RunsW Yir (.loop Yc150) (Ys150 xs.length (lm xs) ys.length (lm ys) 0 (i64.wrap ((xs.length:Int)-1))) (.exit 0) (Ys150 xs.length (lm xs) ys.length (lm ys) 0 (-1))):Runs Yir 150 [.sl xs.length (lm xs), .sl ys.length (lm ys)] (.int .i64 0):=Runs.of_bodyW (fn:=Yi150) (s:=(.val (.sl xs.length (lm xs))::(.val (.sl ys.length (lm ys))::(dds 2 (.val (.int .i64 0)::(.val (.int .i64 (-1))::(dds 35 []))))))) (ex := .ret) rfl rfl (RunsW.seq (RunsW.script (t:=(vl xs::(vl ys::(dds 2 (vi 0::(dds 36 [])))))) (ex := .norm) (ps:=[]) TWA_holds 300 [] [0,1,4] (by kernel_rfl) trivial) (RunsW.seq (RunsW.script (t:=(vl xs::(vl ys::(dds 2 (vi 0::(dds 1 (vl xs::(vi (xs.length:Int)::(vl ys::(vi (ys.length:Int)::(.val (.bool ((xs.length:Int) != (ys.length:Int)))::(dds 30 [])))))))))))) (ex := .norm) (ps:=[((xs.length:Int) != (ys.length:Int))=false]) TWA_holds 300 [.b false] [0,1,4,6,7,8,9,10] (by kernel_rfl) ⟨h,trivial⟩) (RunsW.seq (RunsW.seq (RunsW.script (t:=(vl xs::(vl ys::(dds 2 (vi 0::(vi (i64.wrap ((xs.length:Int)-1))::(dds 35 []))))))) (ex := .norm) (ps:=[]) TWA_holds 300 [] [0,1,4,5] (by kernel_rfl) trivial) (RunsW.block hl)) (RunsW.script (t:=(vl xs::(vl ys::(dds 2 (vi 0::(vi (-1)::(dds 35 []))))))) (ex := .ret) (ps:=[]) TWA_holds 300 [] [0,1,4,5] (by kernel_rfl) trivial)))) (by intro i e;cases e) rfl
theorem Yrun150_ne (xs ys:List Int) (r j:Int) (h:((xs.length:Int) != (ys.length:Int))=false) (hl:RunsW Yir (.loop Yc150) (Ys150 xs.length (lm xs) ys.length (lm ys) 0 (i64.wrap ((xs.length:Int)-1))) .ret (Ys150 xs.length (lm xs) ys.length (lm ys) r j)):Runs Yir 150 [.sl xs.length (lm xs), .sl ys.length (lm ys)] (.int .i64 r):=Runs.of_bodyW (fn:=Yi150) (s:=(.val (.sl xs.length (lm xs))::(.val (.sl ys.length (lm ys))::(dds 2 (.val (.int .i64 r)::(.val (.int .i64 j)::(dds 35 []))))))) (ex := .ret) rfl rfl (RunsW.seq (RunsW.script (t:=(vl xs::(vl ys::(dds 2 (vi 0::(dds 36 [])))))) (ex := .norm) (ps:=[]) TWA_holds 300 [] [0,1,4] (by kernel_rfl) trivial) (RunsW.seq (RunsW.script (t:=(vl xs::(vl ys::(dds 2 (vi 0::(dds 1 (vl xs::(vi (xs.length:Int)::(vl ys::(vi (ys.length:Int)::(.val (.bool ((xs.length:Int) != (ys.length:Int)))::(dds 30 [])))))))))))) (ex := .norm) (ps:=[((xs.length:Int) != (ys.length:Int))=false]) TWA_holds 300 [.b false] [0,1,4,6,7,8,9,10] (by kernel_rfl) ⟨h,trivial⟩) (RunsW.seq_out (RunsW.seq (RunsW.script (t:=(vl xs::(vl ys::(dds 2 (vi 0::(vi (i64.wrap ((xs.length:Int)-1))::(dds 35 []))))))) (ex := .norm) (ps:=[]) TWA_holds 300 [] [0,1,4,5] (by kernel_rfl) trivial) (RunsW.block_ret hl)) (by intro e;cases e)))) (by intro i e;cases e) rfl
theorem cmpLimbs_run {xs ys:List Int} (hx:Canon xs) (hy:Canon ys) (hN:xs.length≤1048576):Runs Yir 150 [.sl xs.length (lm xs), .sl ys.length (lm ys)] (.int .i64 (cmpI (valL xs) (valL ys))):=by
 by_cases hl:xs.length=ys.length
 ·have h:((xs.length:Int) != (ys.length:Int))=false:=by rw [hl];simp
  have hg:=cmpGo_eq hx.1 hy.1 xs.length (Nat.le_refl _) (by omega)
  rw [List.take_length,hl,List.take_length,← hl] at hg
  have e1:i64.wrap ((xs.length:Int)-1)=(xs.length:Int)-1:=w64 (by omega) (by omega)
  rcases Yloop150 xs ys hN hl xs.length (Nat.le_refl _) with ⟨k1,k2⟩ | ⟨k1,j,k2⟩
  ·rw [← hg,k1]
   exact Yrun150_eq xs ys h (by rw [e1];exact k2)
  ·rw [← hg]
   exact Yrun150_ne xs ys _ j h (by rw [e1];exact k2)
 ·have h:((xs.length:Int) != (ys.length:Int))=true:=by simp;omega
  by_cases hlt:xs.length<ys.length
  ·have e:cmpI (valL xs) (valL ys) = -1:=by unfold cmpI;rw [if_pos (canon_lt hx hy hlt)]
   rw [e]
   exact Yrun150_lt xs ys h (by simp;omega)
  ·have:=canon_lt hy hx (by omega)
   have e:cmpI (valL xs) (valL ys)=1:=by unfold cmpI;rw [if_neg (by omega),if_pos this]
   rw [e]
   exact Yrun150_gt xs ys h (by simp;omega)
def Ys156 (la:Nat) (xa:List AV) (lb:Nat) (xb:List AV) (n:Nat) (cs:List AV) (c:Int) (m:Int) (i:Int):State:=(.val (.sl la xa)::(.val (.sl lb xb)::(dds 2 (.own 1 0 []::(.own 1 n cs::(.val (.int .u64 c)::(dds 14 (.val (.int .i64 m)::(.val (.int .i64 i)::(dds 35 []))))))))))
theorem Yk156_1 (la:Nat) (xa:List AV) (lb:Nat) (xb:List AV) (n:Nat) (cs:List AV) (c:Int) (m:Int) (i:Int) (ds:List AV) (x y:Int) (c1:(decide (i<m))=true) (c2:(decide (i<(lb:Int)))=true) (n1:0≤i∧i<(la:Int)) (n2:takeA (List.drop (Int.toNat i*1) xa) 0 1 true=some (.int .u32 x)) (n3:0≤i∧i<(lb:Int)) (n4:takeA (List.drop (Int.toNat i*1) xb) 0 1 true=some (.int .u32 y)) (n5:0≤i∧i<(n:Int)) (n6:layA cs (Int.toNat i*1) [.int .u32 (u32.wrap (u64.wrap ((u64.wrap ((u64.wrap x)+c))+(u64.wrap y))))]=some ds):RunsW Yir Yc156 (Ys156 la xa lb xb n cs c m i) .norm (Ys156 la xa lb xb n ds (Int.fdiv (u64.wrap ((u64.wrap ((u64.wrap x)+c))+(u64.wrap y))) (2^(min (Int.toNat 32) (IntKind.bits .u64)))) m (i64.wrap (i+1))):=RunsW.script (ps:=[(decide (i<m))=true,0≤i∧i<(la:Int),takeA (List.drop (Int.toNat i*1) xa) 0 1 true=some (.int .u32 x),(decide (i<(lb:Int)))=true,0≤i∧i<(lb:Int),takeA (List.drop (Int.toNat i*1) xb) 0 1 true=some (.int .u32 y),¬ (32:Int)<0,0≤i∧i<(n:Int),layA cs (Int.toNat i*1) [.int .u32 (u32.wrap (u64.wrap ((u64.wrap ((u64.wrap x)+c))+(u64.wrap y))))]=some ds]) TWA_holds 300 [.b true, .v (.int .u32 x), .b true, .v (.int .u32 y), .l ds] [0,1,4,5,6,21,22] (by kernel_rfl) ⟨c1,n1,n2,c2,n3,n4,(by decide),n5,n6,trivial⟩
theorem Yk156_2 (la:Nat) (xa:List AV) (lb:Nat) (xb:List AV) (n:Nat) (cs:List AV) (c:Int) (m:Int) (i:Int) (ds:List AV) (x:Int) (c1:(decide (i<m))=true) (c2:(decide (i<(lb:Int)))=false) (n1:0≤i∧i<(la:Int)) (n2:takeA (List.drop (Int.toNat i*1) xa) 0 1 true=some (.int .u32 x)) (n3:0≤i∧i<(n:Int)) (n4:layA cs (Int.toNat i*1) [.int .u32 (u32.wrap (u64.wrap ((u64.wrap x)+c)))]=some ds):RunsW Yir Yc156 (Ys156 la xa lb xb n cs c m i) .norm (Ys156 la xa lb xb n ds (Int.fdiv (u64.wrap ((u64.wrap x)+c)) (2^(min (Int.toNat 32) (IntKind.bits .u64)))) m (i64.wrap (i+1))):=RunsW.script (ps:=[(decide (i<m))=true,0≤i∧i<(la:Int),takeA (List.drop (Int.toNat i*1) xa) 0 1 true=some (.int .u32 x),(decide (i<(lb:Int)))=false,¬ (32:Int)<0,0≤i∧i<(n:Int),layA cs (Int.toNat i*1) [.int .u32 (u32.wrap (u64.wrap ((u64.wrap x)+c)))]=some ds]) TWA_holds 300 [.b true, .v (.int .u32 x), .b false, .l ds] [0,1,4,5,6,21,22] (by kernel_rfl) ⟨c1,n1,n2,c2,(by decide),n3,n4,trivial⟩
theorem Yk156_3 (la:Nat) (xa:List AV) (lb:Nat) (xb:List AV) (n:Nat) (cs:List AV) (c:Int) (m:Int) (i:Int) (c1:(decide (i<m))=false):RunsW Yir Yc156 (Ys156 la xa lb xb n cs c m i) (.exit 0) (Ys156 la xa lb xb n cs c m i):=RunsW.script (ps:=[(decide (i<m))=false]) TWA_holds 300 [.b false] [0,1,4,5,6,21,22] (by kernel_rfl) ⟨c1,trivial⟩
theorem Yloop156 (xs ys:List Int) (hx:U32 xs) (hy:U32 ys) (n:Nat) (hn:n≤1048576) (hxn:xs.length≤n):∀ (r i:Nat) (o:List Int) (c:Int),r+i=xs.length→o.length=n→U32 o→0≤c∧c≤1 →
  RunsW Yir (.loop Yc156) (Ys156 xs.length (lm xs) ys.length (lm ys) n (lm o) c (xs.length:Int) (i:Int)) (.exit 0)
   (Ys156 xs.length (lm xs) ys.length (lm ys) n (lm (addGo xs ys r i o c).1) (addGo xs ys r i o c).2 (xs.length:Int) (xs.length:Int)):=by
 intro r
 induction r with
 | zero =>
  intro i o c hi _ _ _
  have hi':i=xs.length:=by omega
  subst hi'
  exact RunsW.loop_out (Yk156_3 xs.length (lm xs) ys.length (lm ys) n (lm o) c (xs.length:Int) (xs.length:Int) (by simp)) (by intro e;cases e)
 | succ r ih =>
  intro i o c hi hlo hu hc
  have h1:=getD_u32 hx i
  have h2:=getD_u32 hy i
  have ei:i64.wrap ((i:Int)+1)=((i+1:Nat):Int):=by rw [w64 (by omega) (by omega)];omega
  have hxi:=take_lim (xs:=xs) (i:=i) (by omega)
  have hst:=lay_lim (xs:=o) (i:=i) (v:=(xs.getD i 0+c+ys.getD i 0) % 4294967296) (by omega)
  by_cases hy2:i<ys.length
  ·have hyi:=take_lim (xs:=ys) (i:=i) hy2
   have eW:u32.wrap (u64.wrap (u64.wrap (u64.wrap (xs.getD i 0)+c)+u64.wrap (ys.getD i 0)))=(xs.getD i 0+c+ys.getD i 0) % 4294967296:=by rw [wu32,wu64m,wu64m,wu64m,wu64m];omega
   have eC:Int.fdiv (u64.wrap (u64.wrap (u64.wrap (xs.getD i 0)+c)+u64.wrap (ys.getD i 0))) (2^(min (Int.toNat 32) (IntKind.bits .u64)))=((xs.getD i 0+c+ys.getD i 0) / 4294967296):=by
    show Int.fdiv _ 4294967296=_
    rw [Int.fdiv_eq_ediv_of_nonneg _ (by omega),wu64m,wu64m,wu64m,wu64m];omega
   have k:=Yk156_1 xs.length (lm xs) ys.length (lm ys) n (lm o) c (xs.length:Int) (i:Int) (lm (o.set i ((xs.getD i 0+c+ys.getD i 0) % 4294967296))) (xs.getD i 0) (ys.getD i 0)
    (by simp;omega) (by simp;omega) (by omega) (by rw [Int.toNat_natCast];exact hxi) (by omega) (by rw [Int.toNat_natCast];exact hyi) (by omega) (by rw [Int.toNat_natCast,eW];exact hst)
   rw [eC,ei] at k
   exact RunsW.loop k (ih (i+1) _ _ (by omega) (by simpa using hlo) (u32_set hu (by omega)) (by omega))
  ·have hy0:=getD_end (xs:=ys) (i:=i) (by omega)
   have eW:u32.wrap (u64.wrap (u64.wrap (xs.getD i 0)+c))=(xs.getD i 0+c+ys.getD i 0) % 4294967296:=by rw [wu32,wu64m,wu64m];omega
   have eC:Int.fdiv (u64.wrap (u64.wrap (xs.getD i 0)+c)) (2^(min (Int.toNat 32) (IntKind.bits .u64)))=((xs.getD i 0+c+ys.getD i 0) / 4294967296):=by
    show Int.fdiv _ 4294967296=_
    rw [Int.fdiv_eq_ediv_of_nonneg _ (by omega),wu64m,wu64m];omega
   have k:=Yk156_2 xs.length (lm xs) ys.length (lm ys) n (lm o) c (xs.length:Int) (i:Int) (lm (o.set i ((xs.getD i 0+c+ys.getD i 0) % 4294967296))) (xs.getD i 0)
    (by simp;omega) (by simp;omega) (by omega) (by rw [Int.toNat_natCast];exact hxi) (by omega) (by rw [Int.toNat_natCast,eW];exact hst)
   rw [eC,ei] at k
   exact RunsW.loop k (ih (i+1) _ _ (by omega) (by simpa using hlo) (u32_set hu (by omega)) (by omega))
def Ys157 (la:Nat) (xa:List AV) (lb:Nat) (xb:List AV) (n:Nat) (cs:List AV) (c:Int) (m:Int) (i:Int):State:=(.val (.sl la xa)::(.val (.sl lb xb)::(dds 2 (.own 1 0 []::(.own 1 n cs::(.val (.int .u64 c)::(dds 6 (.val (.int .i64 m)::(.val (.int .i64 i)::(dds 29 []))))))))))
theorem Yk157_1 (la:Nat) (xa:List AV) (lb:Nat) (xb:List AV) (n:Nat) (cs:List AV) (c:Int) (m:Int) (i:Int) (ds:List AV) (x y:Int) (c1:(decide (i<m))=true) (c2:(decide (i<(lb:Int)))=true) (n1:0≤i∧i<(la:Int)) (n2:takeA (List.drop (Int.toNat i*1) xa) 0 1 true=some (.int .u32 x)) (n3:0≤i∧i<(lb:Int)) (n4:takeA (List.drop (Int.toNat i*1) xb) 0 1 true=some (.int .u32 y)) (n5:0≤i∧i<(n:Int)) (n6:layA cs (Int.toNat i*1) [.int .u32 (u32.wrap (u64.wrap ((u64.wrap ((u64.wrap x)-c))-(u64.wrap y))))]=some ds):RunsW Yir Yc157 (Ys157 la xa lb xb n cs c m i) .norm (Ys157 la xa lb xb n ds (Int.fdiv (u64.wrap ((u64.wrap ((u64.wrap x)-c))-(u64.wrap y))) (2^(min (Int.toNat 63) (IntKind.bits .u64)))) m (i64.wrap (i+1))):=RunsW.script (ps:=[(decide (i<m))=true,0≤i∧i<(la:Int),takeA (List.drop (Int.toNat i*1) xa) 0 1 true=some (.int .u32 x),(decide (i<(lb:Int)))=true,0≤i∧i<(lb:Int),takeA (List.drop (Int.toNat i*1) xb) 0 1 true=some (.int .u32 y),¬ (63:Int)<0,0≤i∧i<(n:Int),layA cs (Int.toNat i*1) [.int .u32 (u32.wrap (u64.wrap ((u64.wrap ((u64.wrap x)-c))-(u64.wrap y))))]=some ds]) TWA_holds 300 [.b true, .v (.int .u32 x), .b true, .v (.int .u32 y), .l ds] [0,1,4,5,6,13,14] (by kernel_rfl) ⟨c1,n1,n2,c2,n3,n4,(by decide),n5,n6,trivial⟩
theorem Yk157_2 (la:Nat) (xa:List AV) (lb:Nat) (xb:List AV) (n:Nat) (cs:List AV) (c:Int) (m:Int) (i:Int) (ds:List AV) (x:Int) (c1:(decide (i<m))=true) (c2:(decide (i<(lb:Int)))=false) (n1:0≤i∧i<(la:Int)) (n2:takeA (List.drop (Int.toNat i*1) xa) 0 1 true=some (.int .u32 x)) (n3:0≤i∧i<(n:Int)) (n4:layA cs (Int.toNat i*1) [.int .u32 (u32.wrap (u64.wrap ((u64.wrap x)-c)))]=some ds):RunsW Yir Yc157 (Ys157 la xa lb xb n cs c m i) .norm (Ys157 la xa lb xb n ds (Int.fdiv (u64.wrap ((u64.wrap x)-c)) (2^(min (Int.toNat 63) (IntKind.bits .u64)))) m (i64.wrap (i+1))):=RunsW.script (ps:=[(decide (i<m))=true,0≤i∧i<(la:Int),takeA (List.drop (Int.toNat i*1) xa) 0 1 true=some (.int .u32 x),(decide (i<(lb:Int)))=false,¬ (63:Int)<0,0≤i∧i<(n:Int),layA cs (Int.toNat i*1) [.int .u32 (u32.wrap (u64.wrap ((u64.wrap x)-c)))]=some ds]) TWA_holds 300 [.b true, .v (.int .u32 x), .b false, .l ds] [0,1,4,5,6,13,14] (by kernel_rfl) ⟨c1,n1,n2,c2,(by decide),n3,n4,trivial⟩
theorem Yk157_3 (la:Nat) (xa:List AV) (lb:Nat) (xb:List AV) (n:Nat) (cs:List AV) (c:Int) (m:Int) (i:Int) (c1:(decide (i<m))=false):RunsW Yir Yc157 (Ys157 la xa lb xb n cs c m i) (.exit 0) (Ys157 la xa lb xb n cs c m i):=RunsW.script (ps:=[(decide (i<m))=false]) TWA_holds 300 [.b false] [0,1,4,5,6,13,14] (by kernel_rfl) ⟨c1,trivial⟩
theorem Yloop157 (xs ys:List Int) (hx:U32 xs) (hy:U32 ys) (n:Nat) (hn:n≤1048576) (hxn:xs.length≤n):∀ (r i:Nat) (o:List Int) (c:Int),r+i=xs.length→o.length=n→U32 o→0≤c∧c≤1 →
  RunsW Yir (.loop Yc157) (Ys157 xs.length (lm xs) ys.length (lm ys) n (lm o) c (xs.length:Int) (i:Int)) (.exit 0)
   (Ys157 xs.length (lm xs) ys.length (lm ys) n (lm (subGo xs ys r i o c).1) (subGo xs ys r i o c).2 (xs.length:Int) (xs.length:Int)):=by
 intro r
 induction r with
 | zero =>
  intro i o c hi _ _ _
  have hi':i=xs.length:=by omega
  subst hi'
  exact RunsW.loop_out (Yk157_3 xs.length (lm xs) ys.length (lm ys) n (lm o) c (xs.length:Int) (xs.length:Int) (by simp)) (by intro e;cases e)
 | succ r ih =>
  intro i o c hi hlo hu hc
  have h1:=getD_u32 hx i
  have h2:=getD_u32 hy i
  have ei:i64.wrap ((i:Int)+1)=((i+1:Nat):Int):=by rw [w64 (by omega) (by omega)];omega
  have hxi:=take_lim (xs:=xs) (i:=i) (by omega)
  have hst:=lay_lim (xs:=o) (i:=i) (v:=(xs.getD i 0-c-ys.getD i 0) % 4294967296) (by omega)
  by_cases hy2:i<ys.length
  ·have hyi:=take_lim (xs:=ys) (i:=i) hy2
   have eW:u32.wrap (u64.wrap (u64.wrap (u64.wrap (xs.getD i 0)-c)-u64.wrap (ys.getD i 0)))=(xs.getD i 0-c-ys.getD i 0) % 4294967296:=by rw [wu32,wu64m,wu64m,wu64m,wu64m];omega
   have eC:Int.fdiv (u64.wrap (u64.wrap (u64.wrap (xs.getD i 0)-c)-u64.wrap (ys.getD i 0))) (2^(min (Int.toNat 63) (IntKind.bits .u64)))=(-((xs.getD i 0-c-ys.getD i 0) / 4294967296)):=by
    show Int.fdiv _ 9223372036854775808=_
    rw [Int.fdiv_eq_ediv_of_nonneg _ (by omega),wu64m,wu64m,wu64m,wu64m];omega
   have k:=Yk157_1 xs.length (lm xs) ys.length (lm ys) n (lm o) c (xs.length:Int) (i:Int) (lm (o.set i ((xs.getD i 0-c-ys.getD i 0) % 4294967296))) (xs.getD i 0) (ys.getD i 0)
    (by simp;omega) (by simp;omega) (by omega) (by rw [Int.toNat_natCast];exact hxi) (by omega) (by rw [Int.toNat_natCast];exact hyi) (by omega) (by rw [Int.toNat_natCast,eW];exact hst)
   rw [eC,ei] at k
   exact RunsW.loop k (ih (i+1) _ _ (by omega) (by simpa using hlo) (u32_set hu (by omega)) (by omega))
  ·have hy0:=getD_end (xs:=ys) (i:=i) (by omega)
   have eW:u32.wrap (u64.wrap (u64.wrap (xs.getD i 0)-c))=(xs.getD i 0-c-ys.getD i 0) % 4294967296:=by rw [wu32,wu64m,wu64m];omega
   have eC:Int.fdiv (u64.wrap (u64.wrap (xs.getD i 0)-c)) (2^(min (Int.toNat 63) (IntKind.bits .u64)))=(-((xs.getD i 0-c-ys.getD i 0) / 4294967296)):=by
    show Int.fdiv _ 9223372036854775808=_
    rw [Int.fdiv_eq_ediv_of_nonneg _ (by omega),wu64m,wu64m];omega
   have k:=Yk157_2 xs.length (lm xs) ys.length (lm ys) n (lm o) c (xs.length:Int) (i:Int) (lm (o.set i ((xs.getD i 0-c-ys.getD i 0) % 4294967296))) (xs.getD i 0)
    (by simp;omega) (by simp;omega) (by omega) (by rw [Int.toNat_natCast];exact hxi) (by omega) (by rw [Int.toNat_natCast,eW];exact hst)
   rw [eC,ei] at k
   exact RunsW.loop k (ih (i+1) _ _ (by omega) (by simpa using hlo) (u32_set hu (by omega)) (by omega))
theorem Yrun156_sw (xs ys o:List Int) (c:Int) (h:(decide ((xs.length:Int)<(ys.length:Int)))=true) (hmk:0≤i64.wrap ((ys.length:Int)+1)∧i64.wrap ((ys.length:Int)+1)≤1048576) (hl:RunsW Yir (.loop Yc156) (Ys156 ys.length (lm ys) xs.length (lm xs) (Int.toNat (i64.wrap ((ys.length:Int)+1))) (replA [.int .u32 0] (Int.toNat (i64.wrap ((ys.length:Int)+1)))) 0 (ys.length:Int) 0) (.exit 0) (Ys156 ys.length (lm ys) xs.length (lm xs) (Int.toNat (i64.wrap ((ys.length:Int)+1))) (lm o) c (ys.length:Int) (ys.length:Int))) (hix:0≤(ys.length:Int)∧(ys.length:Int)<(((Int.toNat (i64.wrap ((ys.length:Int)+1))):Nat):Int)) (hst:layA (lm o) (Int.toNat (ys.length:Int)*1) [.int .u32 (u32.wrap c)]=some (lm (o.set ys.length c))):Runs Yir 156 [.sl xs.length (lm xs), .sl ys.length (lm ys)] (.fresh 1 (Int.toNat (i64.wrap ((ys.length:Int)+1))) (lm (o.set ys.length c))):=Runs.of_bodyW (fn:=Yi156) (s:=(.val (.sl ys.length (lm ys))::(.val (.sl xs.length (lm xs))::(dds 2 (.own 1 (Int.toNat (i64.wrap ((ys.length:Int)+1))) (lm (o.set ys.length c))::(dds 1 (.val (.int .u64 c)::(dds 14 (.val (.int .i64 (ys.length:Int))::(.val (.int .i64 (ys.length:Int))::(dds 28 (.dup 5::(.val (.sl ys.length (lm ys))::(.val (.int .i64 (ys.length:Int))::(.val (.int .u64 c)::(.val (.int .u32 (u32.wrap c))::(.ptr 5 (Int.toNat (ys.length:Int)*1)::(dds 1 [])))))))))))))))))) (ex := .ret) rfl rfl (RunsW.seq (RunsW.script (t:=(vl xs::(vl ys::(dds 2 (.own 1 0 []::(dds 53 [])))))) (ex := .norm) (ps:=[]) TWA_holds 300 [] [0,1,4] (by kernel_rfl) trivial) (RunsW.seq (RunsW.script (t:=(vl ys::(vl xs::(dds 2 (.own 1 0 []::(dds 4 (vl xs::(vi (xs.length:Int)::(vl ys::(vi (ys.length:Int)::(.val (.bool (decide ((xs.length:Int)<(ys.length:Int))))::(vl ys::(vl xs::(dds 42 [])))))))))))))) (ex := .norm) (ps:=[(decide ((xs.length:Int)<(ys.length:Int)))=true]) TWA_holds 300 [.b true] [0,1,4,9,10,11,12,13,14,15] (by kernel_rfl) ⟨h,trivial⟩) (RunsW.seq (RunsW.script (t:=(vl ys::(vl xs::(dds 2 (.own 1 0 []::(.own 1 (Int.toNat (i64.wrap ((ys.length:Int)+1))) (replA [.int .u32 0] (Int.toNat (i64.wrap ((ys.length:Int)+1))))::(dds 3 (vl xs::(vi (xs.length:Int)::(vl ys::(vi (ys.length:Int)::(.val (.bool (decide ((xs.length:Int)<(ys.length:Int))))::(vl ys::(vl xs::(vl ys::(vi (ys.length:Int)::(vi (i64.wrap ((ys.length:Int)+1))::(dds 39 [])))))))))))))))))) (ex := .norm) (ps:=[0≤(i64.wrap ((ys.length:Int)+1))∧(i64.wrap ((ys.length:Int)+1))≤1048576]) TWA_holds 300 [] [0,1,4,5,9,10,11,12,13,14,15,16,17,18] (by kernel_rfl) ⟨hmk,trivial⟩) (RunsW.seq (RunsW.script (t:=(vl ys::(vl xs::(dds 2 (.own 1 0 []::(.own 1 (Int.toNat (i64.wrap ((ys.length:Int)+1))) (replA [.int .u32 0] (Int.toNat (i64.wrap ((ys.length:Int)+1))))::(.val (.int .u64 0)::(dds 2 (vl xs::(vi (xs.length:Int)::(vl ys::(vi (ys.length:Int)::(.val (.bool (decide ((xs.length:Int)<(ys.length:Int))))::(vl ys::(vl xs::(vl ys::(vi (ys.length:Int)::(vi (i64.wrap ((ys.length:Int)+1))::(dds 39 []))))))))))))))))))) (ex := .norm) (ps:=[]) TWA_holds 300 [] [0,1,4,5,6,9,10,11,12,13,14,15,16,17,18] (by kernel_rfl) trivial) (RunsW.seq (RunsW.seq (RunsW.script (t:=(vl ys::(vl xs::(dds 2 (.own 1 0 []::(.own 1 (Int.toNat (i64.wrap ((ys.length:Int)+1))) (replA [.int .u32 0] (Int.toNat (i64.wrap ((ys.length:Int)+1))))::(.val (.int .u64 0)::(dds 14 (vi (ys.length:Int)::(vi 0::(dds 35 []))))))))))) (ex := .norm) (ps:=[]) TWA_holds 300 [] [0,1,4,5,6,21,22] (by kernel_rfl) trivial) (RunsW.block hl)) (RunsW.script (t:=(vl ys::(vl xs::(dds 2 (.own 1 (Int.toNat (i64.wrap ((ys.length:Int)+1))) (lm (o.set ys.length c))::(dds 1 (.val (.int .u64 c)::(dds 14 (vi (ys.length:Int)::(vi (ys.length:Int)::(dds 28 (.dup 5::(vl ys::(vi (ys.length:Int)::(.val (.int .u64 c)::(.val (.int .u32 (u32.wrap c))::(.ptr 5 (Int.toNat (ys.length:Int)*1)::(dds 1 [])))))))))))))))))) (ex := .ret) (ps:=[0≤(ys.length:Int)∧(ys.length:Int)<(((Int.toNat (i64.wrap ((ys.length:Int)+1))):Nat):Int),layA (lm o) (Int.toNat (ys.length:Int)*1) [.int .u32 (u32.wrap c)]=some (lm (o.set ys.length c))]) TWA_holds 300 [.l (lm (o.set ys.length c))] [0,1,4,6,21,22,51,52,53,54,55,56] (by kernel_rfl) ⟨hix,hst,trivial⟩)))))) (by intro i e;cases e) rfl
theorem Yrun156_no (xs ys o:List Int) (c:Int) (h:(decide ((xs.length:Int)<(ys.length:Int)))=false) (hmk:0≤i64.wrap ((xs.length:Int)+1)∧i64.wrap ((xs.length:Int)+1)≤1048576) (hl:RunsW Yir (.loop Yc156) (Ys156 xs.length (lm xs) ys.length (lm ys) (Int.toNat (i64.wrap ((xs.length:Int)+1))) (replA [.int .u32 0] (Int.toNat (i64.wrap ((xs.length:Int)+1)))) 0 (xs.length:Int) 0) (.exit 0) (Ys156 xs.length (lm xs) ys.length (lm ys) (Int.toNat (i64.wrap ((xs.length:Int)+1))) (lm o) c (xs.length:Int) (xs.length:Int))) (hix:0≤(xs.length:Int)∧(xs.length:Int)<(((Int.toNat (i64.wrap ((xs.length:Int)+1))):Nat):Int)) (hst:layA (lm o) (Int.toNat (xs.length:Int)*1) [.int .u32 (u32.wrap c)]=some (lm (o.set xs.length c))):Runs Yir 156 [.sl xs.length (lm xs), .sl ys.length (lm ys)] (.fresh 1 (Int.toNat (i64.wrap ((xs.length:Int)+1))) (lm (o.set xs.length c))):=Runs.of_bodyW (fn:=Yi156) (s:=(.val (.sl xs.length (lm xs))::(.val (.sl ys.length (lm ys))::(dds 2 (.own 1 (Int.toNat (i64.wrap ((xs.length:Int)+1))) (lm (o.set xs.length c))::(dds 1 (.val (.int .u64 c)::(dds 14 (.val (.int .i64 (xs.length:Int))::(.val (.int .i64 (xs.length:Int))::(dds 28 (.dup 5::(.val (.sl xs.length (lm xs))::(.val (.int .i64 (xs.length:Int))::(.val (.int .u64 c)::(.val (.int .u32 (u32.wrap c))::(.ptr 5 (Int.toNat (xs.length:Int)*1)::(dds 1 [])))))))))))))))))) (ex := .ret) rfl rfl (RunsW.seq (RunsW.script (t:=(vl xs::(vl ys::(dds 2 (.own 1 0 []::(dds 53 [])))))) (ex := .norm) (ps:=[]) TWA_holds 300 [] [0,1,4] (by kernel_rfl) trivial) (RunsW.seq (RunsW.script (t:=(vl xs::(vl ys::(dds 2 (.own 1 0 []::(dds 4 (vl xs::(vi (xs.length:Int)::(vl ys::(vi (ys.length:Int)::(.val (.bool (decide ((xs.length:Int)<(ys.length:Int))))::(dds 44 [])))))))))))) (ex := .norm) (ps:=[(decide ((xs.length:Int)<(ys.length:Int)))=false]) TWA_holds 300 [.b false] [0,1,4,9,10,11,12,13] (by kernel_rfl) ⟨h,trivial⟩) (RunsW.seq (RunsW.script (t:=(vl xs::(vl ys::(dds 2 (.own 1 0 []::(.own 1 (Int.toNat (i64.wrap ((xs.length:Int)+1))) (replA [.int .u32 0] (Int.toNat (i64.wrap ((xs.length:Int)+1))))::(dds 3 (vl xs::(vi (xs.length:Int)::(vl ys::(vi (ys.length:Int)::(.val (.bool (decide ((xs.length:Int)<(ys.length:Int))))::(dds 2 (vl xs::(vi (xs.length:Int)::(vi (i64.wrap ((xs.length:Int)+1))::(dds 39 []))))))))))))))))) (ex := .norm) (ps:=[0≤(i64.wrap ((xs.length:Int)+1))∧(i64.wrap ((xs.length:Int)+1))≤1048576]) TWA_holds 300 [] [0,1,4,5,9,10,11,12,13,16,17,18] (by kernel_rfl) ⟨hmk,trivial⟩) (RunsW.seq (RunsW.script (t:=(vl xs::(vl ys::(dds 2 (.own 1 0 []::(.own 1 (Int.toNat (i64.wrap ((xs.length:Int)+1))) (replA [.int .u32 0] (Int.toNat (i64.wrap ((xs.length:Int)+1))))::(.val (.int .u64 0)::(dds 2 (vl xs::(vi (xs.length:Int)::(vl ys::(vi (ys.length:Int)::(.val (.bool (decide ((xs.length:Int)<(ys.length:Int))))::(dds 2 (vl xs::(vi (xs.length:Int)::(vi (i64.wrap ((xs.length:Int)+1))::(dds 39 [])))))))))))))))))) (ex := .norm) (ps:=[]) TWA_holds 300 [] [0,1,4,5,6,9,10,11,12,13,16,17,18] (by kernel_rfl) trivial) (RunsW.seq (RunsW.seq (RunsW.script (t:=(vl xs::(vl ys::(dds 2 (.own 1 0 []::(.own 1 (Int.toNat (i64.wrap ((xs.length:Int)+1))) (replA [.int .u32 0] (Int.toNat (i64.wrap ((xs.length:Int)+1))))::(.val (.int .u64 0)::(dds 14 (vi (xs.length:Int)::(vi 0::(dds 35 []))))))))))) (ex := .norm) (ps:=[]) TWA_holds 300 [] [0,1,4,5,6,21,22] (by kernel_rfl) trivial) (RunsW.block hl)) (RunsW.script (t:=(vl xs::(vl ys::(dds 2 (.own 1 (Int.toNat (i64.wrap ((xs.length:Int)+1))) (lm (o.set xs.length c))::(dds 1 (.val (.int .u64 c)::(dds 14 (vi (xs.length:Int)::(vi (xs.length:Int)::(dds 28 (.dup 5::(vl xs::(vi (xs.length:Int)::(.val (.int .u64 c)::(.val (.int .u32 (u32.wrap c))::(.ptr 5 (Int.toNat (xs.length:Int)*1)::(dds 1 [])))))))))))))))))) (ex := .ret) (ps:=[0≤(xs.length:Int)∧(xs.length:Int)<(((Int.toNat (i64.wrap ((xs.length:Int)+1))):Nat):Int),layA (lm o) (Int.toNat (xs.length:Int)*1) [.int .u32 (u32.wrap c)]=some (lm (o.set xs.length c))]) TWA_holds 300 [.l (lm (o.set xs.length c))] [0,1,4,6,21,22,51,52,53,54,55,56] (by kernel_rfl) ⟨hix,hst,trivial⟩)))))) (by intro i e;cases e) rfl
theorem addLimbs_any {xs ys:List Int} (hx:U32 xs) (hy:U32 ys) (hl:ys.length≤xs.length) (hN:xs.length<1048576):∃ o c,(o:List Int).length=xs.length+1∧U32 (o.set xs.length c)∧valL (o.set xs.length c)=valL xs+valL ys∧(0≤c∧c≤1) ∧
  RunsW Yir (.loop Yc156) (Ys156 xs.length (lm xs) ys.length (lm ys) (xs.length+1) (lm (List.replicate (xs.length+1) 0)) 0 (xs.length:Int) 0) (.exit 0) (Ys156 xs.length (lm xs) ys.length (lm ys) (xs.length+1) (lm o) c (xs.length:Int) (xs.length:Int)):=by
 have hg:=Yloop156 xs ys hx hy (xs.length+1) (by omega) (by omega) xs.length 0 (List.replicate (xs.length+1) 0) 0 (by omega) (by simp) (u32_zeros _) (by omega)
 cases e:addGo xs ys xs.length 0 (List.replicate (xs.length+1) 0) 0 with
 | mk o c =>
  obtain ⟨g1,g2,g3,g4,g5⟩:=add_whole hx hy hl o c e
  rw [e] at hg
  exact ⟨o,c,g1,g4,g5,g3,hg⟩
theorem addLimbs_run {xs ys:List Int} (hx:U32 xs) (hy:U32 ys) (h1:xs.length<1048576) (h2:ys.length<1048576):∃ zs,U32 zs∧valL zs=valL xs+valL ys∧zs.length≤1048576∧Runs Yir 156 [.sl xs.length (lm xs), .sl ys.length (lm ys)] (.fresh 1 zs.length (lm zs)):=by
 by_cases hlt:xs.length<ys.length
 ·obtain ⟨o,c,g1,g2,g3,g4,g5⟩:=addLimbs_any hy hx (by omega) h2
  have e1:i64.wrap ((ys.length:Int)+1)=((ys.length+1:Nat):Int):=by rw [w64 (by omega) (by omega)];omega
  have e2:Int.toNat (i64.wrap ((ys.length:Int)+1))=ys.length+1:=by rw [e1,Int.toNat_natCast]
  have hst:=lay_lim (xs:=o) (i:=ys.length) (v:=c) (by omega)
  have h:=Yrun156_sw xs ys o c (by simp;omega) (by rw [e1];omega) (by rw [e2,repl_lim];exact g5) (by rw [e2];omega) (by rw [Int.toNat_natCast,wu32,Int.emod_eq_of_lt (by omega) (by omega)];exact hst)
  refine ⟨o.set ys.length c,g2,by rw [g3,Int.add_comm],by simp;omega,?_⟩
  rw [e2] at h
  rw [List.length_set,g1]
  exact h
 ·obtain ⟨o,c,g1,g2,g3,g4,g5⟩:=addLimbs_any hx hy (by omega) h1
  have e1:i64.wrap ((xs.length:Int)+1)=((xs.length+1:Nat):Int):=by rw [w64 (by omega) (by omega)];omega
  have e2:Int.toNat (i64.wrap ((xs.length:Int)+1))=xs.length+1:=by rw [e1,Int.toNat_natCast]
  have hst:=lay_lim (xs:=o) (i:=xs.length) (v:=c) (by omega)
  have h:=Yrun156_no xs ys o c (by simp;omega) (by rw [e1];omega) (by rw [e2,repl_lim];exact g5) (by rw [e2];omega) (by rw [Int.toNat_natCast,wu32,Int.emod_eq_of_lt (by omega) (by omega)];exact hst)
  refine ⟨o.set xs.length c,g2,g3,by simp;omega,?_⟩
  rw [e2] at h
  rw [List.length_set,g1]
  exact h
theorem Yrun157 (xs ys o:List Int) (c:Int) (hmk:0≤(xs.length:Int)∧(xs.length:Int)≤1048576) (hl:RunsW Yir (.loop Yc157) (Ys157 xs.length (lm xs) ys.length (lm ys) (Int.toNat (xs.length:Int)) (replA [.int .u32 0] (Int.toNat (xs.length:Int))) 0 (xs.length:Int) 0) (.exit 0) (Ys157 xs.length (lm xs) ys.length (lm ys) (Int.toNat (xs.length:Int)) (lm o) c (xs.length:Int) (xs.length:Int))):Runs Yir 157 [.sl xs.length (lm xs), .sl ys.length (lm ys)] (.fresh 1 (Int.toNat (xs.length:Int)) (lm o)):=Runs.of_bodyW (fn:=Yi157) (s:=(.val (.sl xs.length (lm xs))::(.val (.sl ys.length (lm ys))::(dds 2 (.own 1 (Int.toNat (xs.length:Int)) (lm o)::(dds 1 (.val (.int .u64 c)::(dds 6 (.val (.int .i64 (xs.length:Int))::(.val (.int .i64 (xs.length:Int))::(dds 29 []))))))))))) (ex := .ret) rfl rfl (RunsW.seq (RunsW.script (t:=(vl xs::(vl ys::(dds 2 (.own 1 0 []::(dds 39 [])))))) (ex := .norm) (ps:=[]) TWA_holds 300 [] [0,1,4] (by kernel_rfl) trivial) (RunsW.seq (RunsW.script (t:=(vl xs::(vl ys::(dds 2 (.own 1 0 []::(.own 1 (Int.toNat (xs.length:Int)) (replA [.int .u32 0] (Int.toNat (xs.length:Int)))::(dds 3 (vl xs::(vi (xs.length:Int)::(dds 33 [])))))))))) (ex := .norm) (ps:=[0≤(xs.length:Int)∧(xs.length:Int)≤1048576]) TWA_holds 300 [] [0,1,4,5,9,10] (by kernel_rfl) ⟨hmk,trivial⟩) (RunsW.seq (RunsW.script (t:=(vl xs::(vl ys::(dds 2 (.own 1 0 []::(.own 1 (Int.toNat (xs.length:Int)) (replA [.int .u32 0] (Int.toNat (xs.length:Int)))::(.val (.int .u64 0)::(dds 2 (vl xs::(vi (xs.length:Int)::(dds 33 []))))))))))) (ex := .norm) (ps:=[]) TWA_holds 300 [] [0,1,4,5,6,9,10] (by kernel_rfl) trivial) (RunsW.seq (RunsW.seq (RunsW.script (t:=(vl xs::(vl ys::(dds 2 (.own 1 0 []::(.own 1 (Int.toNat (xs.length:Int)) (replA [.int .u32 0] (Int.toNat (xs.length:Int)))::(.val (.int .u64 0)::(dds 6 (vi (xs.length:Int)::(vi 0::(dds 29 []))))))))))) (ex := .norm) (ps:=[]) TWA_holds 300 [] [0,1,4,5,6,13,14] (by kernel_rfl) trivial) (RunsW.block hl)) (RunsW.script (t:=(vl xs::(vl ys::(dds 2 (.own 1 (Int.toNat (xs.length:Int)) (lm o)::(dds 1 (.val (.int .u64 c)::(dds 6 (vi (xs.length:Int)::(vi (xs.length:Int)::(dds 29 []))))))))))) (ex := .ret) (ps:=[]) TWA_holds 300 [] [0,1,4,6,13,14] (by kernel_rfl) trivial))))) (by intro i e;cases e) rfl
theorem subLimbs_run {xs ys:List Int} (hx:U32 xs) (hy:U32 ys) (hl:ys.length≤xs.length) (hv:valL ys≤valL xs) (hN:xs.length≤1048576):∃ zs,U32 zs∧valL zs=valL xs-valL ys∧zs.length≤1048576∧Runs Yir 157 [.sl xs.length (lm xs), .sl ys.length (lm ys)] (.fresh 1 zs.length (lm zs)):=by
 have hg:=Yloop157 xs ys hx hy xs.length hN (Nat.le_refl _) xs.length 0 (List.replicate xs.length 0) 0 (by omega) (by simp) (u32_zeros _) (by omega)
 cases e:subGo xs ys xs.length 0 (List.replicate xs.length 0) 0 with
 | mk o c =>
  obtain ⟨g1,g2,g3⟩:=sub_whole hx hy hl hv o c e
  rw [e] at hg
  have h:=Yrun157 xs ys o c (by omega) (by rw [Int.toNat_natCast,repl_lim];exact hg)
  rw [Int.toNat_natCast] at h
  refine ⟨o,g2,g3,by omega,?_⟩
  rw [g1]
  exact h
theorem Yrun148_a (na:Bool) (p:Nat) (nb:Bool) (q:Nat) (zs:List Int) (r:Int) (h:(na==nb)=true) (h1:Runs Yir 156 [.sl (limbs p).length (lm (limbs p)), .sl (limbs q).length (lm (limbs q))] (.fresh 1 zs.length (lm zs))) (h2:Runs Yir 133 [.bool na, .sl zs.length (lm zs)] (.agg [.bool (decide (r<0)), .sl ((limbs (Int.natAbs r)).length) (lm (limbs (Int.natAbs r)))])):Runs Yir 148 [.bool na, .sl ((limbs p).length) (lm (limbs p)), .bool nb, .sl ((limbs q).length) (lm (limbs q))] (.agg [.bool (decide (r<0)), .sl ((limbs (Int.natAbs r)).length) (lm (limbs (Int.natAbs r)))]):=Runs.script (ps:=[(na==nb)=true,Runs Yir 156 [.sl ((limbs p).length) (lm (limbs p)), .sl ((limbs q).length) (lm (limbs q))] (.fresh 1 zs.length (lm zs)),Runs Yir 133 [.bool na, .sl zs.length (lm zs)] (.agg [.bool (decide (r<0)), .sl ((limbs (Int.natAbs r)).length) (lm (limbs (Int.natAbs r)))])]) TWA_holds rfl 300 rfl [.b true, .r (.fresh 1 zs.length (lm zs)), .r (.agg [.bool (decide (r<0)), .sl ((limbs (Int.natAbs r)).length) (lm (limbs (Int.natAbs r)))])] (by kernel_rfl) ⟨h,h1,h2,trivial⟩
theorem Yrun148_b (na:Bool) (p:Nat) (nb:Bool) (q:Nat) (zs:List Int) (r:Int) (k:Int) (h:(na==nb)=false) (h3:Runs Yir 150 [.sl (limbs p).length (lm (limbs p)), .sl (limbs q).length (lm (limbs q))] (.int .i64 k)) (hk:(decide (k≥0))=true) (h1:Runs Yir 157 [.sl (limbs p).length (lm (limbs p)), .sl (limbs q).length (lm (limbs q))] (.fresh 1 zs.length (lm zs))) (h2:Runs Yir 133 [.bool na, .sl zs.length (lm zs)] (.agg [.bool (decide (r<0)), .sl ((limbs (Int.natAbs r)).length) (lm (limbs (Int.natAbs r)))])):Runs Yir 148 [.bool na, .sl ((limbs p).length) (lm (limbs p)), .bool nb, .sl ((limbs q).length) (lm (limbs q))] (.agg [.bool (decide (r<0)), .sl ((limbs (Int.natAbs r)).length) (lm (limbs (Int.natAbs r)))]):=Runs.script (ps:=[(na==nb)=false,Runs Yir 150 [.sl ((limbs p).length) (lm (limbs p)), .sl ((limbs q).length) (lm (limbs q))] (.int .i64 k),(decide (k≥0))=true,Runs Yir 157 [.sl ((limbs p).length) (lm (limbs p)), .sl ((limbs q).length) (lm (limbs q))] (.fresh 1 zs.length (lm zs)),Runs Yir 133 [.bool na, .sl zs.length (lm zs)] (.agg [.bool (decide (r<0)), .sl ((limbs (Int.natAbs r)).length) (lm (limbs (Int.natAbs r)))])]) TWA_holds rfl 300 rfl [.b false, .r (.int .i64 k), .b true, .r (.fresh 1 zs.length (lm zs)), .r (.agg [.bool (decide (r<0)), .sl ((limbs (Int.natAbs r)).length) (lm (limbs (Int.natAbs r)))])] (by kernel_rfl) ⟨h,h3,hk,h1,h2,trivial⟩
theorem Yrun148_c (na:Bool) (p:Nat) (nb:Bool) (q:Nat) (zs:List Int) (r:Int) (k:Int) (h:(na==nb)=false) (h3:Runs Yir 150 [.sl (limbs p).length (lm (limbs p)), .sl (limbs q).length (lm (limbs q))] (.int .i64 k)) (hk:(decide (k≥0))=false) (h1:Runs Yir 157 [.sl (limbs q).length (lm (limbs q)), .sl (limbs p).length (lm (limbs p))] (.fresh 1 zs.length (lm zs))) (h2:Runs Yir 133 [.bool nb, .sl zs.length (lm zs)] (.agg [.bool (decide (r<0)), .sl ((limbs (Int.natAbs r)).length) (lm (limbs (Int.natAbs r)))])):Runs Yir 148 [.bool na, .sl ((limbs p).length) (lm (limbs p)), .bool nb, .sl ((limbs q).length) (lm (limbs q))] (.agg [.bool (decide (r<0)), .sl ((limbs (Int.natAbs r)).length) (lm (limbs (Int.natAbs r)))]):=Runs.script (ps:=[(na==nb)=false,Runs Yir 150 [.sl ((limbs p).length) (lm (limbs p)), .sl ((limbs q).length) (lm (limbs q))] (.int .i64 k),(decide (k≥0))=false,Runs Yir 157 [.sl ((limbs q).length) (lm (limbs q)), .sl ((limbs p).length) (lm (limbs p))] (.fresh 1 zs.length (lm zs)),Runs Yir 133 [.bool nb, .sl zs.length (lm zs)] (.agg [.bool (decide (r<0)), .sl ((limbs (Int.natAbs r)).length) (lm (limbs (Int.natAbs r)))])]) TWA_holds rfl 300 rfl [.b false, .r (.int .i64 k), .b false, .r (.fresh 1 zs.length (lm zs)), .r (.agg [.bool (decide (r<0)), .sl ((limbs (Int.natAbs r)).length) (lm (limbs (Int.natAbs r)))])] (by kernel_rfl) ⟨h,h3,hk,h1,h2,trivial⟩
theorem sum_run {na nb:Bool} {p q:Nat} (hp:(limbs p).length<1048576) (hq:(limbs q).length<1048576):Runs Yir 148 [.bool na, .sl (limbs p).length (lm (limbs p)), .bool nb, .sl (limbs q).length (lm (limbs q))] (bigAV (rv na (limbs p)+rv nb (limbs q))):=by
 have up:=big_u32 p
 have uq:=big_u32 q
 by_cases e:na=nb
 ·subst e
  obtain ⟨zs,z1,z2,z3,z4⟩:=addLimbs_run up uq hp hq
  have h2:=made_run (neg:=na) z1 z3
  have ev:rv na zs=rv na (limbs p)+rv na (limbs q):=by
   unfold rv;rw [z2];cases na <;> simp <;> omega
  rw [ev] at h2
  exact Yrun148_a na p na q zs _ (by simp) z4 h2
 ·have hne:(na==nb)=false:=by simpa using e
  have hc:=cmpLimbs_run (limbs_canon p) (limbs_canon q) (by omega)
  have hnb:nb = !na:=by cases na <;> cases nb <;> simp_all
  have lenle:∀ {a b:Nat},valL (limbs a)≤valL (limbs b)→(limbs a).length≤(limbs b).length:=by
   intro a b h
   rcases Nat.lt_or_ge (limbs b).length (limbs a).length with g | g
   ·have:=canon_lt (limbs_canon b) (limbs_canon a) g;omega
   ·exact g
  by_cases hk:valL (limbs q)≤valL (limbs p)
  ·obtain ⟨zs,z1,z2,z3,z4⟩:=subLimbs_run up uq (lenle hk) hk (by omega)
   have h2:=made_run (neg:=na) z1 z3
   have ev:rv na zs=rv na (limbs p)+rv nb (limbs q):=by
    subst hnb;unfold rv;rw [z2];cases na <;> simp <;> omega
   rw [ev] at h2
   refine Yrun148_b na p nb q zs _ _ hne hc ?_ z4 h2
   unfold cmpI;rw [if_neg (by omega)];split <;> rfl
  ·obtain ⟨zs,z1,z2,z3,z4⟩:=subLimbs_run uq up (lenle (by omega)) (by omega) (by omega)
   have h2:=made_run (neg:=nb) z1 z3
   have ev:rv nb zs=rv na (limbs p)+rv nb (limbs q):=by
    subst hnb;unfold rv;rw [z2];cases na <;> simp <;> omega
   rw [ev] at h2
   refine Yrun148_c na p nb q zs _ _ hne hc ?_ z4 h2
   unfold cmpI;rw [if_pos (by omega)];rfl
theorem Yrun121 (na:Bool) (xs:List Int) (nb:Bool) (ys:List Int) (a b r:Int) (h1:Runs Yir 122 [.agg [.bool na, .sl xs.length (lm xs)]] (.tup [.bool (decide (a<0)), .sl (limbs (Int.natAbs a)).length (lm (limbs (Int.natAbs a)))])) (h2:Runs Yir 122 [.agg [.bool nb, .sl ys.length (lm ys)]] (.tup [.bool (decide (b<0)), .sl (limbs (Int.natAbs b)).length (lm (limbs (Int.natAbs b)))])) (h3:Runs Yir 148 [.bool (decide (a<0)), .sl (limbs (Int.natAbs a)).length (lm (limbs (Int.natAbs a))), .bool (decide (b<0)), .sl (limbs (Int.natAbs b)).length (lm (limbs (Int.natAbs b)))] (.agg [.bool (decide (r<0)), .sl ((limbs (Int.natAbs r)).length) (lm (limbs (Int.natAbs r)))])):Runs Yir 121 [.agg [.bool na, .sl xs.length (lm xs)], .agg [.bool nb, .sl ys.length (lm ys)]] (.agg [.bool (decide (r<0)), .sl ((limbs (Int.natAbs r)).length) (lm (limbs (Int.natAbs r)))]):=Runs.script (ps:=[Runs Yir 122 [.agg [.bool na, .sl xs.length (lm xs)]] (.tup [.bool (decide (a<0)), .sl ((limbs (Int.natAbs a)).length) (lm (limbs (Int.natAbs a)))]),Runs Yir 122 [.agg [.bool nb, .sl ys.length (lm ys)]] (.tup [.bool (decide (b<0)), .sl ((limbs (Int.natAbs b)).length) (lm (limbs (Int.natAbs b)))]),Runs Yir 148 [.bool (decide (a<0)), .sl ((limbs (Int.natAbs a)).length) (lm (limbs (Int.natAbs a))), .bool (decide (b<0)), .sl ((limbs (Int.natAbs b)).length) (lm (limbs (Int.natAbs b)))] (.agg [.bool (decide (r<0)), .sl ((limbs (Int.natAbs r)).length) (lm (limbs (Int.natAbs r)))])]) TWA_holds rfl 300 rfl [.r (.tup [.bool (decide (a<0)), .sl ((limbs (Int.natAbs a)).length) (lm (limbs (Int.natAbs a)))]), .r (.tup [.bool (decide (b<0)), .sl ((limbs (Int.natAbs b)).length) (lm (limbs (Int.natAbs b)))]), .r (.agg [.bool (decide (r<0)), .sl ((limbs (Int.natAbs r)).length) (lm (limbs (Int.natAbs r)))])] (by kernel_rfl) ⟨h1,h2,h3,trivial⟩
theorem wadd_run {na nb:Bool} {xs ys:List Int} (hx:U32 xs) (hy:U32 ys) (h1:xs.length<1048576) (h2:ys.length<1048576):Runs Yir 121 [.agg [.bool na, .sl xs.length (lm xs)], .agg [.bool nb, .sl ys.length (lm ys)]] (bigAV (rv na xs+rv nb ys)):=by
 have l1:=Nat.lt_of_le_of_lt (rv_len (neg:=na) hx) h1
 have l2:=Nat.lt_of_le_of_lt (rv_len (neg:=nb) hy) h2
 have h3:=sum_run (na:=decide (rv na xs<0)) (nb:=decide (rv nb ys<0)) l1 l2
 rw [rv_big,rv_big] at h3
 exact Yrun121 na xs nb ys (rv na xs) (rv nb ys) _ (limbs_run hx (by omega)) (limbs_run hy (by omega)) h3
def TWB:Table:=TWA
theorem TWB_holds:THolds Yir TWB:=TWA_holds
end Go.Proofs.Ythnnfemologhfaa

namespace Go.Ai
open Go.IntKind (i64 u64 u32)
section
variable {prog:Nat→Option IFunc}
theorem RunsW.keep {c:ICode} {ex:Ex} {s t t':State} (ks:List Nat) (h:RunsW prog c s ex t) (e:keepS ks t=t'):RunsW prog c s ex t':=e ▸ RunsW.weak h (SLe.refl _) (keepS_le ks t)
theorem RunsW.upTo {c:ICode} {ex:Ex} {fin:State} (st:Nat→State) (n:Nat) (hex:ex ≠ .norm) (out:RunsW prog c (st n) ex fin):∀ i,i≤n→(∀ t,i≤t→t<n→RunsW prog c (st t) .norm (st (t+1)))→RunsW prog (.loop c) (st i) ex fin:=by
 intro i hi
 obtain ⟨r,hr⟩:∃ r,i+r=n:=⟨n-i,by omega⟩
 induction r generalizing i with
 | zero =>
  intro _
  have:i=n:=by omega
  subst this
  exact RunsW.loop_out out hex
 | succ r ih =>
  intro hs
  exact RunsW.loop (hs i (Nat.le_refl _) (by omega)) (ih (i+1) (by omega) (by omega) (fun t h1 h2=>hs t (by omega) h2))
theorem first_from (f:Nat→Bool) (m:Nat):∀ r i,i+r=m→(∀ j,i≤j→j<m→f j=false)∨∃ j,i≤j∧j<m∧f j=true∧∀ t,i≤t→t<j→f t=false:=by
 intro r
 induction r with
 | zero=>intro i hi;left;intro j h1 h2;omega
 | succ r ih =>
  intro i hi
  cases hf:f i with
  | true=>right;exact ⟨i,Nat.le_refl _,by omega,hf,fun t h1 h2=>by omega⟩
  | false =>
   rcases ih (i+1) (by omega) with h | ⟨j,h1,h2,h3,h4⟩
   ·left
    intro j h1 h2
    by_cases e:j=i
    ·rw [e];exact hf
    ·exact h j (by omega) h2
   ·right
    refine ⟨j,by omega,h2,h3,fun t h5 h6 => ?_⟩
    by_cases e:t=i
    ·rw [e];exact hf
    ·exact h4 t (by omega) h6
end
end Go.Ai

namespace Go.Ai
open Go.IntKind (i64 u64 u32)
theorem val_split (us:List Int) {j:Nat} (h:j≤us.length):valL us=valL (us.take j)+4294967296^j*valL (us.drop j):=by
 have:=valL_append (us.take j) (us.drop j)
 rw [List.take_append_drop,List.length_take,Nat.min_eq_left h] at this
 exact this
theorem take_ext {us ws:List Int} {j:Nat} (hl:ws.length=us.length) (h:∀ t,t<j→ws.getD t 0=us.getD t 0):ws.take j=us.take j:=by
 apply List.ext_getElem?
 intro t
 rcases Nat.lt_or_ge t j with g | g
 ·rw [List.getElem?_take_of_lt g,List.getElem?_take_of_lt g]
  have:=h t g
  rw [List.getD_eq_getElem?_getD,List.getD_eq_getElem?_getD] at this
  rcases Nat.lt_or_ge t us.length with k | k
  ·rw [List.getElem?_eq_getElem k,List.getElem?_eq_getElem (by omega)] at this ⊢
   simpa using this
  ·rw [List.getElem?_eq_none k,List.getElem?_eq_none (by omega)]
 ·rw [List.getElem?_eq_none (by simp;omega),List.getElem?_eq_none (by simp;omega)]
theorem u32_drop {us:List Int} (h:U32 us) (j:Nat):U32 (us.drop j):=fun x hx=>h x (List.mem_of_mem_drop hx)
theorem u32_take {us:List Int} (h:U32 us) (j:Nat):U32 (us.take j):=fun x hx=>h x (List.mem_of_mem_take hx)
theorem drop_small {us:List Int} (hu:U32 us) {n:Nat} {V:Int} (hV:V≤4294967296^n) (h:valL us<V):valL (us.drop n)=0:=by
 have h0:=valL_nonneg (u32_drop hu n)
 rcases Nat.lt_or_ge n us.length with g | g
 ·have e:=val_split us (Nat.le_of_lt g)
  have h1:=valL_nonneg (u32_take hu n)
  have hp:=pow32_pos n
  apply Int.le_antisymm ?_ h0
  apply Int.not_lt.1
  intro hc
  have:=Int.mul_le_mul_of_nonneg_left (show 1≤valL (us.drop n) by omega) (show (0:Int)≤4294967296^n by omega)
  omega
 ·exact drop_end g
theorem take_lt {us:List Int} (hu:U32 us) (n:Nat):valL (us.take n)<4294967296^n:=by
 have h:=valL_lt (u32_take hu n)
 exact Int.lt_of_lt_of_le h (pow32_mono (by simp;omega))
end Go.Ai

namespace Go.Ai
open Go.IntKind (i64 u64 u32)
def msGo (g:Int) (vs:List Int) (j:Nat):Nat→Nat→List Int→Int→Int→List Int × Int × Int
 | 0,_,us,b,c=>(us,b,c)
 | r+1,i,us,b,c=>msGo g vs j r (i+1) (us.set (i+j) ((us.getD (i+j) 0-(g*vs.getD i 0+c) % 4294967296-b) % 4294967296))
   (if us.getD (i+j) 0-(g*vs.getD i 0+c) % 4294967296-b<0 then 1 else 0) ((g*vs.getD i 0+c) / 4294967296)
theorem ms_word {g v c:Int} (hg:0≤g∧g<4294967296) (hv:0≤v∧v<4294967296) (hc:0≤c∧c<4294967296):0≤g*v+c∧g*v+c<18446744073709551616:=by
 have h1:=Int.mul_nonneg hg.1 hv.1
 have h2:=Int.mul_le_mul (show g≤4294967295 by omega) (show v≤4294967295 by omega) hv.1 (by omega)
 omega
theorem msGo_ok {g:Int} {vs:List Int} {j:Nat} (hg:0≤g∧g<4294967296) (hv:U32 vs):∀ (r i:Nat) (us:List Int) (b c:Int),r+i=vs.length→j+vs.length≤us.length→U32 us→0≤b∧b≤1→0≤c∧c<4294967296 →
  (msGo g vs j r i us b c).1.length=us.length∧U32 (msGo g vs j r i us b c).1∧(0≤(msGo g vs j r i us b c).2.1∧(msGo g vs j r i us b c).2.1≤1)∧(0≤(msGo g vs j r i us b c).2.2∧(msGo g vs j r i us b c).2.2<4294967296) ∧
  valL (msGo g vs j r i us b c).1=valL us-4294967296^(i+j)*(g*valL (vs.drop i)+b+c)+4294967296^(j+vs.length)*((msGo g vs j r i us b c).2.1+(msGo g vs j r i us b c).2.2) ∧
  ∀ t,t<i+j∨j+vs.length≤t→(msGo g vs j r i us b c).1.getD t 0=us.getD t 0:=by
 intro r
 induction r with
 | zero =>
  intro i us b c hi _ hu hb hc
  refine ⟨rfl,hu,hb,hc,?_,fun t _=>rfl⟩
  have:i=vs.length:=by omega
  subst this
  rw [drop_end (Nat.le_refl _),Nat.add_comm]
  simp only [msGo,Int.mul_zero,Int.zero_add]
  omega
 | succ r ih =>
  intro i us b c hi hl hu hb hc
  have hvi:=getD_u32 hv i
  have hui:=getD_u32 hu (i+j)
  have hw:=ms_word hg hvi hc
  simp only [msGo]
  generalize hp:g*vs.getD i 0+c=p at *
  generalize hd:us.getD (i+j) 0-p % 4294967296-b=d at *
  obtain ⟨g1,g2,g3,g4,g5,g6⟩:=ih (i+1) (us.set (i+j) (d % 4294967296)) (if d<0 then 1 else 0) (p / 4294967296) (by omega) (by simpa using hl) (u32_set hu (by omega)) (by split <;> omega) (by omega)
  refine ⟨by simpa using g1,g2,g3,g4,?_,fun t ht => ?_⟩
  ·rw [g5,valL_set _ _ _ (by omega),drop_val vs i,show i+1+j=(i+j)+1 by omega,Int.pow_succ]
   generalize (4294967296:Int)^(i+j)=P at *
   generalize valL (vs.drop (i+1))=V at *
   have e1:d % 4294967296=d+4294967296*(if d<0 then 1 else 0):=by split <;> omega
   rw [e1]
   generalize (if d<0 then (1:Int) else 0)=k at *
   have e2:p=4294967296*(p / 4294967296)+p % 4294967296:=by omega
   generalize p / 4294967296=ph at *
   generalize p % 4294967296=pl at *
   generalize us.getD (i+j) 0=u at *
   generalize vs.getD i 0=v at *
   have e3:d=u-pl-b:=by omega
   have e4:c=4294967296*ph+pl-g*v:=by omega
   subst e3
   rw [e4]
   grind
  ·rw [g6 t (by omega),getD_other (by omega)]
def abGo (vs:List Int) (j:Nat):Nat→Nat→List Int→Int→List Int × Int
 | 0,_,us,c=>(us,c)
 | r+1,i,us,c=>abGo vs j r (i+1) (us.set (i+j) ((us.getD (i+j) 0+vs.getD i 0+c) % 4294967296)) ((us.getD (i+j) 0+vs.getD i 0+c) / 4294967296)
theorem abGo_ok {vs:List Int} {j:Nat} (hv:U32 vs):∀ (r i:Nat) (us:List Int) (c:Int),r+i=vs.length→j+vs.length≤us.length→U32 us→0≤c∧c≤1 →
  (abGo vs j r i us c).1.length=us.length∧U32 (abGo vs j r i us c).1∧(0≤(abGo vs j r i us c).2∧(abGo vs j r i us c).2≤1) ∧
  valL (abGo vs j r i us c).1=valL us+4294967296^(i+j)*(valL (vs.drop i)+c)-4294967296^(j+vs.length)*(abGo vs j r i us c).2 ∧
  ∀ t,t<i+j∨j+vs.length≤t→(abGo vs j r i us c).1.getD t 0=us.getD t 0:=by
 intro r
 induction r with
 | zero =>
  intro i us c hi _ hu hc
  refine ⟨rfl,hu,hc,?_,fun t _=>rfl⟩
  have:i=vs.length:=by omega
  subst this
  rw [drop_end (Nat.le_refl _),Nat.add_comm]
  simp only [abGo,Int.zero_add]
  omega
 | succ r ih =>
  intro i us c hi hl hu hc
  have hvi:=getD_u32 hv i
  have hui:=getD_u32 hu (i+j)
  simp only [abGo]
  generalize hd:us.getD (i+j) 0+vs.getD i 0+c=d at *
  obtain ⟨g1,g2,g3,g4,g5⟩:=ih (i+1) (us.set (i+j) (d % 4294967296)) (d / 4294967296) (by omega) (by simpa using hl) (u32_set hu (by omega)) (by omega)
  refine ⟨by simpa using g1,g2,g3,?_,fun t ht => ?_⟩
  ·rw [g4,valL_set _ _ _ (by omega),drop_val vs i,show i+1+j=(i+j)+1 by omega,Int.pow_succ]
   generalize (4294967296:Int)^(i+j)=P at *
   generalize valL (vs.drop (i+1))=V at *
   have e2:d=4294967296*(d / 4294967296)+d % 4294967296:=by omega
   generalize d / 4294967296=ph at *
   generalize d % 4294967296=pl at *
   generalize us.getD (i+j) 0=u at *
   generalize vs.getD i 0=v at *
   have e3:c=4294967296*ph+pl-u-v:=by omega
   rw [e3]
   grind
  ·rw [g5 t (by omega),getD_other (by omega)]
structure Dig (n:Nat) (V W top nxt x y z:Int):Prop where
 vlow:0≤V-(top*4294967296+nxt)*4294967296^n∧V-(top*4294967296+nxt)*4294967296^n<4294967296^n
 wlow:0≤W-((x*4294967296+y)*4294967296+z)*4294967296^n∧W-((x*4294967296+y)*4294967296+z)*4294967296^n<4294967296^n
 htop:2147483648≤top∧top<4294967296
 hnxt:0≤nxt∧nxt<4294967296
 hx:0≤x∧x<4294967296
 hy:0≤y∧y<4294967296
 hz:0≤z∧z<4294967296
 small:W<4294967296*V
structure DigI (V W top num g r:Int):Prop where
 sum:g*top+r=num
 r0:0≤r
 g0:0≤g
 up:W<(g+1)*V
 gle:g≤4294967297
section
variable {n:Nat} {V W top nxt x y z:Int}
theorem Dig.x_le (h:Dig n V W top nxt x y z):x≤top:=by
 have hp:=pow32_pos n
 obtain ⟨h1,h2⟩:=h.vlow
 obtain ⟨h3,h4⟩:=h.wlow
 have:=h.hnxt;have:=h.hy;have:=h.hz;have hs:=h.small
 apply Int.not_lt.1
 intro hx
 generalize (4294967296:Int)^n=P at *
 have e1:(x*4294967296+y)*4294967296+z≥(top+1)*4294967296*4294967296:=by omega
 have e2:=Int.mul_le_mul_of_nonneg_right e1 (show 0≤P by omega)
 have e3:top*4294967296+nxt+1≤(top+1)*4294967296:=by omega
 have e4:=Int.mul_le_mul_of_nonneg_right e3 (show 0≤P by omega)
 have e5:(top+1)*4294967296*4294967296*P=4294967296*((top+1)*4294967296*P):=by grind
 have e6:(top*4294967296+nxt+1)*P=(top*4294967296+nxt)*P+P:=by grind
 omega
theorem Dig.Vpos (h:Dig n V W top nxt x y z):4294967296*4294967296^n≤V:=by
 have hp:=pow32_pos n
 obtain ⟨h1,h2⟩:=h.vlow
 have:=h.hnxt;have:=h.htop
 generalize (4294967296:Int)^n=P at *
 have:=Int.mul_le_mul_of_nonneg_right (show (4294967296:Int)≤top*4294967296+nxt by omega) (show 0≤P by omega)
 omega
theorem Dig.init (h:Dig n V W top nxt x y z):DigI V W top (x*4294967296+y) ((x*4294967296+y) / top) ((x*4294967296+y) % top):=by
 have hxl:=h.x_le
 have ht:=h.htop;have hx:=h.hx;have hy:=h.hy
 have e:=Int.mul_ediv_add_emod (x*4294967296+y) top
 have r0:=Int.emod_nonneg (x*4294967296+y) (show top ≠ 0 by omega)
 have r1:=Int.emod_lt_of_pos (x*4294967296+y) (show 0<top by omega)
 have g0:0≤(x*4294967296+y) / top:=Int.ediv_nonneg (by omega) (by omega)
 have g1:(x*4294967296+y) / top≤4294967297:=by
  apply Int.lt_add_one_iff.1
  apply Int.ediv_lt_of_lt_mul (by omega)
  omega
 generalize hg:(x*4294967296+y) / top=g at *
 generalize hr:(x*4294967296+y) % top=r at *
 refine ⟨by rw [Int.mul_comm];exact e,r0,g0,?_,g1⟩
 have hp:=pow32_pos n
 obtain ⟨h1,h2⟩:=h.vlow
 obtain ⟨h3,h4⟩:=h.wlow
 have hnx:=h.hnxt;have hz:=h.hz
 generalize (4294967296:Int)^n=P at *
 have e1:x*4294967296+y+1≤(g+1)*top:=by
  have:(g+1)*top=top*g+top:=by grind
  omega
 have e2:(x*4294967296+y)*4294967296+z+1≤(x*4294967296+y+1)*4294967296:=by omega
 have e3:=Int.mul_le_mul_of_nonneg_right e2 (show 0≤P by omega)
 have e4:=Int.mul_le_mul_of_nonneg_right e1 (show 0≤4294967296*P by omega)
 have e5:top*(4294967296*P)≤V:=by
  have:(top*4294967296+nxt)*P=top*(4294967296*P)+nxt*P:=by grind
  have:=Int.mul_nonneg hnx.1 (show 0≤P by omega)
  omega
 have e6:=Int.mul_le_mul_of_nonneg_left e5 (show 0≤g+1 by omega)
 have e7:(g+1)*(top*(4294967296*P))=(g+1)*top*(4294967296*P):=by grind
 have e8:((x*4294967296+y)*4294967296+z+1)*P=((x*4294967296+y)*4294967296+z)*P+P:=by grind
 have e9:(x*4294967296+y+1)*4294967296*P=(x*4294967296+y+1)*(4294967296*P):=by grind
 omega
theorem Dig.step (h:Dig n V W top nxt x y z) {g r:Int} (i:DigI V W top (x*4294967296+y) g r) (hc:4294967296≤g∨r*4294967296+z<g*nxt):DigI V W top (x*4294967296+y) (g-1) (r+top):=by
 have ht:=h.htop
 have hVp:=h.Vpos
 have hp:=pow32_pos n
 have e0:(g-1)*top+(r+top)=g*top+r:=by grind
 have hg1:1≤g:=by
  rcases hc with h1 | h1
  ·omega
  ·apply Int.not_lt.1
   intro hg
   have:g=0:=by have:=i.g0;omega
   subst this
   have:=i.r0;have:=h.hz
   omega
 refine ⟨by rw [e0];exact i.sum,by have:=i.r0;omega,by omega,?_,by have:=i.gle;omega⟩
 rw [Int.sub_add_cancel]
 obtain ⟨h1,h2⟩:=h.vlow
 obtain ⟨h3,h4⟩:=h.wlow
 have hs:=h.small
 rcases hc with hc | hc
 ·have:=Int.mul_le_mul_of_nonneg_right hc (show 0≤V by omega)
  omega
 ·have hsum:=i.sum
  rw [← hsum] at h3 h4
  generalize (4294967296:Int)^n=P at *
  have e1:(g*top+r)*4294967296+z+1≤g*(top*4294967296+nxt):=by
   have:g*(top*4294967296+nxt)=g*top*4294967296+g*nxt:=by grind
   omega
  have e2:=Int.mul_le_mul_of_nonneg_right e1 (show 0≤P by omega)
  have e3:(top*4294967296+nxt)*P≤V:=by omega
  have e4:=Int.mul_le_mul_of_nonneg_left e3 (show 0≤g by omega)
  have e5:g*(top*4294967296+nxt)*P=g*((top*4294967296+nxt)*P):=by grind
  have e6:((g*top+r)*4294967296+z+1)*P=((g*top+r)*4294967296+z)*P+P:=by grind
  omega
theorem Dig.small_g (h:Dig n V W top nxt x y z) {g r:Int} (i:DigI V W top (x*4294967296+y) g r) (hr:4294967296≤r):g<4294967296:=by
 have hxl:=h.x_le
 have ht:=h.htop;have hy:=h.hy
 apply Int.not_le.1
 intro hg
 have:=Int.mul_le_mul_of_nonneg_right hg (show 0≤top by omega)
 have:=i.sum
 omega
theorem Dig.out (h:Dig n V W top nxt x y z) {g r:Int} (i:DigI V W top (x*4294967296+y) g r) (hg:g<4294967296) (hc:4294967296≤r∨g*nxt≤r*4294967296+z):g*V<W+V:=by
 have ht:=h.htop
 have hVp:=h.Vpos
 have hp:=pow32_pos n
 have hnx:=h.hnxt;have hz:=h.hz
 have hc':g*nxt≤r*4294967296+z:=by
  rcases hc with hc | hc
  ·have:=Int.mul_le_mul (show g≤4294967295 by omega) (show nxt≤4294967295 by omega) hnx.1 (by omega)
   omega
  ·exact hc
 obtain ⟨h1,h2⟩:=h.vlow
 obtain ⟨h3,h4⟩:=h.wlow
 have hsum:=i.sum
 have hg0:=i.g0
 rw [← hsum] at h3 h4
 generalize (4294967296:Int)^n=P at *
 have e1:g*(top*4294967296+nxt)≤(g*top+r)*4294967296+z:=by
  have:g*(top*4294967296+nxt)=g*top*4294967296+g*nxt:=by grind
  omega
 have e2:=Int.mul_le_mul_of_nonneg_right e1 (show 0≤P by omega)
 have e5:g*(top*4294967296+nxt)*P=g*((top*4294967296+nxt)*P):=by grind
 have e6:=Int.mul_le_mul (Int.le_of_lt hg) (show V-(top*4294967296+nxt)*P≤P by omega) (by omega) (show (0:Int)≤4294967296 by omega)
 have e7:g*(V-(top*4294967296+nxt)*P)=g*V-g*((top*4294967296+nxt)*P):=by grind
 have e8:g*(V-(top*4294967296+nxt)*P)<4294967296*P:=by
  rcases Int.lt_or_eq_of_le hg0 with q | q
  ·have:=Int.mul_lt_mul_of_pos_left h2 q
   have:=Int.mul_le_mul_of_nonneg_right (Int.le_of_lt hg) (show 0≤P by omega)
   omega
  ·rw [← q,Int.zero_mul];omega
 omega
end
theorem dig_of {us vs:List Int} {j m:Nat} (hu:U32 us) (hv:U32 vs) (hm:vs.length=m+2) (hj:j+m+2<us.length) (ht:2147483648≤vs.getD (m+1) 0) (hW:valL (us.drop (j+1))<valL vs) :
  Dig m (valL vs) (valL (us.drop j)) (vs.getD (m+1) 0) (vs.getD m 0) (us.getD (j+m+2) 0) (us.getD (j+m+1) 0) (us.getD (j+m) 0):=by
 have hV:=valL_lt hv
 have z:=drop_small (u32_drop hu (j+1)) (n:=m+2) (V:=valL vs) (by rw [hm] at hV;omega) hW
 rw [List.drop_drop] at z
 have e1:=val_split (us.drop j) (j:=m) (by simp;omega)
 rw [List.drop_drop] at e1
 have d1:=drop_val us (j+m)
 have d2:=drop_val us (j+m+1)
 have d3:=drop_val us (j+m+2)
 rw [show j+m+2+1=j+1+(m+2) by omega,z] at d3
 have l1:=take_lt (u32_drop hu j) m
 have l0:=valL_nonneg (u32_take (u32_drop hu j) m)
 have f1:=val_split vs (j:=m) (by omega)
 have c1:=drop_val vs m
 have c2:=drop_val vs (m+1)
 have c3:=drop_end (xs:=vs) (i:=m+1+1) (by omega)
 rw [c3] at c2
 have k1:=take_lt hv m
 have k0:=valL_nonneg (u32_take hv m)
 have g1:=drop_val us j
 have gj:=getD_u32 hu j
 refine ⟨?_,?_,⟨ht,(getD_u32 hv _).2⟩,getD_u32 hv _,getD_u32 hu _,getD_u32 hu _,getD_u32 hu _,by omega⟩
 ·rw [f1,c1,c2,Int.mul_comm (_+_) (4294967296^m)]
  simp only [Int.mul_zero,Int.add_zero]
  rw [show vs.getD (m+1) 0*4294967296+vs.getD m 0=vs.getD m 0+4294967296*vs.getD (m+1) 0 by omega]
  omega
 ·rw [e1,d1,d2,d3,Int.mul_comm (_+_) (4294967296^m)]
  simp only [Int.mul_zero,Int.add_zero]
  rw [show (us.getD (j+m+2) 0*4294967296+us.getD (j+m+1) 0)*4294967296+us.getD (j+m) 0=us.getD (j+m) 0+4294967296*(us.getD (j+m+1) 0+4294967296*us.getD (j+m+2) 0) by omega]
  omega
structure StepOk (us vs ws:List Int) (j:Nat) (q:Int):Prop where
 len:ws.length=us.length
 u32:U32 ws
 val:valL ws=valL us-4294967296^j*(q*valL vs)
 low:valL (ws.drop j)<valL vs
theorem pow_cancel {j:Nat} {a b:Int} (h:4294967296^j*a=4294967296^j*b):a=b:=Int.eq_of_mul_eq_mul_left (by have:=pow32_pos j;omega) h
theorem win_val {us ws:List Int} {j:Nat} {k:Int} (hl:ws.length=us.length) (hj:j≤us.length) (h:∀ t,t<j→ws.getD t 0=us.getD t 0) (hv:valL ws=valL us+4294967296^j*k):valL (ws.drop j)=valL (us.drop j)+k:=by
 have e1:=val_split us hj
 have e2:=val_split ws (j:=j) (by omega)
 rw [take_ext hl h] at e2
 apply pow_cancel (j:=j)
 rw [Int.mul_add]
 omega
theorem win_top {us:List Int} {j n:Nat} (hj:j+n<us.length) (hz:valL (us.drop (j+n+1))=0):valL (us.drop j)=valL ((us.drop j).take n)+4294967296^n*us.getD (j+n) 0:=by
 have e1:=val_split (us.drop j) (j:=n) (by simp;omega)
 rw [List.drop_drop] at e1
 have d1:=drop_val us (j+n)
 rw [hz,Int.mul_zero,Int.add_zero] at d1
 rw [e1,d1]
theorem digit_step {us vs:List Int} {j:Nat} (hu:U32 us) (hv:U32 vs) (hj:j+vs.length<us.length) (hW:valL (us.drop (j+1))<valL vs) {g:Int} (hg:0≤g∧g<4294967296)
  (h1:valL (us.drop j)<(g+1)*valL vs) (h2:g*valL vs<valL (us.drop j)+valL vs) :
  let m:=msGo g vs j vs.length 0 us 0 0
  let d:=m.1.getD (j+vs.length) 0-m.2.2-m.2.1
  (d≥0→StepOk us vs (m.1.set (j+vs.length) (d % 4294967296)) j g) ∧
  (d<0→StepOk us vs ((abGo vs j vs.length 0 (m.1.set (j+vs.length) (d % 4294967296)) 0).1.set (j+vs.length) (((abGo vs j vs.length 0 (m.1.set (j+vs.length) (d % 4294967296)) 0).1.getD (j+vs.length) 0+(abGo vs j vs.length 0 (m.1.set (j+vs.length) (d % 4294967296)) 0).2) % 4294967296)) j (g-1)∧1≤g):=by
 intro m d
 have hVlt:=valL_lt hv
 have z:=drop_small (u32_drop hu (j+1)) (n:=vs.length) (V:=valL vs) (by omega) hW
 rw [List.drop_drop,show j+1+vs.length=j+vs.length+1 by omega] at z
 obtain ⟨m1,m2,m3,m4,m5,m6⟩:=msGo_ok hg hv vs.length 0 us 0 0 (by omega) (show j+vs.length≤us.length by omega) hu (by omega) (by omega)
 change m.1.length=us.length at m1
 change U32 m.1 at m2
 change 0≤m.2.1∧m.2.1≤1 at m3
 change 0≤m.2.2∧m.2.2<4294967296 at m4
 change valL m.1=valL us-4294967296^(0+j)*(g*valL (vs.drop 0)+0+0)+4294967296^(j+vs.length)*(m.2.1+m.2.2) at m5
 change ∀ t,t<0+j∨j+vs.length≤t→m.1.getD t 0=us.getD t 0 at m6
 have hd:d=m.1.getD (j+vs.length) 0-m.2.2-m.2.1:=rfl
 clear_value d
 generalize hms:m.1=ms at *
 generalize m.2.1=b at *
 generalize m.2.2=c at *
 rw [Nat.zero_add,List.drop_zero,Int.add_zero,Int.add_zero] at m5
 have m6':=m6 (j+vs.length) (by omega)
 -- the window behind
 have w1:valL (ms.drop j)=valL (us.drop j)+(4294967296^vs.length*(b+c)-g*valL vs):=by
  apply win_val m1 (by omega) (fun t ht=>m6 t (by omega))
  rw [m5,Int.pow_add,Int.mul_sub,Int.mul_assoc]
  omega
 have zz:valL (ms.drop (j+vs.length+1))=0:=by
  have:ms.drop (j+vs.length+1)=us.drop (j+vs.length+1):=by
   apply List.ext_getElem?
   intro t
   rw [List.getElem?_drop,List.getElem?_drop]
   have:=m6 (j+vs.length+1+t) (by omega)
   rw [List.getD_eq_getElem?_getD,List.getD_eq_getElem?_getD] at this
   rcases Nat.lt_or_ge (j+vs.length+1+t) us.length with k | k
   ·rw [List.getElem?_eq_getElem k,List.getElem?_eq_getElem (by omega)] at this ⊢
    simpa using this
   ·rw [List.getElem?_eq_none k,List.getElem?_eq_none (by omega)]
  rw [this];exact z
 have w2:=win_top (us:=ms) (j:=j) (n:=vs.length) (by omega) zz
 have lo:=take_lt (u32_drop m2 j) vs.length
 have lo0:=valL_nonneg (u32_take (u32_drop m2 j) vs.length)
 have hx:=getD_u32 m2 (j+vs.length)
 have hX:ms.getD (j+vs.length) 0=d+b+c:=by omega
 rw [hX] at w2
 have hp:=pow32_pos vs.length
 generalize hP:(4294967296:Int)^vs.length=P at *
 generalize hL:valL ((ms.drop j).take vs.length)=L at *
 have w3:valL (us.drop j)-g*valL vs=L+P*d:=by
  rw [w1] at w2
  have e:P*(d+b+c)=P*d+P*(b+c):=by grind
  omega
 have e2:(g+1)*valL vs=g*valL vs+valL vs:=by grind
 have lset:∀ v:Int,valL (ms.set (j+vs.length) v)=valL us-4294967296^j*(g*valL vs)+4294967296^j*(P*(v-d)):=by
  intro v
  rw [valL_set _ _ _ (by omega),m5,hX,Int.pow_add,hP]
  grind
 refine ⟨fun hge => ?_,fun hlt => ?_⟩
 ·have hd0:d=0∨1≤d:=by omega
  have hd1:d<4294967296:=by omega
  refine ⟨by simpa using m1,u32_set m2 (by omega),?_,?_⟩
  ·rw [lset,Int.emod_eq_of_lt hge hd1,Int.sub_self,Int.mul_zero,Int.mul_zero,Int.add_zero]
  ·rw [win_val (us:=us) (k := -(g*valL vs)) (by simpa using m1) (by omega) (fun t ht=>by rw [getD_other (by omega)];exact m6 t (by omega)) (by rw [lset,Int.emod_eq_of_lt hge hd1,Int.sub_self,Int.mul_zero,Int.mul_zero,Int.add_zero,Int.mul_neg];omega)]
   omega
 ·have hg1:1≤g:=by
   apply Int.not_lt.1
   intro hh
   have hg':g=0:=by omega
   have:=valL_nonneg (u32_drop hu j)
   rw [hg',Int.zero_mul] at w3
   have:=Int.mul_le_mul_of_nonneg_left (show d ≤ -1 by omega) (show 0≤P by omega)
   omega
  refine ⟨?_,hg1⟩
  have hu2:U32 (ms.set (j+vs.length) (d % 4294967296)):=u32_set m2 (by omega)
  obtain ⟨a1,a2,a3,a4,a5⟩:=abGo_ok hv vs.length 0 (ms.set (j+vs.length) (d % 4294967296)) 0 (by omega) (show j+vs.length≤_ by rw [List.length_set];omega) hu2 (by omega)
  generalize abGo vs j vs.length 0 (ms.set (j+vs.length) (d % 4294967296)) 0=A at *
  have a6:=a5 (j+vs.length) (by omega)
  have hlen:A.1.length=us.length:=by rw [a1,List.length_set,m1]
  have hget:(ms.set (j+vs.length) (d % 4294967296)).getD (j+vs.length) 0=d % 4294967296:=by
   simp [List.getD_eq_getElem?_getD,show j+vs.length<ms.length by omega]
  rw [hget] at a6
  rw [a6]
  rw [Nat.zero_add,List.drop_zero,Int.add_zero,lset,Int.pow_add,hP] at a4
  -- value with the last limb v
  have aset:∀ v:Int,valL (A.1.set (j+vs.length) v)=valL us-4294967296^j*((g-1)*valL vs)+4294967296^j*(P*(v-d-A.2)):=by
   intro v
   rw [valL_set _ _ _ (by omega),a4,a6,Int.pow_add,hP]
   grind
  -- d+carry=0
  have hwA:∀ v:Int,valL ((A.1.set (j+vs.length) v).drop j)=valL (us.drop j)-(g-1)*valL vs+P*(v-d-A.2):=by
   intro v
   have:=win_val (us:=us) (ws:=A.1.set (j+vs.length) v) (j:=j) (k:=P*(v-d-A.2)-(g-1)*valL vs) (by simpa using hlen) (by omega) (fun t ht=>by rw [getD_other (by omega),a5 t (by omega),getD_other (by omega)];exact m6 t (by omega)) (by rw [aset];grind)
   omega
  have hge0:0≤valL (us.drop j)-(g-1)*valL vs:=by
   have:(g-1)*valL vs=g*valL vs-valL vs:=by grind
   omega
  have hltV:valL (us.drop j)-(g-1)*valL vs<valL vs:=by
   have h3:(g-1)*valL vs=g*valL vs-valL vs:=by grind
   have h4:=Int.mul_le_mul_of_nonneg_left (show d ≤ -1 by omega) (show 0≤P by omega)
   omega
  have hz3:A.2 = -d:=by
   have q0:=hwA 0
   have q1:=valL_nonneg (u32_drop (u32_set a2 (i:=j+vs.length) (v:=0) (by omega)) j)
   have zz2:valL ((A.1.set (j+vs.length) 0).drop (j+vs.length+1))=0:=by
    have:(A.1.set (j+vs.length) 0).drop (j+vs.length+1)=ms.drop (j+vs.length+1):=by
     apply List.ext_getElem?
     intro t
     rw [List.getElem?_drop,List.getElem?_drop]
     have h5:=a5 (j+vs.length+1+t) (by omega)
     rw [getD_other (by omega)] at h5
     have h6:(A.1.set (j+vs.length) 0).getD (j+vs.length+1+t) 0=ms.getD (j+vs.length+1+t) 0:=by rw [getD_other (by omega)];exact h5
     rw [List.getD_eq_getElem?_getD,List.getD_eq_getElem?_getD] at h6
     rcases Nat.lt_or_ge (j+vs.length+1+t) us.length with k | k
     ·rw [List.getElem?_eq_getElem (by simp;omega),List.getElem?_eq_getElem (by omega)] at h6 ⊢
      simpa using h6
     ·rw [List.getElem?_eq_none (by simp;omega),List.getElem?_eq_none (by omega)]
    rw [this];exact zz
   have q2:=win_top (us:=A.1.set (j+vs.length) 0) (j:=j) (n:=vs.length) (by simp;omega) zz2
   have q3:(A.1.set (j+vs.length) 0).getD (j+vs.length) 0=0:=by simp [List.getD_eq_getElem?_getD,show j+vs.length<A.1.length by omega]
   have q4:=take_lt (u32_drop (u32_set a2 (i:=j+vs.length) (v:=0) (by omega)) j) vs.length
   rw [hP] at q2 q4
   rw [q3,Int.mul_zero,Int.add_zero] at q2
   rw [q0] at q1 q2
   rw [← q2] at q4
   generalize valL (us.drop j)-(g-1)*valL vs=X at *
   have e5:P*(0-d-A.2)=P*(-d-A.2):=by rw [Int.zero_sub]
   rw [e5] at q1 q4
   have c1 : -d-A.2<1:=by
    apply Int.not_le.1
    intro hc
    have:=Int.mul_le_mul_of_nonneg_left hc (show 0≤P by omega)
    omega
   have c2 : -1 < -d-A.2:=by
    apply Int.not_le.1
    intro hc
    have:=Int.mul_le_mul_of_nonneg_left hc (show 0≤P by omega)
    omega
   omega
  have hv0:(d % 4294967296+A.2) % 4294967296=0:=by omega
  rw [hv0]
  refine ⟨by simpa using hlen,u32_set a2 (by omega),?_,?_⟩
  ·rw [aset,show (0:Int)-d-A.2=0 by omega,Int.mul_zero,Int.mul_zero,Int.add_zero]
  ·rw [hwA,show (0:Int)-d-A.2=0 by omega,Int.mul_zero,Int.add_zero]
   exact hltV
end Go.Ai

namespace Go.Proofs.Ythnnfemologhfaa
open Go.IntKind (i64 u64 u32)
open Go.Ai
theorem w32 {n:Int} (h:0≤n∧n<4294967296):u32.wrap n=n:=by rw [wu32];omega
theorem wu64 {n:Int} (h:0≤n∧n<18446744073709551616):u64.wrap n=n:=by rw [wu64m];omega
theorem p32:(2:Int)^(min (Int.toNat 32) (IntKind.bits .u64))=4294967296:=by decide
theorem p63:(2:Int)^(min (Int.toNat 63) (IntKind.bits .u64))=9223372036854775808:=by decide
theorem fd32 (s:Int):Int.fdiv s (2^(min (Int.toNat 32) (IntKind.bits .u64)))=s / 4294967296:=by
 rw [p32,Int.fdiv_eq_ediv_of_nonneg _ (by decide)]
theorem fd63 (s:Int):Int.fdiv s (2^(min (Int.toNat 63) (IntKind.bits .u64)))=s / 9223372036854775808:=by
 rw [p63,Int.fdiv_eq_ediv_of_nonneg _ (by decide)]
theorem word2 {r x:Int} (hr:0≤r∧r<4294967296) (hx:0≤x∧x<4294967296) :
  u64.wrap ((BitVec.ofInt (IntKind.bits .u64) (u64.wrap (r*2^(min (Int.toNat 32) (IntKind.bits .u64)))) ||| BitVec.ofInt (IntKind.bits .u64) (u64.wrap x)).toNat)=r*4294967296+x:=by
 rw [p32,wu64 (n:=r*4294967296) (by omega),wu64 (n:=x) (by omega)]
 have:=or64 (q:=r) (c:=x) (s:=32) hr.1 (by rw [show (2:Int)^32=4294967296 by decide];omega) (by omega) (by rw [show (2:Int)^32=4294967296 by decide];exact hx)
 rw [show (2:Int)^32=4294967296 by decide] at this
 exact this
theorem or32 {q c:Int} {s:Nat} (hq:0≤q) (hs:q*2^s<4294967296) (hs':s≤32) (hc:0≤c∧c<2^s) :
  u32.wrap ((BitVec.ofInt (IntKind.bits .u32) c ||| BitVec.ofInt (IntKind.bits .u32) (q*2^s)).toNat)=q*2^s+c:=by
 obtain ⟨a,rfl⟩:∃ a:Nat,q=a:=⟨q.toNat,by omega⟩
 obtain ⟨b,rfl⟩:∃ b:Nat,c=b:=⟨c.toNat,by omega⟩
 have e1:(a:Int)*2^s=((a*2^s:Nat):Int):=by rw [Int.natCast_mul,Int.natCast_pow];rfl
 have hb:b<2^s:=by
  have:(b:Int)<((2^s:Nat):Int):=by rw [Int.natCast_pow];exact hc.2
  omega
 have h64:2^s≤2^32:=Nat.pow_le_pow_right (by decide) hs'
 have e64:2^32=4294967296:=by decide
 rw [e1] at hs ⊢
 show u32.wrap ((BitVec.ofInt 32 (b:Int) ||| BitVec.ofInt 32 ((a*2^s:Nat):Int)).toNat:Int)=_
 rw [BitVec.or_comm,BitVec.toNat_or,BitVec.ofInt_natCast,BitVec.ofInt_natCast,BitVec.toNat_ofNat,BitVec.toNat_ofNat,Nat.mod_eq_of_lt (by omega),Nat.mod_eq_of_lt (by omega),Nat.mul_comm a,← Nat.two_pow_add_eq_or_of_lt hb,Nat.mul_comm (2^s) a,wu32]
 have hsum:a*2^s+b<4294967296:=by
  have hd:a*2^s+2^s≤2^32:=by
   have hk:2^32=2^(32-s)*2^s:=by rw [← Nat.pow_add];congr 1;omega
   have h1:a<2^(32-s):=by
    rcases Nat.lt_or_ge a (2^(32-s)) with g | g
    ·exact g
    ·have:=Nat.mul_le_mul_right (2^s) g
     omega
   have h2:=Nat.mul_le_mul_right (2^s) (show a+1≤2^(32-s) by omega)
   rw [Nat.add_mul,Nat.one_mul] at h2
   omega
  omega
 omega
theorem p32s {s:Nat} (hs:s≤32):(4294967296:Int)=2^(32-s)*2^s:=by rw [← Int.pow_add,show 32-s+s=32 by omega];decide
theorem shl_parts {x:Int} {s:Nat} (hx:0≤x∧x<4294967296) (hs:s<32) :
  0≤x*2^s∧x*2^s<18446744073709551616∧x*2^s / 4294967296<2^s∧∃ q:Int,0≤q∧x*2^s % 4294967296=q*2^s:=by
 have hp:=pow2_pos s
 have hp2:(2:Int)^s≤2147483648:=by
  have:=pow2_le (show s≤31 by omega);rwa [show (2:Int)^31=2147483648 by decide] at this
 have h0:=Int.mul_nonneg hx.1 (show (0:Int)≤2^s by omega)
 have h1:=Int.mul_le_mul (show x≤4294967295 by omega) hp2 (by omega) (by omega)
 have h2:=Int.mul_lt_mul_of_pos_right hx.2 hp
 refine ⟨h0,by omega,by omega,?_⟩
 have e:(4294967296:Int)=2^(32-s)*2^s:=by
  rw [← Int.pow_add,show 32-s+s=32 by omega];decide
 refine ⟨x % 2^(32-s),Int.emod_nonneg _ (by have:=pow2_pos (32-s);omega),?_⟩
 rw [e,Int.mul_comm x,Int.mul_comm (2^(32-s)),Int.mul_emod_mul_of_pos _ _ hp,Int.mul_comm]
end Go.Proofs.Ythnnfemologhfaa
