/- Texts of the proof of SturmDyadics, packed by pack.py: part 10 of 15. -/
import Derived.Test.YthnnfemologhfaaSdy9
namespace Go.Proofs.Ythnnfemologhfaa
open Go.IntKind (i64 u64 u32)
open Go.Ai
set_option maxRecDepth 100000
def Ys150 (N:Nat) (cs:List AV) (M:Nat) (ds:List AV) (v i:Int):State:=(.val (.sl N cs)::(.val (.sl M ds)::(dds 2 (.val (.int .i64 v)::(.val (.int .i64 i)::(dds 35 []))))))
theorem Yk150_1 (N:Nat) (cs:List AV) (M:Nat) (ds:List AV) (v i x y:Int) (c1:(decide (i≥0))=true) (c2:(x != y)=true) (c3:(decide (x<y))=true) (n1:0≤i∧i<(N:Int)) (n2:takeA (List.drop (Int.toNat i*1) cs) 0 1 true=some (.int .u32 x)) (n3:0≤i∧i<(M:Int)) (n4:takeA (List.drop (Int.toNat i*1) ds) 0 1 true=some (.int .u32 y)) (n5:0≤i∧i<(N:Int)) (n6:takeA (List.drop (Int.toNat i*1) cs) 0 1 true=some (.int .u32 x)) (n7:0≤i∧i<(M:Int)) (n8:takeA (List.drop (Int.toNat i*1) ds) 0 1 true=some (.int .u32 y)):RunsW Yir Yc150 (Ys150 N cs M ds v i) .ret (Ys150 N cs M ds (-1) i):=RunsW.script (ps:=[(decide (i≥0))=true,0≤i∧i<(N:Int),takeA (List.drop (Int.toNat i*1) cs) 0 1 true=some (.int .u32 x),0≤i∧i<(M:Int),takeA (List.drop (Int.toNat i*1) ds) 0 1 true=some (.int .u32 y),(x != y)=true,0≤i∧i<(N:Int),takeA (List.drop (Int.toNat i*1) cs) 0 1 true=some (.int .u32 x),0≤i∧i<(M:Int),takeA (List.drop (Int.toNat i*1) ds) 0 1 true=some (.int .u32 y),(decide (x<y))=true]) TWA_holds 300 [.b true, .v (.int .u32 x), .v (.int .u32 y), .b true, .v (.int .u32 x), .v (.int .u32 y), .b true] [0,1,4,5] (by kernel_rfl) ⟨c1,n1,n2,n3,n4,c2,n5,n6,n7,n8,c3,trivial⟩
theorem Yk150_2 (N:Nat) (cs:List AV) (M:Nat) (ds:List AV) (v i x y:Int) (c1:(decide (i≥0))=true) (c2:(x != y)=true) (c3:(decide (x<y))=false) (n1:0≤i∧i<(N:Int)) (n2:takeA (List.drop (Int.toNat i*1) cs) 0 1 true=some (.int .u32 x)) (n3:0≤i∧i<(M:Int)) (n4:takeA (List.drop (Int.toNat i*1) ds) 0 1 true=some (.int .u32 y)) (n5:0≤i∧i<(N:Int)) (n6:takeA (List.drop (Int.toNat i*1) cs) 0 1 true=some (.int .u32 x)) (n7:0≤i∧i<(M:Int)) (n8:takeA (List.drop (Int.toNat i*1) ds) 0 1 true=some (.int .u32 y)):RunsW Yir Yc150 (Ys150 N cs M ds v i) .ret (Ys150 N cs M ds 1 i):=RunsW.script (ps:=[(decide (i≥0))=true,0≤i∧i<(N:Int),takeA (List.drop (Int.toNat i*1) cs) 0 1 true=some (.int .u32 x),0≤i∧i<(M:Int),takeA (List.drop (Int.toNat i*1) ds) 0 1 true=some (.int .u32 y),(x != y)=true,0≤i∧i<(N:Int),takeA (List.drop (Int.toNat i*1) cs) 0 1 true=some (.int .u32 x),0≤i∧i<(M:Int),takeA (List.drop (Int.toNat i*1) ds) 0 1 true=some (.int .u32 y),(decide (x<y))=false]) TWA_holds 300 [.b true, .v (.int .u32 x), .v (.int .u32 y), .b true, .v (.int .u32 x), .v (.int .u32 y), .b false] [0,1,4,5] (by kernel_rfl) ⟨c1,n1,n2,n3,n4,c2,n5,n6,n7,n8,c3,trivial⟩
theorem Yk150_3 (N:Nat) (cs:List AV) (M:Nat) (ds:List AV) (v i x y:Int) (c1:(decide (i≥0))=true) (c2:(x != y)=false) (n1:0≤i∧i<(N:Int)) (n2:takeA (List.drop (Int.toNat i*1) cs) 0 1 true=some (.int .u32 x)) (n3:0≤i∧i<(M:Int)) (n4:takeA (List.drop (Int.toNat i*1) ds) 0 1 true=some (.int .u32 y)):RunsW Yir Yc150 (Ys150 N cs M ds v i) .norm (Ys150 N cs M ds v (i64.wrap (i-1))):=RunsW.script (ps:=[(decide (i≥0))=true,0≤i∧i<(N:Int),takeA (List.drop (Int.toNat i*1) cs) 0 1 true=some (.int .u32 x),0≤i∧i<(M:Int),takeA (List.drop (Int.toNat i*1) ds) 0 1 true=some (.int .u32 y),(x != y)=false]) TWA_holds 300 [.b true, .v (.int .u32 x), .v (.int .u32 y), .b false] [0,1,4,5] (by kernel_rfl) ⟨c1,n1,n2,n3,n4,c2,trivial⟩
theorem Yk150_4 (N:Nat) (cs:List AV) (M:Nat) (ds:List AV) (v i:Int) (c1:(decide (i≥0))=false):RunsW Yir Yc150 (Ys150 N cs M ds v i) (.exit 0) (Ys150 N cs M ds v i):=RunsW.script (ps:=[(decide (i≥0))=false]) TWA_holds 300 [.b false] [0,1,4,5] (by kernel_rfl) ⟨c1,trivial⟩
theorem Yloop150 (xs ys:List Int) (hN:xs.length≤1048576) (hl:xs.length=ys.length):∀ m,m≤xs.length →
  (cmpGo xs ys m=0∧RunsW Yir (.loop Yc150) (Ys150 xs.length (lm xs) ys.length (lm ys) 0 ((m:Int)-1)) (.exit 0) (Ys150 xs.length (lm xs) ys.length (lm ys) 0 (-1))) ∨
  (cmpGo xs ys m ≠ 0∧∃ j,RunsW Yir (.loop Yc150) (Ys150 xs.length (lm xs) ys.length (lm ys) 0 ((m:Int)-1)) .ret (Ys150 xs.length (lm xs) ys.length (lm ys) (cmpGo xs ys m) j)):=by
 intro m
 induction m with
 | zero =>
  intro _
  left
  refine ⟨rfl,?_⟩
  exact RunsW.loop_out (Yk150_4 xs.length (lm xs) ys.length (lm ys) 0 (((0:Nat):Int)-1) (by simp)) (by intro e;cases e)
 | succ m ih =>
  intro hm
  have e0:((m+1:Nat):Int)-1=(m:Int):=by omega
  have e1:i64.wrap ((m:Int)-1)=(m:Int)-1:=w64 (by omega) (by omega)
  have hx:=take_lim (xs:=xs) (i:=m) (by omega)
  have hy:=take_lim (xs:=ys) (i:=m) (by omega)
  rw [e0]
  simp only [cmpGo]
  by_cases h:xs.getD m 0=ys.getD m 0
  ·rw [if_pos h]
   have h1:=Yk150_3 xs.length (lm xs) ys.length (lm ys) 0 (m:Int) (xs.getD m 0) (ys.getD m 0) (by simp) (by simpa using h) (by omega) (by rw [Int.toNat_natCast];exact hx) (by omega) (by rw [Int.toNat_natCast];exact hy)
   rw [e1] at h1
   rcases ih (by omega) with ⟨k1,k2⟩ | ⟨k1,j,k2⟩
   ·exact .inl ⟨k1,RunsW.loop h1 k2⟩
   ·exact .inr ⟨k1,j,RunsW.loop h1 k2⟩
  ·rw [if_neg h]
   right
   by_cases hlt:xs.getD m 0<ys.getD m 0
   ·rw [if_pos hlt]
    refine ⟨by decide,(m:Int),?_⟩
    exact RunsW.loop_out (Yk150_1 xs.length (lm xs) ys.length (lm ys) 0 (m:Int) (xs.getD m 0) (ys.getD m 0) (by simp) (by simpa using h) (by simpa using hlt) (by omega) (by rw [Int.toNat_natCast];exact hx) (by omega) (by rw [Int.toNat_natCast];exact hy) (by omega) (by rw [Int.toNat_natCast];exact hx) (by omega) (by rw [Int.toNat_natCast];exact hy)) (by intro e;cases e)
   ·rw [if_neg hlt]
    refine ⟨by decide,(m:Int),?_⟩
    exact RunsW.loop_out (Yk150_2 xs.length (lm xs) ys.length (lm ys) 0 (m:Int) (xs.getD m 0) (ys.getD m 0) (by simp) (by simpa using h) (by simpa using hlt) (by omega) (by rw [Int.toNat_natCast];exact hx) (by omega) (by rw [Int.toNat_natCast];exact hy) (by omega) (by rw [Int.toNat_natCast];exact hx) (by omega) (by rw [Int.toNat_natCast];exact hy)) (by intro e;cases e)
theorem Yrun150_lt (xs ys:List Int) (h:((xs.length:Int) != (ys.length:Int))=true) (h2:(decide ((xs.length:Int)<(ys.length:Int)))=true):Runs Yir 150 [.sl xs.length (lm xs), .sl ys.length (lm ys)] (.int .i64 (-1)):=Runs.script (ps:=[((xs.length:Int) != (ys.length:Int))=true,(decide ((xs.length:Int)<(ys.length:Int)))=true]) TWA_holds rfl 300 rfl [.b true, .b true] (by kernel_rfl) ⟨h,h2,trivial⟩
theorem Yrun150_gt (xs ys:List Int) (h:((xs.length:Int) != (ys.length:Int))=true) (h2:(decide ((xs.length:Int)<(ys.length:Int)))=false):Runs Yir 150 [.sl xs.length (lm xs), .sl ys.length (lm ys)] (.int .i64 1):=Runs.script (ps:=[((xs.length:Int) != (ys.length:Int))=true,(decide ((xs.length:Int)<(ys.length:Int)))=false]) TWA_holds rfl 300 rfl [.b true, .b false] (by kernel_rfl) ⟨h,h2,trivial⟩
theorem Yrun150_eq (xs ys:List Int) (h:((xs.length:Int) != (ys.length:Int))=false) (hl:RunsW Yir (.loop Yc150) (Ys150 xs.length (lm xs) ys.length (lm ys) 0 (i64.wrap ((xs.length:Int)-1))) (.exit 0) (Ys150 xs.length (lm xs) ys.length (lm ys) 0 (-1))):Runs Yir 150 [.sl xs.length (lm xs), .sl ys.length (lm ys)] (.int .i64 0):=Runs.of_bodyW (fn:=Yi150) (s:=(.val (.sl xs.length (lm xs))::(.val (.sl ys.length (lm ys))::(dds 2 (.val (.int .i64 0)::(.val (.int .i64 (-1))::(dds 35 []))))))) (ex := .ret) rfl rfl (RunsW.seq (RunsW.script (t:=(vl xs::(vl ys::(dds 2 (vi 0::(dds 36 [])))))) (ex := .norm) (ps:=[]) TWA_holds 300 [] [0,1,4] (by kernel_rfl) trivial) (RunsW.seq (RunsW.script (t:=(vl xs::(vl ys::(dds 2 (vi 0::(dds 1 (vl xs::(vi (xs.length:Int)::(vl ys::(vi (ys.length:Int)::(.val (.bool ((xs.length:Int) != (ys.length:Int)))::(dds 30 [])))))))))))) (ex := .norm) (ps:=[((xs.length:Int) != (ys.length:Int))=false]) TWA_holds 300 [.b false] [0,1,4,6,7,8,9,10] (by kernel_rfl) ⟨h,trivial⟩) (RunsW.seq (RunsW.seq (RunsW.script (t:=(vl xs::(vl ys::(dds 2 (vi 0::(vi (i64.wrap ((xs.length:Int)-1))::(dds 35 []))))))) (ex := .norm) (ps:=[]) TWA_holds 300 [] [0,1,4,5] (by kernel_rfl) trivial) (RunsW.block hl)) (RunsW.script (t:=(vl xs::(vl ys::(dds 2 (vi 0::(vi (-1)::(dds 35 []))))))) (ex := .ret) (ps:=[]) TWA_holds 300 [] [0,1,4,5] (by kernel_rfl) trivial)))) (by intro i e;cases e) rfl
theorem Yrun150_ne (xs ys:List Int) (r j:Int) (h:((xs.length:Int) != (ys.length:Int))=false) (hl:RunsW Yir (.loop Yc150) (Ys150 xs.length (lm xs) ys.length (lm ys) 0 (i64.wrap ((xs.length:Int)-1))) .ret (Ys150 xs.length (lm xs) ys.length (lm ys) r j)):Runs Yir 150 [.sl xs.length (lm xs), .sl ys.length (lm ys)] (.int .i64 r):=Runs.of_bodyW (fn:=Yi150) (s:=(.val (.sl xs.length (lm xs))::(.val (.sl ys.length (lm ys))::(dds 2 (.val (.int .i64 r)::(.val (.int .i64 j)::(dds 35 []))))))) (ex := .ret) rfl rfl (RunsW.seq (RunsW.script (t:=(vl xs::(vl ys::(dds 2 (vi 0::(dds 36 [])))))) (ex := .norm) (ps:=[]) TWA_holds 300 [] [0,1,4] (by kernel_rfl) trivial) (RunsW.seq (RunsW.script (t:=(vl xs::(vl ys::(dds 2 (vi 0::(dds 1 (vl xs::(vi (xs.length:Int)::(vl ys::(vi (ys.length:Int)::(.val (.bool ((xs.length:Int) != (ys.length:Int)))::(dds 30 [])))))))))))) (ex := .norm) (ps:=[((xs.length:Int) != (ys.length:Int))=false]) TWA_holds 300 [.b false] [0,1,4,6,7,8,9,10] (by kernel_rfl) ⟨h,trivial⟩) (RunsW.seq_out (RunsW.seq (RunsW.script (t:=(vl xs::(vl ys::(dds 2 (vi 0::(vi (i64.wrap ((xs.length:Int)-1))::(dds 35 []))))))) (ex := .norm) (ps:=[]) TWA_holds 300 [] [0,1,4,5] (by kernel_rfl) trivial) (RunsW.block_ret hl)) (by intro e;cases e)))) (by intro i e;cases e) rfl
theorem cmpLimbs_run {xs ys:List Int} (hx:Canon xs) (hy:Canon ys) (hN:xs.length≤1048576):Runs Yir 150 [.sl xs.length (lm xs), .sl ys.length (lm ys)] (.int .i64 (cmpI (valL xs) (valL ys))):=by
 by_cases hl:xs.length=ys.length
 ·have h:((xs.length:Int) != (ys.length:Int))=false:=by rw [hl];simp
  have hg:=cmpGo_eq hx.1 hy.1 xs.length (Nat.le_refl _) (by omega)
  rw [List.take_length,hl,List.take_length,← hl] at hg
  have e1:i64.wrap ((xs.length:Int)-1)=(xs.length:Int)-1:=w64 (by omega) (by omega)
  rcases Yloop150 xs ys hN hl xs.length (Nat.le_refl _) with ⟨k1,k2⟩ | ⟨k1,j,k2⟩
  ·rw [← hg,k1]
   exact Yrun150_eq xs ys h (by rw [e1];exact k2)
  ·rw [← hg]
   exact Yrun150_ne xs ys _ j h (by rw [e1];exact k2)
 ·have h:((xs.length:Int) != (ys.length:Int))=true:=by simp;omega
  by_cases hlt:xs.length<ys.length
  ·have e:cmpI (valL xs) (valL ys) = -1:=by unfold cmpI;rw [if_pos (canon_lt hx hy hlt)]
   rw [e]
   exact Yrun150_lt xs ys h (by simp;omega)
  ·have:=canon_lt hy hx (by omega)
   have e:cmpI (valL xs) (valL ys)=1:=by unfold cmpI;rw [if_neg (by omega),if_pos this]
   rw [e]
   exact Yrun150_gt xs ys h (by simp;omega)
def Ys156 (la:Nat) (xa:List AV) (lb:Nat) (xb:List AV) (n:Nat) (cs:List AV) (c:Int) (m:Int) (i:Int):State:=(.val (.sl la xa)::(.val (.sl lb xb)::(dds 2 (.own 1 0 []::(.own 1 n cs::(.val (.int .u64 c)::(dds 14 (.val (.int .i64 m)::(.val (.int .i64 i)::(dds 35 []))))))))))
theorem Yk156_1 (la:Nat) (xa:List AV) (lb:Nat) (xb:List AV) (n:Nat) (cs:List AV) (c:Int) (m:Int) (i:Int) (ds:List AV) (x y:Int) (c1:(decide (i<m))=true) (c2:(decide (i<(lb:Int)))=true) (n1:0≤i∧i<(la:Int)) (n2:takeA (List.drop (Int.toNat i*1) xa) 0 1 true=some (.int .u32 x)) (n3:0≤i∧i<(lb:Int)) (n4:takeA (List.drop (Int.toNat i*1) xb) 0 1 true=some (.int .u32 y)) (n5:0≤i∧i<(n:Int)) (n6:layA cs (Int.toNat i*1) [.int .u32 (u32.wrap (u64.wrap ((u64.wrap ((u64.wrap x)+c))+(u64.wrap y))))]=some ds):RunsW Yir Yc156 (Ys156 la xa lb xb n cs c m i) .norm (Ys156 la xa lb xb n ds (Int.fdiv (u64.wrap ((u64.wrap ((u64.wrap x)+c))+(u64.wrap y))) (2^(min (Int.toNat 32) (IntKind.bits .u64)))) m (i64.wrap (i+1))):=RunsW.script (ps:=[(decide (i<m))=true,0≤i∧i<(la:Int),takeA (List.drop (Int.toNat i*1) xa) 0 1 true=some (.int .u32 x),(decide (i<(lb:Int)))=true,0≤i∧i<(lb:Int),takeA (List.drop (Int.toNat i*1) xb) 0 1 true=some (.int .u32 y),¬ (32:Int)<0,0≤i∧i<(n:Int),layA cs (Int.toNat i*1) [.int .u32 (u32.wrap (u64.wrap ((u64.wrap ((u64.wrap x)+c))+(u64.wrap y))))]=some ds]) TWA_holds 300 [.b true, .v (.int .u32 x), .b true, .v (.int .u32 y), .l ds] [0,1,4,5,6,21,22] (by kernel_rfl) ⟨c1,n1,n2,c2,n3,n4,(by decide),n5,n6,trivial⟩
theorem Yk156_2 (la:Nat) (xa:List AV) (lb:Nat) (xb:List AV) (n:Nat) (cs:List AV) (c:Int) (m:Int) (i:Int) (ds:List AV) (x:Int) (c1:(decide (i<m))=true) (c2:(decide (i<(lb:Int)))=false) (n1:0≤i∧i<(la:Int)) (n2:takeA (List.drop (Int.toNat i*1) xa) 0 1 true=some (.int .u32 x)) (n3:0≤i∧i<(n:Int)) (n4:layA cs (Int.toNat i*1) [.int .u32 (u32.wrap (u64.wrap ((u64.wrap x)+c)))]=some ds):RunsW Yir Yc156 (Ys156 la xa lb xb n cs c m i) .norm (Ys156 la xa lb xb n ds (Int.fdiv (u64.wrap ((u64.wrap x)+c)) (2^(min (Int.toNat 32) (IntKind.bits .u64)))) m (i64.wrap (i+1))):=RunsW.script (ps:=[(decide (i<m))=true,0≤i∧i<(la:Int),takeA (List.drop (Int.toNat i*1) xa) 0 1 true=some (.int .u32 x),(decide (i<(lb:Int)))=false,¬ (32:Int)<0,0≤i∧i<(n:Int),layA cs (Int.toNat i*1) [.int .u32 (u32.wrap (u64.wrap ((u64.wrap x)+c)))]=some ds]) TWA_holds 300 [.b true, .v (.int .u32 x), .b false, .l ds] [0,1,4,5,6,21,22] (by kernel_rfl) ⟨c1,n1,n2,c2,(by decide),n3,n4,trivial⟩
theorem Yk156_3 (la:Nat) (xa:List AV) (lb:Nat) (xb:List AV) (n:Nat) (cs:List AV) (c:Int) (m:Int) (i:Int) (c1:(decide (i<m))=false):RunsW Yir Yc156 (Ys156 la xa lb xb n cs c m i) (.exit 0) (Ys156 la xa lb xb n cs c m i):=RunsW.script (ps:=[(decide (i<m))=false]) TWA_holds 300 [.b false] [0,1,4,5,6,21,22] (by kernel_rfl) ⟨c1,trivial⟩
theorem Yloop156 (xs ys:List Int) (hx:U32 xs) (hy:U32 ys) (n:Nat) (hn:n≤1048576) (hxn:xs.length≤n):∀ (r i:Nat) (o:List Int) (c:Int),r+i=xs.length→o.length=n→U32 o→0≤c∧c≤1 →
  RunsW Yir (.loop Yc156) (Ys156 xs.length (lm xs) ys.length (lm ys) n (lm o) c (xs.length:Int) (i:Int)) (.exit 0)
   (Ys156 xs.length (lm xs) ys.length (lm ys) n (lm (addGo xs ys r i o c).1) (addGo xs ys r i o c).2 (xs.length:Int) (xs.length:Int)):=by
 intro r
 induction r with
 | zero =>
  intro i o c hi _ _ _
  have hi':i=xs.length:=by omega
  subst hi'
  exact RunsW.loop_out (Yk156_3 xs.length (lm xs) ys.length (lm ys) n (lm o) c (xs.length:Int) (xs.length:Int) (by simp)) (by intro e;cases e)
 | succ r ih =>
  intro i o c hi hlo hu hc
  have h1:=getD_u32 hx i
  have h2:=getD_u32 hy i
  have ei:i64.wrap ((i:Int)+1)=((i+1:Nat):Int):=by rw [w64 (by omega) (by omega)];omega
  have hxi:=take_lim (xs:=xs) (i:=i) (by omega)
  have hst:=lay_lim (xs:=o) (i:=i) (v:=(xs.getD i 0+c+ys.getD i 0) % 4294967296) (by omega)
  by_cases hy2:i<ys.length
  ·have hyi:=take_lim (xs:=ys) (i:=i) hy2
   have eW:u32.wrap (u64.wrap (u64.wrap (u64.wrap (xs.getD i 0)+c)+u64.wrap (ys.getD i 0)))=(xs.getD i 0+c+ys.getD i 0) % 4294967296:=by rw [wu32,wu64m,wu64m,wu64m,wu64m];omega
   have eC:Int.fdiv (u64.wrap (u64.wrap (u64.wrap (xs.getD i 0)+c)+u64.wrap (ys.getD i 0))) (2^(min (Int.toNat 32) (IntKind.bits .u64)))=((xs.getD i 0+c+ys.getD i 0) / 4294967296):=by
    show Int.fdiv _ 4294967296=_
    rw [Int.fdiv_eq_ediv_of_nonneg _ (by omega),wu64m,wu64m,wu64m,wu64m];omega
   have k:=Yk156_1 xs.length (lm xs) ys.length (lm ys) n (lm o) c (xs.length:Int) (i:Int) (lm (o.set i ((xs.getD i 0+c+ys.getD i 0) % 4294967296))) (xs.getD i 0) (ys.getD i 0)
    (by simp;omega) (by simp;omega) (by omega) (by rw [Int.toNat_natCast];exact hxi) (by omega) (by rw [Int.toNat_natCast];exact hyi) (by omega) (by rw [Int.toNat_natCast,eW];exact hst)
   rw [eC,ei] at k
   exact RunsW.loop k (ih (i+1) _ _ (by omega) (by simpa using hlo) (u32_set hu (by omega)) (by omega))
  ·have hy0:=getD_end (xs:=ys) (i:=i) (by omega)
   have eW:u32.wrap (u64.wrap (u64.wrap (xs.getD i 0)+c))=(xs.getD i 0+c+ys.getD i 0) % 4294967296:=by rw [wu32,wu64m,wu64m];omega
   have eC:Int.fdiv (u64.wrap (u64.wrap (xs.getD i 0)+c)) (2^(min (Int.toNat 32) (IntKind.bits .u64)))=((xs.getD i 0+c+ys.getD i 0) / 4294967296):=by
    show Int.fdiv _ 4294967296=_
    rw [Int.fdiv_eq_ediv_of_nonneg _ (by omega),wu64m,wu64m];omega
   have k:=Yk156_2 xs.length (lm xs) ys.length (lm ys) n (lm o) c (xs.length:Int) (i:Int) (lm (o.set i ((xs.getD i 0+c+ys.getD i 0) % 4294967296))) (xs.getD i 0)
    (by simp;omega) (by simp;omega) (by omega) (by rw [Int.toNat_natCast];exact hxi) (by omega) (by rw [Int.toNat_natCast,eW];exact hst)
   rw [eC,ei] at k
   exact RunsW.loop k (ih (i+1) _ _ (by omega) (by simpa using hlo) (u32_set hu (by omega)) (by omega))
def Ys157 (la:Nat) (xa:List AV) (lb:Nat) (xb:List AV) (n:Nat) (cs:List AV) (c:Int) (m:Int) (i:Int):State:=(.val (.sl la xa)::(.val (.sl lb xb)::(dds 2 (.own 1 0 []::(.own 1 n cs::(.val (.int .u64 c)::(dds 6 (.val (.int .i64 m)::(.val (.int .i64 i)::(dds 29 []))))))))))
theorem Yk157_1 (la:Nat) (xa:List AV) (lb:Nat) (xb:List AV) (n:Nat) (cs:List AV) (c:Int) (m:Int) (i:Int) (ds:List AV) (x y:Int) (c1:(decide (i<m))=true) (c2:(decide (i<(lb:Int)))=true) (n1:0≤i∧i<(la:Int)) (n2:takeA (List.drop (Int.toNat i*1) xa) 0 1 true=some (.int .u32 x)) (n3:0≤i∧i<(lb:Int)) (n4:takeA (List.drop (Int.toNat i*1) xb) 0 1 true=some (.int .u32 y)) (n5:0≤i∧i<(n:Int)) (n6:layA cs (Int.toNat i*1) [.int .u32 (u32.wrap (u64.wrap ((u64.wrap ((u64.wrap x)-c))-(u64.wrap y))))]=some ds):RunsW Yir Yc157 (Ys157 la xa lb xb n cs c m i) .norm (Ys157 la xa lb xb n ds (Int.fdiv (u64.wrap ((u64.wrap ((u64.wrap x)-c))-(u64.wrap y))) (2^(min (Int.toNat 63) (IntKind.bits .u64)))) m (i64.wrap (i+1))):=RunsW.script (ps:=[(decide (i<m))=true,0≤i∧i<(la:Int),takeA (List.drop (Int.toNat i*1) xa) 0 1 true=some (.int .u32 x),(decide (i<(lb:Int)))=true,0≤i∧i<(lb:Int),takeA (List.drop (Int.toNat i*1) xb) 0 1 true=some (.int .u32 y),¬ (63:Int)<0,0≤i∧i<(n:Int),layA cs (Int.toNat i*1) [.int .u32 (u32.wrap (u64.wrap ((u64.wrap ((u64.wrap x)-c))-(u64.wrap y))))]=some ds]) TWA_holds 300 [.b true, .v (.int .u32 x), .b true, .v (.int .u32 y), .l ds] [0,1,4,5,6,13,14] (by kernel_rfl) ⟨c1,n1,n2,c2,n3,n4,(by decide),n5,n6,trivial⟩
theorem Yk157_2 (la:Nat) (xa:List AV) (lb:Nat) (xb:List AV) (n:Nat) (cs:List AV) (c:Int) (m:Int) (i:Int) (ds:List AV) (x:Int) (c1:(decide (i<m))=true) (c2:(decide (i<(lb:Int)))=false) (n1:0≤i∧i<(la:Int)) (n2:takeA (List.drop (Int.toNat i*1) xa) 0 1 true=some (.int .u32 x)) (n3:0≤i∧i<(n:Int)) (n4:layA cs (Int.toNat i*1) [.int .u32 (u32.wrap (u64.wrap ((u64.wrap x)-c)))]=some ds):RunsW Yir Yc157 (Ys157 la xa lb xb n cs c m i) .norm (Ys157 la xa lb xb n ds (Int.fdiv (u64.wrap ((u64.wrap x)-c)) (2^(min (Int.toNat 63) (IntKind.bits .u64)))) m (i64.wrap (i+1))):=RunsW.script (ps:=[(decide (i<m))=true,0≤i∧i<(la:Int),takeA (List.drop (Int.toNat i*1) xa) 0 1 true=some (.int .u32 x),(decide (i<(lb:Int)))=false,¬ (63:Int)<0,0≤i∧i<(n:Int),layA cs (Int.toNat i*1) [.int .u32 (u32.wrap (u64.wrap ((u64.wrap x)-c)))]=some ds]) TWA_holds 300 [.b true, .v (.int .u32 x), .b false, .l ds] [0,1,4,5,6,13,14] (by kernel_rfl) ⟨c1,n1,n2,c2,(by decide),n3,n4,trivial⟩
theorem Yk157_3 (la:Nat) (xa:List AV) (lb:Nat) (xb:List AV) (n:Nat) (cs:List AV) (c:Int) (m:Int) (i:Int) (c1:(decide (i<m))=false):RunsW Yir Yc157 (Ys157 la xa lb xb n cs c m i) (.exit 0) (Ys157 la xa lb xb n cs c m i):=RunsW.script (ps:=[(decide (i<m))=false]) TWA_holds 300 [.b false] [0,1,4,5,6,13,14] (by kernel_rfl) ⟨c1,trivial⟩
theorem Yloop157 (xs ys:List Int) (hx:U32 xs) (hy:U32 ys) (n:Nat) (hn:n≤1048576) (hxn:xs.length≤n):∀ (r i:Nat) (o:List Int) (c:Int),r+i=xs.length→o.length=n→U32 o→0≤c∧c≤1 →
  RunsW Yir (.loop Yc157) (Ys157 xs.length (lm xs) ys.length (lm ys) n (lm o) c (xs.length:Int) (i:Int)) (.exit 0)
   (Ys157 xs.length (lm xs) ys.length (lm ys) n (lm (subGo xs ys r i o c).1) (subGo xs ys r i o c).2 (xs.length:Int) (xs.length:Int)):=by
 intro r
 induction r with
 | zero =>
  intro i o c hi _ _ _
  have hi':i=xs.length:=by omega
  subst hi'
  exact RunsW.loop_out (Yk157_3 xs.length (lm xs) ys.length (lm ys) n (lm o) c (xs.length:Int) (xs.length:Int) (by simp)) (by intro e;cases e)
 | succ r ih =>
  intro i o c hi hlo hu hc
  have h1:=getD_u32 hx i
  have h2:=getD_u32 hy i
  have ei:i64.wrap ((i:Int)+1)=((i+1:Nat):Int):=by rw [w64 (by omega) (by omega)];omega
  have hxi:=take_lim (xs:=xs) (i:=i) (by omega)
  have hst:=lay_lim (xs:=o) (i:=i) (v:=(xs.getD i 0-c-ys.getD i 0) % 4294967296) (by omega)
  by_cases hy2:i<ys.length
  ·have hyi:=take_lim (xs:=ys) (i:=i) hy2
   have eW:u32.wrap (u64.wrap (u64.wrap (u64.wrap (xs.getD i 0)-c)-u64.wrap (ys.getD i 0)))=(xs.getD i 0-c-ys.getD i 0) % 4294967296:=by rw [wu32,wu64m,wu64m,wu64m,wu64m];omega
   have eC:Int.fdiv (u64.wrap (u64.wrap (u64.wrap (xs.getD i 0)-c)-u64.wrap (ys.getD i 0))) (2^(min (Int.toNat 63) (IntKind.bits .u64)))=(-((xs.getD i 0-c-ys.getD i 0) / 4294967296)):=by
    show Int.fdiv _ 9223372036854775808=_
    rw [Int.fdiv_eq_ediv_of_nonneg _ (by omega),wu64m,wu64m,wu64m,wu64m];omega
   have k:=Yk157_1 xs.length (lm xs) ys.length (lm ys) n (lm o) c (xs.length:Int) (i:Int) (lm (o.set i ((xs.getD i 0-c-ys.getD i 0) % 4294967296))) (xs.getD i 0) (ys.getD i 0)
    (by simp;omega) (by simp;omega) (by omega) (by rw [Int.toNat_natCast];exact hxi) (by omega) (by rw [Int.toNat_natCast];exact hyi) (by omega) (by rw [Int.toNat_natCast,eW];exact hst)
   rw [eC,ei] at k
   exact RunsW.loop k (ih (i+1) _ _ (by omega) (by simpa using hlo) (u32_set hu (by omega)) (by omega))
  ·have hy0:=getD_end (xs:=ys) (i:=i) (by omega)
   have eW:u32.wrap (u64.wrap (u64.wrap (xs.getD i 0)-c))=(xs.getD i 0-c-ys.getD i 0) % 4294967296:=by rw [wu32,wu64m,wu64m];omega
   have eC:Int.fdiv (u64.wrap (u64.wrap (xs.getD i 0)-c)) (2^(min (Int.toNat 63) (IntKind.bits .u64)))=(-((xs.getD i 0-c-ys.getD i 0) / 4294967296)):=by
    show Int.fdiv _ 9223372036854775808=_
    rw [Int.fdiv_eq_ediv_of_nonneg _ (by omega),wu64m,wu64m];omega
   have k:=Yk157_2 xs.length (lm xs) ys.length (lm ys) n (lm o) c (xs.length:Int) (i:Int) (lm (o.set i ((xs.getD i 0-c-ys.getD i 0) % 4294967296))) (xs.getD i 0)
    (by simp;omega) (by simp;omega) (by omega) (by rw [Int.toNat_natCast];exact hxi) (by omega) (by rw [Int.toNat_natCast,eW];exact hst)
   rw [eC,ei] at k
   exact RunsW.loop k (ih (i+1) _ _ (by omega) (by simpa using hlo) (u32_set hu (by omega)) (by omega))
theorem Yrun156_sw (xs ys o:List Int) (c:Int) (h:(decide ((xs.length:Int)<(ys.length:Int)))=true) (hmk:0≤i64.wrap ((ys.length:Int)+1)∧i64.wrap ((ys.length:Int)+1)≤1048576) (hl:RunsW Yir (.loop Yc156) (Ys156 ys.length (lm ys) xs.length (lm xs) (Int.toNat (i64.wrap ((ys.length:Int)+1))) (replA [.int .u32 0] (Int.toNat (i64.wrap ((ys.length:Int)+1)))) 0 (ys.length:Int) 0) (.exit 0) (Ys156 ys.length (lm ys) xs.length (lm xs) (Int.toNat (i64.wrap ((ys.length:Int)+1))) (lm o) c (ys.length:Int) (ys.length:Int))) (hix:0≤(ys.length:Int)∧(ys.length:Int)<(((Int.toNat (i64.wrap ((ys.length:Int)+1))):Nat):Int)) (hst:layA (lm o) (Int.toNat (ys.length:Int)*1) [.int .u32 (u32.wrap c)]=some (lm (o.set ys.length c))):Runs Yir 156 [.sl xs.length (lm xs), .sl ys.length (lm ys)] (.fresh 1 (Int.toNat (i64.wrap ((ys.length:Int)+1))) (lm (o.set ys.length c))):=Runs.of_bodyW (fn:=Yi156) (s:=(.val (.sl ys.length (lm ys))::(.val (.sl xs.length (lm xs))::(dds 2 (.own 1 (Int.toNat (i64.wrap ((ys.length:Int)+1))) (lm (o.set ys.length c))::(dds 1 (.val (.int .u64 c)::(dds 14 (.val (.int .i64 (ys.length:Int))::(.val (.int .i64 (ys.length:Int))::(dds 28 (.dup 5::(.val (.sl ys.length (lm ys))::(.val (.int .i64 (ys.length:Int))::(.val (.int .u64 c)::(.val (.int .u32 (u32.wrap c))::(.ptr 5 (Int.toNat (ys.length:Int)*1)::(dds 1 [])))))))))))))))))) (ex := .ret) rfl rfl (RunsW.seq (RunsW.script (t:=(vl xs::(vl ys::(dds 2 (.own 1 0 []::(dds 53 [])))))) (ex := .norm) (ps:=[]) TWA_holds 300 [] [0,1,4] (by kernel_rfl) trivial) (RunsW.seq (RunsW.script (t:=(vl ys::(vl xs::(dds 2 (.own 1 0 []::(dds 4 (vl xs::(vi (xs.length:Int)::(vl ys::(vi (ys.length:Int)::(.val (.bool (decide ((xs.length:Int)<(ys.length:Int))))::(vl ys::(vl xs::(dds 42 [])))))))))))))) (ex := .norm) (ps:=[(decide ((xs.length:Int)<(ys.length:Int)))=true]) TWA_holds 300 [.b true] [0,1,4,9,10,11,12,13,14,15] (by kernel_rfl) ⟨h,trivial⟩) (RunsW.seq (RunsW.script (t:=(vl ys::(vl xs::(dds 2 (.own 1 0 []::(.own 1 (Int.toNat (i64.wrap ((ys.length:Int)+1))) (replA [.int .u32 0] (Int.toNat (i64.wrap ((ys.length:Int)+1))))::(dds 3 (vl xs::(vi (xs.length:Int)::(vl ys::(vi (ys.length:Int)::(.val (.bool (decide ((xs.length:Int)<(ys.length:Int))))::(vl ys::(vl xs::(vl ys::(vi (ys.length:Int)::(vi (i64.wrap ((ys.length:Int)+1))::(dds 39 [])))))))))))))))))) (ex := .norm) (ps:=[0≤(i64.wrap ((ys.length:Int)+1))∧(i64.wrap ((ys.length:Int)+1))≤1048576]) TWA_holds 300 [] [0,1,4,5,9,10,11,12,13,14,15,16,17,18] (by kernel_rfl) ⟨hmk,trivial⟩) (RunsW.seq (RunsW.script (t:=(vl ys::(vl xs::(dds 2 (.own 1 0 []::(.own 1 (Int.toNat (i64.wrap ((ys.length:Int)+1))) (replA [.int .u32 0] (Int.toNat (i64.wrap ((ys.length:Int)+1))))::(.val (.int .u64 0)::(dds 2 (vl xs::(vi (xs.length:Int)::(vl ys::(vi (ys.length:Int)::(.val (.bool (decide ((xs.length:Int)<(ys.length:Int))))::(vl ys::(vl xs::(vl ys::(vi (ys.length:Int)::(vi (i64.wrap ((ys.length:Int)+1))::(dds 39 []))))))))))))))))))) (ex := .norm) (ps:=[]) TWA_holds 300 [] [0,1,4,5,6,9,10,11,12,13,14,15,16,17,18] (by kernel_rfl) trivial) (RunsW.seq (RunsW.seq (RunsW.script (t:=(vl ys::(vl xs::(dds 2 (.own 1 0 []::(.own 1 (Int.toNat (i64.wrap ((ys.length:Int)+1))) (replA [.int .u32 0] (Int.toNat (i64.wrap ((ys.length:Int)+1))))::(.val (.int .u64 0)::(dds 14 (vi (ys.length:Int)::(vi 0::(dds 35 []))))))))))) (ex := .norm) (ps:=[]) TWA_holds 300 [] [0,1,4,5,6,21,22] (by kernel_rfl) trivial) (RunsW.block hl)) (RunsW.script (t:=(vl ys::(vl xs::(dds 2 (.own 1 (Int.toNat (i64.wrap ((ys.length:Int)+1))) (lm (o.set ys.length c))::(dds 1 (.val (.int .u64 c)::(dds 14 (vi (ys.length:Int)::(vi (ys.length:Int)::(dds 28 (.dup 5::(vl ys::(vi (ys.length:Int)::(.val (.int .u64 c)::(.val (.int .u32 (u32.wrap c))::(.ptr 5 (Int.toNat (ys.length:Int)*1)::(dds 1 [])))))))))))))))))) (ex := .ret) (ps:=[0≤(ys.length:Int)∧(ys.length:Int)<(((Int.toNat (i64.wrap ((ys.length:Int)+1))):Nat):Int),layA (lm o) (Int.toNat (ys.length:Int)*1) [.int .u32 (u32.wrap c)]=some (lm (o.set ys.length c))]) TWA_holds 300 [.l (lm (o.set ys.length c))] [0,1,4,6,21,22,51,52,53,54,55,56] (by kernel_rfl) ⟨hix,hst,trivial⟩)))))) (by intro i e;cases e) rfl
theorem Yrun156_no (xs ys o:List Int) (c:Int) (h:(decide ((xs.length:Int)<(ys.length:Int)))=false) (hmk:0≤i64.wrap ((xs.length:Int)+1)∧i64.wrap ((xs.length:Int)+1)≤1048576) (hl:RunsW Yir (.loop Yc156) (Ys156 xs.length (lm xs) ys.length (lm ys) (Int.toNat (i64.wrap ((xs.length:Int)+1))) (replA [.int .u32 0] (Int.toNat (i64.wrap ((xs.length:Int)+1)))) 0 (xs.length:Int) 0) (.exit 0) (Ys156 xs.length (lm xs) ys.length (lm ys) (Int.toNat (i64.wrap ((xs.length:Int)+1))) (lm o) c (xs.length:Int) (xs.length:Int))) (hix:0≤(xs.length:Int)∧(xs.length:Int)<(((Int.toNat (i64.wrap ((xs.length:Int)+1))):Nat):Int)) (hst:layA (lm o) (Int.toNat (xs.length:Int)*1) [.int .u32 (u32.wrap c)]=some (lm (o.set xs.length c))):Runs Yir 156 [.sl xs.length (lm xs), .sl ys.length (lm ys)] (.fresh 1 (Int.toNat (i64.wrap ((xs.length:Int)+1))) (lm (o.set xs.length c))):=Runs.of_bodyW (fn:=Yi156) (s:=(.val (.sl xs.length (lm xs))::(.val (.sl ys.length (lm ys))::(dds 2 (.own 1 (Int.toNat (i64.wrap ((xs.length:Int)+1))) (lm (o.set xs.length c))::(dds 1 (.val (.int .u64 c)::(dds 14 (.val (.int .i64 (xs.length:Int))::(.val (.int .i64 (xs.length:Int))::(dds 28 (.dup 5::(.val (.sl xs.length (lm xs))::(.val (.int .i64 (xs.length:Int))::(.val (.int .u64 c)::(.val (.int .u32 (u32.wrap c))::(.ptr 5 (Int.toNat (xs.length:Int)*1)::(dds 1 [])))))))))))))))))) (ex := .ret) rfl rfl (RunsW.seq (RunsW.script (t:=(vl xs::(vl ys::(dds 2 (.own 1 0 []::(dds 53 [])))))) (ex := .norm) (ps:=[]) TWA_holds 300 [] [0,1,4] (by kernel_rfl) trivial) (RunsW.seq (RunsW.script (t:=(vl xs::(vl ys::(dds 2 (.own 1 0 []::(dds 4 (vl xs::(vi (xs.length:Int)::(vl ys::(vi (ys.length:Int)::(.val (.bool (decide ((xs.length:Int)<(ys.length:Int))))::(dds 44 [])))))))))))) (ex := .norm) (ps:=[(decide ((xs.length:Int)<(ys.length:Int)))=false]) TWA_holds 300 [.b false] [0,1,4,9,10,11,12,13] (by kernel_rfl) ⟨h,trivial⟩) (RunsW.seq (RunsW.script (t:=(vl xs::(vl ys::(dds 2 (.own 1 0 []::(.own 1 (Int.toNat (i64.wrap ((xs.length:Int)+1))) (replA [.int .u32 0] (Int.toNat (i64.wrap ((xs.length:Int)+1))))::(dds 3 (vl xs::(vi (xs.length:Int)::(vl ys::(vi (ys.length:Int)::(.val (.bool (decide ((xs.length:Int)<(ys.length:Int))))::(dds 2 (vl xs::(vi (xs.length:Int)::(vi (i64.wrap ((xs.length:Int)+1))::(dds 39 []))))))))))))))))) (ex := .norm) (ps:=[0≤(i64.wrap ((xs.length:Int)+1))∧(i64.wrap ((xs.length:Int)+1))≤1048576]) TWA_holds 300 [] [0,1,4,5,9,10,11,12,13,16,17,18] (by kernel_rfl) ⟨hmk,trivial⟩) (RunsW.seq (RunsW.script (t:=(vl xs::(vl ys::(dds 2 (.own 1 0 []::(.own 1 (Int.toNat (i64.wrap ((xs.length:Int)+1))) (replA [.int .u32 0] (Int.toNat (i64.wrap ((xs.length:Int)+1))))::(.val (.int .u64 0)::(dds 2 (vl xs::(vi (xs.length:Int)::(vl ys::(vi (ys.length:Int)::(.val (.bool (decide ((xs.length:Int)<(ys.length:Int))))::(dds 2 (vl xs::(vi (xs.length:Int)::(vi (i64.wrap ((xs.length:Int)+1))::(dds 39 [])))))))))))))))))) (ex := .norm) (ps:=[]) TWA_holds 300 [] [0,1,4,5,6,9,10,11,12,13,16,17,18] (by kernel_rfl) trivial) (RunsW.seq (RunsW.seq (RunsW.script (t:=(vl xs::(vl ys::(dds 2 (.own 1 0 []::(.own 1 (Int.toNat (i64.wrap ((xs.length:Int)+1))) (replA [.int .u32 0] (Int.toNat (i64.wrap ((xs.length:Int)+1))))::(.val (.int .u64 0)::(dds 14 (vi (xs.length:Int)::(vi 0::(dds 35 []))))))))))) (ex := .norm) (ps:=[]) TWA_holds 300 [] [0,1,4,5,6,21,22] (by kernel_rfl) trivial) (RunsW.block hl)) (RunsW.script (t:=(vl xs::(vl ys::(dds 2 (.own 1 (Int.toNat (i64.wrap ((xs.length:Int)+1))) (lm (o.set xs.length c))::(dds 1 (.val (.int .u64 c)::(dds 14 (vi (xs.length:Int)::(vi (xs.length:Int)::(dds 28 (.dup 5::(vl xs::(vi (xs.length:Int)::(.val (.int .u64 c)::(.val (.int .u32 (u32.wrap c))::(.ptr 5 (Int.toNat (xs.length:Int)*1)::(dds 1 [])))))))))))))))))) (ex := .ret) (ps:=[0≤(xs.length:Int)∧(xs.length:Int)<(((Int.toNat (i64.wrap ((xs.length:Int)+1))):Nat):Int),layA (lm o) (Int.toNat (xs.length:Int)*1) [.int .u32 (u32.wrap c)]=some (lm (o.set xs.length c))]) TWA_holds 300 [.l (lm (o.set xs.length c))] [0,1,4,6,21,22,51,52,53,54,55,56] (by kernel_rfl) ⟨hix,hst,trivial⟩)))))) (by intro i e;cases e) rfl
theorem addLimbs_any {xs ys:List Int} (hx:U32 xs) (hy:U32 ys) (hl:ys.length≤xs.length) (hN:xs.length<1048576):∃ o c,(o:List Int).length=xs.length+1∧U32 (o.set xs.length c)∧valL (o.set xs.length c)=valL xs+valL ys∧(0≤c∧c≤1) ∧
  RunsW Yir (.loop Yc156) (Ys156 xs.length (lm xs) ys.length (lm ys) (xs.length+1) (lm (List.replicate (xs.length+1) 0)) 0 (xs.length:Int) 0) (.exit 0) (Ys156 xs.length (lm xs) ys.length (lm ys) (xs.length+1) (lm o) c (xs.length:Int) (xs.length:Int)):=by
 have hg:=Yloop156 xs ys hx hy (xs.length+1) (by omega) (by omega) xs.length 0 (List.replicate (xs.length+1) 0) 0 (by omega) (by simp) (u32_zeros _) (by omega)
 cases e:addGo xs ys xs.length 0 (List.replicate (xs.length+1) 0) 0 with
 | mk o c =>
  obtain ⟨g1,g2,g3,g4,g5⟩:=add_whole hx hy hl o c e
  rw [e] at hg
  exact ⟨o,c,g1,g4,g5,g3,hg⟩
theorem addLimbs_run {xs ys:List Int} (hx:U32 xs) (hy:U32 ys) (h1:xs.length<1048576) (h2:ys.length<1048576):∃ zs,U32 zs∧valL zs=valL xs+valL ys∧zs.length≤1048576∧Runs Yir 156 [.sl xs.length (lm xs), .sl ys.length (lm ys)] (.fresh 1 zs.length (lm zs)):=by
 by_cases hlt:xs.length<ys.length
 ·obtain ⟨o,c,g1,g2,g3,g4,g5⟩:=addLimbs_any hy hx (by omega) h2
  have e1:i64.wrap ((ys.length:Int)+1)=((ys.length+1:Nat):Int):=by rw [w64 (by omega) (by omega)];omega
  have e2:Int.toNat (i64.wrap ((ys.length:Int)+1))=ys.length+1:=by rw [e1,Int.toNat_natCast]
  have hst:=lay_lim (xs:=o) (i:=ys.length) (v:=c) (by omega)
  have h:=Yrun156_sw xs ys o c (by simp;omega) (by rw [e1];omega) (by rw [e2,repl_lim];exact g5) (by rw [e2];omega) (by rw [Int.toNat_natCast,wu32,Int.emod_eq_of_lt (by omega) (by omega)];exact hst)
  refine ⟨o.set ys.length c,g2,by rw [g3,Int.add_comm],by simp;omega,?_⟩
  rw [e2] at h
  rw [List.length_set,g1]
  exact h
 ·obtain ⟨o,c,g1,g2,g3,g4,g5⟩:=addLimbs_any hx hy (by omega) h1
  have e1:i64.wrap ((xs.length:Int)+1)=((xs.length+1:Nat):Int):=by rw [w64 (by omega) (by omega)];omega
  have e2:Int.toNat (i64.wrap ((xs.length:Int)+1))=xs.length+1:=by rw [e1,Int.toNat_natCast]
  have hst:=lay_lim (xs:=o) (i:=xs.length) (v:=c) (by omega)
  have h:=Yrun156_no xs ys o c (by simp;omega) (by rw [e1];omega) (by rw [e2,repl_lim];exact g5) (by rw [e2];omega) (by rw [Int.toNat_natCast,wu32,Int.emod_eq_of_lt (by omega) (by omega)];exact hst)
  refine ⟨o.set xs.length c,g2,g3,by simp;omega,?_⟩
  rw [e2] at h
  rw [List.length_set,g1]
  exact h
theorem Yrun157 (xs ys o:List Int) (c:Int) (hmk:0≤(xs.length:Int)∧(xs.length:Int)≤1048576) (hl:RunsW Yir (.loop Yc157) (Ys157 xs.length (lm xs) ys.length (lm ys) (Int.toNat (xs.length:Int)) (replA [.int .u32 0] (Int.toNat (xs.length:Int))) 0 (xs.length:Int) 0) (.exit 0) (Ys157 xs.length (lm xs) ys.length (lm ys) (Int.toNat (xs.length:Int)) (lm o) c (xs.length:Int) (xs.length:Int))):Runs Yir 157 [.sl xs.length (lm xs), .sl ys.length (lm ys)] (.fresh 1 (Int.toNat (xs.length:Int)) (lm o)):=Runs.of_bodyW (fn:=Yi157) (s:=(.val (.sl xs.length (lm xs))::(.val (.sl ys.length (lm ys))::(dds 2 (.own 1 (Int.toNat (xs.length:Int)) (lm o)::(dds 1 (.val (.int .u64 c)::(dds 6 (.val (.int .i64 (xs.length:Int))::(.val (.int .i64 (xs.length:Int))::(dds 29 []))))))))))) (ex := .ret) rfl rfl (RunsW.seq (RunsW.script (t:=(vl xs::(vl ys::(dds 2 (.own 1 0 []::(dds 39 [])))))) (ex := .norm) (ps:=[]) TWA_holds 300 [] [0,1,4] (by kernel_rfl) trivial) (RunsW.seq (RunsW.script (t:=(vl xs::(vl ys::(dds 2 (.own 1 0 []::(.own 1 (Int.toNat (xs.length:Int)) (replA [.int .u32 0] (Int.toNat (xs.length:Int)))::(dds 3 (vl xs::(vi (xs.length:Int)::(dds 33 [])))))))))) (ex := .norm) (ps:=[0≤(xs.length:Int)∧(xs.length:Int)≤1048576]) TWA_holds 300 [] [0,1,4,5,9,10] (by kernel_rfl) ⟨hmk,trivial⟩) (RunsW.seq (RunsW.script (t:=(vl xs::(vl ys::(dds 2 (.own 1 0 []::(.own 1 (Int.toNat (xs.length:Int)) (replA [.int .u32 0] (Int.toNat (xs.length:Int)))::(.val (.int .u64 0)::(dds 2 (vl xs::(vi (xs.length:Int)::(dds 33 []))))))))))) (ex := .norm) (ps:=[]) TWA_holds 300 [] [0,1,4,5,6,9,10] (by kernel_rfl) trivial) (RunsW.seq (RunsW.seq (RunsW.script (t:=(vl xs::(vl ys::(dds 2 (.own 1 0 []::(.own 1 (Int.toNat (xs.length:Int)) (replA [.int .u32 0] (Int.toNat (xs.length:Int)))::(.val (.int .u64 0)::(dds 6 (vi (xs.length:Int)::(vi 0::(dds 29 []))))))))))) (ex := .norm) (ps:=[]) TWA_holds 300 [] [0,1,4,5,6,13,14] (by kernel_rfl) trivial) (RunsW.block hl)) (RunsW.script (t:=(vl xs::(vl ys::(dds 2 (.own 1 (Int.toNat (xs.length:Int)) (lm o)::(dds 1 (.val (.int .u64 c)::(dds 6 (vi (xs.length:Int)::(vi (xs.length:Int)::(dds 29 []))))))))))) (ex := .ret) (ps:=[]) TWA_holds 300 [] [0,1,4,6,13,14] (by kernel_rfl) trivial))))) (by intro i e;cases e) rfl
theorem subLimbs_run {xs ys:List Int} (hx:U32 xs) (hy:U32 ys) (hl:ys.length≤xs.length) (hv:valL ys≤valL xs) (hN:xs.length≤1048576):∃ zs,U32 zs∧valL zs=valL xs-valL ys∧zs.length≤1048576∧Runs Yir 157 [.sl xs.length (lm xs), .sl ys.length (lm ys)] (.fresh 1 zs.length (lm zs)):=by
 have hg:=Yloop157 xs ys hx hy xs.length hN (Nat.le_refl _) xs.length 0 (List.replicate xs.length 0) 0 (by omega) (by simp) (u32_zeros _) (by omega)
 cases e:subGo xs ys xs.length 0 (List.replicate xs.length 0) 0 with
 | mk o c =>
  obtain ⟨g1,g2,g3⟩:=sub_whole hx hy hl hv o c e
  rw [e] at hg
  have h:=Yrun157 xs ys o c (by omega) (by rw [Int.toNat_natCast,repl_lim];exact hg)
  rw [Int.toNat_natCast] at h
  refine ⟨o,g2,g3,by omega,?_⟩
  rw [g1]
  exact h
theorem Yrun148_a (na:Bool) (p:Nat) (nb:Bool) (q:Nat) (zs:List Int) (r:Int) (h:(na==nb)=true) (h1:Runs Yir 156 [.sl (limbs p).length (lm (limbs p)), .sl (limbs q).length (lm (limbs q))] (.fresh 1 zs.length (lm zs))) (h2:Runs Yir 133 [.bool na, .sl zs.length (lm zs)] (.agg [.bool (decide (r<0)), .sl ((limbs (Int.natAbs r)).length) (lm (limbs (Int.natAbs r)))])):Runs Yir 148 [.bool na, .sl ((limbs p).length) (lm (limbs p)), .bool nb, .sl ((limbs q).length) (lm (limbs q))] (.agg [.bool (decide (r<0)), .sl ((limbs (Int.natAbs r)).length) (lm (limbs (Int.natAbs r)))]):=Runs.script (ps:=[(na==nb)=true,Runs Yir 156 [.sl ((limbs p).length) (lm (limbs p)), .sl ((limbs q).length) (lm (limbs q))] (.fresh 1 zs.length (lm zs)),Runs Yir 133 [.bool na, .sl zs.length (lm zs)] (.agg [.bool (decide (r<0)), .sl ((limbs (Int.natAbs r)).length) (lm (limbs (Int.natAbs r)))])]) TWA_holds rfl 300 rfl [.b true, .r (.fresh 1 zs.length (lm zs)), .r (.agg [.bool (decide (r<0)), .sl ((limbs (Int.natAbs r)).length) (lm (limbs (Int.natAbs r)))])] (by kernel_rfl) ⟨h,h1,h2,trivial⟩
theorem Yrun148_b (na:Bool) (p:Nat) (nb:Bool) (q:Nat) (zs:List Int) (r:Int) (k:Int) (h:(na==nb)=false) (h3:Runs Yir 150 [.sl (limbs p).length (lm (limbs p)), .sl (limbs q).length (lm (limbs q))] (.int .i64 k)) (hk:(decide (k≥0))=true) (h1:Runs Yir 157 [.sl (limbs p).length (lm (limbs p)), .sl (limbs q).length (lm (limbs q))] (.fresh 1 zs.length (lm zs))) (h2:Runs Yir 133 [.bool na, .sl zs.length (lm zs)] (.agg [.bool (decide (r<0)), .sl ((limbs (Int.natAbs r)).length) (lm (limbs (Int.natAbs r)))])):Runs Yir 148 [.bool na, .sl ((limbs p).length) (lm (limbs p)), .bool nb, .sl ((limbs q).length) (lm (limbs q))] (.agg [.bool (decide (r<0)), .sl ((limbs (Int.natAbs r)).length) (lm (limbs (Int.natAbs r)))]):=Runs.script (ps:=[(na==nb)=false,Runs Yir 150 [.sl ((limbs p).length) (lm (limbs p)), .sl ((limbs q).length) (lm (limbs q))] (.int .i64 k),(decide (k≥0))=true,Runs Yir 157 [.sl ((limbs p).length) (lm (limbs p)), .sl ((limbs q).length) (lm (limbs q))] (.fresh 1 zs.length (lm zs)),Runs Yir 133 [.bool na, .sl zs.length (lm zs)] (.agg [.bool (decide (r<0)), .sl ((limbs (Int.natAbs r)).length) (lm (limbs (Int.natAbs r)))])]) TWA_holds rfl 300 rfl [.b false, .r (.int .i64 k), .b true, .r (.fresh 1 zs.length (lm zs)), .r (.agg [.bool (decide (r<0)), .sl ((limbs (Int.natAbs r)).length) (lm (limbs (Int.natAbs r)))])] (by kernel_rfl) ⟨h,h3,hk,h1,h2,trivial⟩
theorem Yrun148_c (na:Bool) (p:Nat) (nb:Bool) (q:Nat) (zs:List Int) (r:Int) (k:Int) (h:(na==nb)=false) (h3:Runs Yir 150 [.sl (limbs p).length (lm (limbs p)), .sl (limbs q).length (lm (limbs q))] (.int .i64 k)) (hk:(decide (k≥0))=false) (h1:Runs Yir 157 [.sl (limbs q).length (lm (limbs q)), .sl (limbs p).length (lm (limbs p))] (.fresh 1 zs.length (lm zs))) (h2:Runs Yir 133 [.bool nb, .sl zs.length (lm zs)] (.agg [.bool (decide (r<0)), .sl ((limbs (Int.natAbs r)).length) (lm (limbs (Int.natAbs r)))])):Runs Yir 148 [.bool na, .sl ((limbs p).length) (lm (limbs p)), .bool nb, .sl ((limbs q).length) (lm (limbs q))] (.agg [.bool (decide (r<0)), .sl ((limbs (Int.natAbs r)).length) (lm (limbs (Int.natAbs r)))]):=Runs.script (ps:=[(na==nb)=false,Runs Yir 150 [.sl ((limbs p).length) (lm (limbs p)), .sl ((limbs q).length) (lm (limbs q))] (.int .i64 k),(decide (k≥0))=false,Runs Yir 157 [.sl ((limbs q).length) (lm (limbs q)), .sl ((limbs p).length) (lm (limbs p))] (.fresh 1 zs.length (lm zs)),Runs Yir 133 [.bool nb, .sl zs.length (lm zs)] (.agg [.bool (decide (r<0)), .sl ((limbs (Int.natAbs r)).length) (lm (limbs (Int.natAbs r)))])]) TWA_holds rfl 300 rfl [.b false, .r (.int .i64 k), .b false, .r (.fresh 1 zs.length (lm zs)), .r (.agg [.bool (decide (r<0)), .sl ((limbs (Int.natAbs r)).length) (lm (limbs (Int.natAbs r)))])] (by kernel_rfl) ⟨h,h3,hk,h1,h2,trivial⟩
theorem sum_run {na nb:Bool} {p q:Nat} (hp:(limbs p).length<1048576) (hq:(limbs q).length<1048576):Runs Yir 148 [.bool na, .sl (limbs p).length (lm (limbs p)), .bool nb, .sl (limbs q).length (lm (limbs q))] (bigAV (rv na (limbs p)+rv nb (limbs q))):=by
 have up:=big_u32 p
 have uq:=big_u32 q
 by_cases e:na=nb
 ·subst e
  obtain ⟨zs,z1,z2,z3,z4⟩:=addLimbs_run up uq hp hq
  have h2:=made_run (neg:=na) z1 z3
  have ev:rv na zs=rv na (limbs p)+rv na (limbs q):=by
   unfold rv;rw [z2];cases na <;> simp <;> omega
  rw [ev] at h2
  exact Yrun148_a na p na q zs _ (by simp) z4 h2
 ·have hne:(na==nb)=false:=by simpa using e
  have hc:=cmpLimbs_run (limbs_canon p) (limbs_canon q) (by omega)
  have hnb:nb = !na:=by cases na <;> cases nb <;> simp_all
  have lenle:∀ {a b:Nat},valL (limbs a)≤valL (limbs b)→(limbs a).length≤(limbs b).length:=by
   intro a b h
   rcases Nat.lt_or_ge (limbs b).length (limbs a).length with g | g
   ·have:=canon_lt (limbs_canon b) (limbs_canon a) g;omega
   ·exact g
  by_cases hk:valL (limbs q)≤valL (limbs p)
  ·obtain ⟨zs,z1,z2,z3,z4⟩:=subLimbs_run up uq (lenle hk) hk (by omega)
   have h2:=made_run (neg:=na) z1 z3
   have ev:rv na zs=rv na (limbs p)+rv nb (limbs q):=by
    subst hnb;unfold rv;rw [z2];cases na <;> simp <;> omega
   rw [ev] at h2
   refine Yrun148_b na p nb q zs _ _ hne hc ?_ z4 h2
   unfold cmpI;rw [if_neg (by omega)];split <;> rfl
  ·obtain ⟨zs,z1,z2,z3,z4⟩:=subLimbs_run uq up (lenle (by omega)) (by omega) (by omega)
   have h2:=made_run (neg:=nb) z1 z3
   have ev:rv nb zs=rv na (limbs p)+rv nb (limbs q):=by
    subst hnb;unfold rv;rw [z2];cases na <;> simp <;> omega
   rw [ev] at h2
   refine Yrun148_c na p nb q zs _ _ hne hc ?_ z4 h2
   unfold cmpI;rw [if_pos (by omega)];rfl
theorem Yrun121 (na:Bool) (xs:List Int) (nb:Bool) (ys:List Int) (a b r:Int) (h1:Runs Yir 122 [.agg [.bool na, .sl xs.length (lm xs)]] (.tup [.bool (decide (a<0)), .sl (limbs (Int.natAbs a)).length (lm (limbs (Int.natAbs a)))])) (h2:Runs Yir 122 [.agg [.bool nb, .sl ys.length (lm ys)]] (.tup [.bool (decide (b<0)), .sl (limbs (Int.natAbs b)).length (lm (limbs (Int.natAbs b)))])) (h3:Runs Yir 148 [.bool (decide (a<0)), .sl (limbs (Int.natAbs a)).length (lm (limbs (Int.natAbs a))), .bool (decide (b<0)), .sl (limbs (Int.natAbs b)).length (lm (limbs (Int.natAbs b)))] (.agg [.bool (decide (r<0)), .sl ((limbs (Int.natAbs r)).length) (lm (limbs (Int.natAbs r)))])):Runs Yir 121 [.agg [.bool na, .sl xs.length (lm xs)], .agg [.bool nb, .sl ys.length (lm ys)]] (.agg [.bool (decide (r<0)), .sl ((limbs (Int.natAbs r)).length) (lm (limbs (Int.natAbs r)))]):=Runs.script (ps:=[Runs Yir 122 [.agg [.bool na, .sl xs.length (lm xs)]] (.tup [.bool (decide (a<0)), .sl ((limbs (Int.natAbs a)).length) (lm (limbs (Int.natAbs a)))]),Runs Yir 122 [.agg [.bool nb, .sl ys.length (lm ys)]] (.tup [.bool (decide (b<0)), .sl ((limbs (Int.natAbs b)).length) (lm (limbs (Int.natAbs b)))]),Runs Yir 148 [.bool (decide (a<0)), .sl ((limbs (Int.natAbs a)).length) (lm (limbs (Int.natAbs a))), .bool (decide (b<0)), .sl ((limbs (Int.natAbs b)).length) (lm (limbs (Int.natAbs b)))] (.agg [.bool (decide (r<0)), .sl ((limbs (Int.natAbs r)).length) (lm (limbs (Int.natAbs r)))])]) TWA_holds rfl 300 rfl [.r (.tup [.bool (decide (a<0)), .sl ((limbs (Int.natAbs a)).length) (lm (limbs (Int.natAbs a)))]), .r (.tup [.bool (decide (b<0)), .sl ((limbs (Int.natAbs b)).length) (lm (limbs (Int.natAbs b)))]), .r (.agg [.bool (decide (r<0)), .sl ((limbs (Int.natAbs r)).length) (lm (limbs (Int.natAbs r)))])] (by kernel_rfl) ⟨h1,h2,h3,trivial⟩
theorem wadd_run {na nb:Bool} {xs ys:List Int} (hx:U32 xs) (hy:U32 ys) (h1:xs.length<1048576) (h2:ys.length<1048576):Runs Yir 121 [.agg [.bool na, .sl xs.length (lm xs)], .agg [.bool nb, .sl ys.length (lm ys)]] (bigAV (rv na xs+rv nb ys)):=by
 have l1:=Nat.lt_of_le_of_lt (rv_len (neg:=na) hx) h1
 have l2:=Nat.lt_of_le_of_lt (rv_len (neg:=nb) hy) h2
 have h3:=sum_run (na:=decide (rv na xs<0)) (nb:=decide (rv nb ys<0)) l1 l2
 rw [rv_big,rv_big] at h3
 exact Yrun121 na xs nb ys (rv na xs) (rv nb ys) _ (limbs_run hx (by omega)) (limbs_run hy (by omega)) h3
theorem wadd_big {a b:Int} (h1:(limbs a.natAbs).length<1048576) (h2:(limbs b.natAbs).length<1048576):Runs Yir 121 [bigAV a,bigAV b] (bigAV (a+b)):=by
 have:=wadd_run (na:=decide (a<0)) (nb:=decide (b<0)) (big_u32 a.natAbs) (big_u32 b.natAbs) h1 h2
 rwa [rv_big,rv_big] at this
def TWB:Table:=TWA
theorem TWB_holds:THolds Yir TWB:=TWA_holds
end Go.Proofs.Ythnnfemologhfaa

namespace Go.Ai
open Go.IntKind (i64 u64 u32)
section
variable {prog:Nat→Option IFunc}
theorem RunsW.keep {c:ICode} {ex:Ex} {s t t':State} (ks:List Nat) (h:RunsW prog c s ex t) (e:keepS ks t=t'):RunsW prog c s ex t':=e ▸ RunsW.weak h (SLe.refl _) (keepS_le ks t)
theorem RunsW.upTo {c:ICode} {ex:Ex} {fin:State} (st:Nat→State) (n:Nat) (hex:ex ≠ .norm) (out:RunsW prog c (st n) ex fin):∀ i,i≤n→(∀ t,i≤t→t<n→RunsW prog c (st t) .norm (st (t+1)))→RunsW prog (.loop c) (st i) ex fin:=by
 intro i hi
 obtain ⟨r,hr⟩:∃ r,i+r=n:=⟨n-i,by omega⟩
 induction r generalizing i with
 | zero =>
  intro _
  have:i=n:=by omega
  subst this
  exact RunsW.loop_out out hex
 | succ r ih =>
  intro hs
  exact RunsW.loop (hs i (Nat.le_refl _) (by omega)) (ih (i+1) (by omega) (by omega) (fun t h1 h2=>hs t (by omega) h2))
end
end Go.Ai

namespace Go.Ai
open Go.IntKind (i64 u64 u32)
theorem val_split (us:List Int) {j:Nat} (h:j≤us.length):valL us=valL (us.take j)+4294967296^j*valL (us.drop j):=by
 have:=valL_append (us.take j) (us.drop j)
 rw [List.take_append_drop,List.length_take,Nat.min_eq_left h] at this
 exact this
theorem u32_drop {us:List Int} (h:U32 us) (j:Nat):U32 (us.drop j):=fun x hx=>h x (List.mem_of_mem_drop hx)
theorem u32_take {us:List Int} (h:U32 us) (j:Nat):U32 (us.take j):=fun x hx=>h x (List.mem_of_mem_take hx)
theorem take_lt {us:List Int} (hu:U32 us) (n:Nat):valL (us.take n)<4294967296^n:=by
 have h:=valL_lt (u32_take hu n)
 exact Int.lt_of_lt_of_le h (pow32_mono (by simp;omega))
end Go.Ai

namespace Go.Ai
open Go.IntKind (i64 u64 u32)
structure Dig (n:Nat) (V W top nxt x y z:Int):Prop where
 vlow:0≤V-(top*4294967296+nxt)*4294967296^n∧V-(top*4294967296+nxt)*4294967296^n<4294967296^n
 wlow:0≤W-((x*4294967296+y)*4294967296+z)*4294967296^n∧W-((x*4294967296+y)*4294967296+z)*4294967296^n<4294967296^n
 htop:2147483648≤top∧top<4294967296
 hnxt:0≤nxt∧nxt<4294967296
 hx:0≤x∧x<4294967296
 hy:0≤y∧y<4294967296
 hz:0≤z∧z<4294967296
 small:W<4294967296*V
structure DigI (V W top num g r:Int):Prop where
 sum:g*top+r=num
 r0:0≤r
 g0:0≤g
 up:W<(g+1)*V
 gle:g≤4294967297
section
variable {n:Nat} {V W top nxt x y z:Int}
theorem Dig.Vpos (h:Dig n V W top nxt x y z):4294967296*4294967296^n≤V:=by
 have hp:=pow32_pos n
 obtain ⟨h1,h2⟩:=h.vlow
 have:=h.hnxt;have:=h.htop
 generalize (4294967296:Int)^n=P at *
 have:=Int.mul_le_mul_of_nonneg_right (show (4294967296:Int)≤top*4294967296+nxt by omega) (show 0≤P by omega)
 omega
theorem Dig.step (h:Dig n V W top nxt x y z) {g r:Int} (i:DigI V W top (x*4294967296+y) g r) (hc:4294967296≤g∨r*4294967296+z<g*nxt):DigI V W top (x*4294967296+y) (g-1) (r+top):=by
 have ht:=h.htop
 have hVp:=h.Vpos
 have hp:=pow32_pos n
 have e0:(g-1)*top+(r+top)=g*top+r:=by grind
 have hg1:1≤g:=by
  rcases hc with h1 | h1
  ·omega
  ·apply Int.not_lt.1
   intro hg
   have:g=0:=by have:=i.g0;omega
   subst this
   have:=i.r0;have:=h.hz
   omega
 refine ⟨by rw [e0];exact i.sum,by have:=i.r0;omega,by omega,?_,by have:=i.gle;omega⟩
 rw [Int.sub_add_cancel]
 obtain ⟨h1,h2⟩:=h.vlow
 obtain ⟨h3,h4⟩:=h.wlow
 have hs:=h.small
 rcases hc with hc | hc
 ·have:=Int.mul_le_mul_of_nonneg_right hc (show 0≤V by omega)
  omega
 ·have hsum:=i.sum
  rw [← hsum] at h3 h4
  generalize (4294967296:Int)^n=P at *
  have e1:(g*top+r)*4294967296+z+1≤g*(top*4294967296+nxt):=by
   have:g*(top*4294967296+nxt)=g*top*4294967296+g*nxt:=by grind
   omega
  have e2:=Int.mul_le_mul_of_nonneg_right e1 (show 0≤P by omega)
  have e3:(top*4294967296+nxt)*P≤V:=by omega
  have e4:=Int.mul_le_mul_of_nonneg_left e3 (show 0≤g by omega)
  have e5:g*(top*4294967296+nxt)*P=g*((top*4294967296+nxt)*P):=by grind
  have e6:((g*top+r)*4294967296+z+1)*P=((g*top+r)*4294967296+z)*P+P:=by grind
  omega
theorem Dig.out (h:Dig n V W top nxt x y z) {g r:Int} (i:DigI V W top (x*4294967296+y) g r) (hg:g<4294967296) (hc:4294967296≤r∨g*nxt≤r*4294967296+z):g*V<W+V:=by
 have ht:=h.htop
 have hVp:=h.Vpos
 have hp:=pow32_pos n
 have hnx:=h.hnxt;have hz:=h.hz
 have hc':g*nxt≤r*4294967296+z:=by
  rcases hc with hc | hc
  ·have:=Int.mul_le_mul (show g≤4294967295 by omega) (show nxt≤4294967295 by omega) hnx.1 (by omega)
   omega
  ·exact hc
 obtain ⟨h1,h2⟩:=h.vlow
 obtain ⟨h3,h4⟩:=h.wlow
 have hsum:=i.sum
 have hg0:=i.g0
 rw [← hsum] at h3 h4
 generalize (4294967296:Int)^n=P at *
 have e1:g*(top*4294967296+nxt)≤(g*top+r)*4294967296+z:=by
  have:g*(top*4294967296+nxt)=g*top*4294967296+g*nxt:=by grind
  omega
 have e2:=Int.mul_le_mul_of_nonneg_right e1 (show 0≤P by omega)
 have e5:g*(top*4294967296+nxt)*P=g*((top*4294967296+nxt)*P):=by grind
 have e6:=Int.mul_le_mul (Int.le_of_lt hg) (show V-(top*4294967296+nxt)*P≤P by omega) (by omega) (show (0:Int)≤4294967296 by omega)
 have e7:g*(V-(top*4294967296+nxt)*P)=g*V-g*((top*4294967296+nxt)*P):=by grind
 have e8:g*(V-(top*4294967296+nxt)*P)<4294967296*P:=by
  rcases Int.lt_or_eq_of_le hg0 with q | q
  ·have:=Int.mul_lt_mul_of_pos_left h2 q
   have:=Int.mul_le_mul_of_nonneg_right (Int.le_of_lt hg) (show 0≤P by omega)
   omega
  ·rw [← q,Int.zero_mul];omega
 omega
end
structure StepOk (us vs ws:List Int) (j:Nat) (q:Int):Prop where
 len:ws.length=us.length
 u32:U32 ws
 val:valL ws=valL us-4294967296^j*(q*valL vs)
 low:valL (ws.drop j)<valL vs
end Go.Ai

namespace Go.Proofs.Ythnnfemologhfaa
open Go.IntKind (i64 u64 u32)
open Go.Ai
theorem w32 {n:Int} (h:0≤n∧n<4294967296):u32.wrap n=n:=by rw [wu32];omega
theorem wu64 {n:Int} (h:0≤n∧n<18446744073709551616):u64.wrap n=n:=by rw [wu64m];omega
theorem p32:(2:Int)^(min (Int.toNat 32) (IntKind.bits .u64))=4294967296:=by decide
theorem fd32 (s:Int):Int.fdiv s (2^(min (Int.toNat 32) (IntKind.bits .u64)))=s / 4294967296:=by
 rw [p32,Int.fdiv_eq_ediv_of_nonneg _ (by decide)]
theorem word2 {r x:Int} (hr:0≤r∧r<4294967296) (hx:0≤x∧x<4294967296) :
  u64.wrap ((BitVec.ofInt (IntKind.bits .u64) (u64.wrap (r*2^(min (Int.toNat 32) (IntKind.bits .u64)))) ||| BitVec.ofInt (IntKind.bits .u64) (u64.wrap x)).toNat)=r*4294967296+x:=by
 rw [p32,wu64 (n:=r*4294967296) (by omega),wu64 (n:=x) (by omega)]
 have:=or64 (q:=r) (c:=x) (s:=32) hr.1 (by rw [show (2:Int)^32=4294967296 by decide];omega) (by omega) (by rw [show (2:Int)^32=4294967296 by decide];exact hx)
 rw [show (2:Int)^32=4294967296 by decide] at this
 exact this
theorem or32 {q c:Int} {s:Nat} (hq:0≤q) (hs:q*2^s<4294967296) (hs':s≤32) (hc:0≤c∧c<2^s) :
  u32.wrap ((BitVec.ofInt (IntKind.bits .u32) c ||| BitVec.ofInt (IntKind.bits .u32) (q*2^s)).toNat)=q*2^s+c:=by
 obtain ⟨a,rfl⟩:∃ a:Nat,q=a:=⟨q.toNat,by omega⟩
 obtain ⟨b,rfl⟩:∃ b:Nat,c=b:=⟨c.toNat,by omega⟩
 have e1:(a:Int)*2^s=((a*2^s:Nat):Int):=by rw [Int.natCast_mul,Int.natCast_pow];rfl
 have hb:b<2^s:=by
  have:(b:Int)<((2^s:Nat):Int):=by rw [Int.natCast_pow];exact hc.2
  omega
 have h64:2^s≤2^32:=Nat.pow_le_pow_right (by decide) hs'
 have e64:2^32=4294967296:=by decide
 rw [e1] at hs ⊢
 show u32.wrap ((BitVec.ofInt 32 (b:Int) ||| BitVec.ofInt 32 ((a*2^s:Nat):Int)).toNat:Int)=_
 rw [BitVec.or_comm,BitVec.toNat_or,BitVec.ofInt_natCast,BitVec.ofInt_natCast,BitVec.toNat_ofNat,BitVec.toNat_ofNat,Nat.mod_eq_of_lt (by omega),Nat.mod_eq_of_lt (by omega),Nat.mul_comm a,← Nat.two_pow_add_eq_or_of_lt hb,Nat.mul_comm (2^s) a,wu32]
 have hsum:a*2^s+b<4294967296:=by
  have hd:a*2^s+2^s≤2^32:=by
   have hk:2^32=2^(32-s)*2^s:=by rw [← Nat.pow_add];congr 1;omega
   have h1:a<2^(32-s):=by
    rcases Nat.lt_or_ge a (2^(32-s)) with g | g
    ·exact g
    ·have:=Nat.mul_le_mul_right (2^s) g
     omega
   have h2:=Nat.mul_le_mul_right (2^s) (show a+1≤2^(32-s) by omega)
   rw [Nat.add_mul,Nat.one_mul] at h2
   omega
  omega
 omega
theorem p32s {s:Nat} (hs:s≤32):(4294967296:Int)=2^(32-s)*2^s:=by rw [← Int.pow_add,show 32-s+s=32 by omega];decide
theorem shl_parts {x:Int} {s:Nat} (hx:0≤x∧x<4294967296) (hs:s<32) :
  0≤x*2^s∧x*2^s<18446744073709551616∧x*2^s / 4294967296<2^s∧∃ q:Int,0≤q∧x*2^s % 4294967296=q*2^s:=by
 have hp:=pow2_pos s
 have hp2:(2:Int)^s≤2147483648:=by
  have:=pow2_le (show s≤31 by omega);rwa [show (2:Int)^31=2147483648 by decide] at this
 have h0:=Int.mul_nonneg hx.1 (show (0:Int)≤2^s by omega)
 have h1:=Int.mul_le_mul (show x≤4294967295 by omega) hp2 (by omega) (by omega)
 have h2:=Int.mul_lt_mul_of_pos_right hx.2 hp
 refine ⟨h0,by omega,by omega,?_⟩
 have e:(4294967296:Int)=2^(32-s)*2^s:=by
  rw [← Int.pow_add,show 32-s+s=32 by omega];decide
 refine ⟨x % 2^(32-s),Int.emod_nonneg _ (by have:=pow2_pos (32-s);omega),?_⟩
 rw [e,Int.mul_comm x,Int.mul_comm (2^(32-s)),Int.mul_emod_mul_of_pos _ _ hp,Int.mul_comm]
end Go.Proofs.Ythnnfemologhfaa

namespace Go.Proofs.Ythnnfemologhfaa
open Go.IntKind (i64 u64 u32)
open Go.Ai
set_option maxRecDepth 100000
theorem Yq76 (n na:Bool) (xs as1:List Int) (n1:Runs Yir 122 [.agg [.bool n, .sl xs.length (lm xs)]] (.tup [.bool na, .sl as1.length (lm as1)])):Runs Yir 76 [.agg [.bool n, .sl xs.length (lm xs)]] (.int .i64 (as1.length:Int)) :=
 Runs.go (fn:=Yi76) TWA_holds rfl 400 rfl [.r (.tup [.bool na, .sl as1.length (lm as1)])] (ac n1 a0) (by kernel_rfl)
theorem wsize_run {neg:Bool} {xs:List Int} (hu:U32 xs) (hN:xs.length≤1048576):Runs Yir 76 [.agg [.bool neg, .sl xs.length (lm xs)]] (.int .i64 (((limbs (rv neg xs).natAbs).length:Nat):Int)) :=
 Yq76 neg _ xs _ (limbs_run hu hN)
end Go.Proofs.Ythnnfemologhfaa

namespace Go.Proofs.Ythnnfemologhfaa
open Go.IntKind (i64 u64 u32)
open Go.Ai
set_option maxRecDepth 100000
def TQA:Table:=TWB
theorem TQA_holds:THolds Yir TQA:=TWB_holds
end Go.Proofs.Ythnnfemologhfaa

namespace Go.Proofs.Ythnnfemologhfaa
open Go.IntKind (i64 u64 u32)
open Go.Ai
set_option maxRecDepth 100000
section
variable {k:Nat} {us vs:List Int} {kq:Nat} {qs:List Int} {s:Int} {j m:Nat}
end
section
variable {k:Nat} {vs:List Int} {t t2:Int} {kq:Nat} {qs:List Int} {s:Int} {j:Nat} {g:Int}
end
section
variable {vs:List Int} {m:Nat} {k kq:Nat} {s:Int}
end
def TQB:Table:=TQA
theorem TQB_holds:THolds Yir TQB:=TQA_holds
end Go.Proofs.Ythnnfemologhfaa

namespace Go.Proofs.Ythnnfemologhfaa
open Go.IntKind (i64 u64 u32)
open Go.Ai
set_option maxRecDepth 100000
def TQC:Table:=TQB
theorem TQC_holds:THolds Yir TQC:=TQB_holds
end Go.Proofs.Ythnnfemologhfaa

namespace Go.Proofs.Ythnnfemologhfaa
open Go.IntKind (i64 u64 u32)
open Go.Ai
set_option maxRecDepth 100000
def rshF (us:List Int) (s:Nat) (i:Nat):Int:=us.getD (i+1) 0 % 2^s*2^(32-s)+us.getD i 0 / 2^s
theorem rshF_bd {us:List Int} (hu:U32 us) {s:Nat} (hs:s<32) (i:Nat):(0≤us.getD i 0 / 2^s∧us.getD i 0 / 2^s<2^(32-s))∧0≤us.getD (i+1) 0 % 2^s∧us.getD (i+1) 0 % 2^s*2^(32-s)<4294967296∧(0≤rshF us s i∧rshF us s i<4294967296):=by
 have h0:=getD_u32 hu i
 have h1:=getD_u32 hu (i+1)
 have hp:=pow2_pos s
 have hp2:=pow2_pos (32-s)
 have e:=p32s (show s≤32 by omega)
 have a1:=Int.emod_nonneg (us.getD (i+1) 0) (show (2:Int)^s ≠ 0 by omega)
 have a2:=Int.emod_lt_of_pos (us.getD (i+1) 0) hp
 have b0:0≤us.getD i 0 / 2^s:=Int.ediv_nonneg h0.1 (by omega)
 have b1:us.getD i 0 / 2^s<2^(32-s):=Int.ediv_lt_of_lt_mul hp (by rw [← e];exact h0.2)
 unfold rshF
 generalize us.getD (i+1) 0 % 2^s=x at *
 generalize us.getD i 0 / 2^s=y at *
 have c1:=Int.mul_le_mul_of_nonneg_right (show x+1≤2^s by omega) (show (0:Int)≤2^(32-s) by omega)
 rw [Int.add_mul,Int.one_mul,Int.mul_comm (2^s),← e] at c1
 have c2:=Int.mul_nonneg a1 (show (0:Int)≤2^(32-s) by omega)
 omega
theorem rsh_val {us:List Int} (s:Nat) (hs:s<32):∀ n,n≤us.length→2^s*valL ((List.range n).map (rshF us s))=valL (us.take n)-us.getD 0 0 % 2^s+4294967296^n*(us.getD n 0 % 2^s):=by
 intro n
 induction n with
 | zero =>
  intro _
  simp only [List.range_zero,List.map_nil,List.take_zero,valL,Int.pow_zero,Int.mul_zero,Int.one_mul]
  generalize us.getD 0 0 % 2^s=w
  omega
 | succ n ih =>
  intro hn
  have e:=p32s (show s≤32 by omega)
  rw [List.range_succ,List.map_append,List.map_cons,List.map_nil,valL_append,List.length_map,List.length_range,Int.mul_add,ih (by omega),take_succ_val us n (by omega),Int.pow_succ]
  have e2:valL [rshF us s n]=rshF us s n:=by simp [valL]
  rw [e2]
  unfold rshF
  have e3:=Int.mul_ediv_add_emod (us.getD n 0) (2^s)
  generalize us.getD (n+1) 0 % 2^s=x at *
  generalize us.getD n 0 / 2^s=y at *
  generalize us.getD n 0 % 2^s=z at *
  generalize us.getD 0 0 % 2^s=w at *
  generalize us.getD n 0=u at *
  generalize valL (us.take n)=V at *
  generalize (4294967296:Int)^n=P at *
  rw [e]
  generalize (2:Int)^(32-s)=T at *
  generalize (2:Int)^s=S at *
  rw [← e3]
  grind
theorem u32_range {g:Nat→Int} {n:Nat} (h:∀ i,0≤g i∧g i<4294967296):U32 ((List.range n).map g):=fun x hx=>by
 obtain ⟨i,_,rfl⟩:=List.mem_map.1 hx;exact h i
def TQD:Table:=TQC
theorem TQD_holds:THolds Yir TQD:=TQC_holds
end Go.Proofs.Ythnnfemologhfaa

namespace Go.Proofs.Ythnnfemologhfaa
open Go.IntKind (i64 u64 u32)
open Go.Ai
set_option maxRecDepth 100000
def Ys152a (neg:Bool) (xs:List Int) (sh:Int) (ms:List Int) (lost:Bool) (i:Int):State:=(dds 1 (.val (.int .i64 sh)::(.box [.bool neg, .sl xs.length (lm xs)]::(dds 1 (.box [.bool false, .sl 0 []]::(.val (.sl ms.length (lm ms))::(.own 1 0 []::(.val (.bool lost)::(.val (.int .i64 i)::(dds 95 []))))))))))
theorem Yk152a_1 (neg:Bool) (xs:List Int) (sh:Int) (ms:List Int) (lost:Bool) (i:Int)  (c1:(decide (i<(ms.length:Int)))=true) (c2:(decide (i<(i64.wrap (Int.tdiv sh 32))))=true) (c3:(lost)=true):RunsW Yir Yc152a (Ys152a neg xs sh ms lost i) .norm (Ys152a neg xs sh ms true (i64.wrap (i+1))):=(RunsW.go TBE_holds 400 [.b true, .b true, .b true] [1,2,4,5,6,7,8] (ac c1 (ac (show ¬ (32:Int)=0 from (by decide)) (ac c2 (ac c3 a0)))) (by kernel_rfl))
theorem Yk152a_2 (neg:Bool) (xs:List Int) (sh:Int) (ms:List Int) (lost:Bool) (i:Int)  (c1:(decide (i<(ms.length:Int)))=true) (c2:(decide (i<(i64.wrap (Int.tdiv sh 32))))=true) (c3:(lost)=false) (n1:0≤i∧i<(ms.length:Int)):RunsW Yir Yc152a (Ys152a neg xs sh ms lost i) .norm (Ys152a neg xs sh ms ((ms.getD (Int.toNat i) 0) != 0) (i64.wrap (i+1))):=(RunsW.go TBE_holds 400 [.b true, .b true, .b false, .v (.int .u32 (ms.getD (Int.toNat i) 0))] [1,2,4,5,6,7,8] (ac c1 (ac (show ¬ (32:Int)=0 from (by decide)) (ac c2 (ac c3 (ac n1 (ac (take_limI n1) a0)))))) (by kernel_rfl))
theorem Yk152a_3 (neg:Bool) (xs:List Int) (sh:Int) (ms:List Int) (lost:Bool) (i:Int)  (c1:(decide (i<(ms.length:Int)))=true) (c2:(decide (i<(i64.wrap (Int.tdiv sh 32))))=false):RunsW Yir Yc152a (Ys152a neg xs sh ms lost i) (.exit 0) (Ys152a neg xs sh ms lost i):=(RunsW.go TBE_holds 400 [.b true, .b false] [1,2,4,5,6,7,8] (ac c1 (ac (show ¬ (32:Int)=0 from (by decide)) (ac c2 a0))) (by kernel_rfl))
theorem Yk152a_4 (neg:Bool) (xs:List Int) (sh:Int) (ms:List Int) (lost:Bool) (i:Int)  (c1:(decide (i<(ms.length:Int)))=false):RunsW Yir Yc152a (Ys152a neg xs sh ms lost i) (.exit 0) (Ys152a neg xs sh ms lost i):=(RunsW.go TBE_holds 400 [.b false, .b false] [1,2,4,5,6,7,8] (ac c1 (ac (show false=false from rfl) a0)) (by kernel_rfl))
def Ys152b (neg:Bool) (xs:List Int) (sh:Int) (ms:List Int) (n:Nat) (cs:List AV) (lost:Bool) (s:Int) (i:Int):State:=(dds 1 (.val (.int .i64 sh)::(.box [.bool neg, .sl xs.length (lm xs)]::(dds 1 (.box [.bool false, .sl 0 []]::(.val (.sl ms.length (lm ms))::(.own 1 n cs::(.val (.bool lost)::(dds 1 (.val (.int .u64 s)::(.val (.int .i64 i)::(dds 93 []))))))))))))
theorem Yk152b_1 (neg:Bool) (xs:List Int) (sh:Int) (ms:List Int) (n:Nat) (cs:List AV) (lost:Bool) (s:Int) (i:Int)  (c1:(decide (i<(ms.length:Int)))=true) (c2:(decide ((i64.wrap (i+1))<(ms.length:Int)))=true) (n1:0≤i∧i<(ms.length:Int)) (n2:0≤(i64.wrap (i+1))∧(i64.wrap (i+1))<(ms.length:Int)) (n3:¬ s<0) (n4:n+1≤1048576):RunsW Yir Yc152b (Ys152b neg xs sh ms n cs lost s i) .norm (Ys152b neg xs sh ms (n+1) (cs++([.int .u32 (u32.wrap (Int.fdiv (u64.wrap ((BitVec.ofInt (IntKind.bits .u64) (u64.wrap (ms.getD (Int.toNat i) 0)) ||| BitVec.ofInt (IntKind.bits .u64) (u64.wrap ((u64.wrap (ms.getD (Int.toNat (i64.wrap (i+1))) 0))*2^(min (Int.toNat 32) (IntKind.bits .u64))))).toNat)) (2^(min (Int.toNat s) (IntKind.bits .u64)))))]:List AV)) lost s (i64.wrap (i+1))):=(RunsW.go TBE_holds 400 [.b true, .v (.int .u32 (ms.getD (Int.toNat i) 0)), .b true, .v (.int .u32 (ms.getD (Int.toNat (i64.wrap (i+1))) 0))] [1,2,4,5,6,7,9,10] (ac c1 (ac n1 (ac (take_limI n1) (ac c2 (ac n2 (ac (take_limI n2) (ac (show ¬ (32:Int)<0 from (by decide)) (ac n3 (ac (show List.length ([.int .u32 (u32.wrap (Int.fdiv (u64.wrap ((BitVec.ofInt (IntKind.bits .u64) (u64.wrap (ms.getD (Int.toNat i) 0)) ||| BitVec.ofInt (IntKind.bits .u64) (u64.wrap ((u64.wrap (ms.getD (Int.toNat (i64.wrap (i+1))) 0))*2^(min (Int.toNat 32) (IntKind.bits .u64))))).toNat)) (2^(min (Int.toNat s) (IntKind.bits .u64)))))]:List AV)=1*1 from rfl) (ac n4 a0)))))))))) (by kernel_rfl))
theorem Yk152b_2 (neg:Bool) (xs:List Int) (sh:Int) (ms:List Int) (n:Nat) (cs:List AV) (lost:Bool) (s:Int) (i:Int)  (c1:(decide (i<(ms.length:Int)))=true) (c2:(decide ((i64.wrap (i+1))<(ms.length:Int)))=false) (n1:0≤i∧i<(ms.length:Int)) (n2:¬ s<0) (n3:n+1≤1048576):RunsW Yir Yc152b (Ys152b neg xs sh ms n cs lost s i) .norm (Ys152b neg xs sh ms (n+1) (cs++([.int .u32 (u32.wrap (Int.fdiv (u64.wrap (ms.getD (Int.toNat i) 0)) (2^(min (Int.toNat s) (IntKind.bits .u64)))))]:List AV)) lost s (i64.wrap (i+1))):=(RunsW.go TBE_holds 400 [.b true, .v (.int .u32 (ms.getD (Int.toNat i) 0)), .b false] [1,2,4,5,6,7,9,10] (ac c1 (ac n1 (ac (take_limI n1) (ac c2 (ac n2 (ac (show List.length ([.int .u32 (u32.wrap (Int.fdiv (u64.wrap (ms.getD (Int.toNat i) 0)) (2^(min (Int.toNat s) (IntKind.bits .u64)))))]:List AV)=1*1 from rfl) (ac n3 a0))))))) (by kernel_rfl))
theorem Yk152b_3 (neg:Bool) (xs:List Int) (sh:Int) (ms:List Int) (n:Nat) (cs:List AV) (lost:Bool) (s:Int) (i:Int)  (c1:(decide (i<(ms.length:Int)))=false):RunsW Yir Yc152b (Ys152b neg xs sh ms n cs lost s i) (.exit 2) (Ys152b neg xs sh ms n cs lost s i):=(RunsW.go TBE_holds 400 [.b false] [1,2,4,5,6,7,9,10] (ac c1 a0) (by kernel_rfl))
theorem Yrun152_1 (neg lost:Bool) (xs:List Int) (sh i1:Int) (n:Nat) (cs:List AV) (i2 v w:Int) (c1:(decide ((i64.wrap (Int.tdiv sh 32))<(((trimL xs).length:Nat):Int)))=true) (c2:(lost)=true) (c3:(neg)=true) (n1:Runs Yir 125 [.sl xs.length (lm xs)] (.fresh 1 ((trimL xs).length) (lm (trimL xs)))) (hl2:RunsW Yir (.loop Yc152a) (Ys152a neg xs sh (trimL xs) false 0) (.exit 0) (Ys152a neg xs sh (trimL xs) lost i1)) (hl3:RunsW Yir (.loop Yc152b) (Ys152b neg xs sh (trimL xs) 0 [] lost (u64.wrap (Int.tmod sh 32)) (i64.wrap (Int.tdiv sh 32))) (.exit 2) (Ys152b neg xs sh (trimL xs) n cs lost (u64.wrap (Int.tmod sh 32)) i2)) (n4:Runs Yir 106 [.bool neg, .sl n cs] (bigF v)) (n5:Runs Yir 56 [.int .i64 1] (bigAV 1)) (n6:Runs Yir 118 [bigAV v,bigAV 1] (bigAV w)):Runs Yir 152 [.agg [.bool neg, .sl xs.length (lm xs)], .int .i64 sh] (bigAV w):=Runs.of_bodyW (fn:=Yi152) (s:=(dds 4 (.box [.bool (decide (w<0)), .sl ((limbs (Int.natAbs w)).length) (lm (limbs (Int.natAbs w)))]::(dds 99 [])))) (ex := .ret) rfl rfl (RunsW.seq (RunsW.go (t:=(.val (.agg [.bool neg, .sl xs.length (lm xs)])::(vi sh::(.box [.bool neg, .sl xs.length (lm xs)]::(dds 1 (.box [.bool false, .sl 0 []]::(dds 99 []))))))) (ex := .norm) TBE_holds 400 [] [0,1,2,4] a0 (by kernel_rfl)) (RunsW.seq (RunsW.go (t:=(.val (.agg [.bool neg, .sl xs.length (lm xs)])::(vi sh::(.box [.bool neg, .sl xs.length (lm xs)]::(dds 1 (.box [.bool false, .sl 0 []]::(.val (.sl ((trimL xs).length) (lm (trimL xs)))::(dds 98 [])))))))) (ex := .norm) TBE_holds 400 [.r (.fresh 1 ((trimL xs).length) (lm (trimL xs)))] [0,1,2,4,5] (ac n1 a0) (by kernel_rfl)) (RunsW.seq (RunsW.go (t:=(.val (.agg [.bool neg, .sl xs.length (lm xs)])::(vi sh::(.box [.bool neg, .sl xs.length (lm xs)]::(dds 1 (.box [.bool false, .sl 0 []]::(.val (.sl ((trimL xs).length) (lm (trimL xs)))::(.own 1 0 []::(dds 97 []))))))))) (ex := .norm) TBE_holds 400 [] [0,1,2,4,5,6] a0 (by kernel_rfl)) (RunsW.seq (RunsW.go (t:=(.val (.agg [.bool neg, .sl xs.length (lm xs)])::(vi sh::(.box [.bool neg, .sl xs.length (lm xs)]::(dds 1 (.box [.bool false, .sl 0 []]::(.val (.sl ((trimL xs).length) (lm (trimL xs)))::(.own 1 0 []::(.val (.bool false)::(dds 96 [])))))))))) (ex := .norm) TBE_holds 400 [] [0,1,2,4,5,6,7] a0 (by kernel_rfl)) (RunsW.seq (RunsW.seq (RunsW.go TBE_holds 400 [] [1,2,4,5,6,7,8] a0 (by kernel_rfl)) (RunsW.block hl2)) (RunsW.seq (RunsW.go (t:=(dds 1 (vi sh::(.box [.bool neg, .sl xs.length (lm xs)]::(dds 1 (.box [.bool false, .sl 0 []]::(.val (.sl ((trimL xs).length) (lm (trimL xs)))::(.own 1 0 []::(.val (.bool lost)::(dds 1 (.val (.int .u64 (u64.wrap (Int.tmod sh 32)))::(dds 94 [])))))))))))) (ex := .norm) TBE_holds 400 [] [1,2,4,5,6,7,9] (ac (show ¬ (32:Int)=0 from (by decide)) a0) (by kernel_rfl)) (RunsW.seq (RunsW.seq (RunsW.go TBE_holds 400 [] [1,2,4,5,6,7,9,10] (ac (show ¬ (32:Int)=0 from (by decide)) a0) (by kernel_rfl)) (RunsW.block hl3)) (RunsW.go TBE_holds 400 [.b true, .b true, .r (bigF v), .b true, .b true, .r (bigAV 1), .r (bigAV w)] [4] (ac (show ¬ (32:Int)=0 from (by decide)) (ac c1 (ac c2 (ac n4 (ac c3 (ac (show true=true from rfl) (ac n5 (ac n6 a0)))))))) (by kernel_rfl))))))))) (by intro i e;cases e) rfl
theorem Yrun152_2 (neg lost:Bool) (xs:List Int) (sh i1:Int) (n:Nat) (cs:List AV) (i2 v:Int) (c1:(decide ((i64.wrap (Int.tdiv sh 32))<(((trimL xs).length:Nat):Int)))=true) (c2:(lost)=true) (c3:(neg)=false) (n1:Runs Yir 125 [.sl xs.length (lm xs)] (.fresh 1 ((trimL xs).length) (lm (trimL xs)))) (hl2:RunsW Yir (.loop Yc152a) (Ys152a neg xs sh (trimL xs) false 0) (.exit 0) (Ys152a neg xs sh (trimL xs) lost i1)) (hl3:RunsW Yir (.loop Yc152b) (Ys152b neg xs sh (trimL xs) 0 [] lost (u64.wrap (Int.tmod sh 32)) (i64.wrap (Int.tdiv sh 32))) (.exit 2) (Ys152b neg xs sh (trimL xs) n cs lost (u64.wrap (Int.tmod sh 32)) i2)) (n4:Runs Yir 106 [.bool neg, .sl n cs] (bigF v)):Runs Yir 152 [.agg [.bool neg, .sl xs.length (lm xs)], .int .i64 sh] (bigAV v):=Runs.of_bodyW (fn:=Yi152) (s:=(dds 4 (.box [.bool (decide (v<0)), .sl ((limbs (Int.natAbs v)).length) (lm (limbs (Int.natAbs v)))]::(dds 99 [])))) (ex := .ret) rfl rfl (RunsW.seq (RunsW.go (t:=(.val (.agg [.bool neg, .sl xs.length (lm xs)])::(vi sh::(.box [.bool neg, .sl xs.length (lm xs)]::(dds 1 (.box [.bool false, .sl 0 []]::(dds 99 []))))))) (ex := .norm) TBE_holds 400 [] [0,1,2,4] a0 (by kernel_rfl)) (RunsW.seq (RunsW.go (t:=(.val (.agg [.bool neg, .sl xs.length (lm xs)])::(vi sh::(.box [.bool neg, .sl xs.length (lm xs)]::(dds 1 (.box [.bool false, .sl 0 []]::(.val (.sl ((trimL xs).length) (lm (trimL xs)))::(dds 98 [])))))))) (ex := .norm) TBE_holds 400 [.r (.fresh 1 ((trimL xs).length) (lm (trimL xs)))] [0,1,2,4,5] (ac n1 a0) (by kernel_rfl)) (RunsW.seq (RunsW.go (t:=(.val (.agg [.bool neg, .sl xs.length (lm xs)])::(vi sh::(.box [.bool neg, .sl xs.length (lm xs)]::(dds 1 (.box [.bool false, .sl 0 []]::(.val (.sl ((trimL xs).length) (lm (trimL xs)))::(.own 1 0 []::(dds 97 []))))))))) (ex := .norm) TBE_holds 400 [] [0,1,2,4,5,6] a0 (by kernel_rfl)) (RunsW.seq (RunsW.go (t:=(.val (.agg [.bool neg, .sl xs.length (lm xs)])::(vi sh::(.box [.bool neg, .sl xs.length (lm xs)]::(dds 1 (.box [.bool false, .sl 0 []]::(.val (.sl ((trimL xs).length) (lm (trimL xs)))::(.own 1 0 []::(.val (.bool false)::(dds 96 [])))))))))) (ex := .norm) TBE_holds 400 [] [0,1,2,4,5,6,7] a0 (by kernel_rfl)) (RunsW.seq (RunsW.seq (RunsW.go TBE_holds 400 [] [1,2,4,5,6,7,8] a0 (by kernel_rfl)) (RunsW.block hl2)) (RunsW.seq (RunsW.go (t:=(dds 1 (vi sh::(.box [.bool neg, .sl xs.length (lm xs)]::(dds 1 (.box [.bool false, .sl 0 []]::(.val (.sl ((trimL xs).length) (lm (trimL xs)))::(.own 1 0 []::(.val (.bool lost)::(dds 1 (.val (.int .u64 (u64.wrap (Int.tmod sh 32)))::(dds 94 [])))))))))))) (ex := .norm) TBE_holds 400 [] [1,2,4,5,6,7,9] (ac (show ¬ (32:Int)=0 from (by decide)) a0) (by kernel_rfl)) (RunsW.seq (RunsW.seq (RunsW.go TBE_holds 400 [] [1,2,4,5,6,7,9,10] (ac (show ¬ (32:Int)=0 from (by decide)) a0) (by kernel_rfl)) (RunsW.block hl3)) (RunsW.go TBE_holds 400 [.b true, .b true, .r (bigF v), .b false, .b false] [4] (ac (show ¬ (32:Int)=0 from (by decide)) (ac c1 (ac c2 (ac n4 (ac c3 (ac (show false=false from rfl) a0)))))) (by kernel_rfl))))))))) (by intro i e;cases e) rfl
theorem Yrun152_3 (neg lost:Bool) (xs:List Int) (sh i1:Int) (n:Nat) (cs:List AV) (i2 v w:Int) (c1:(decide ((i64.wrap (Int.tdiv sh 32))<(((trimL xs).length:Nat):Int)))=true) (c2:(lost)=false) (c3:(neg)=true) (c4:((u32.wrap ((BitVec.ofInt (IntKind.bits .u32) ((trimL xs).getD (Int.toNat (i64.wrap (Int.tdiv sh 32))) 0) &&& BitVec.ofInt (IntKind.bits .u32) (u32.wrap ((u32.wrap (1*2^(min (Int.toNat (u64.wrap (Int.tmod sh 32))) (IntKind.bits .u32))))-1))).toNat)) != 0)=true) (n1:Runs Yir 125 [.sl xs.length (lm xs)] (.fresh 1 ((trimL xs).length) (lm (trimL xs)))) (hl2:RunsW Yir (.loop Yc152a) (Ys152a neg xs sh (trimL xs) false 0) (.exit 0) (Ys152a neg xs sh (trimL xs) lost i1)) (hl3:RunsW Yir (.loop Yc152b) (Ys152b neg xs sh (trimL xs) 0 [] lost (u64.wrap (Int.tmod sh 32)) (i64.wrap (Int.tdiv sh 32))) (.exit 2) (Ys152b neg xs sh (trimL xs) n cs lost (u64.wrap (Int.tmod sh 32)) i2)) (n4:0≤(i64.wrap (Int.tdiv sh 32))∧(i64.wrap (Int.tdiv sh 32))<(((trimL xs).length:Nat):Int)) (n5:¬ (u64.wrap (Int.tmod sh 32))<0) (n6:Runs Yir 106 [.bool neg, .sl n cs] (bigF v)) (n7:Runs Yir 56 [.int .i64 1] (bigAV 1)) (n8:Runs Yir 118 [bigAV v,bigAV 1] (bigAV w)):Runs Yir 152 [.agg [.bool neg, .sl xs.length (lm xs)], .int .i64 sh] (bigAV w):=Runs.of_bodyW (fn:=Yi152) (s:=(dds 4 (.box [.bool (decide (w<0)), .sl ((limbs (Int.natAbs w)).length) (lm (limbs (Int.natAbs w)))]::(dds 99 [])))) (ex := .ret) rfl rfl (RunsW.seq (RunsW.go (t:=(.val (.agg [.bool neg, .sl xs.length (lm xs)])::(vi sh::(.box [.bool neg, .sl xs.length (lm xs)]::(dds 1 (.box [.bool false, .sl 0 []]::(dds 99 []))))))) (ex := .norm) TBE_holds 400 [] [0,1,2,4] a0 (by kernel_rfl)) (RunsW.seq (RunsW.go (t:=(.val (.agg [.bool neg, .sl xs.length (lm xs)])::(vi sh::(.box [.bool neg, .sl xs.length (lm xs)]::(dds 1 (.box [.bool false, .sl 0 []]::(.val (.sl ((trimL xs).length) (lm (trimL xs)))::(dds 98 [])))))))) (ex := .norm) TBE_holds 400 [.r (.fresh 1 ((trimL xs).length) (lm (trimL xs)))] [0,1,2,4,5] (ac n1 a0) (by kernel_rfl)) (RunsW.seq (RunsW.go (t:=(.val (.agg [.bool neg, .sl xs.length (lm xs)])::(vi sh::(.box [.bool neg, .sl xs.length (lm xs)]::(dds 1 (.box [.bool false, .sl 0 []]::(.val (.sl ((trimL xs).length) (lm (trimL xs)))::(.own 1 0 []::(dds 97 []))))))))) (ex := .norm) TBE_holds 400 [] [0,1,2,4,5,6] a0 (by kernel_rfl)) (RunsW.seq (RunsW.go (t:=(.val (.agg [.bool neg, .sl xs.length (lm xs)])::(vi sh::(.box [.bool neg, .sl xs.length (lm xs)]::(dds 1 (.box [.bool false, .sl 0 []]::(.val (.sl ((trimL xs).length) (lm (trimL xs)))::(.own 1 0 []::(.val (.bool false)::(dds 96 [])))))))))) (ex := .norm) TBE_holds 400 [] [0,1,2,4,5,6,7] a0 (by kernel_rfl)) (RunsW.seq (RunsW.seq (RunsW.go TBE_holds 400 [] [1,2,4,5,6,7,8] a0 (by kernel_rfl)) (RunsW.block hl2)) (RunsW.seq (RunsW.go (t:=(dds 1 (vi sh::(.box [.bool neg, .sl xs.length (lm xs)]::(dds 1 (.box [.bool false, .sl 0 []]::(.val (.sl ((trimL xs).length) (lm (trimL xs)))::(.own 1 0 []::(.val (.bool lost)::(dds 1 (.val (.int .u64 (u64.wrap (Int.tmod sh 32)))::(dds 94 [])))))))))))) (ex := .norm) TBE_holds 400 [] [1,2,4,5,6,7,9] (ac (show ¬ (32:Int)=0 from (by decide)) a0) (by kernel_rfl)) (RunsW.seq (RunsW.seq (RunsW.go TBE_holds 400 [] [1,2,4,5,6,7,9,10] (ac (show ¬ (32:Int)=0 from (by decide)) a0) (by kernel_rfl)) (RunsW.block hl3)) (RunsW.go TBE_holds 400 [.b true, .b false, .v (.int .u32 ((trimL xs).getD (Int.toNat (i64.wrap (Int.tdiv sh 32))) 0)), .r (bigF v), .b true, .b true, .r (bigAV 1), .r (bigAV w)] [4] (ac (show ¬ (32:Int)=0 from (by decide)) (ac c1 (ac c2 (ac (show ¬ (32:Int)=0 from (by decide)) (ac n4 (ac (take_limI n4) (ac n5 (ac n6 (ac c3 (ac c4 (ac n7 (ac n8 a0)))))))))))) (by kernel_rfl))))))))) (by intro i e;cases e) rfl
theorem Yrun152_4 (neg lost:Bool) (xs:List Int) (sh i1:Int) (n:Nat) (cs:List AV) (i2 v:Int) (c1:(decide ((i64.wrap (Int.tdiv sh 32))<(((trimL xs).length:Nat):Int)))=true) (c2:(lost)=false) (c3:(neg)=true) (c4:((u32.wrap ((BitVec.ofInt (IntKind.bits .u32) ((trimL xs).getD (Int.toNat (i64.wrap (Int.tdiv sh 32))) 0) &&& BitVec.ofInt (IntKind.bits .u32) (u32.wrap ((u32.wrap (1*2^(min (Int.toNat (u64.wrap (Int.tmod sh 32))) (IntKind.bits .u32))))-1))).toNat)) != 0)=false) (n1:Runs Yir 125 [.sl xs.length (lm xs)] (.fresh 1 ((trimL xs).length) (lm (trimL xs)))) (hl2:RunsW Yir (.loop Yc152a) (Ys152a neg xs sh (trimL xs) false 0) (.exit 0) (Ys152a neg xs sh (trimL xs) lost i1)) (hl3:RunsW Yir (.loop Yc152b) (Ys152b neg xs sh (trimL xs) 0 [] lost (u64.wrap (Int.tmod sh 32)) (i64.wrap (Int.tdiv sh 32))) (.exit 2) (Ys152b neg xs sh (trimL xs) n cs lost (u64.wrap (Int.tmod sh 32)) i2)) (n4:0≤(i64.wrap (Int.tdiv sh 32))∧(i64.wrap (Int.tdiv sh 32))<(((trimL xs).length:Nat):Int)) (n5:¬ (u64.wrap (Int.tmod sh 32))<0) (n6:Runs Yir 106 [.bool neg, .sl n cs] (bigF v)):Runs Yir 152 [.agg [.bool neg, .sl xs.length (lm xs)], .int .i64 sh] (bigAV v):=Runs.of_bodyW (fn:=Yi152) (s:=(dds 4 (.box [.bool (decide (v<0)), .sl ((limbs (Int.natAbs v)).length) (lm (limbs (Int.natAbs v)))]::(dds 99 [])))) (ex := .ret) rfl rfl (RunsW.seq (RunsW.go (t:=(.val (.agg [.bool neg, .sl xs.length (lm xs)])::(vi sh::(.box [.bool neg, .sl xs.length (lm xs)]::(dds 1 (.box [.bool false, .sl 0 []]::(dds 99 []))))))) (ex := .norm) TBE_holds 400 [] [0,1,2,4] a0 (by kernel_rfl)) (RunsW.seq (RunsW.go (t:=(.val (.agg [.bool neg, .sl xs.length (lm xs)])::(vi sh::(.box [.bool neg, .sl xs.length (lm xs)]::(dds 1 (.box [.bool false, .sl 0 []]::(.val (.sl ((trimL xs).length) (lm (trimL xs)))::(dds 98 [])))))))) (ex := .norm) TBE_holds 400 [.r (.fresh 1 ((trimL xs).length) (lm (trimL xs)))] [0,1,2,4,5] (ac n1 a0) (by kernel_rfl)) (RunsW.seq (RunsW.go (t:=(.val (.agg [.bool neg, .sl xs.length (lm xs)])::(vi sh::(.box [.bool neg, .sl xs.length (lm xs)]::(dds 1 (.box [.bool false, .sl 0 []]::(.val (.sl ((trimL xs).length) (lm (trimL xs)))::(.own 1 0 []::(dds 97 []))))))))) (ex := .norm) TBE_holds 400 [] [0,1,2,4,5,6] a0 (by kernel_rfl)) (RunsW.seq (RunsW.go (t:=(.val (.agg [.bool neg, .sl xs.length (lm xs)])::(vi sh::(.box [.bool neg, .sl xs.length (lm xs)]::(dds 1 (.box [.bool false, .sl 0 []]::(.val (.sl ((trimL xs).length) (lm (trimL xs)))::(.own 1 0 []::(.val (.bool false)::(dds 96 [])))))))))) (ex := .norm) TBE_holds 400 [] [0,1,2,4,5,6,7] a0 (by kernel_rfl)) (RunsW.seq (RunsW.seq (RunsW.go TBE_holds 400 [] [1,2,4,5,6,7,8] a0 (by kernel_rfl)) (RunsW.block hl2)) (RunsW.seq (RunsW.go (t:=(dds 1 (vi sh::(.box [.bool neg, .sl xs.length (lm xs)]::(dds 1 (.box [.bool false, .sl 0 []]::(.val (.sl ((trimL xs).length) (lm (trimL xs)))::(.own 1 0 []::(.val (.bool lost)::(dds 1 (.val (.int .u64 (u64.wrap (Int.tmod sh 32)))::(dds 94 [])))))))))))) (ex := .norm) TBE_holds 400 [] [1,2,4,5,6,7,9] (ac (show ¬ (32:Int)=0 from (by decide)) a0) (by kernel_rfl)) (RunsW.seq (RunsW.seq (RunsW.go TBE_holds 400 [] [1,2,4,5,6,7,9,10] (ac (show ¬ (32:Int)=0 from (by decide)) a0) (by kernel_rfl)) (RunsW.block hl3)) (RunsW.go TBE_holds 400 [.b true, .b false, .v (.int .u32 ((trimL xs).getD (Int.toNat (i64.wrap (Int.tdiv sh 32))) 0)), .r (bigF v), .b true, .b false] [4] (ac (show ¬ (32:Int)=0 from (by decide)) (ac c1 (ac c2 (ac (show ¬ (32:Int)=0 from (by decide)) (ac n4 (ac (take_limI n4) (ac n5 (ac n6 (ac c3 (ac c4 a0)))))))))) (by kernel_rfl))))))))) (by intro i e;cases e) rfl
theorem Yrun152_5 (neg lost:Bool) (xs:List Int) (sh i1:Int) (n:Nat) (cs:List AV) (i2 v:Int) (c1:(decide ((i64.wrap (Int.tdiv sh 32))<(((trimL xs).length:Nat):Int)))=true) (c2:(lost)=false) (c3:(neg)=false) (n1:Runs Yir 125 [.sl xs.length (lm xs)] (.fresh 1 ((trimL xs).length) (lm (trimL xs)))) (hl2:RunsW Yir (.loop Yc152a) (Ys152a neg xs sh (trimL xs) false 0) (.exit 0) (Ys152a neg xs sh (trimL xs) lost i1)) (hl3:RunsW Yir (.loop Yc152b) (Ys152b neg xs sh (trimL xs) 0 [] lost (u64.wrap (Int.tmod sh 32)) (i64.wrap (Int.tdiv sh 32))) (.exit 2) (Ys152b neg xs sh (trimL xs) n cs lost (u64.wrap (Int.tmod sh 32)) i2)) (n4:0≤(i64.wrap (Int.tdiv sh 32))∧(i64.wrap (Int.tdiv sh 32))<(((trimL xs).length:Nat):Int)) (n5:¬ (u64.wrap (Int.tmod sh 32))<0) (n6:Runs Yir 106 [.bool neg, .sl n cs] (bigF v)):Runs Yir 152 [.agg [.bool neg, .sl xs.length (lm xs)], .int .i64 sh] (bigAV v):=Runs.of_bodyW (fn:=Yi152) (s:=(dds 4 (.box [.bool (decide (v<0)), .sl ((limbs (Int.natAbs v)).length) (lm (limbs (Int.natAbs v)))]::(dds 99 [])))) (ex := .ret) rfl rfl (RunsW.seq (RunsW.go (t:=(.val (.agg [.bool neg, .sl xs.length (lm xs)])::(vi sh::(.box [.bool neg, .sl xs.length (lm xs)]::(dds 1 (.box [.bool false, .sl 0 []]::(dds 99 []))))))) (ex := .norm) TBE_holds 400 [] [0,1,2,4] a0 (by kernel_rfl)) (RunsW.seq (RunsW.go (t:=(.val (.agg [.bool neg, .sl xs.length (lm xs)])::(vi sh::(.box [.bool neg, .sl xs.length (lm xs)]::(dds 1 (.box [.bool false, .sl 0 []]::(.val (.sl ((trimL xs).length) (lm (trimL xs)))::(dds 98 [])))))))) (ex := .norm) TBE_holds 400 [.r (.fresh 1 ((trimL xs).length) (lm (trimL xs)))] [0,1,2,4,5] (ac n1 a0) (by kernel_rfl)) (RunsW.seq (RunsW.go (t:=(.val (.agg [.bool neg, .sl xs.length (lm xs)])::(vi sh::(.box [.bool neg, .sl xs.length (lm xs)]::(dds 1 (.box [.bool false, .sl 0 []]::(.val (.sl ((trimL xs).length) (lm (trimL xs)))::(.own 1 0 []::(dds 97 []))))))))) (ex := .norm) TBE_holds 400 [] [0,1,2,4,5,6] a0 (by kernel_rfl)) (RunsW.seq (RunsW.go (t:=(.val (.agg [.bool neg, .sl xs.length (lm xs)])::(vi sh::(.box [.bool neg, .sl xs.length (lm xs)]::(dds 1 (.box [.bool false, .sl 0 []]::(.val (.sl ((trimL xs).length) (lm (trimL xs)))::(.own 1 0 []::(.val (.bool false)::(dds 96 [])))))))))) (ex := .norm) TBE_holds 400 [] [0,1,2,4,5,6,7] a0 (by kernel_rfl)) (RunsW.seq (RunsW.seq (RunsW.go TBE_holds 400 [] [1,2,4,5,6,7,8] a0 (by kernel_rfl)) (RunsW.block hl2)) (RunsW.seq (RunsW.go (t:=(dds 1 (vi sh::(.box [.bool neg, .sl xs.length (lm xs)]::(dds 1 (.box [.bool false, .sl 0 []]::(.val (.sl ((trimL xs).length) (lm (trimL xs)))::(.own 1 0 []::(.val (.bool lost)::(dds 1 (.val (.int .u64 (u64.wrap (Int.tmod sh 32)))::(dds 94 [])))))))))))) (ex := .norm) TBE_holds 400 [] [1,2,4,5,6,7,9] (ac (show ¬ (32:Int)=0 from (by decide)) a0) (by kernel_rfl)) (RunsW.seq (RunsW.seq (RunsW.go TBE_holds 400 [] [1,2,4,5,6,7,9,10] (ac (show ¬ (32:Int)=0 from (by decide)) a0) (by kernel_rfl)) (RunsW.block hl3)) (RunsW.go TBE_holds 400 [.b true, .b false, .v (.int .u32 ((trimL xs).getD (Int.toNat (i64.wrap (Int.tdiv sh 32))) 0)), .r (bigF v), .b false, .b false] [4] (ac (show ¬ (32:Int)=0 from (by decide)) (ac c1 (ac c2 (ac (show ¬ (32:Int)=0 from (by decide)) (ac n4 (ac (take_limI n4) (ac n5 (ac n6 (ac c3 (ac (show false=false from rfl) a0)))))))))) (by kernel_rfl))))))))) (by intro i e;cases e) rfl
theorem Yrun152_6 (neg lost:Bool) (xs:List Int) (sh i1:Int) (n:Nat) (cs:List AV) (i2 v w:Int) (c1:(decide ((i64.wrap (Int.tdiv sh 32))<(((trimL xs).length:Nat):Int)))=false) (c2:(neg)=true) (c3:(lost)=true) (n1:Runs Yir 125 [.sl xs.length (lm xs)] (.fresh 1 ((trimL xs).length) (lm (trimL xs)))) (hl2:RunsW Yir (.loop Yc152a) (Ys152a neg xs sh (trimL xs) false 0) (.exit 0) (Ys152a neg xs sh (trimL xs) lost i1)) (hl3:RunsW Yir (.loop Yc152b) (Ys152b neg xs sh (trimL xs) 0 [] lost (u64.wrap (Int.tmod sh 32)) (i64.wrap (Int.tdiv sh 32))) (.exit 2) (Ys152b neg xs sh (trimL xs) n cs lost (u64.wrap (Int.tmod sh 32)) i2)) (n4:Runs Yir 106 [.bool neg, .sl n cs] (bigF v)) (n5:Runs Yir 56 [.int .i64 1] (bigAV 1)) (n6:Runs Yir 118 [bigAV v,bigAV 1] (bigAV w)):Runs Yir 152 [.agg [.bool neg, .sl xs.length (lm xs)], .int .i64 sh] (bigAV w):=Runs.of_bodyW (fn:=Yi152) (s:=(dds 4 (.box [.bool (decide (w<0)), .sl ((limbs (Int.natAbs w)).length) (lm (limbs (Int.natAbs w)))]::(dds 99 [])))) (ex := .ret) rfl rfl (RunsW.seq (RunsW.go (t:=(.val (.agg [.bool neg, .sl xs.length (lm xs)])::(vi sh::(.box [.bool neg, .sl xs.length (lm xs)]::(dds 1 (.box [.bool false, .sl 0 []]::(dds 99 []))))))) (ex := .norm) TBE_holds 400 [] [0,1,2,4] a0 (by kernel_rfl)) (RunsW.seq (RunsW.go (t:=(.val (.agg [.bool neg, .sl xs.length (lm xs)])::(vi sh::(.box [.bool neg, .sl xs.length (lm xs)]::(dds 1 (.box [.bool false, .sl 0 []]::(.val (.sl ((trimL xs).length) (lm (trimL xs)))::(dds 98 [])))))))) (ex := .norm) TBE_holds 400 [.r (.fresh 1 ((trimL xs).length) (lm (trimL xs)))] [0,1,2,4,5] (ac n1 a0) (by kernel_rfl)) (RunsW.seq (RunsW.go (t:=(.val (.agg [.bool neg, .sl xs.length (lm xs)])::(vi sh::(.box [.bool neg, .sl xs.length (lm xs)]::(dds 1 (.box [.bool false, .sl 0 []]::(.val (.sl ((trimL xs).length) (lm (trimL xs)))::(.own 1 0 []::(dds 97 []))))))))) (ex := .norm) TBE_holds 400 [] [0,1,2,4,5,6] a0 (by kernel_rfl)) (RunsW.seq (RunsW.go (t:=(.val (.agg [.bool neg, .sl xs.length (lm xs)])::(vi sh::(.box [.bool neg, .sl xs.length (lm xs)]::(dds 1 (.box [.bool false, .sl 0 []]::(.val (.sl ((trimL xs).length) (lm (trimL xs)))::(.own 1 0 []::(.val (.bool false)::(dds 96 [])))))))))) (ex := .norm) TBE_holds 400 [] [0,1,2,4,5,6,7] a0 (by kernel_rfl)) (RunsW.seq (RunsW.seq (RunsW.go TBE_holds 400 [] [1,2,4,5,6,7,8] a0 (by kernel_rfl)) (RunsW.block hl2)) (RunsW.seq (RunsW.go (t:=(dds 1 (vi sh::(.box [.bool neg, .sl xs.length (lm xs)]::(dds 1 (.box [.bool false, .sl 0 []]::(.val (.sl ((trimL xs).length) (lm (trimL xs)))::(.own 1 0 []::(.val (.bool lost)::(dds 1 (.val (.int .u64 (u64.wrap (Int.tmod sh 32)))::(dds 94 [])))))))))))) (ex := .norm) TBE_holds 400 [] [1,2,4,5,6,7,9] (ac (show ¬ (32:Int)=0 from (by decide)) a0) (by kernel_rfl)) (RunsW.seq (RunsW.seq (RunsW.go TBE_holds 400 [] [1,2,4,5,6,7,9,10] (ac (show ¬ (32:Int)=0 from (by decide)) a0) (by kernel_rfl)) (RunsW.block hl3)) (RunsW.go TBE_holds 400 [.b false, .r (bigF v), .b true, .b true, .r (bigAV 1), .r (bigAV w)] [4] (ac (show ¬ (32:Int)=0 from (by decide)) (ac c1 (ac n4 (ac c2 (ac c3 (ac n5 (ac n6 a0))))))) (by kernel_rfl))))))))) (by intro i e;cases e) rfl
theorem Yrun152_7 (neg lost:Bool) (xs:List Int) (sh i1:Int) (n:Nat) (cs:List AV) (i2 v:Int) (c1:(decide ((i64.wrap (Int.tdiv sh 32))<(((trimL xs).length:Nat):Int)))=false) (c2:(neg)=true) (c3:(lost)=false) (n1:Runs Yir 125 [.sl xs.length (lm xs)] (.fresh 1 ((trimL xs).length) (lm (trimL xs)))) (hl2:RunsW Yir (.loop Yc152a) (Ys152a neg xs sh (trimL xs) false 0) (.exit 0) (Ys152a neg xs sh (trimL xs) lost i1)) (hl3:RunsW Yir (.loop Yc152b) (Ys152b neg xs sh (trimL xs) 0 [] lost (u64.wrap (Int.tmod sh 32)) (i64.wrap (Int.tdiv sh 32))) (.exit 2) (Ys152b neg xs sh (trimL xs) n cs lost (u64.wrap (Int.tmod sh 32)) i2)) (n4:Runs Yir 106 [.bool neg, .sl n cs] (bigF v)):Runs Yir 152 [.agg [.bool neg, .sl xs.length (lm xs)], .int .i64 sh] (bigAV v):=Runs.of_bodyW (fn:=Yi152) (s:=(dds 4 (.box [.bool (decide (v<0)), .sl ((limbs (Int.natAbs v)).length) (lm (limbs (Int.natAbs v)))]::(dds 99 [])))) (ex := .ret) rfl rfl (RunsW.seq (RunsW.go (t:=(.val (.agg [.bool neg, .sl xs.length (lm xs)])::(vi sh::(.box [.bool neg, .sl xs.length (lm xs)]::(dds 1 (.box [.bool false, .sl 0 []]::(dds 99 []))))))) (ex := .norm) TBE_holds 400 [] [0,1,2,4] a0 (by kernel_rfl)) (RunsW.seq (RunsW.go (t:=(.val (.agg [.bool neg, .sl xs.length (lm xs)])::(vi sh::(.box [.bool neg, .sl xs.length (lm xs)]::(dds 1 (.box [.bool false, .sl 0 []]::(.val (.sl ((trimL xs).length) (lm (trimL xs)))::(dds 98 [])))))))) (ex := .norm) TBE_holds 400 [.r (.fresh 1 ((trimL xs).length) (lm (trimL xs)))] [0,1,2,4,5] (ac n1 a0) (by kernel_rfl)) (RunsW.seq (RunsW.go (t:=(.val (.agg [.bool neg, .sl xs.length (lm xs)])::(vi sh::(.box [.bool neg, .sl xs.length (lm xs)]::(dds 1 (.box [.bool false, .sl 0 []]::(.val (.sl ((trimL xs).length) (lm (trimL xs)))::(.own 1 0 []::(dds 97 []))))))))) (ex := .norm) TBE_holds 400 [] [0,1,2,4,5,6] a0 (by kernel_rfl)) (RunsW.seq (RunsW.go (t:=(.val (.agg [.bool neg, .sl xs.length (lm xs)])::(vi sh::(.box [.bool neg, .sl xs.length (lm xs)]::(dds 1 (.box [.bool false, .sl 0 []]::(.val (.sl ((trimL xs).length) (lm (trimL xs)))::(.own 1 0 []::(.val (.bool false)::(dds 96 [])))))))))) (ex := .norm) TBE_holds 400 [] [0,1,2,4,5,6,7] a0 (by kernel_rfl)) (RunsW.seq (RunsW.seq (RunsW.go TBE_holds 400 [] [1,2,4,5,6,7,8] a0 (by kernel_rfl)) (RunsW.block hl2)) (RunsW.seq (RunsW.go (t:=(dds 1 (vi sh::(.box [.bool neg, .sl xs.length (lm xs)]::(dds 1 (.box [.bool false, .sl 0 []]::(.val (.sl ((trimL xs).length) (lm (trimL xs)))::(.own 1 0 []::(.val (.bool lost)::(dds 1 (.val (.int .u64 (u64.wrap (Int.tmod sh 32)))::(dds 94 [])))))))))))) (ex := .norm) TBE_holds 400 [] [1,2,4,5,6,7,9] (ac (show ¬ (32:Int)=0 from (by decide)) a0) (by kernel_rfl)) (RunsW.seq (RunsW.seq (RunsW.go TBE_holds 400 [] [1,2,4,5,6,7,9,10] (ac (show ¬ (32:Int)=0 from (by decide)) a0) (by kernel_rfl)) (RunsW.block hl3)) (RunsW.go TBE_holds 400 [.b false, .r (bigF v), .b true, .b false] [4] (ac (show ¬ (32:Int)=0 from (by decide)) (ac c1 (ac n4 (ac c2 (ac c3 a0))))) (by kernel_rfl))))))))) (by intro i e;cases e) rfl
theorem Yrun152_8 (neg lost:Bool) (xs:List Int) (sh i1:Int) (n:Nat) (cs:List AV) (i2 v:Int) (c1:(decide ((i64.wrap (Int.tdiv sh 32))<(((trimL xs).length:Nat):Int)))=false) (c2:(neg)=false) (n1:Runs Yir 125 [.sl xs.length (lm xs)] (.fresh 1 ((trimL xs).length) (lm (trimL xs)))) (hl2:RunsW Yir (.loop Yc152a) (Ys152a neg xs sh (trimL xs) false 0) (.exit 0) (Ys152a neg xs sh (trimL xs) lost i1)) (hl3:RunsW Yir (.loop Yc152b) (Ys152b neg xs sh (trimL xs) 0 [] lost (u64.wrap (Int.tmod sh 32)) (i64.wrap (Int.tdiv sh 32))) (.exit 2) (Ys152b neg xs sh (trimL xs) n cs lost (u64.wrap (Int.tmod sh 32)) i2)) (n4:Runs Yir 106 [.bool neg, .sl n cs] (bigF v)):Runs Yir 152 [.agg [.bool neg, .sl xs.length (lm xs)], .int .i64 sh] (bigAV v):=Runs.of_bodyW (fn:=Yi152) (s:=(dds 4 (.box [.bool (decide (v<0)), .sl ((limbs (Int.natAbs v)).length) (lm (limbs (Int.natAbs v)))]::(dds 99 [])))) (ex := .ret) rfl rfl (RunsW.seq (RunsW.go (t:=(.val (.agg [.bool neg, .sl xs.length (lm xs)])::(vi sh::(.box [.bool neg, .sl xs.length (lm xs)]::(dds 1 (.box [.bool false, .sl 0 []]::(dds 99 []))))))) (ex := .norm) TBE_holds 400 [] [0,1,2,4] a0 (by kernel_rfl)) (RunsW.seq (RunsW.go (t:=(.val (.agg [.bool neg, .sl xs.length (lm xs)])::(vi sh::(.box [.bool neg, .sl xs.length (lm xs)]::(dds 1 (.box [.bool false, .sl 0 []]::(.val (.sl ((trimL xs).length) (lm (trimL xs)))::(dds 98 [])))))))) (ex := .norm) TBE_holds 400 [.r (.fresh 1 ((trimL xs).length) (lm (trimL xs)))] [0,1,2,4,5] (ac n1 a0) (by kernel_rfl)) (RunsW.seq (RunsW.go (t:=(.val (.agg [.bool neg, .sl xs.length (lm xs)])::(vi sh::(.box [.bool neg, .sl xs.length (lm xs)]::(dds 1 (.box [.bool false, .sl 0 []]::(.val (.sl ((trimL xs).length) (lm (trimL xs)))::(.own 1 0 []::(dds 97 []))))))))) (ex := .norm) TBE_holds 400 [] [0,1,2,4,5,6] a0 (by kernel_rfl)) (RunsW.seq (RunsW.go (t:=(.val (.agg [.bool neg, .sl xs.length (lm xs)])::(vi sh::(.box [.bool neg, .sl xs.length (lm xs)]::(dds 1 (.box [.bool false, .sl 0 []]::(.val (.sl ((trimL xs).length) (lm (trimL xs)))::(.own 1 0 []::(.val (.bool false)::(dds 96 [])))))))))) (ex := .norm) TBE_holds 400 [] [0,1,2,4,5,6,7] a0 (by kernel_rfl)) (RunsW.seq (RunsW.seq (RunsW.go TBE_holds 400 [] [1,2,4,5,6,7,8] a0 (by kernel_rfl)) (RunsW.block hl2)) (RunsW.seq (RunsW.go (t:=(dds 1 (vi sh::(.box [.bool neg, .sl xs.length (lm xs)]::(dds 1 (.box [.bool false, .sl 0 []]::(.val (.sl ((trimL xs).length) (lm (trimL xs)))::(.own 1 0 []::(.val (.bool lost)::(dds 1 (.val (.int .u64 (u64.wrap (Int.tmod sh 32)))::(dds 94 [])))))))))))) (ex := .norm) TBE_holds 400 [] [1,2,4,5,6,7,9] (ac (show ¬ (32:Int)=0 from (by decide)) a0) (by kernel_rfl)) (RunsW.seq (RunsW.seq (RunsW.go TBE_holds 400 [] [1,2,4,5,6,7,9,10] (ac (show ¬ (32:Int)=0 from (by decide)) a0) (by kernel_rfl)) (RunsW.block hl3)) (RunsW.go TBE_holds 400 [.b false, .r (bigF v), .b false, .b false] [4] (ac (show ¬ (32:Int)=0 from (by decide)) (ac c1 (ac n4 (ac c2 (ac (show false=false from rfl) a0))))) (by kernel_rfl))))))))) (by intro i e;cases e) rfl
def TDA:Table:=TBE
theorem TDA_holds:THolds Yir TDA:=TBE_holds
end Go.Proofs.Ythnnfemologhfaa

namespace Go.Proofs.Ythnnfemologhfaa
open Go.IntKind (i64 u64 u32)
open Go.Ai
set_option maxRecDepth 100000
theorem and32 {p:Int} {s:Nat} (hp:0≤p∧p<4294967296) (hs:s≤31):u32.wrap ((BitVec.ofInt (IntKind.bits .u32) p &&& BitVec.ofInt (IntKind.bits .u32) (2^s-1)).toNat)=p % 2^s:=by
 obtain ⟨m,rfl⟩:=Int.eq_ofNat_of_zero_le hp.1
 have hb:(IntKind.bits .u32)=32:=rfl
 have e1:(BitVec.ofInt 32 (m:Int)).toNat=m:=ofInt_nat 32 m (by omega)
 have h2:2^s≤2^31:=Nat.pow_le_pow_right (by decide) hs
 have h3:0<2^s:=Nat.pow_pos (by decide)
 have ec:((2:Int)^s-1)=((2^s-1:Nat):Int):=by
  have:((2^s:Nat):Int)=(2:Int)^s:=by simp
  omega
 have e2:(BitVec.ofInt 32 ((2^s-1:Nat):Int)).toNat=2^s-1:=ofInt_nat 32 (2^s-1) (by omega)
 rw [hb,BitVec.toNat_and,e1,ec,e2,Nat.and_two_pow_sub_one_eq_mod,wu32]
 have h4:m % 2^s<2^s:=Nat.mod_lt _ h3
 have e3:((m % 2^s:Nat):Int)=(m:Int) % 2^s:=by simp
 rw [← e3]
 omega
theorem bminus_run {a b:Int} (ha:(limbs a.natAbs).length<1048576) (hb:(limbs b.natAbs).length<1048576):Runs Yir 118 [bigAV a,bigAV b] (bigAV (a-b)):=by
 have h:=rminus_run (na:=decide (a<0)) (nb:=decide (b<0)) (big_u32 a.natAbs) (big_u32 b.natAbs) ha hb
 rw [rv_big,rv_big] at h
 exact h
theorem valL_zero_iff {xs:List Int} (h:U32 xs) {v:Int} (hv:0≤v):(valL xs+v=0)↔(valL xs=0∧v=0):=by
 have:=valL_nonneg h
 omega
theorem Yloop152a {neg:Bool} {xs ms:List Int} {n:Nat} (hu:U32 ms) (hn:(n:Int)≤9223372036854775807) (hN:ms.length≤1048576):∀ (r i:Nat),i+r=min ms.length (n / 32) →
  RunsW Yir (.loop Yc152a) (Ys152a neg xs (n:Nat) ms (decide (valL (ms.take i) ≠ 0)) (i:Nat)) (.exit 0) (Ys152a neg xs (n:Nat) ms (decide (valL (ms.take (n / 32)) ≠ 0)) ((min ms.length (n / 32):Nat):Int)):=by
 have e1:i64.wrap (Int.tdiv (n:Int) 32)=((n / 32:Nat):Int):=by
  rw [Int.tdiv_eq_ediv_of_nonneg (by omega),w64 (by omega) (by omega)];omega
 intro r
 induction r with
 | zero =>
  intro i hi
  have hi':i=min ms.length (n / 32):=by omega
  have et:ms.take i=ms.take (n / 32):=by
   rcases Nat.le_total ms.length (n / 32) with h | h
   ·rw [List.take_of_length_le (by omega),List.take_of_length_le h]
   ·rw [hi',Nat.min_eq_right h]
  rw [et,← hi']
  by_cases hl:i<ms.length
  ·exact RunsW.loop_out (Yk152a_3 neg xs _ ms _ _ (by simp;omega) (by rw [e1];simp;omega)) (by intro e;cases e)
  ·exact RunsW.loop_out (Yk152a_4 neg xs _ ms _ _ (by simp;omega)) (by intro e;cases e)
 | succ r ih =>
  intro i hi
  have ei:i64.wrap ((i:Int)+1)=((i+1:Nat):Int):=by rw [w64 (by omega) (by omega)];omega
  have hm:=getD_u32 hu i
  have hp:=pow32_pos i
  have hts:=take_succ_val ms i (by omega)
  have hz:(valL (ms.take (i+1))=0)↔(valL (ms.take i)=0∧ms.getD i 0=0):=by
   have hx:=valL_zero_iff (u32_take hu i) (Int.mul_nonneg (Int.le_of_lt hp) hm.1)
   rw [← hts] at hx
   rw [hx,Int.mul_eq_zero]
   constructor
   ·rintro ⟨a,b⟩;exact ⟨a,by omega⟩
   ·rintro ⟨a,b⟩;exact ⟨a, .inr b⟩
  have step:RunsW Yir Yc152a (Ys152a neg xs (n:Nat) ms (decide (valL (ms.take i) ≠ 0)) (i:Nat)) .norm (Ys152a neg xs (n:Nat) ms (decide (valL (ms.take (i+1)) ≠ 0)) ((i+1:Nat):Int)):=by
   by_cases h0:valL (ms.take i)=0
   ·have k:=Yk152a_2 neg xs (n:Nat) ms (decide (valL (ms.take i) ≠ 0)) (i:Nat) (by simp;omega) (by rw [e1];simp;omega) (by simp [h0]) (by omega)
    rw [ei,Int.toNat_natCast] at k
    have e2:(ms.getD i 0 != 0)=decide (valL (ms.take (i+1)) ≠ 0):=by
     rw [Bool.eq_iff_iff,bne_iff_ne,decide_eq_true_eq,ne_eq,ne_eq,hz]
     simp [h0]
    rw [e2] at k
    exact k
   ·have k:=Yk152a_1 neg xs (n:Nat) ms (decide (valL (ms.take i) ≠ 0)) (i:Nat) (by simp;omega) (by rw [e1];simp;omega) (by simp [h0])
    rw [ei] at k
    have e2:true=decide (valL (ms.take (i+1)) ≠ 0):=by
     symm
     rw [decide_eq_true_eq,ne_eq,hz]
     exact fun h=>h0 h.1
    rw [← e2]
    exact k
  exact RunsW.loop step (ih (i+1) (by omega))
theorem rsh_one {x y:Int} (hx:0≤x∧x<4294967296) {s:Nat} (hs:s<32):(y*4294967296+x) / 2^s % 4294967296=y % 2^s*2^(32-s)+x / 2^s:=by
 have e:=p32s (show s≤32 by omega)
 have hp:=pow2_pos s
 have hp2:=pow2_pos (32-s)
 have h1:(y*4294967296+x) / 2^s=y*2^(32-s)+x / 2^s:=by
  rw [e,← Int.mul_assoc,Int.add_comm,Int.add_mul_ediv_right _ _ (by omega),Int.add_comm]
 have b1:x / 2^s<2^(32-s):=Int.ediv_lt_of_lt_mul hp (by rw [← e];exact hx.2)
 have b0:0≤x / 2^s:=Int.ediv_nonneg hx.1 (by omega)
 have m0:=Int.emod_nonneg y (show (2:Int)^s ≠ 0 by omega)
 have m1:=Int.emod_lt_of_pos y hp
 have hy2:=Int.mul_ediv_add_emod y (2^s)
 rw [h1]
 have e3:y*2^(32-s)+x / 2^s=(y % 2^s*2^(32-s)+x / 2^s)+4294967296*(y / 2^s):=by
  rw [e]
  generalize y % 2^s=a at *
  generalize y / 2^s=b at *
  generalize (2:Int)^(32-s)=T at *
  generalize (2:Int)^s=S at *
  generalize x / S=z at *
  rw [← hy2]
  grind
 rw [e3,Int.add_mul_emod_self_left]
 apply Int.emod_eq_of_lt
 ·have:=Int.mul_nonneg m0 (show (0:Int)≤2^(32-s) by omega)
  omega
 ·have c1:=Int.mul_le_mul_of_nonneg_right (show y % 2^s+1≤2^s by omega) (show (0:Int)≤2^(32-s) by omega)
  rw [Int.add_mul,Int.one_mul,Int.mul_comm (2^s),← e] at c1
  omega
theorem Yloop152b {neg lost:Bool} {xs ms:List Int} {sh:Int} {s k:Nat} (hu:U32 ms) (hs:s<32) (hN:ms.length≤1048576) (hk:k≤ms.length):∀ (r i:Nat),i+r=ms.length-k →
  RunsW Yir (.loop Yc152b) (Ys152b neg xs sh ms i (lm ((List.range i).map (rshF (ms.drop k) s))) lost (s:Nat) ((k+i:Nat):Int)) (.exit 2) (Ys152b neg xs sh ms (ms.length-k) (lm ((List.range (ms.length-k)).map (rshF (ms.drop k) s))) lost (s:Nat) (ms.length:Nat)):=by
 intro r
 induction r with
 | zero =>
  intro i hi
  have hi':i=ms.length-k:=by omega
  subst hi'
  have e0:((k+(ms.length-k):Nat):Int)=(ms.length:Nat):=by omega
  rw [e0]
  exact RunsW.loop_out (Yk152b_3 neg xs sh ms _ _ lost _ _ (by simp)) (by intro e;cases e)
 | succ r ih =>
  intro i hi
  have ei:i64.wrap (((k+i:Nat):Int)+1)=((k+(i+1):Nat):Int):=by rw [w64 (by omega) (by omega)];omega
  have hx:=getD_u32 hu (k+i)
  have hy:=getD_u32 hu (k+i+1)
  have gx:(ms.drop k).getD i 0=ms.getD (k+i) 0:=by simp [List.getD_eq_getElem?_getD,List.getElem?_drop]
  have gy:(ms.drop k).getD (i+1) 0=ms.getD (k+i+1) 0:=by simp [List.getD_eq_getElem?_getD,List.getElem?_drop,Nat.add_assoc]
  have em:min (Int.toNat (s:Int)) (IntKind.bits .u64)=s:=by rw [Int.toNat_natCast];show min s 64=s;omega
  have hR:rshF (ms.drop k) s i=(ms.getD (k+i+1) 0*4294967296+ms.getD (k+i) 0) / 2^s % 4294967296:=by
   rw [rsh_one hx hs];unfold rshF;rw [gx,gy]
  have hstep:RunsW Yir Yc152b (Ys152b neg xs sh ms i (lm ((List.range i).map (rshF (ms.drop k) s))) lost (s:Nat) ((k+i:Nat):Int)) .norm (Ys152b neg xs sh ms (i+1) (lm ((List.range (i+1)).map (rshF (ms.drop k) s))) lost (s:Nat) ((k+(i+1):Nat):Int)):=by
   have el:lm ((List.range (i+1)).map (rshF (ms.drop k) s))=lm ((List.range i).map (rshF (ms.drop k) s))++([.int .u32 (rshF (ms.drop k) s i)]:List AV):=by
    rw [List.range_succ,List.map_append,List.map_cons,List.map_nil,lm_snoc]
   rw [el,hR]
   by_cases h1:k+i+1<ms.length
   ·have kk:=Yk152b_1 neg xs sh ms i (lm ((List.range i).map (rshF (ms.drop k) s))) lost (s:Nat) ((k+i:Nat):Int) (by simp;omega) (by rw [ei];simp;omega) (by omega) (by rw [ei];omega) (by omega) (by omega)
    rw [ei,Int.toNat_natCast,Int.toNat_natCast,em] at kk
    have w1:u64.wrap ((BitVec.ofInt (IntKind.bits .u64) (u64.wrap (ms.getD (k+i) 0)) ||| BitVec.ofInt (IntKind.bits .u64) (u64.wrap ((u64.wrap (ms.getD (k+(i+1)) 0))*2^(min (Int.toNat 32) (IntKind.bits .u64))))).toNat)=ms.getD (k+i+1) 0*4294967296+ms.getD (k+i) 0:=by
     rw [BitVec.or_comm,wu64 (n:=ms.getD (k+(i+1)) 0) (by rw [← Nat.add_assoc];omega),← Nat.add_assoc]
     exact word2 hy hx
    have hpos:0≤ms.getD (k+i+1) 0*4294967296+ms.getD (k+i) 0:=by omega
    rw [w1,Int.fdiv_eq_ediv_of_nonneg _ (by have:=pow2_pos s;omega),wu32] at kk
    exact kk
   ·have hz:ms.getD (k+i+1) 0=0:=getD_end (by omega)
    have kk:=Yk152b_2 neg xs sh ms i (lm ((List.range i).map (rshF (ms.drop k) s))) lost (s:Nat) ((k+i:Nat):Int) (by simp;omega) (by rw [ei];simp;omega) (by omega) (by omega) (by omega)
    rw [ei,Int.toNat_natCast,em,wu64 (n:=ms.getD (k+i) 0) (by omega),Int.fdiv_eq_ediv_of_nonneg _ (by have:=pow2_pos s;omega),wu32] at kk
    rw [hz,Int.zero_mul,Int.zero_add]
    exact kk
  exact RunsW.loop hstep (ih (i+1) (by omega))
theorem rsh_all {ms:List Int} {s k:Nat} (hs:s<32) (hk:k≤ms.length) :
  valL ms=4294967296^k*(2^s*valL ((List.range (ms.length-k)).map (rshF (ms.drop k) s))+ms.getD k 0 % 2^s)+valL (ms.take k):=by
 have h1:=val_split ms hk
 have h2:=rsh_val (us:=ms.drop k) s hs (ms.length-k) (by simp)
 have g0:(ms.drop k).getD 0 0=ms.getD k 0:=by simp [List.getD_eq_getElem?_getD,List.getElem?_drop]
 have g1:(ms.drop k).getD (ms.length-k) 0=0:=getD_end (by simp)
 rw [List.take_of_length_le (by simp),g0,g1,Int.zero_emod,Int.mul_zero,Int.add_zero] at h2
 rw [h2,h1]
 generalize valL (ms.drop k)=X
 generalize valL (ms.take k)=Y
 generalize ms.getD k 0 % 2^s=z
 have:X-z+z=X:=by omega
 rw [this]
 omega
theorem rdown_run {neg:Bool} {xs:List Int} (hu:U32 xs) (n:Nat) (hn:(n:Int)≤9223372036854775807) (hN:xs.length<1048576):Runs Yir 152 [.agg [.bool neg, .sl xs.length (lm xs)], .int .i64 (n:Nat)] (bigAV (rv neg xs / 2^n)):=by
 have t1:=trim_len xs
 have tu:=trim_u32 hu
 have e1:i64.wrap (Int.tdiv (n:Int) 32)=((n / 32:Nat):Int):=by
  rw [Int.tdiv_eq_ediv_of_nonneg (by omega),w64 (by omega) (by omega)];omega
 have e2:u64.wrap (Int.tmod (n:Int) 32)=((n % 32:Nat):Int):=by
  rw [Int.tmod_eq_emod_of_nonneg (by omega),wu64m];omega
 have hs:n % 32<32:=Nat.mod_lt _ (by decide)
 have hmag:=mag_run (xs:=xs) (by omega)
 have ha:=Yloop152a (neg:=neg) (xs:=xs) (n:=n) tu hn (by omega) (min (trimL xs).length (n / 32)) 0 (by omega)
 rw [List.take_zero] at ha
 have e0:decide (valL ([]:List Int) ≠ 0)=false:=rfl
 rw [e0] at ha
 have hof:=of_run (n:=1) (by omega)
 have hp:=pow2_split n
 have hP:=pow32_pos (n / 32)
 have hS:=pow2_pos (n % 32)
 rw [← trim_rv neg xs]
 generalize hms:trimL xs=ms at *
 -- the end: what is kept and what is lost
 have fin:∀ (q l:Int),0≤l→l<2^n→valL ms=2^n*q+l→rv neg ms / 2^n=if neg=true∧l ≠ 0 then -q-1 else if neg then -q else q:=by
  intro q l hl0 hl1 hv
  have hpn:=pow2_pos n
  unfold rv
  rw [hv]
  cases neg with
  | false=>simp only [Bool.false_eq_true,if_false,false_and];rw [Int.add_comm,Int.add_mul_ediv_left _ _ (by omega),Int.ediv_eq_zero_of_lt hl0 hl1];omega
  | true =>
   simp only [if_true,true_and]
   by_cases h0:l=0
   ·rw [if_neg (by simp [h0]),h0,Int.add_zero,← Int.mul_neg,Int.mul_ediv_cancel_left _ (by omega)]
   ·rw [if_pos (by simpa using h0)]
    have : -(2^n*q+l)=(2^n-l)+2^n*(-q-1):=by rw [Int.mul_sub,Int.mul_neg];omega
    rw [this,Int.add_mul_ediv_left _ _ (by omega),Int.ediv_eq_zero_of_lt (by omega) (by omega)];omega
 by_cases hk:n / 32<ms.length
 ·-- some limbs are left
  have hb:=Yloop152b (neg:=neg) (lost:=decide (valL (ms.take (n / 32)) ≠ 0)) (xs:=xs) (ms:=ms) (sh:=(n:Int)) (s:=n % 32) (k:=n / 32) tu hs (by omega) (by omega) (ms.length-n / 32) 0 (by omega)
  have c1:decide ((i64.wrap (Int.tdiv (n:Int) 32))<(ms.length:Int))=true:=by rw [e1];simp;omega
  have hall:=rsh_all (ms:=ms) hs (show n / 32≤ms.length by omega)
  have ux:U32 ((List.range (ms.length-n / 32)).map (rshF (ms.drop (n / 32)) (n % 32))):=u32_range fun i=>(rshF_bd (u32_drop tu _) hs i).2.2.2
  have hmk:=mk1_run (neg:=neg) ux (by simp;omega)
  have hlen:((List.range (ms.length-n / 32)).map (rshF (ms.drop (n / 32)) (n % 32))).length=ms.length-n / 32:=by simp
  rw [hlen] at hmk
  have hq:=rv_len (neg:=neg) ux
  generalize hQ:(List.range (ms.length-n / 32)).map (rshF (ms.drop (n / 32)) (n % 32))=Q at *
  have hm0:=Int.emod_nonneg (ms.getD (n / 32) 0) (show (2:Int)^(n % 32) ≠ 0 by omega)
  have hm1:=Int.emod_lt_of_pos (ms.getD (n / 32) 0) hS
  have ht0:=valL_nonneg (u32_take tu (n / 32))
  have ht1:=take_lt tu (n / 32)
  have hb2:RunsW Yir (.loop Yc152b) (Ys152b neg xs (n:Nat) ms 0 [] (decide (valL (ms.take (n / 32)) ≠ 0)) (u64.wrap (Int.tmod (n:Int) 32)) (i64.wrap (Int.tdiv (n:Int) 32))) (.exit 2) (Ys152b neg xs (n:Nat) ms (ms.length-n / 32) (lm Q) (decide (valL (ms.take (n / 32)) ≠ 0)) (u64.wrap (Int.tmod (n:Int) 32)) (ms.length:Nat)):=by
   rw [e1,e2];exact hb
  have emask:u32.wrap ((u32.wrap (1*2^(min (Int.toNat (u64.wrap (Int.tmod (n:Int) 32))) (IntKind.bits .u32))))-1)=2^(n % 32)-1:=by
   have:min (Int.toNat ((n % 32:Nat):Int)) (IntKind.bits .u32)=n % 32:=by rw [Int.toNat_natCast];show min (n % 32) 32=n % 32;omega
   have h31:(2:Int)^(n % 32)≤2147483648:=pow2_le (show n % 32≤31 by omega)
   rw [e2,this,Int.one_mul,wu32,wu32];omega
  have ec4:u32.wrap ((BitVec.ofInt (IntKind.bits .u32) (ms.getD (Int.toNat (i64.wrap (Int.tdiv (n:Int) 32))) 0) &&& BitVec.ofInt (IntKind.bits .u32) (u32.wrap ((u32.wrap (1*2^(min (Int.toNat (u64.wrap (Int.tmod (n:Int) 32))) (IntKind.bits .u32))))-1))).toNat)=ms.getD (n / 32) 0 % 2^(n % 32):=by
   rw [emask,e1,Int.toNat_natCast]
   exact and32 (getD_u32 tu _) (by omega)
  have hl:0≤4294967296^(n / 32)*(ms.getD (n / 32) 0 % 2^(n % 32))+valL (ms.take (n / 32))∧4294967296^(n / 32)*(ms.getD (n / 32) 0 % 2^(n % 32))+valL (ms.take (n / 32))<2^n:=by
   rw [hp]
   generalize (4294967296:Int)^(n / 32)=P at *
   generalize ms.getD (n / 32) 0 % 2^(n % 32)=z at *
   generalize (2:Int)^(n % 32)=S at *
   have a:=Int.mul_nonneg (Int.le_of_lt hP) hm0
   have b:=Int.mul_le_mul_of_nonneg_left (show z+1≤S by omega) (Int.le_of_lt hP)
   rw [Int.mul_add,Int.mul_one] at b
   omega
  have hf:=fin (valL Q) _ hl.1 hl.2 (by rw [hall,hp];grind)
  have hlost:(4294967296^(n / 32)*(ms.getD (n / 32) 0 % 2^(n % 32))+valL (ms.take (n / 32)) ≠ 0)↔(valL (ms.take (n / 32)) ≠ 0∨ms.getD (n / 32) 0 % 2^(n % 32) ≠ 0):=by
   have a:=Int.mul_nonneg (Int.le_of_lt hP) hm0
   by_cases hz:ms.getD (n / 32) 0 % 2^(n % 32)=0
   ·rw [hz,Int.mul_zero,Int.zero_add];simp
   ·have:0<4294967296^(n / 32)*(ms.getD (n / 32) 0 % 2^(n % 32)):=Int.mul_pos hP (by omega)
    constructor
    ·intro _;exact .inr hz
    ·intro _;omega
  by_cases hneg:neg=true
  ·subst hneg
   have hrv:rv true Q = -valL Q:=rfl
   by_cases h0:valL (ms.take (n / 32)) ≠ 0
   ·rw [hf,if_pos ⟨rfl,hlost.2 (.inl h0)⟩]
    have hmin:=bminus_run (a := -valL Q) (b:=1) (by rw [← hrv];omega) (by decide)
    refine Yrun152_1 true (decide (valL (ms.take (n / 32)) ≠ 0)) xs (n:Nat) _ (ms.length-n / 32) (lm Q) _ (-valL Q) _ (by rw [hms];exact c1) (by simpa using h0) rfl (by rw [hms];exact hmag) (by rw [hms];exact ha) (by rw [hms];exact hb2) hmk hof hmin
   ·by_cases h1:ms.getD (n / 32) 0 % 2^(n % 32)=0
    ·rw [hf,if_neg (fun h=>by rcases hlost.1 h.2 with g | g;exact h0 g;exact g h1),if_pos rfl]
     exact Yrun152_4 true (decide (valL (ms.take (n / 32)) ≠ 0)) xs (n:Nat) _ (ms.length-n / 32) (lm Q) _ (-valL Q) (by rw [hms];exact c1) (by simpa using h0) rfl (by rw [hms,ec4,h1];rfl) (by rw [hms];exact hmag) (by rw [hms];exact ha) (by rw [hms];exact hb2) (by rw [hms,e1];omega) (by rw [e2];omega) hmk
    ·rw [hf,if_pos ⟨rfl,hlost.2 (.inr h1)⟩]
     have hmin:=bminus_run (a := -valL Q) (b:=1) (by rw [← hrv];omega) (by decide)
     exact Yrun152_3 true (decide (valL (ms.take (n / 32)) ≠ 0)) xs (n:Nat) _ (ms.length-n / 32) (lm Q) _ (-valL Q) _ (by rw [hms];exact c1) (by simpa using h0) rfl (by rw [hms,ec4];simpa using h1) (by rw [hms];exact hmag) (by rw [hms];exact ha) (by rw [hms];exact hb2) (by rw [hms,e1];omega) (by rw [e2];omega) hmk hof hmin
  ·have hneg':neg=false:=by cases neg <;> simp_all
   subst hneg'
   rw [hf,if_neg (by simp),if_neg (by simp)]
   by_cases h0:valL (ms.take (n / 32)) ≠ 0
   ·exact Yrun152_2 false (decide (valL (ms.take (n / 32)) ≠ 0)) xs (n:Nat) _ (ms.length-n / 32) (lm Q) _ (valL Q) (by rw [hms];exact c1) (by simpa using h0) rfl (by rw [hms];exact hmag) (by rw [hms];exact ha) (by rw [hms];exact hb2) hmk
   ·exact Yrun152_5 false (decide (valL (ms.take (n / 32)) ≠ 0)) xs (n:Nat) _ (ms.length-n / 32) (lm Q) _ (valL Q) (by rw [hms];exact c1) (by simpa using h0) rfl (by rw [hms];exact hmag) (by rw [hms];exact ha) (by rw [hms];exact hb2) (by rw [hms,e1];omega) (by rw [e2];omega) hmk
 ·-- nothing is left
  have c1:decide ((i64.wrap (Int.tdiv (n:Int) 32))<(ms.length:Int))=false:=by rw [e1];simp;omega
  have htake:ms.take (n / 32)=ms:=List.take_of_length_le (by omega)
  have hb:RunsW Yir (.loop Yc152b) (Ys152b neg xs (n:Nat) ms 0 [] (decide (valL (ms.take (n / 32)) ≠ 0)) (u64.wrap (Int.tmod (n:Int) 32)) (i64.wrap (Int.tdiv (n:Int) 32))) (.exit 2) (Ys152b neg xs (n:Nat) ms 0 [] (decide (valL (ms.take (n / 32)) ≠ 0)) (u64.wrap (Int.tmod (n:Int) 32)) (i64.wrap (Int.tdiv (n:Int) 32))) :=
   RunsW.loop_out (Yk152b_3 neg xs _ ms _ _ _ _ _ c1) (by intro e;cases e)
  have hmk:=mk1_run (neg:=neg) (xs:=[]) (fun x h=>(nomatch h)) (by simp)
  have hv0:rv neg ([]:List Int)=0:=by unfold rv;cases neg <;> rfl
  rw [hv0] at hmk
  have hlt:valL ms<2^n:=by
   have a:=valL_lt tu
   have b:=pow32_mono (show ms.length≤n / 32 by omega)
   rw [hp]
   have:=Int.mul_le_mul_of_nonneg_left (show (1:Int)≤2^(n % 32) by omega) (show (0:Int)≤4294967296^(n / 32) by omega)
   rw [Int.mul_one] at this
   omega
  have hf:=fin 0 (valL ms) (valL_nonneg tu) hlt (by rw [Int.mul_zero,Int.zero_add])
  by_cases hneg:neg=true
  ·subst hneg
   by_cases h0:valL ms ≠ 0
   ·rw [hf,if_pos ⟨rfl,h0⟩]
    have hmin:=bminus_run (a:=0) (b:=1) (by decide) (by decide)
    exact Yrun152_6 true (decide (valL (ms.take (n / 32)) ≠ 0)) xs (n:Nat) _ 0 [] _ 0 _ (by rw [hms];exact c1) rfl (by rw [htake];simpa using h0) (by rw [hms];exact hmag) (by rw [hms];exact ha) (by rw [hms];exact hb) hmk hof hmin
   ·rw [hf,if_neg (fun h=>h0 h.2),if_pos rfl]
    exact Yrun152_7 true (decide (valL (ms.take (n / 32)) ≠ 0)) xs (n:Nat) _ 0 [] _ 0 (by rw [hms];exact c1) rfl (by rw [htake];simpa using h0) (by rw [hms];exact hmag) (by rw [hms];exact ha) (by rw [hms];exact hb) hmk
  ·have hneg':neg=false:=by cases neg <;> simp_all
   subst hneg'
   rw [hf,if_neg (by simp),if_neg (by simp)]
   exact Yrun152_8 false (decide (valL (ms.take (n / 32)) ≠ 0)) xs (n:Nat) _ 0 [] _ 0 (by rw [hms];exact c1) rfl (by rw [hms];exact hmag) (by rw [hms];exact ha) (by rw [hms];exact hb) hmk
def TDB:Table:=TDA
theorem TDB_holds:THolds Yir TDB:=TDA_holds
end Go.Proofs.Ythnnfemologhfaa

namespace Go.Proofs.Ythnnfemologhfaa
open Go.IntKind (i64 u64 u32)
open Go.Ai
set_option maxRecDepth 100000
section
variable {k:Nat} {us vs:List Int} {kq:Nat} {qs:List Int} {s:Int} {j m:Nat}
end
section
variable {k:Nat} {vs:List Int} {kq:Nat} {qs:List Int} {s:Int} {j:Nat} {g:Int}
end
def TDC:Table:=TDB
theorem TDC_holds:THolds Yir TDC:=TDB_holds
end Go.Proofs.Ythnnfemologhfaa

namespace Go.Proofs.Ythnnfemologhfaa
open Go.IntKind (i64 u64 u32)
open Go.Ai
set_option maxRecDepth 100000
section
variable {vs:List Int} {m:Nat} {k kq:Nat} {s:Int}
end
def TDD:Table:=TDC
theorem TDD_holds:THolds Yir TDD:=TDC_holds
end Go.Proofs.Ythnnfemologhfaa

namespace Go.Proofs.Ythnnfemologhfaa
open Go.IntKind (i64 u64 u32)
open Go.Ai
set_option maxRecDepth 100000
def TWC:Table:=TWB
theorem TWC_holds:THolds Yir TWC:=TWB_holds
end Go.Proofs.Ythnnfemologhfaa
