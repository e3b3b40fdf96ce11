/- The package wide: comparison, sums and differences. -/
import Derived.Test.YthnnfemologhfaaWideA
import Derived.Test.YthnnfemologhfaaArith
namespace Go.Proofs.Ythnnfemologhfaa
open Go.Ai
set_option maxRecDepth 100000

def Try.c150 : ICode := .seq (.seq (.region false [oM 19 5,
   o1 20 (.bin .geq (.t 19) (.c (.int .i64 0)))])
  (.cond (.t 20) (.skip)
  (.exit 0)))
  (.seq (.block 1 (.seq (.region true [oM 23 0,
   oM 24 5,
   o1 25 (.ixa 23 (.t 24) 1),
   o1 26 (.ld 25 25 1 true),
   oM 27 1,
   oM 28 5,
   o1 29 (.ixa 27 (.t 28) 1),
   o1 30 (.ld 29 29 1 true),
   oB 31 .neq 26 30])
  (.cond (.t 31) (.seq (.seq (.region true [oM 32 0,
   oM 33 5,
   o1 34 (.ixa 32 (.t 33) 1),
   o1 35 (.ld 34 34 1 true),
   oM 36 1,
   oM 37 5,
   o1 38 (.ixa 36 (.t 37) 1),
   o1 39 (.ld 38 38 1 true),
   oB 40 .lss 35 39])
  (.cond (.t 40) (.seq (.region false [o1 4 (.mov (.c (.int .i64 (-1))))])
  (.ret))
  (.skip)))
  (.seq (.region false [o1 4 (.mov (.c (.int .i64 1)))])
  (.ret)))
  (.skip))))
  (.region false [oM 21 5,
   o1 22 (.bin .sub (.t 21) (.c (.int .i64 1))),
   oM 5 22]))
def Try.s150 (N : Nat) (cs : List AV) (M : Nat) (ds : List AV) (v i : Int) : State := (.val (.sl N cs) :: (.val (.sl M ds) :: (dds 2 (.val (.int .i64 v) :: (.val (.int .i64 i) :: (dds 35 []))))))
theorem Try.k150_1 (N : Nat) (cs : List AV) (M : Nat) (ds : List AV) (v i x y : Int) (c1 : (decide (i ≥ 0)) = true) (c2 : (x != y) = true) (c3 : (decide (x < y)) = true) (n1 : 0 ≤ i ∧ i < ((N : Nat) : Int)) (n2 : takeA (List.drop (Int.toNat i * 1) cs) 0 1 true = some (.int .u32 x)) (n3 : 0 ≤ i ∧ i < ((M : Nat) : Int)) (n4 : takeA (List.drop (Int.toNat i * 1) ds) 0 1 true = some (.int .u32 y)) (n5 : 0 ≤ i ∧ i < ((N : Nat) : Int)) (n6 : takeA (List.drop (Int.toNat i * 1) cs) 0 1 true = some (.int .u32 x)) (n7 : 0 ≤ i ∧ i < ((M : Nat) : Int)) (n8 : takeA (List.drop (Int.toNat i * 1) ds) 0 1 true = some (.int .u32 y)) : RunsW Try.ir Try.c150 (Try.s150 N cs M ds v i) .ret (Try.s150 N cs M ds (-1) i) :=
  RunsW.script (ps := [(decide (i ≥ 0)) = true, 0 ≤ i ∧ i < ((N : Nat) : Int), takeA (List.drop (Int.toNat i * 1) cs) 0 1 true = some (.int .u32 x), 0 ≤ i ∧ i < ((M : Nat) : Int), takeA (List.drop (Int.toNat i * 1) ds) 0 1 true = some (.int .u32 y), (x != y) = true, 0 ≤ i ∧ i < ((N : Nat) : Int), takeA (List.drop (Int.toNat i * 1) cs) 0 1 true = some (.int .u32 x), 0 ≤ i ∧ i < ((M : Nat) : Int), takeA (List.drop (Int.toNat i * 1) ds) 0 1 true = some (.int .u32 y), (decide (x < y)) = true]) TWA_holds 300 [.b true, .v (.int .u32 x), .v (.int .u32 y), .b true, .v (.int .u32 x), .v (.int .u32 y), .b true] [0, 1, 4, 5] (by kernel_rfl) ⟨c1, n1, n2, n3, n4, c2, n5, n6, n7, n8, c3, trivial⟩
theorem Try.k150_2 (N : Nat) (cs : List AV) (M : Nat) (ds : List AV) (v i x y : Int) (c1 : (decide (i ≥ 0)) = true) (c2 : (x != y) = true) (c3 : (decide (x < y)) = false) (n1 : 0 ≤ i ∧ i < ((N : Nat) : Int)) (n2 : takeA (List.drop (Int.toNat i * 1) cs) 0 1 true = some (.int .u32 x)) (n3 : 0 ≤ i ∧ i < ((M : Nat) : Int)) (n4 : takeA (List.drop (Int.toNat i * 1) ds) 0 1 true = some (.int .u32 y)) (n5 : 0 ≤ i ∧ i < ((N : Nat) : Int)) (n6 : takeA (List.drop (Int.toNat i * 1) cs) 0 1 true = some (.int .u32 x)) (n7 : 0 ≤ i ∧ i < ((M : Nat) : Int)) (n8 : takeA (List.drop (Int.toNat i * 1) ds) 0 1 true = some (.int .u32 y)) : RunsW Try.ir Try.c150 (Try.s150 N cs M ds v i) .ret (Try.s150 N cs M ds 1 i) :=
  RunsW.script (ps := [(decide (i ≥ 0)) = true, 0 ≤ i ∧ i < ((N : Nat) : Int), takeA (List.drop (Int.toNat i * 1) cs) 0 1 true = some (.int .u32 x), 0 ≤ i ∧ i < ((M : Nat) : Int), takeA (List.drop (Int.toNat i * 1) ds) 0 1 true = some (.int .u32 y), (x != y) = true, 0 ≤ i ∧ i < ((N : Nat) : Int), takeA (List.drop (Int.toNat i * 1) cs) 0 1 true = some (.int .u32 x), 0 ≤ i ∧ i < ((M : Nat) : Int), takeA (List.drop (Int.toNat i * 1) ds) 0 1 true = some (.int .u32 y), (decide (x < y)) = false]) TWA_holds 300 [.b true, .v (.int .u32 x), .v (.int .u32 y), .b true, .v (.int .u32 x), .v (.int .u32 y), .b false] [0, 1, 4, 5] (by kernel_rfl) ⟨c1, n1, n2, n3, n4, c2, n5, n6, n7, n8, c3, trivial⟩
theorem Try.k150_3 (N : Nat) (cs : List AV) (M : Nat) (ds : List AV) (v i x y : Int) (c1 : (decide (i ≥ 0)) = true) (c2 : (x != y) = false) (n1 : 0 ≤ i ∧ i < ((N : Nat) : Int)) (n2 : takeA (List.drop (Int.toNat i * 1) cs) 0 1 true = some (.int .u32 x)) (n3 : 0 ≤ i ∧ i < ((M : Nat) : Int)) (n4 : takeA (List.drop (Int.toNat i * 1) ds) 0 1 true = some (.int .u32 y)) : RunsW Try.ir Try.c150 (Try.s150 N cs M ds v i) .norm (Try.s150 N cs M ds v (IntKind.i64.wrap (i - 1))) :=
  RunsW.script (ps := [(decide (i ≥ 0)) = true, 0 ≤ i ∧ i < ((N : Nat) : Int), takeA (List.drop (Int.toNat i * 1) cs) 0 1 true = some (.int .u32 x), 0 ≤ i ∧ i < ((M : Nat) : Int), takeA (List.drop (Int.toNat i * 1) ds) 0 1 true = some (.int .u32 y), (x != y) = false]) TWA_holds 300 [.b true, .v (.int .u32 x), .v (.int .u32 y), .b false] [0, 1, 4, 5] (by kernel_rfl) ⟨c1, n1, n2, n3, n4, c2, trivial⟩
theorem Try.k150_4 (N : Nat) (cs : List AV) (M : Nat) (ds : List AV) (v i : Int) (c1 : (decide (i ≥ 0)) = false) : RunsW Try.ir Try.c150 (Try.s150 N cs M ds v i) (.exit 0) (Try.s150 N cs M ds v i) :=
  RunsW.script (ps := [(decide (i ≥ 0)) = false]) TWA_holds 300 [.b false] [0, 1, 4, 5] (by kernel_rfl) ⟨c1, trivial⟩
theorem Try.loop150 (xs ys : List Int) (hN : xs.length ≤ 1048576) (hl : xs.length = ys.length) : ∀ m, m ≤ xs.length →
    (cmpGo xs ys m = 0 ∧ RunsW Try.ir (.loop Try.c150) (Try.s150 xs.length (lm xs) ys.length (lm ys) 0 (((m : Nat) : Int) - 1)) (.exit 0) (Try.s150 xs.length (lm xs) ys.length (lm ys) 0 (-1))) ∨
    (cmpGo xs ys m ≠ 0 ∧ ∃ j, RunsW Try.ir (.loop Try.c150) (Try.s150 xs.length (lm xs) ys.length (lm ys) 0 (((m : Nat) : Int) - 1)) .ret (Try.s150 xs.length (lm xs) ys.length (lm ys) (cmpGo xs ys m) j)) := by
  intro m
  induction m with
  | zero =>
    intro _
    left
    refine ⟨rfl, ?_⟩
    exact RunsW.loop_out (Try.k150_4 xs.length (lm xs) ys.length (lm ys) 0 (((0 : Nat) : Int) - 1) (by simp)) (by intro e; cases e)
  | succ m ih =>
    intro hm
    have e0 : ((m + 1 : Nat) : Int) - 1 = ((m : Nat) : Int) := by omega
    have e1 : IntKind.i64.wrap (((m : Nat) : Int) - 1) = ((m : Nat) : Int) - 1 := w64 (by omega) (by omega)
    have hx := take_lim (xs := xs) (i := m) (by omega)
    have hy := take_lim (xs := ys) (i := m) (by omega)
    rw [e0]
    simp only [cmpGo]
    by_cases h : xs.getD m 0 = ys.getD m 0
    · rw [if_pos h]
      have h1 := Try.k150_3 xs.length (lm xs) ys.length (lm ys) 0 ((m : Nat) : Int) (xs.getD m 0) (ys.getD m 0) (by simp) (by simpa using h) (by omega) (by rw [Int.toNat_natCast]; exact hx) (by omega) (by rw [Int.toNat_natCast]; exact hy)
      rw [e1] at h1
      rcases ih (by omega) with ⟨k1, k2⟩ | ⟨k1, j, k2⟩
      · exact .inl ⟨k1, RunsW.loop h1 k2⟩
      · exact .inr ⟨k1, j, RunsW.loop h1 k2⟩
    · rw [if_neg h]
      right
      by_cases hlt : xs.getD m 0 < ys.getD m 0
      · rw [if_pos hlt]
        refine ⟨by decide, ((m : Nat) : Int), ?_⟩
        exact RunsW.loop_out (Try.k150_1 xs.length (lm xs) ys.length (lm ys) 0 ((m : Nat) : Int) (xs.getD m 0) (ys.getD m 0) (by simp) (by simpa using h) (by simpa using hlt) (by omega) (by rw [Int.toNat_natCast]; exact hx) (by omega) (by rw [Int.toNat_natCast]; exact hy) (by omega) (by rw [Int.toNat_natCast]; exact hx) (by omega) (by rw [Int.toNat_natCast]; exact hy)) (by intro e; cases e)
      · rw [if_neg hlt]
        refine ⟨by decide, ((m : Nat) : Int), ?_⟩
        exact RunsW.loop_out (Try.k150_2 xs.length (lm xs) ys.length (lm ys) 0 ((m : Nat) : Int) (xs.getD m 0) (ys.getD m 0) (by simp) (by simpa using h) (by simpa using hlt) (by omega) (by rw [Int.toNat_natCast]; exact hx) (by omega) (by rw [Int.toNat_natCast]; exact hy) (by omega) (by rw [Int.toNat_natCast]; exact hx) (by omega) (by rw [Int.toNat_natCast]; exact hy)) (by intro e; cases e)

theorem Try.run150_lt (xs ys : List Int) (h : (((xs.length : Nat) : Int) != ((ys.length : Nat) : Int)) = true) (h2 : (decide (((xs.length : Nat) : Int) < ((ys.length : Nat) : Int))) = true) : Runs Try.ir 150 [.sl xs.length (lm xs), .sl ys.length (lm ys)] (.int .i64 (-1)) :=
  Runs.script (ps := [(((xs.length : Nat) : Int) != ((ys.length : Nat) : Int)) = true, (decide (((xs.length : Nat) : Int) < ((ys.length : Nat) : Int))) = true]) TWA_holds rfl 300 rfl [.b true, .b true] (by kernel_rfl) ⟨h, h2, trivial⟩
theorem Try.run150_gt (xs ys : List Int) (h : (((xs.length : Nat) : Int) != ((ys.length : Nat) : Int)) = true) (h2 : (decide (((xs.length : Nat) : Int) < ((ys.length : Nat) : Int))) = false) : Runs Try.ir 150 [.sl xs.length (lm xs), .sl ys.length (lm ys)] (.int .i64 1) :=
  Runs.script (ps := [(((xs.length : Nat) : Int) != ((ys.length : Nat) : Int)) = true, (decide (((xs.length : Nat) : Int) < ((ys.length : Nat) : Int))) = false]) TWA_holds rfl 300 rfl [.b true, .b false] (by kernel_rfl) ⟨h, h2, trivial⟩
theorem Try.run150_eq (xs ys : List Int) (h : (((xs.length : Nat) : Int) != ((ys.length : Nat) : Int)) = false) (hl : RunsW Try.ir (.loop Try.c150) (Try.s150 xs.length (lm xs) ys.length (lm ys) 0 (IntKind.i64.wrap (((xs.length : Nat) : Int) - 1))) (.exit 0) (Try.s150 xs.length (lm xs) ys.length (lm ys) 0 (-1))) : Runs Try.ir 150 [.sl xs.length (lm xs), .sl ys.length (lm ys)] (.int .i64 0) :=
  Runs.of_bodyW (fn := Try.i150) (s := (.val (.sl xs.length (lm xs)) :: (.val (.sl ys.length (lm ys)) :: (dds 2 (.val (.int .i64 0) :: (.val (.int .i64 (-1)) :: (dds 35 []))))))) (ex := .ret) rfl rfl
    (RunsW.seq (RunsW.script (t := (.val (.sl xs.length (lm xs)) :: (.val (.sl ys.length (lm ys)) :: (dds 2 (.val (.int .i64 0) :: (dds 36 [])))))) (ex := .norm) (ps := []) TWA_holds 300 [] [0, 1, 4] (by kernel_rfl) trivial)
    (RunsW.seq (RunsW.script (t := (.val (.sl xs.length (lm xs)) :: (.val (.sl ys.length (lm ys)) :: (dds 2 (.val (.int .i64 0) :: (dds 1 (.val (.sl xs.length (lm xs)) :: (.val (.int .i64 ((xs.length : Nat) : Int)) :: (.val (.sl ys.length (lm ys)) :: (.val (.int .i64 ((ys.length : Nat) : Int)) :: (.val (.bool (((xs.length : Nat) : Int) != ((ys.length : Nat) : Int))) :: (dds 30 [])))))))))))) (ex := .norm) (ps := [(((xs.length : Nat) : Int) != ((ys.length : Nat) : Int)) = false]) TWA_holds 300 [.b false] [0, 1, 4, 6, 7, 8, 9, 10] (by kernel_rfl) ⟨h, trivial⟩)
    (RunsW.seq (RunsW.seq (RunsW.script (t := (.val (.sl xs.length (lm xs)) :: (.val (.sl ys.length (lm ys)) :: (dds 2 (.val (.int .i64 0) :: (.val (.int .i64 (IntKind.i64.wrap (((xs.length : Nat) : Int) - 1))) :: (dds 35 []))))))) (ex := .norm) (ps := []) TWA_holds 300 [] [0, 1, 4, 5] (by kernel_rfl) trivial)
    (RunsW.block hl))
    (RunsW.script (t := (.val (.sl xs.length (lm xs)) :: (.val (.sl ys.length (lm ys)) :: (dds 2 (.val (.int .i64 0) :: (.val (.int .i64 (-1)) :: (dds 35 []))))))) (ex := .ret) (ps := []) TWA_holds 300 [] [0, 1, 4, 5] (by kernel_rfl) trivial)))) (by intro i e; cases e) rfl
theorem Try.run150_ne (xs ys : List Int) (r j : Int) (h : (((xs.length : Nat) : Int) != ((ys.length : Nat) : Int)) = false) (hl : RunsW Try.ir (.loop Try.c150) (Try.s150 xs.length (lm xs) ys.length (lm ys) 0 (IntKind.i64.wrap (((xs.length : Nat) : Int) - 1))) .ret (Try.s150 xs.length (lm xs) ys.length (lm ys) r j)) : Runs Try.ir 150 [.sl xs.length (lm xs), .sl ys.length (lm ys)] (.int .i64 r) :=
  Runs.of_bodyW (fn := Try.i150) (s := (.val (.sl xs.length (lm xs)) :: (.val (.sl ys.length (lm ys)) :: (dds 2 (.val (.int .i64 r) :: (.val (.int .i64 j) :: (dds 35 []))))))) (ex := .ret) rfl rfl
    (RunsW.seq (RunsW.script (t := (.val (.sl xs.length (lm xs)) :: (.val (.sl ys.length (lm ys)) :: (dds 2 (.val (.int .i64 0) :: (dds 36 [])))))) (ex := .norm) (ps := []) TWA_holds 300 [] [0, 1, 4] (by kernel_rfl) trivial)
    (RunsW.seq (RunsW.script (t := (.val (.sl xs.length (lm xs)) :: (.val (.sl ys.length (lm ys)) :: (dds 2 (.val (.int .i64 0) :: (dds 1 (.val (.sl xs.length (lm xs)) :: (.val (.int .i64 ((xs.length : Nat) : Int)) :: (.val (.sl ys.length (lm ys)) :: (.val (.int .i64 ((ys.length : Nat) : Int)) :: (.val (.bool (((xs.length : Nat) : Int) != ((ys.length : Nat) : Int))) :: (dds 30 [])))))))))))) (ex := .norm) (ps := [(((xs.length : Nat) : Int) != ((ys.length : Nat) : Int)) = false]) TWA_holds 300 [.b false] [0, 1, 4, 6, 7, 8, 9, 10] (by kernel_rfl) ⟨h, trivial⟩)
    (RunsW.seq_out (RunsW.seq (RunsW.script (t := (.val (.sl xs.length (lm xs)) :: (.val (.sl ys.length (lm ys)) :: (dds 2 (.val (.int .i64 0) :: (.val (.int .i64 (IntKind.i64.wrap (((xs.length : Nat) : Int) - 1))) :: (dds 35 []))))))) (ex := .norm) (ps := []) TWA_holds 300 [] [0, 1, 4, 5] (by kernel_rfl) trivial)
    (RunsW.block_ret hl)) (by intro e; cases e)))) (by intro i e; cases e) rfl
theorem cmpLimbs_run {xs ys : List Int} (hx : Canon xs) (hy : Canon ys) (hN : xs.length ≤ 1048576) : Runs Try.ir 150 [.sl xs.length (lm xs), .sl ys.length (lm ys)] (.int .i64 (cmpI (valL xs) (valL ys))) := by
  by_cases hl : xs.length = ys.length
  · have h : (((xs.length : Nat) : Int) != ((ys.length : Nat) : Int)) = false := by rw [hl]; simp
    have hg := cmpGo_eq hx.1 hy.1 xs.length (Nat.le_refl _) (by omega)
    rw [List.take_length, hl, List.take_length, ← hl] at hg
    have e1 : IntKind.i64.wrap (((xs.length : Nat) : Int) - 1) = ((xs.length : Nat) : Int) - 1 := w64 (by omega) (by omega)
    rcases Try.loop150 xs ys hN hl xs.length (Nat.le_refl _) with ⟨k1, k2⟩ | ⟨k1, j, k2⟩
    · rw [← hg, k1]
      exact Try.run150_eq xs ys h (by rw [e1]; exact k2)
    · rw [← hg]
      exact Try.run150_ne xs ys _ j h (by rw [e1]; exact k2)
  · have h : (((xs.length : Nat) : Int) != ((ys.length : Nat) : Int)) = true := by simp; omega
    by_cases hlt : xs.length < ys.length
    · have e : cmpI (valL xs) (valL ys) = -1 := by unfold cmpI; rw [if_pos (canon_lt hx hy hlt)]
      rw [e]
      exact Try.run150_lt xs ys h (by simp; omega)
    · have := canon_lt hy hx (by omega)
      have e : cmpI (valL xs) (valL ys) = 1 := by unfold cmpI; rw [if_neg (by omega), if_pos this]
      rw [e]
      exact Try.run150_gt xs ys h (by simp; omega)


def Try.c156 : ICode := .seq (.region false [oB 23 .lss 22 21])
  (.seq (.cond (.t 23) (.skip)
  (.exit 0))
  (.seq (.block 1 (.seq (.region false [oM 24 22,
   oM 7 24])
  (.seq (.region false [oM 25 0,
   oM 26 7,
   o1 27 (.ixa 25 (.t 26) 1),
   o1 28 (.ld 27 27 1 true),
   o1 29 (.cv .u64 (.t 28)),
   oM 30 6,
   oB 31 .add 29 30,
   oM 8 31])
  (.seq (.seq (.region false [oM 32 7,
   oM 33 1,
   o1 34 (.len (.t 33)),
   oB 35 .lss 32 34])
  (.cond (.t 35) (.region false [oM 36 8,
   oM 37 1,
   oM 38 7,
   o1 39 (.ixa 37 (.t 38) 1),
   o1 40 (.ld 39 39 1 true),
   o1 41 (.cv .u64 (.t 40)),
   oB 42 .add 36 41,
   oM 8 42])
  (.skip)))
  (.region false [o1 43 (.cpy 5),
   oM 44 7,
   oM 45 8,
   o1 46 (.cv .u32 (.t 45)),
   oM 47 8,
   o1 48 (.bin .shr (.t 47) (.c (.int .u64 32))),
   o1 49 (.ixo 43 5 (.t 44) 1),
   oN (.st 49 5 1 (.t 46)),
   oM 6 48])))))
  (.region false [o1 50 (.bin .add (.t 22) (.c (.int .i64 1))),
   oM 22 50])))
def Try.s156 (la : Nat) (xa : List AV) (lb : Nat) (xb : List AV) (n : Nat) (cs : List AV) (c : Int) (m : Int) (i : Int) : State := (.val (.sl la xa) :: (.val (.sl lb xb) :: (dds 2 (.own 1 0 [] :: (.own 1 n cs :: (.val (.int .u64 c) :: (dds 14 (.val (.int .i64 m) :: (.val (.int .i64 i) :: (dds 35 []))))))))))
theorem Try.k156_1 (la : Nat) (xa : List AV) (lb : Nat) (xb : List AV) (n : Nat) (cs : List AV) (c : Int) (m : Int) (i : Int) (ds : List AV) (x y : Int) (c1 : (decide (i < m)) = true) (c2 : (decide (i < ((lb : Nat) : Int))) = true) (n1 : 0 ≤ i ∧ i < ((la : Nat) : Int)) (n2 : takeA (List.drop (Int.toNat i * 1) xa) 0 1 true = some (.int .u32 x)) (n3 : 0 ≤ i ∧ i < ((lb : Nat) : Int)) (n4 : takeA (List.drop (Int.toNat i * 1) xb) 0 1 true = some (.int .u32 y)) (n5 : 0 ≤ i ∧ i < ((n : Nat) : Int)) (n6 : layA cs (Int.toNat i * 1) [.int .u32 (IntKind.u32.wrap (IntKind.u64.wrap ((IntKind.u64.wrap ((IntKind.u64.wrap x) + c)) + (IntKind.u64.wrap y))))] = some ds) : RunsW Try.ir Try.c156 (Try.s156 la xa lb xb n cs c m i) .norm (Try.s156 la xa lb xb n ds (Int.fdiv (IntKind.u64.wrap ((IntKind.u64.wrap ((IntKind.u64.wrap x) + c)) + (IntKind.u64.wrap y))) (2 ^ (min (Int.toNat 32) (IntKind.bits .u64)))) m (IntKind.i64.wrap (i + 1))) :=
  RunsW.script (ps := [(decide (i < m)) = true, 0 ≤ i ∧ i < ((la : Nat) : Int), takeA (List.drop (Int.toNat i * 1) xa) 0 1 true = some (.int .u32 x), (decide (i < ((lb : Nat) : Int))) = true, 0 ≤ i ∧ i < ((lb : Nat) : Int), takeA (List.drop (Int.toNat i * 1) xb) 0 1 true = some (.int .u32 y), ¬ (32 : Int) < 0, 0 ≤ i ∧ i < ((n : Nat) : Int), layA cs (Int.toNat i * 1) [.int .u32 (IntKind.u32.wrap (IntKind.u64.wrap ((IntKind.u64.wrap ((IntKind.u64.wrap x) + c)) + (IntKind.u64.wrap y))))] = some ds]) TWA_holds 300 [.b true, .v (.int .u32 x), .b true, .v (.int .u32 y), .l ds] [0, 1, 4, 5, 6, 21, 22] (by kernel_rfl) ⟨c1, n1, n2, c2, n3, n4, (by decide), n5, n6, trivial⟩
theorem Try.k156_2 (la : Nat) (xa : List AV) (lb : Nat) (xb : List AV) (n : Nat) (cs : List AV) (c : Int) (m : Int) (i : Int) (ds : List AV) (x : Int) (c1 : (decide (i < m)) = true) (c2 : (decide (i < ((lb : Nat) : Int))) = false) (n1 : 0 ≤ i ∧ i < ((la : Nat) : Int)) (n2 : takeA (List.drop (Int.toNat i * 1) xa) 0 1 true = some (.int .u32 x)) (n3 : 0 ≤ i ∧ i < ((n : Nat) : Int)) (n4 : layA cs (Int.toNat i * 1) [.int .u32 (IntKind.u32.wrap (IntKind.u64.wrap ((IntKind.u64.wrap x) + c)))] = some ds) : RunsW Try.ir Try.c156 (Try.s156 la xa lb xb n cs c m i) .norm (Try.s156 la xa lb xb n ds (Int.fdiv (IntKind.u64.wrap ((IntKind.u64.wrap x) + c)) (2 ^ (min (Int.toNat 32) (IntKind.bits .u64)))) m (IntKind.i64.wrap (i + 1))) :=
  RunsW.script (ps := [(decide (i < m)) = true, 0 ≤ i ∧ i < ((la : Nat) : Int), takeA (List.drop (Int.toNat i * 1) xa) 0 1 true = some (.int .u32 x), (decide (i < ((lb : Nat) : Int))) = false, ¬ (32 : Int) < 0, 0 ≤ i ∧ i < ((n : Nat) : Int), layA cs (Int.toNat i * 1) [.int .u32 (IntKind.u32.wrap (IntKind.u64.wrap ((IntKind.u64.wrap x) + c)))] = some ds]) TWA_holds 300 [.b true, .v (.int .u32 x), .b false, .l ds] [0, 1, 4, 5, 6, 21, 22] (by kernel_rfl) ⟨c1, n1, n2, c2, (by decide), n3, n4, trivial⟩
theorem Try.k156_3 (la : Nat) (xa : List AV) (lb : Nat) (xb : List AV) (n : Nat) (cs : List AV) (c : Int) (m : Int) (i : Int) (c1 : (decide (i < m)) = false) : RunsW Try.ir Try.c156 (Try.s156 la xa lb xb n cs c m i) (.exit 0) (Try.s156 la xa lb xb n cs c m i) :=
  RunsW.script (ps := [(decide (i < m)) = false]) TWA_holds 300 [.b false] [0, 1, 4, 5, 6, 21, 22] (by kernel_rfl) ⟨c1, trivial⟩
theorem Try.loop156 (xs ys : List Int) (hx : U32 xs) (hy : U32 ys) (n : Nat) (hn : n ≤ 1048576) (hxn : xs.length ≤ n) : ∀ (r i : Nat) (o : List Int) (c : Int), r + i = xs.length → o.length = n → U32 o → 0 ≤ c ∧ c ≤ 1 →
    RunsW Try.ir (.loop Try.c156) (Try.s156 xs.length (lm xs) ys.length (lm ys) n (lm o) c ((xs.length : Nat) : Int) ((i : Nat) : Int)) (.exit 0)
      (Try.s156 xs.length (lm xs) ys.length (lm ys) n (lm (addGo xs ys r i o c).1) (addGo xs ys r i o c).2 ((xs.length : Nat) : Int) ((xs.length : Nat) : Int)) := by
  intro r
  induction r with
  | zero =>
    intro i o c hi _ _ _
    have hi' : i = xs.length := by omega
    subst hi'
    exact RunsW.loop_out (Try.k156_3 xs.length (lm xs) ys.length (lm ys) n (lm o) c ((xs.length : Nat) : Int) ((xs.length : Nat) : Int) (by simp)) (by intro e; cases e)
  | succ r ih =>
    intro i o c hi hlo hu hc
    have h1 := getD_u32 hx i
    have h2 := getD_u32 hy i
    have ei : IntKind.i64.wrap (((i : Nat) : Int) + 1) = ((i + 1 : Nat) : Int) := by rw [w64 (by omega) (by omega)]; omega
    have hxi := take_lim (xs := xs) (i := i) (by omega)
    have hst := lay_lim (xs := o) (i := i) (v := (xs.getD i 0 + c + ys.getD i 0) % 4294967296) (by omega)
    by_cases hy2 : i < ys.length
    · have hyi := take_lim (xs := ys) (i := i) hy2
      have eW : IntKind.u32.wrap (IntKind.u64.wrap (IntKind.u64.wrap (IntKind.u64.wrap (xs.getD i 0) + c) + IntKind.u64.wrap (ys.getD i 0))) = (xs.getD i 0 + c + ys.getD i 0) % 4294967296 := by rw [wu32, wu64m, wu64m, wu64m, wu64m]; omega
      have eC : Int.fdiv (IntKind.u64.wrap (IntKind.u64.wrap (IntKind.u64.wrap (xs.getD i 0) + c) + IntKind.u64.wrap (ys.getD i 0))) (2 ^ (min (Int.toNat 32) (IntKind.bits .u64))) = ((xs.getD i 0 + c + ys.getD i 0) / 4294967296) := by
        show Int.fdiv _ 4294967296 = _
        rw [Int.fdiv_eq_ediv_of_nonneg _ (by omega), wu64m, wu64m, wu64m, wu64m]; omega
      have k := Try.k156_1 xs.length (lm xs) ys.length (lm ys) n (lm o) c ((xs.length : Nat) : Int) ((i : Nat) : Int) (lm (o.set i ((xs.getD i 0 + c + ys.getD i 0) % 4294967296))) (xs.getD i 0) (ys.getD i 0)
        (by simp; omega) (by simp; omega) (by omega) (by rw [Int.toNat_natCast]; exact hxi) (by omega) (by rw [Int.toNat_natCast]; exact hyi) (by omega) (by rw [Int.toNat_natCast, eW]; exact hst)
      rw [eC, ei] at k
      exact RunsW.loop k (ih (i + 1) _ _ (by omega) (by simpa using hlo) (u32_set hu (by omega)) (by omega))
    · have hy0 := getD_end (xs := ys) (i := i) (by omega)
      have eW : IntKind.u32.wrap (IntKind.u64.wrap (IntKind.u64.wrap (xs.getD i 0) + c)) = (xs.getD i 0 + c + ys.getD i 0) % 4294967296 := by rw [wu32, wu64m, wu64m]; omega
      have eC : Int.fdiv (IntKind.u64.wrap (IntKind.u64.wrap (xs.getD i 0) + c)) (2 ^ (min (Int.toNat 32) (IntKind.bits .u64))) = ((xs.getD i 0 + c + ys.getD i 0) / 4294967296) := by
        show Int.fdiv _ 4294967296 = _
        rw [Int.fdiv_eq_ediv_of_nonneg _ (by omega), wu64m, wu64m]; omega
      have k := Try.k156_2 xs.length (lm xs) ys.length (lm ys) n (lm o) c ((xs.length : Nat) : Int) ((i : Nat) : Int) (lm (o.set i ((xs.getD i 0 + c + ys.getD i 0) % 4294967296))) (xs.getD i 0)
        (by simp; omega) (by simp; omega) (by omega) (by rw [Int.toNat_natCast]; exact hxi) (by omega) (by rw [Int.toNat_natCast, eW]; exact hst)
      rw [eC, ei] at k
      exact RunsW.loop k (ih (i + 1) _ _ (by omega) (by simpa using hlo) (u32_set hu (by omega)) (by omega))

def Try.c157 : ICode := .seq (.region false [oB 15 .lss 14 13])
  (.seq (.cond (.t 15) (.skip)
  (.exit 0))
  (.seq (.block 1 (.seq (.region false [oM 16 14,
   oM 7 16])
  (.seq (.region false [oM 17 0,
   oM 18 7,
   o1 19 (.ixa 17 (.t 18) 1),
   o1 20 (.ld 19 19 1 true),
   o1 21 (.cv .u64 (.t 20)),
   oM 22 6,
   oB 23 .sub 21 22,
   oM 8 23])
  (.seq (.seq (.region false [oM 24 7,
   oM 25 1,
   o1 26 (.len (.t 25)),
   oB 27 .lss 24 26])
  (.cond (.t 27) (.region false [oM 28 8,
   oM 29 1,
   oM 30 7,
   o1 31 (.ixa 29 (.t 30) 1),
   o1 32 (.ld 31 31 1 true),
   o1 33 (.cv .u64 (.t 32)),
   oB 34 .sub 28 33,
   oM 8 34])
  (.skip)))
  (.region false [o1 35 (.cpy 5),
   oM 36 7,
   oM 37 8,
   o1 38 (.cv .u32 (.t 37)),
   oM 39 8,
   o1 40 (.bin .shr (.t 39) (.c (.int .u64 63))),
   o1 41 (.ixo 35 5 (.t 36) 1),
   oN (.st 41 5 1 (.t 38)),
   oM 6 40])))))
  (.region false [o1 42 (.bin .add (.t 14) (.c (.int .i64 1))),
   oM 14 42])))
def Try.s157 (la : Nat) (xa : List AV) (lb : Nat) (xb : List AV) (n : Nat) (cs : List AV) (c : Int) (m : Int) (i : Int) : State := (.val (.sl la xa) :: (.val (.sl lb xb) :: (dds 2 (.own 1 0 [] :: (.own 1 n cs :: (.val (.int .u64 c) :: (dds 6 (.val (.int .i64 m) :: (.val (.int .i64 i) :: (dds 29 []))))))))))
theorem Try.k157_1 (la : Nat) (xa : List AV) (lb : Nat) (xb : List AV) (n : Nat) (cs : List AV) (c : Int) (m : Int) (i : Int) (ds : List AV) (x y : Int) (c1 : (decide (i < m)) = true) (c2 : (decide (i < ((lb : Nat) : Int))) = true) (n1 : 0 ≤ i ∧ i < ((la : Nat) : Int)) (n2 : takeA (List.drop (Int.toNat i * 1) xa) 0 1 true = some (.int .u32 x)) (n3 : 0 ≤ i ∧ i < ((lb : Nat) : Int)) (n4 : takeA (List.drop (Int.toNat i * 1) xb) 0 1 true = some (.int .u32 y)) (n5 : 0 ≤ i ∧ i < ((n : Nat) : Int)) (n6 : layA cs (Int.toNat i * 1) [.int .u32 (IntKind.u32.wrap (IntKind.u64.wrap ((IntKind.u64.wrap ((IntKind.u64.wrap x) - c)) - (IntKind.u64.wrap y))))] = some ds) : RunsW Try.ir Try.c157 (Try.s157 la xa lb xb n cs c m i) .norm (Try.s157 la xa lb xb n ds (Int.fdiv (IntKind.u64.wrap ((IntKind.u64.wrap ((IntKind.u64.wrap x) - c)) - (IntKind.u64.wrap y))) (2 ^ (min (Int.toNat 63) (IntKind.bits .u64)))) m (IntKind.i64.wrap (i + 1))) :=
  RunsW.script (ps := [(decide (i < m)) = true, 0 ≤ i ∧ i < ((la : Nat) : Int), takeA (List.drop (Int.toNat i * 1) xa) 0 1 true = some (.int .u32 x), (decide (i < ((lb : Nat) : Int))) = true, 0 ≤ i ∧ i < ((lb : Nat) : Int), takeA (List.drop (Int.toNat i * 1) xb) 0 1 true = some (.int .u32 y), ¬ (63 : Int) < 0, 0 ≤ i ∧ i < ((n : Nat) : Int), layA cs (Int.toNat i * 1) [.int .u32 (IntKind.u32.wrap (IntKind.u64.wrap ((IntKind.u64.wrap ((IntKind.u64.wrap x) - c)) - (IntKind.u64.wrap y))))] = some ds]) TWA_holds 300 [.b true, .v (.int .u32 x), .b true, .v (.int .u32 y), .l ds] [0, 1, 4, 5, 6, 13, 14] (by kernel_rfl) ⟨c1, n1, n2, c2, n3, n4, (by decide), n5, n6, trivial⟩
theorem Try.k157_2 (la : Nat) (xa : List AV) (lb : Nat) (xb : List AV) (n : Nat) (cs : List AV) (c : Int) (m : Int) (i : Int) (ds : List AV) (x : Int) (c1 : (decide (i < m)) = true) (c2 : (decide (i < ((lb : Nat) : Int))) = false) (n1 : 0 ≤ i ∧ i < ((la : Nat) : Int)) (n2 : takeA (List.drop (Int.toNat i * 1) xa) 0 1 true = some (.int .u32 x)) (n3 : 0 ≤ i ∧ i < ((n : Nat) : Int)) (n4 : layA cs (Int.toNat i * 1) [.int .u32 (IntKind.u32.wrap (IntKind.u64.wrap ((IntKind.u64.wrap x) - c)))] = some ds) : RunsW Try.ir Try.c157 (Try.s157 la xa lb xb n cs c m i) .norm (Try.s157 la xa lb xb n ds (Int.fdiv (IntKind.u64.wrap ((IntKind.u64.wrap x) - c)) (2 ^ (min (Int.toNat 63) (IntKind.bits .u64)))) m (IntKind.i64.wrap (i + 1))) :=
  RunsW.script (ps := [(decide (i < m)) = true, 0 ≤ i ∧ i < ((la : Nat) : Int), takeA (List.drop (Int.toNat i * 1) xa) 0 1 true = some (.int .u32 x), (decide (i < ((lb : Nat) : Int))) = false, ¬ (63 : Int) < 0, 0 ≤ i ∧ i < ((n : Nat) : Int), layA cs (Int.toNat i * 1) [.int .u32 (IntKind.u32.wrap (IntKind.u64.wrap ((IntKind.u64.wrap x) - c)))] = some ds]) TWA_holds 300 [.b true, .v (.int .u32 x), .b false, .l ds] [0, 1, 4, 5, 6, 13, 14] (by kernel_rfl) ⟨c1, n1, n2, c2, (by decide), n3, n4, trivial⟩
theorem Try.k157_3 (la : Nat) (xa : List AV) (lb : Nat) (xb : List AV) (n : Nat) (cs : List AV) (c : Int) (m : Int) (i : Int) (c1 : (decide (i < m)) = false) : RunsW Try.ir Try.c157 (Try.s157 la xa lb xb n cs c m i) (.exit 0) (Try.s157 la xa lb xb n cs c m i) :=
  RunsW.script (ps := [(decide (i < m)) = false]) TWA_holds 300 [.b false] [0, 1, 4, 5, 6, 13, 14] (by kernel_rfl) ⟨c1, trivial⟩
theorem Try.loop157 (xs ys : List Int) (hx : U32 xs) (hy : U32 ys) (n : Nat) (hn : n ≤ 1048576) (hxn : xs.length ≤ n) : ∀ (r i : Nat) (o : List Int) (c : Int), r + i = xs.length → o.length = n → U32 o → 0 ≤ c ∧ c ≤ 1 →
    RunsW Try.ir (.loop Try.c157) (Try.s157 xs.length (lm xs) ys.length (lm ys) n (lm o) c ((xs.length : Nat) : Int) ((i : Nat) : Int)) (.exit 0)
      (Try.s157 xs.length (lm xs) ys.length (lm ys) n (lm (subGo xs ys r i o c).1) (subGo xs ys r i o c).2 ((xs.length : Nat) : Int) ((xs.length : Nat) : Int)) := by
  intro r
  induction r with
  | zero =>
    intro i o c hi _ _ _
    have hi' : i = xs.length := by omega
    subst hi'
    exact RunsW.loop_out (Try.k157_3 xs.length (lm xs) ys.length (lm ys) n (lm o) c ((xs.length : Nat) : Int) ((xs.length : Nat) : Int) (by simp)) (by intro e; cases e)
  | succ r ih =>
    intro i o c hi hlo hu hc
    have h1 := getD_u32 hx i
    have h2 := getD_u32 hy i
    have ei : IntKind.i64.wrap (((i : Nat) : Int) + 1) = ((i + 1 : Nat) : Int) := by rw [w64 (by omega) (by omega)]; omega
    have hxi := take_lim (xs := xs) (i := i) (by omega)
    have hst := lay_lim (xs := o) (i := i) (v := (xs.getD i 0 - c - ys.getD i 0) % 4294967296) (by omega)
    by_cases hy2 : i < ys.length
    · have hyi := take_lim (xs := ys) (i := i) hy2
      have eW : IntKind.u32.wrap (IntKind.u64.wrap (IntKind.u64.wrap (IntKind.u64.wrap (xs.getD i 0) - c) - IntKind.u64.wrap (ys.getD i 0))) = (xs.getD i 0 - c - ys.getD i 0) % 4294967296 := by rw [wu32, wu64m, wu64m, wu64m, wu64m]; omega
      have eC : Int.fdiv (IntKind.u64.wrap (IntKind.u64.wrap (IntKind.u64.wrap (xs.getD i 0) - c) - IntKind.u64.wrap (ys.getD i 0))) (2 ^ (min (Int.toNat 63) (IntKind.bits .u64))) = (-((xs.getD i 0 - c - ys.getD i 0) / 4294967296)) := by
        show Int.fdiv _ 9223372036854775808 = _
        rw [Int.fdiv_eq_ediv_of_nonneg _ (by omega), wu64m, wu64m, wu64m, wu64m]; omega
      have k := Try.k157_1 xs.length (lm xs) ys.length (lm ys) n (lm o) c ((xs.length : Nat) : Int) ((i : Nat) : Int) (lm (o.set i ((xs.getD i 0 - c - ys.getD i 0) % 4294967296))) (xs.getD i 0) (ys.getD i 0)
        (by simp; omega) (by simp; omega) (by omega) (by rw [Int.toNat_natCast]; exact hxi) (by omega) (by rw [Int.toNat_natCast]; exact hyi) (by omega) (by rw [Int.toNat_natCast, eW]; exact hst)
      rw [eC, ei] at k
      exact RunsW.loop k (ih (i + 1) _ _ (by omega) (by simpa using hlo) (u32_set hu (by omega)) (by omega))
    · have hy0 := getD_end (xs := ys) (i := i) (by omega)
      have eW : IntKind.u32.wrap (IntKind.u64.wrap (IntKind.u64.wrap (xs.getD i 0) - c)) = (xs.getD i 0 - c - ys.getD i 0) % 4294967296 := by rw [wu32, wu64m, wu64m]; omega
      have eC : Int.fdiv (IntKind.u64.wrap (IntKind.u64.wrap (xs.getD i 0) - c)) (2 ^ (min (Int.toNat 63) (IntKind.bits .u64))) = (-((xs.getD i 0 - c - ys.getD i 0) / 4294967296)) := by
        show Int.fdiv _ 9223372036854775808 = _
        rw [Int.fdiv_eq_ediv_of_nonneg _ (by omega), wu64m, wu64m]; omega
      have k := Try.k157_2 xs.length (lm xs) ys.length (lm ys) n (lm o) c ((xs.length : Nat) : Int) ((i : Nat) : Int) (lm (o.set i ((xs.getD i 0 - c - ys.getD i 0) % 4294967296))) (xs.getD i 0)
        (by simp; omega) (by simp; omega) (by omega) (by rw [Int.toNat_natCast]; exact hxi) (by omega) (by rw [Int.toNat_natCast, eW]; exact hst)
      rw [eC, ei] at k
      exact RunsW.loop k (ih (i + 1) _ _ (by omega) (by simpa using hlo) (u32_set hu (by omega)) (by omega))

theorem Try.run156_sw (xs ys o : List Int) (c : Int) (h : (decide (((xs.length : Nat) : Int) < ((ys.length : Nat) : Int))) = true) (hmk : 0 ≤ IntKind.i64.wrap (((ys.length : Nat) : Int) + 1) ∧ IntKind.i64.wrap (((ys.length : Nat) : Int) + 1) ≤ 1048576)
    (hl : RunsW Try.ir (.loop Try.c156) (Try.s156 ys.length (lm ys) xs.length (lm xs) (Int.toNat (IntKind.i64.wrap (((ys.length : Nat) : Int) + 1))) (replA [.int .u32 0] (Int.toNat (IntKind.i64.wrap (((ys.length : Nat) : Int) + 1)))) 0 ((ys.length : Nat) : Int) 0) (.exit 0) (Try.s156 ys.length (lm ys) xs.length (lm xs) (Int.toNat (IntKind.i64.wrap (((ys.length : Nat) : Int) + 1))) (lm o) c ((ys.length : Nat) : Int) ((ys.length : Nat) : Int)))
    (hix : 0 ≤ ((ys.length : Nat) : Int) ∧ ((ys.length : Nat) : Int) < (((Int.toNat (IntKind.i64.wrap (((ys.length : Nat) : Int) + 1))) : Nat) : Int)) (hst : layA (lm o) (Int.toNat ((ys.length : Nat) : Int) * 1) [.int .u32 (IntKind.u32.wrap c)] = some (lm (o.set ys.length c))) :
    Runs Try.ir 156 [.sl xs.length (lm xs), .sl ys.length (lm ys)] (.fresh 1 (Int.toNat (IntKind.i64.wrap (((ys.length : Nat) : Int) + 1))) (lm (o.set ys.length c))) :=
  Runs.of_bodyW (fn := Try.i156) (s := (.val (.sl ys.length (lm ys)) :: (.val (.sl xs.length (lm xs)) :: (dds 2 (.own 1 (Int.toNat (IntKind.i64.wrap (((ys.length : Nat) : Int) + 1))) (lm (o.set ys.length c)) :: (dds 1 (.val (.int .u64 c) :: (dds 14 (.val (.int .i64 ((ys.length : Nat) : Int)) :: (.val (.int .i64 ((ys.length : Nat) : Int)) :: (dds 28 (.dup 5 :: (.val (.sl ys.length (lm ys)) :: (.val (.int .i64 ((ys.length : Nat) : Int)) :: (.val (.int .u64 c) :: (.val (.int .u32 (IntKind.u32.wrap c)) :: (.ptr 5 (Int.toNat ((ys.length : Nat) : Int) * 1) :: (dds 1 [])))))))))))))))))) (ex := .ret) rfl rfl
    (RunsW.seq (RunsW.script (t := (.val (.sl xs.length (lm xs)) :: (.val (.sl ys.length (lm ys)) :: (dds 2 (.own 1 0 [] :: (dds 53 [])))))) (ex := .norm) (ps := []) TWA_holds 300 [] [0, 1, 4] (by kernel_rfl) trivial)
    (RunsW.seq (RunsW.script (t := (.val (.sl ys.length (lm ys)) :: (.val (.sl xs.length (lm xs)) :: (dds 2 (.own 1 0 [] :: (dds 4 (.val (.sl xs.length (lm xs)) :: (.val (.int .i64 ((xs.length : Nat) : Int)) :: (.val (.sl ys.length (lm ys)) :: (.val (.int .i64 ((ys.length : Nat) : Int)) :: (.val (.bool (decide (((xs.length : Nat) : Int) < ((ys.length : Nat) : Int)))) :: (.val (.sl ys.length (lm ys)) :: (.val (.sl xs.length (lm xs)) :: (dds 42 [])))))))))))))) (ex := .norm) (ps := [(decide (((xs.length : Nat) : Int) < ((ys.length : Nat) : Int))) = true]) TWA_holds 300 [.b true] [0, 1, 4, 9, 10, 11, 12, 13, 14, 15] (by kernel_rfl) ⟨h, trivial⟩)
    (RunsW.seq (RunsW.script (t := (.val (.sl ys.length (lm ys)) :: (.val (.sl xs.length (lm xs)) :: (dds 2 (.own 1 0 [] :: (.own 1 (Int.toNat (IntKind.i64.wrap (((ys.length : Nat) : Int) + 1))) (replA [.int .u32 0] (Int.toNat (IntKind.i64.wrap (((ys.length : Nat) : Int) + 1)))) :: (dds 3 (.val (.sl xs.length (lm xs)) :: (.val (.int .i64 ((xs.length : Nat) : Int)) :: (.val (.sl ys.length (lm ys)) :: (.val (.int .i64 ((ys.length : Nat) : Int)) :: (.val (.bool (decide (((xs.length : Nat) : Int) < ((ys.length : Nat) : Int)))) :: (.val (.sl ys.length (lm ys)) :: (.val (.sl xs.length (lm xs)) :: (.val (.sl ys.length (lm ys)) :: (.val (.int .i64 ((ys.length : Nat) : Int)) :: (.val (.int .i64 (IntKind.i64.wrap (((ys.length : Nat) : Int) + 1))) :: (dds 39 [])))))))))))))))))) (ex := .norm) (ps := [0 ≤ (IntKind.i64.wrap (((ys.length : Nat) : Int) + 1)) ∧ (IntKind.i64.wrap (((ys.length : Nat) : Int) + 1)) ≤ 1048576]) TWA_holds 300 [] [0, 1, 4, 5, 9, 10, 11, 12, 13, 14, 15, 16, 17, 18] (by kernel_rfl) ⟨hmk, trivial⟩)
    (RunsW.seq (RunsW.script (t := (.val (.sl ys.length (lm ys)) :: (.val (.sl xs.length (lm xs)) :: (dds 2 (.own 1 0 [] :: (.own 1 (Int.toNat (IntKind.i64.wrap (((ys.length : Nat) : Int) + 1))) (replA [.int .u32 0] (Int.toNat (IntKind.i64.wrap (((ys.length : Nat) : Int) + 1)))) :: (.val (.int .u64 0) :: (dds 2 (.val (.sl xs.length (lm xs)) :: (.val (.int .i64 ((xs.length : Nat) : Int)) :: (.val (.sl ys.length (lm ys)) :: (.val (.int .i64 ((ys.length : Nat) : Int)) :: (.val (.bool (decide (((xs.length : Nat) : Int) < ((ys.length : Nat) : Int)))) :: (.val (.sl ys.length (lm ys)) :: (.val (.sl xs.length (lm xs)) :: (.val (.sl ys.length (lm ys)) :: (.val (.int .i64 ((ys.length : Nat) : Int)) :: (.val (.int .i64 (IntKind.i64.wrap (((ys.length : Nat) : Int) + 1))) :: (dds 39 []))))))))))))))))))) (ex := .norm) (ps := []) TWA_holds 300 [] [0, 1, 4, 5, 6, 9, 10, 11, 12, 13, 14, 15, 16, 17, 18] (by kernel_rfl) trivial)
    (RunsW.seq (RunsW.seq (RunsW.script (t := (.val (.sl ys.length (lm ys)) :: (.val (.sl xs.length (lm xs)) :: (dds 2 (.own 1 0 [] :: (.own 1 (Int.toNat (IntKind.i64.wrap (((ys.length : Nat) : Int) + 1))) (replA [.int .u32 0] (Int.toNat (IntKind.i64.wrap (((ys.length : Nat) : Int) + 1)))) :: (.val (.int .u64 0) :: (dds 14 (.val (.int .i64 ((ys.length : Nat) : Int)) :: (.val (.int .i64 0) :: (dds 35 []))))))))))) (ex := .norm) (ps := []) TWA_holds 300 [] [0, 1, 4, 5, 6, 21, 22] (by kernel_rfl) trivial)
    (RunsW.block hl))
    (RunsW.script (t := (.val (.sl ys.length (lm ys)) :: (.val (.sl xs.length (lm xs)) :: (dds 2 (.own 1 (Int.toNat (IntKind.i64.wrap (((ys.length : Nat) : Int) + 1))) (lm (o.set ys.length c)) :: (dds 1 (.val (.int .u64 c) :: (dds 14 (.val (.int .i64 ((ys.length : Nat) : Int)) :: (.val (.int .i64 ((ys.length : Nat) : Int)) :: (dds 28 (.dup 5 :: (.val (.sl ys.length (lm ys)) :: (.val (.int .i64 ((ys.length : Nat) : Int)) :: (.val (.int .u64 c) :: (.val (.int .u32 (IntKind.u32.wrap c)) :: (.ptr 5 (Int.toNat ((ys.length : Nat) : Int) * 1) :: (dds 1 [])))))))))))))))))) (ex := .ret) (ps := [0 ≤ ((ys.length : Nat) : Int) ∧ ((ys.length : Nat) : Int) < (((Int.toNat (IntKind.i64.wrap (((ys.length : Nat) : Int) + 1))) : Nat) : Int), layA (lm o) (Int.toNat ((ys.length : Nat) : Int) * 1) [.int .u32 (IntKind.u32.wrap c)] = some (lm (o.set ys.length c))]) TWA_holds 300 [.l (lm (o.set ys.length c))] [0, 1, 4, 6, 21, 22, 51, 52, 53, 54, 55, 56] (by kernel_rfl) ⟨hix, hst, trivial⟩)))))) (by intro i e; cases e) rfl

theorem Try.run156_no (xs ys o : List Int) (c : Int) (h : (decide (((xs.length : Nat) : Int) < ((ys.length : Nat) : Int))) = false) (hmk : 0 ≤ IntKind.i64.wrap (((xs.length : Nat) : Int) + 1) ∧ IntKind.i64.wrap (((xs.length : Nat) : Int) + 1) ≤ 1048576)
    (hl : RunsW Try.ir (.loop Try.c156) (Try.s156 xs.length (lm xs) ys.length (lm ys) (Int.toNat (IntKind.i64.wrap (((xs.length : Nat) : Int) + 1))) (replA [.int .u32 0] (Int.toNat (IntKind.i64.wrap (((xs.length : Nat) : Int) + 1)))) 0 ((xs.length : Nat) : Int) 0) (.exit 0) (Try.s156 xs.length (lm xs) ys.length (lm ys) (Int.toNat (IntKind.i64.wrap (((xs.length : Nat) : Int) + 1))) (lm o) c ((xs.length : Nat) : Int) ((xs.length : Nat) : Int)))
    (hix : 0 ≤ ((xs.length : Nat) : Int) ∧ ((xs.length : Nat) : Int) < (((Int.toNat (IntKind.i64.wrap (((xs.length : Nat) : Int) + 1))) : Nat) : Int)) (hst : layA (lm o) (Int.toNat ((xs.length : Nat) : Int) * 1) [.int .u32 (IntKind.u32.wrap c)] = some (lm (o.set xs.length c))) :
    Runs Try.ir 156 [.sl xs.length (lm xs), .sl ys.length (lm ys)] (.fresh 1 (Int.toNat (IntKind.i64.wrap (((xs.length : Nat) : Int) + 1))) (lm (o.set xs.length c))) :=
  Runs.of_bodyW (fn := Try.i156) (s := (.val (.sl xs.length (lm xs)) :: (.val (.sl ys.length (lm ys)) :: (dds 2 (.own 1 (Int.toNat (IntKind.i64.wrap (((xs.length : Nat) : Int) + 1))) (lm (o.set xs.length c)) :: (dds 1 (.val (.int .u64 c) :: (dds 14 (.val (.int .i64 ((xs.length : Nat) : Int)) :: (.val (.int .i64 ((xs.length : Nat) : Int)) :: (dds 28 (.dup 5 :: (.val (.sl xs.length (lm xs)) :: (.val (.int .i64 ((xs.length : Nat) : Int)) :: (.val (.int .u64 c) :: (.val (.int .u32 (IntKind.u32.wrap c)) :: (.ptr 5 (Int.toNat ((xs.length : Nat) : Int) * 1) :: (dds 1 [])))))))))))))))))) (ex := .ret) rfl rfl
    (RunsW.seq (RunsW.script (t := (.val (.sl xs.length (lm xs)) :: (.val (.sl ys.length (lm ys)) :: (dds 2 (.own 1 0 [] :: (dds 53 [])))))) (ex := .norm) (ps := []) TWA_holds 300 [] [0, 1, 4] (by kernel_rfl) trivial)
    (RunsW.seq (RunsW.script (t := (.val (.sl xs.length (lm xs)) :: (.val (.sl ys.length (lm ys)) :: (dds 2 (.own 1 0 [] :: (dds 4 (.val (.sl xs.length (lm xs)) :: (.val (.int .i64 ((xs.length : Nat) : Int)) :: (.val (.sl ys.length (lm ys)) :: (.val (.int .i64 ((ys.length : Nat) : Int)) :: (.val (.bool (decide (((xs.length : Nat) : Int) < ((ys.length : Nat) : Int)))) :: (dds 44 [])))))))))))) (ex := .norm) (ps := [(decide (((xs.length : Nat) : Int) < ((ys.length : Nat) : Int))) = false]) TWA_holds 300 [.b false] [0, 1, 4, 9, 10, 11, 12, 13] (by kernel_rfl) ⟨h, trivial⟩)
    (RunsW.seq (RunsW.script (t := (.val (.sl xs.length (lm xs)) :: (.val (.sl ys.length (lm ys)) :: (dds 2 (.own 1 0 [] :: (.own 1 (Int.toNat (IntKind.i64.wrap (((xs.length : Nat) : Int) + 1))) (replA [.int .u32 0] (Int.toNat (IntKind.i64.wrap (((xs.length : Nat) : Int) + 1)))) :: (dds 3 (.val (.sl xs.length (lm xs)) :: (.val (.int .i64 ((xs.length : Nat) : Int)) :: (.val (.sl ys.length (lm ys)) :: (.val (.int .i64 ((ys.length : Nat) : Int)) :: (.val (.bool (decide (((xs.length : Nat) : Int) < ((ys.length : Nat) : Int)))) :: (dds 2 (.val (.sl xs.length (lm xs)) :: (.val (.int .i64 ((xs.length : Nat) : Int)) :: (.val (.int .i64 (IntKind.i64.wrap (((xs.length : Nat) : Int) + 1))) :: (dds 39 []))))))))))))))))) (ex := .norm) (ps := [0 ≤ (IntKind.i64.wrap (((xs.length : Nat) : Int) + 1)) ∧ (IntKind.i64.wrap (((xs.length : Nat) : Int) + 1)) ≤ 1048576]) TWA_holds 300 [] [0, 1, 4, 5, 9, 10, 11, 12, 13, 16, 17, 18] (by kernel_rfl) ⟨hmk, trivial⟩)
    (RunsW.seq (RunsW.script (t := (.val (.sl xs.length (lm xs)) :: (.val (.sl ys.length (lm ys)) :: (dds 2 (.own 1 0 [] :: (.own 1 (Int.toNat (IntKind.i64.wrap (((xs.length : Nat) : Int) + 1))) (replA [.int .u32 0] (Int.toNat (IntKind.i64.wrap (((xs.length : Nat) : Int) + 1)))) :: (.val (.int .u64 0) :: (dds 2 (.val (.sl xs.length (lm xs)) :: (.val (.int .i64 ((xs.length : Nat) : Int)) :: (.val (.sl ys.length (lm ys)) :: (.val (.int .i64 ((ys.length : Nat) : Int)) :: (.val (.bool (decide (((xs.length : Nat) : Int) < ((ys.length : Nat) : Int)))) :: (dds 2 (.val (.sl xs.length (lm xs)) :: (.val (.int .i64 ((xs.length : Nat) : Int)) :: (.val (.int .i64 (IntKind.i64.wrap (((xs.length : Nat) : Int) + 1))) :: (dds 39 [])))))))))))))))))) (ex := .norm) (ps := []) TWA_holds 300 [] [0, 1, 4, 5, 6, 9, 10, 11, 12, 13, 16, 17, 18] (by kernel_rfl) trivial)
    (RunsW.seq (RunsW.seq (RunsW.script (t := (.val (.sl xs.length (lm xs)) :: (.val (.sl ys.length (lm ys)) :: (dds 2 (.own 1 0 [] :: (.own 1 (Int.toNat (IntKind.i64.wrap (((xs.length : Nat) : Int) + 1))) (replA [.int .u32 0] (Int.toNat (IntKind.i64.wrap (((xs.length : Nat) : Int) + 1)))) :: (.val (.int .u64 0) :: (dds 14 (.val (.int .i64 ((xs.length : Nat) : Int)) :: (.val (.int .i64 0) :: (dds 35 []))))))))))) (ex := .norm) (ps := []) TWA_holds 300 [] [0, 1, 4, 5, 6, 21, 22] (by kernel_rfl) trivial)
    (RunsW.block hl))
    (RunsW.script (t := (.val (.sl xs.length (lm xs)) :: (.val (.sl ys.length (lm ys)) :: (dds 2 (.own 1 (Int.toNat (IntKind.i64.wrap (((xs.length : Nat) : Int) + 1))) (lm (o.set xs.length c)) :: (dds 1 (.val (.int .u64 c) :: (dds 14 (.val (.int .i64 ((xs.length : Nat) : Int)) :: (.val (.int .i64 ((xs.length : Nat) : Int)) :: (dds 28 (.dup 5 :: (.val (.sl xs.length (lm xs)) :: (.val (.int .i64 ((xs.length : Nat) : Int)) :: (.val (.int .u64 c) :: (.val (.int .u32 (IntKind.u32.wrap c)) :: (.ptr 5 (Int.toNat ((xs.length : Nat) : Int) * 1) :: (dds 1 [])))))))))))))))))) (ex := .ret) (ps := [0 ≤ ((xs.length : Nat) : Int) ∧ ((xs.length : Nat) : Int) < (((Int.toNat (IntKind.i64.wrap (((xs.length : Nat) : Int) + 1))) : Nat) : Int), layA (lm o) (Int.toNat ((xs.length : Nat) : Int) * 1) [.int .u32 (IntKind.u32.wrap c)] = some (lm (o.set xs.length c))]) TWA_holds 300 [.l (lm (o.set xs.length c))] [0, 1, 4, 6, 21, 22, 51, 52, 53, 54, 55, 56] (by kernel_rfl) ⟨hix, hst, trivial⟩)))))) (by intro i e; cases e) rfl

theorem addLimbs_any {xs ys : List Int} (hx : U32 xs) (hy : U32 ys) (hl : ys.length ≤ xs.length) (hN : xs.length < 1048576) : ∃ o c, (o : List Int).length = xs.length + 1 ∧ U32 (o.set xs.length c) ∧ valL (o.set xs.length c) = valL xs + valL ys ∧ (0 ≤ c ∧ c ≤ 1) ∧
    RunsW Try.ir (.loop Try.c156) (Try.s156 xs.length (lm xs) ys.length (lm ys) (xs.length + 1) (lm (List.replicate (xs.length + 1) 0)) 0 ((xs.length : Nat) : Int) 0) (.exit 0) (Try.s156 xs.length (lm xs) ys.length (lm ys) (xs.length + 1) (lm o) c ((xs.length : Nat) : Int) ((xs.length : Nat) : Int)) := by
  have hg := Try.loop156 xs ys hx hy (xs.length + 1) (by omega) (by omega) xs.length 0 (List.replicate (xs.length + 1) 0) 0 (by omega) (by simp) (u32_zeros _) (by omega)
  cases e : addGo xs ys xs.length 0 (List.replicate (xs.length + 1) 0) 0 with
  | mk o c =>
    obtain ⟨g1, g2, g3, g4, g5⟩ := add_whole hx hy hl o c e
    rw [e] at hg
    exact ⟨o, c, g1, g4, g5, g3, hg⟩
theorem addLimbs_run {xs ys : List Int} (hx : U32 xs) (hy : U32 ys) (h1 : xs.length < 1048576) (h2 : ys.length < 1048576) : ∃ zs, U32 zs ∧ valL zs = valL xs + valL ys ∧ zs.length ≤ 1048576 ∧ Runs Try.ir 156 [.sl xs.length (lm xs), .sl ys.length (lm ys)] (.fresh 1 zs.length (lm zs)) := by
  by_cases hlt : xs.length < ys.length
  · obtain ⟨o, c, g1, g2, g3, g4, g5⟩ := addLimbs_any hy hx (by omega) h2
    have e1 : IntKind.i64.wrap (((ys.length : Nat) : Int) + 1) = ((ys.length + 1 : Nat) : Int) := by rw [w64 (by omega) (by omega)]; omega
    have e2 : Int.toNat (IntKind.i64.wrap (((ys.length : Nat) : Int) + 1)) = ys.length + 1 := by rw [e1, Int.toNat_natCast]
    have hst := lay_lim (xs := o) (i := ys.length) (v := c) (by omega)
    have h := Try.run156_sw xs ys o c (by simp; omega) (by rw [e1]; omega) (by rw [e2, repl_lim]; exact g5) (by rw [e2]; omega) (by rw [Int.toNat_natCast, wu32, Int.emod_eq_of_lt (by omega) (by omega)]; exact hst)
    refine ⟨o.set ys.length c, g2, by rw [g3, Int.add_comm], by simp; omega, ?_⟩
    rw [e2] at h
    rw [List.length_set, g1]
    exact h
  · obtain ⟨o, c, g1, g2, g3, g4, g5⟩ := addLimbs_any hx hy (by omega) h1
    have e1 : IntKind.i64.wrap (((xs.length : Nat) : Int) + 1) = ((xs.length + 1 : Nat) : Int) := by rw [w64 (by omega) (by omega)]; omega
    have e2 : Int.toNat (IntKind.i64.wrap (((xs.length : Nat) : Int) + 1)) = xs.length + 1 := by rw [e1, Int.toNat_natCast]
    have hst := lay_lim (xs := o) (i := xs.length) (v := c) (by omega)
    have h := Try.run156_no xs ys o c (by simp; omega) (by rw [e1]; omega) (by rw [e2, repl_lim]; exact g5) (by rw [e2]; omega) (by rw [Int.toNat_natCast, wu32, Int.emod_eq_of_lt (by omega) (by omega)]; exact hst)
    refine ⟨o.set xs.length c, g2, g3, by simp; omega, ?_⟩
    rw [e2] at h
    rw [List.length_set, g1]
    exact h

theorem Try.run157 (xs ys o : List Int) (c : Int) (hmk : 0 ≤ ((xs.length : Nat) : Int) ∧ ((xs.length : Nat) : Int) ≤ 1048576)
    (hl : RunsW Try.ir (.loop Try.c157) (Try.s157 xs.length (lm xs) ys.length (lm ys) (Int.toNat ((xs.length : Nat) : Int)) (replA [.int .u32 0] (Int.toNat ((xs.length : Nat) : Int))) 0 ((xs.length : Nat) : Int) 0) (.exit 0) (Try.s157 xs.length (lm xs) ys.length (lm ys) (Int.toNat ((xs.length : Nat) : Int)) (lm o) c ((xs.length : Nat) : Int) ((xs.length : Nat) : Int))) :
    Runs Try.ir 157 [.sl xs.length (lm xs), .sl ys.length (lm ys)] (.fresh 1 (Int.toNat ((xs.length : Nat) : Int)) (lm o)) :=
  Runs.of_bodyW (fn := Try.i157) (s := (.val (.sl xs.length (lm xs)) :: (.val (.sl ys.length (lm ys)) :: (dds 2 (.own 1 (Int.toNat ((xs.length : Nat) : Int)) (lm o) :: (dds 1 (.val (.int .u64 c) :: (dds 6 (.val (.int .i64 ((xs.length : Nat) : Int)) :: (.val (.int .i64 ((xs.length : Nat) : Int)) :: (dds 29 []))))))))))) (ex := .ret) rfl rfl
    (RunsW.seq (RunsW.script (t := (.val (.sl xs.length (lm xs)) :: (.val (.sl ys.length (lm ys)) :: (dds 2 (.own 1 0 [] :: (dds 39 [])))))) (ex := .norm) (ps := []) TWA_holds 300 [] [0, 1, 4] (by kernel_rfl) trivial)
    (RunsW.seq (RunsW.script (t := (.val (.sl xs.length (lm xs)) :: (.val (.sl ys.length (lm ys)) :: (dds 2 (.own 1 0 [] :: (.own 1 (Int.toNat ((xs.length : Nat) : Int)) (replA [.int .u32 0] (Int.toNat ((xs.length : Nat) : Int))) :: (dds 3 (.val (.sl xs.length (lm xs)) :: (.val (.int .i64 ((xs.length : Nat) : Int)) :: (dds 33 [])))))))))) (ex := .norm) (ps := [0 ≤ ((xs.length : Nat) : Int) ∧ ((xs.length : Nat) : Int) ≤ 1048576]) TWA_holds 300 [] [0, 1, 4, 5, 9, 10] (by kernel_rfl) ⟨hmk, trivial⟩)
    (RunsW.seq (RunsW.script (t := (.val (.sl xs.length (lm xs)) :: (.val (.sl ys.length (lm ys)) :: (dds 2 (.own 1 0 [] :: (.own 1 (Int.toNat ((xs.length : Nat) : Int)) (replA [.int .u32 0] (Int.toNat ((xs.length : Nat) : Int))) :: (.val (.int .u64 0) :: (dds 2 (.val (.sl xs.length (lm xs)) :: (.val (.int .i64 ((xs.length : Nat) : Int)) :: (dds 33 []))))))))))) (ex := .norm) (ps := []) TWA_holds 300 [] [0, 1, 4, 5, 6, 9, 10] (by kernel_rfl) trivial)
    (RunsW.seq (RunsW.seq (RunsW.script (t := (.val (.sl xs.length (lm xs)) :: (.val (.sl ys.length (lm ys)) :: (dds 2 (.own 1 0 [] :: (.own 1 (Int.toNat ((xs.length : Nat) : Int)) (replA [.int .u32 0] (Int.toNat ((xs.length : Nat) : Int))) :: (.val (.int .u64 0) :: (dds 6 (.val (.int .i64 ((xs.length : Nat) : Int)) :: (.val (.int .i64 0) :: (dds 29 []))))))))))) (ex := .norm) (ps := []) TWA_holds 300 [] [0, 1, 4, 5, 6, 13, 14] (by kernel_rfl) trivial)
    (RunsW.block hl))
    (RunsW.script (t := (.val (.sl xs.length (lm xs)) :: (.val (.sl ys.length (lm ys)) :: (dds 2 (.own 1 (Int.toNat ((xs.length : Nat) : Int)) (lm o) :: (dds 1 (.val (.int .u64 c) :: (dds 6 (.val (.int .i64 ((xs.length : Nat) : Int)) :: (.val (.int .i64 ((xs.length : Nat) : Int)) :: (dds 29 []))))))))))) (ex := .ret) (ps := []) TWA_holds 300 [] [0, 1, 4, 6, 13, 14] (by kernel_rfl) trivial))))) (by intro i e; cases e) rfl
theorem subLimbs_run {xs ys : List Int} (hx : U32 xs) (hy : U32 ys) (hl : ys.length ≤ xs.length) (hv : valL ys ≤ valL xs) (hN : xs.length ≤ 1048576) : ∃ zs, U32 zs ∧ valL zs = valL xs - valL ys ∧ zs.length ≤ 1048576 ∧ Runs Try.ir 157 [.sl xs.length (lm xs), .sl ys.length (lm ys)] (.fresh 1 zs.length (lm zs)) := by
  have hg := Try.loop157 xs ys hx hy xs.length hN (Nat.le_refl _) xs.length 0 (List.replicate xs.length 0) 0 (by omega) (by simp) (u32_zeros _) (by omega)
  cases e : subGo xs ys xs.length 0 (List.replicate xs.length 0) 0 with
  | mk o c =>
    obtain ⟨g1, g2, g3⟩ := sub_whole hx hy hl hv o c e
    rw [e] at hg
    have h := Try.run157 xs ys o c (by omega) (by rw [Int.toNat_natCast, repl_lim]; exact hg)
    rw [Int.toNat_natCast] at h
    refine ⟨o, g2, g3, by omega, ?_⟩
    rw [g1]
    exact h

theorem Try.run148_a (na : Bool) (p : Nat) (nb : Bool) (q : Nat) (zs : List Int) (r : Int) (h : (na == nb) = true) (h1 : Runs Try.ir 156 [.sl (limbs p).length (lm (limbs p)), .sl (limbs q).length (lm (limbs q))] (.fresh 1 zs.length (lm zs))) (h2 : Runs Try.ir 133 [.bool na, .sl zs.length (lm zs)] (.agg [.bool (decide (r < 0)), .sl ((limbs (Int.natAbs r)).length) (lm (limbs (Int.natAbs r)))])) : Runs Try.ir 148 [.bool na, .sl ((limbs p).length) (lm (limbs p)), .bool nb, .sl ((limbs q).length) (lm (limbs q))] (.agg [.bool (decide (r < 0)), .sl ((limbs (Int.natAbs r)).length) (lm (limbs (Int.natAbs r)))]) :=
  Runs.script (ps := [(na == nb) = true, Runs Try.ir 156 [.sl ((limbs p).length) (lm (limbs p)), .sl ((limbs q).length) (lm (limbs q))] (.fresh 1 zs.length (lm zs)), Runs Try.ir 133 [.bool na, .sl zs.length (lm zs)] (.agg [.bool (decide (r < 0)), .sl ((limbs (Int.natAbs r)).length) (lm (limbs (Int.natAbs r)))])]) TWA_holds rfl 300 rfl [.b true, .r (.fresh 1 zs.length (lm zs)), .r (.agg [.bool (decide (r < 0)), .sl ((limbs (Int.natAbs r)).length) (lm (limbs (Int.natAbs r)))])] (by kernel_rfl) ⟨h, h1, h2, trivial⟩

theorem Try.run148_b (na : Bool) (p : Nat) (nb : Bool) (q : Nat) (zs : List Int) (r : Int) (k : Int) (h : (na == nb) = false) (h3 : Runs Try.ir 150 [.sl (limbs p).length (lm (limbs p)), .sl (limbs q).length (lm (limbs q))] (.int .i64 k)) (hk : (decide (k ≥ 0)) = true) (h1 : Runs Try.ir 157 [.sl (limbs p).length (lm (limbs p)), .sl (limbs q).length (lm (limbs q))] (.fresh 1 zs.length (lm zs))) (h2 : Runs Try.ir 133 [.bool na, .sl zs.length (lm zs)] (.agg [.bool (decide (r < 0)), .sl ((limbs (Int.natAbs r)).length) (lm (limbs (Int.natAbs r)))])) : Runs Try.ir 148 [.bool na, .sl ((limbs p).length) (lm (limbs p)), .bool nb, .sl ((limbs q).length) (lm (limbs q))] (.agg [.bool (decide (r < 0)), .sl ((limbs (Int.natAbs r)).length) (lm (limbs (Int.natAbs r)))]) :=
  Runs.script (ps := [(na == nb) = false, Runs Try.ir 150 [.sl ((limbs p).length) (lm (limbs p)), .sl ((limbs q).length) (lm (limbs q))] (.int .i64 k), (decide (k ≥ 0)) = true, Runs Try.ir 157 [.sl ((limbs p).length) (lm (limbs p)), .sl ((limbs q).length) (lm (limbs q))] (.fresh 1 zs.length (lm zs)), Runs Try.ir 133 [.bool na, .sl zs.length (lm zs)] (.agg [.bool (decide (r < 0)), .sl ((limbs (Int.natAbs r)).length) (lm (limbs (Int.natAbs r)))])]) TWA_holds rfl 300 rfl [.b false, .r (.int .i64 k), .b true, .r (.fresh 1 zs.length (lm zs)), .r (.agg [.bool (decide (r < 0)), .sl ((limbs (Int.natAbs r)).length) (lm (limbs (Int.natAbs r)))])] (by kernel_rfl) ⟨h, h3, hk, h1, h2, trivial⟩

theorem Try.run148_c (na : Bool) (p : Nat) (nb : Bool) (q : Nat) (zs : List Int) (r : Int) (k : Int) (h : (na == nb) = false) (h3 : Runs Try.ir 150 [.sl (limbs p).length (lm (limbs p)), .sl (limbs q).length (lm (limbs q))] (.int .i64 k)) (hk : (decide (k ≥ 0)) = false) (h1 : Runs Try.ir 157 [.sl (limbs q).length (lm (limbs q)), .sl (limbs p).length (lm (limbs p))] (.fresh 1 zs.length (lm zs))) (h2 : Runs Try.ir 133 [.bool nb, .sl zs.length (lm zs)] (.agg [.bool (decide (r < 0)), .sl ((limbs (Int.natAbs r)).length) (lm (limbs (Int.natAbs r)))])) : Runs Try.ir 148 [.bool na, .sl ((limbs p).length) (lm (limbs p)), .bool nb, .sl ((limbs q).length) (lm (limbs q))] (.agg [.bool (decide (r < 0)), .sl ((limbs (Int.natAbs r)).length) (lm (limbs (Int.natAbs r)))]) :=
  Runs.script (ps := [(na == nb) = false, Runs Try.ir 150 [.sl ((limbs p).length) (lm (limbs p)), .sl ((limbs q).length) (lm (limbs q))] (.int .i64 k), (decide (k ≥ 0)) = false, Runs Try.ir 157 [.sl ((limbs q).length) (lm (limbs q)), .sl ((limbs p).length) (lm (limbs p))] (.fresh 1 zs.length (lm zs)), Runs Try.ir 133 [.bool nb, .sl zs.length (lm zs)] (.agg [.bool (decide (r < 0)), .sl ((limbs (Int.natAbs r)).length) (lm (limbs (Int.natAbs r)))])]) TWA_holds rfl 300 rfl [.b false, .r (.int .i64 k), .b false, .r (.fresh 1 zs.length (lm zs)), .r (.agg [.bool (decide (r < 0)), .sl ((limbs (Int.natAbs r)).length) (lm (limbs (Int.natAbs r)))])] (by kernel_rfl) ⟨h, h3, hk, h1, h2, trivial⟩

theorem sum_run {na nb : Bool} {p q : Nat} (hp : (limbs p).length < 1048576) (hq : (limbs q).length < 1048576) : Runs Try.ir 148 [.bool na, .sl (limbs p).length (lm (limbs p)), .bool nb, .sl (limbs q).length (lm (limbs q))] (bigAV (rv na (limbs p) + rv nb (limbs q))) := by
  have up := big_u32 p
  have uq := big_u32 q
  by_cases e : na = nb
  · subst e
    obtain ⟨zs, z1, z2, z3, z4⟩ := addLimbs_run up uq hp hq
    have h2 := made_run (neg := na) z1 z3
    have ev : rv na zs = rv na (limbs p) + rv na (limbs q) := by
      unfold rv; rw [z2]; cases na <;> simp <;> omega
    rw [ev] at h2
    exact Try.run148_a na p na q zs _ (by simp) z4 h2
  · have hne : (na == nb) = false := by simpa using e
    have hc := cmpLimbs_run (limbs_canon p) (limbs_canon q) (by omega)
    have hnb : nb = !na := by cases na <;> cases nb <;> simp_all
    have lenle : ∀ {a b : Nat}, valL (limbs a) ≤ valL (limbs b) → (limbs a).length ≤ (limbs b).length := by
      intro a b h
      rcases Nat.lt_or_ge (limbs b).length (limbs a).length with g | g
      · have := canon_lt (limbs_canon b) (limbs_canon a) g; omega
      · exact g
    by_cases hk : valL (limbs q) ≤ valL (limbs p)
    · obtain ⟨zs, z1, z2, z3, z4⟩ := subLimbs_run up uq (lenle hk) hk (by omega)
      have h2 := made_run (neg := na) z1 z3
      have ev : rv na zs = rv na (limbs p) + rv nb (limbs q) := by
        subst hnb; unfold rv; rw [z2]; cases na <;> simp <;> omega
      rw [ev] at h2
      refine Try.run148_b na p nb q zs _ _ hne hc ?_ z4 h2
      unfold cmpI; rw [if_neg (by omega)]; split <;> rfl
    · obtain ⟨zs, z1, z2, z3, z4⟩ := subLimbs_run uq up (lenle (by omega)) (by omega) (by omega)
      have h2 := made_run (neg := nb) z1 z3
      have ev : rv nb zs = rv na (limbs p) + rv nb (limbs q) := by
        subst hnb; unfold rv; rw [z2]; cases na <;> simp <;> omega
      rw [ev] at h2
      refine Try.run148_c na p nb q zs _ _ hne hc ?_ z4 h2
      unfold cmpI; rw [if_pos (by omega)]; rfl

theorem Try.run121 (na : Bool) (xs : List Int) (nb : Bool) (ys : List Int) (a b r : Int) (h1 : Runs Try.ir 122 [.agg [.bool na, .sl xs.length (lm xs)]] (.tup [.bool (decide (a < 0)), .sl (limbs (Int.natAbs a)).length (lm (limbs (Int.natAbs a)))])) (h2 : Runs Try.ir 122 [.agg [.bool nb, .sl ys.length (lm ys)]] (.tup [.bool (decide (b < 0)), .sl (limbs (Int.natAbs b)).length (lm (limbs (Int.natAbs b)))])) (h3 : Runs Try.ir 148 [.bool (decide (a < 0)), .sl (limbs (Int.natAbs a)).length (lm (limbs (Int.natAbs a))), .bool (decide (b < 0)), .sl (limbs (Int.natAbs b)).length (lm (limbs (Int.natAbs b)))] (.agg [.bool (decide (r < 0)), .sl ((limbs (Int.natAbs r)).length) (lm (limbs (Int.natAbs r)))])) : Runs Try.ir 121 [.agg [.bool na, .sl xs.length (lm xs)], .agg [.bool nb, .sl ys.length (lm ys)]] (.agg [.bool (decide (r < 0)), .sl ((limbs (Int.natAbs r)).length) (lm (limbs (Int.natAbs r)))]) :=
  Runs.script (ps := [Runs Try.ir 122 [.agg [.bool na, .sl xs.length (lm xs)]] (.tup [.bool (decide (a < 0)), .sl ((limbs (Int.natAbs a)).length) (lm (limbs (Int.natAbs a)))]), Runs Try.ir 122 [.agg [.bool nb, .sl ys.length (lm ys)]] (.tup [.bool (decide (b < 0)), .sl ((limbs (Int.natAbs b)).length) (lm (limbs (Int.natAbs b)))]), Runs Try.ir 148 [.bool (decide (a < 0)), .sl ((limbs (Int.natAbs a)).length) (lm (limbs (Int.natAbs a))), .bool (decide (b < 0)), .sl ((limbs (Int.natAbs b)).length) (lm (limbs (Int.natAbs b)))] (.agg [.bool (decide (r < 0)), .sl ((limbs (Int.natAbs r)).length) (lm (limbs (Int.natAbs r)))])]) TWA_holds rfl 300 rfl [.r (.tup [.bool (decide (a < 0)), .sl ((limbs (Int.natAbs a)).length) (lm (limbs (Int.natAbs a)))]), .r (.tup [.bool (decide (b < 0)), .sl ((limbs (Int.natAbs b)).length) (lm (limbs (Int.natAbs b)))]), .r (.agg [.bool (decide (r < 0)), .sl ((limbs (Int.natAbs r)).length) (lm (limbs (Int.natAbs r)))])] (by kernel_rfl) ⟨h1, h2, h3, trivial⟩

theorem wadd_run {na nb : Bool} {xs ys : List Int} (hx : U32 xs) (hy : U32 ys) (h1 : xs.length < 1048576) (h2 : ys.length < 1048576) : Runs Try.ir 121 [.agg [.bool na, .sl xs.length (lm xs)], .agg [.bool nb, .sl ys.length (lm ys)]] (bigAV (rv na xs + rv nb ys)) := by
  have l1 := Nat.lt_of_le_of_lt (rv_len (neg := na) hx) h1
  have l2 := Nat.lt_of_le_of_lt (rv_len (neg := nb) hy) h2
  have h3 := sum_run (na := decide (rv na xs < 0)) (nb := decide (rv nb ys < 0)) l1 l2
  rw [rv_big, rv_big] at h3
  exact Try.run121 na xs nb ys (rv na xs) (rv nb ys) _ (limbs_run hx (by omega)) (limbs_run hy (by omega)) h3
theorem wadd_big {a b : Int} (h1 : (limbs a.natAbs).length < 1048576) (h2 : (limbs b.natAbs).length < 1048576) : Runs Try.ir 121 [bigAV a, bigAV b] (bigAV (a + b)) := by
  have := wadd_run (na := decide (a < 0)) (nb := decide (b < 0)) (big_u32 a.natAbs) (big_u32 b.natAbs) h1 h2
  rwa [rv_big, rv_big] at this

theorem Try.run114 (na : Bool) (xs : List Int) (nb : Bool) (ys : List Int) (a b r : Int) (h1 : Runs Try.ir 122 [.agg [.bool na, .sl xs.length (lm xs)]] (.tup [.bool (decide (a < 0)), .sl (limbs (Int.natAbs a)).length (lm (limbs (Int.natAbs a)))])) (h2 : Runs Try.ir 122 [.agg [.bool nb, .sl ys.length (lm ys)]] (.tup [.bool (decide (b < 0)), .sl (limbs (Int.natAbs b)).length (lm (limbs (Int.natAbs b)))])) (h3 : Runs Try.ir 148 [.bool (decide (a < 0)), .sl (limbs (Int.natAbs a)).length (lm (limbs (Int.natAbs a))), .bool (!(decide (b < 0))), .sl (limbs (Int.natAbs b)).length (lm (limbs (Int.natAbs b)))] (.agg [.bool (decide (r < 0)), .sl ((limbs (Int.natAbs r)).length) (lm (limbs (Int.natAbs r)))])) : Runs Try.ir 114 [.agg [.bool na, .sl xs.length (lm xs)], .agg [.bool nb, .sl ys.length (lm ys)]] (.agg [.bool (decide (r < 0)), .sl ((limbs (Int.natAbs r)).length) (lm (limbs (Int.natAbs r)))]) :=
  Runs.script (ps := [Runs Try.ir 122 [.agg [.bool na, .sl xs.length (lm xs)]] (.tup [.bool (decide (a < 0)), .sl ((limbs (Int.natAbs a)).length) (lm (limbs (Int.natAbs a)))]), Runs Try.ir 122 [.agg [.bool nb, .sl ys.length (lm ys)]] (.tup [.bool (decide (b < 0)), .sl ((limbs (Int.natAbs b)).length) (lm (limbs (Int.natAbs b)))]), Runs Try.ir 148 [.bool (decide (a < 0)), .sl ((limbs (Int.natAbs a)).length) (lm (limbs (Int.natAbs a))), .bool (!(decide (b < 0))), .sl ((limbs (Int.natAbs b)).length) (lm (limbs (Int.natAbs b)))] (.agg [.bool (decide (r < 0)), .sl ((limbs (Int.natAbs r)).length) (lm (limbs (Int.natAbs r)))])]) TWA_holds rfl 300 rfl [.r (.tup [.bool (decide (a < 0)), .sl ((limbs (Int.natAbs a)).length) (lm (limbs (Int.natAbs a)))]), .r (.tup [.bool (decide (b < 0)), .sl ((limbs (Int.natAbs b)).length) (lm (limbs (Int.natAbs b)))]), .r (.agg [.bool (decide (r < 0)), .sl ((limbs (Int.natAbs r)).length) (lm (limbs (Int.natAbs r)))])] (by kernel_rfl) ⟨h1, h2, h3, trivial⟩

theorem wsub_run {na nb : Bool} {xs ys : List Int} (hx : U32 xs) (hy : U32 ys) (h1 : xs.length < 1048576) (h2 : ys.length < 1048576) : Runs Try.ir 114 [.agg [.bool na, .sl xs.length (lm xs)], .agg [.bool nb, .sl ys.length (lm ys)]] (bigAV (rv na xs - rv nb ys)) := by
  have l1 := Nat.lt_of_le_of_lt (rv_len (neg := na) hx) h1
  have l2 := Nat.lt_of_le_of_lt (rv_len (neg := nb) hy) h2
  have h3 := sum_run (na := decide (rv na xs < 0)) (nb := !decide (rv nb ys < 0)) l1 l2
  rw [rv_big, rv_not, ← Int.sub_eq_add_neg] at h3
  exact Try.run114 na xs nb ys (rv na xs) (rv nb ys) _ (limbs_run hx (by omega)) (limbs_run hy (by omega)) h3
theorem wsub_big {a b : Int} (h1 : (limbs a.natAbs).length < 1048576) (h2 : (limbs b.natAbs).length < 1048576) : Runs Try.ir 114 [bigAV a, bigAV b] (bigAV (a - b)) := by
  have := wsub_run (na := decide (a < 0)) (nb := decide (b < 0)) (big_u32 a.natAbs) (big_u32 b.natAbs) h1 h2
  rwa [rv_big, rv_big] at this

def TWB : Table := TWA
theorem TWB_holds : THolds Try.ir TWB := TWA_holds
end Go.Proofs.Ythnnfemologhfaa
