/- Texts of the proof of PolyFree, packed by pack.py: part 8 of 19. -/
import Derived.Test.YthnnfemologhfaaPfr7
namespace Go.Proofs.Ythnnfemologhfaa
open Go.Ai
set_option maxRecDepth 100000
def TQ0 : Table := []
theorem TQ0_holds : THolds Try.ir TQ0 := THolds.nil _
def Try.c122 : ICode := .seq (.seq (.region false [oM 8 4,
   o1 9 (.bin .gtr (.t 8) (.c (.int .i64 0))),
   oM 10 9,
   oG 11 (.adr 1 1 1) 10 true,
   oG 12 (.ld 11 1 1 true) 10 true,
   oG 13 (.mov (.t 4)) 10 true,
   oG 14 (.bin .sub (.t 13) (.c (.int .i64 1))) 10 true,
   oG 15 (.ixa 12 (.t 14) 1) 10 true,
   oG 16 (.ld 15 15 1 true) 10 true,
   oG 17 (.bin .eql (.t 16) (.c (.int .u32 0))) 10 true,
   o1 18 (.pick (.t 10) (.t 17) (.c (.bool false)))])
  (.cond (.t 18) (.skip)
  (.exit 0)))
  (.block 1 (.region false [oM 19 4,
   o1 20 (.bin .sub (.t 19) (.c (.int .i64 1))),
   oM 4 20]))
def Try.s122 (neg : Bool) (N : Nat) (cs : List AV) (n : Int) : State := (dds 1 (.box [.bool neg, .sl N cs] :: (.val (.bool false) :: (.own 1 0 [] :: (.val (.int .i64 n) :: (dds 26 []))))))
theorem Try.k122_1 (neg : Bool) (N : Nat) (cs : List AV) (n : Int) (x : Int) (c1 : (decide (n > 0)) = true) (c2 : (x == 0) = true) (n1 : 0 ≤ (IntKind.i64.wrap (n - 1)) ∧ (IntKind.i64.wrap (n - 1)) < ((N : Nat) : Int)) (n2 : takeA (List.drop (Int.toNat (IntKind.i64.wrap (n - 1)) * 1) cs) 0 1 true = some (.int .u32 x)) : RunsW Try.ir Try.c122 (Try.s122 neg N cs n) .norm (Try.s122 neg N cs (IntKind.i64.wrap (n - 1))) :=
  RunsW.script (ps := [(decide (n > 0)) = true, 0 ≤ (IntKind.i64.wrap (n - 1)) ∧ (IntKind.i64.wrap (n - 1)) < ((N : Nat) : Int), takeA (List.drop (Int.toNat (IntKind.i64.wrap (n - 1)) * 1) cs) 0 1 true = some (.int .u32 x), (x == 0) = true]) TQ0_holds 300 [.b true, .v (.int .u32 x), .b true] [1, 2, 3, 4] (by kernel_rfl) ⟨c1, n1, n2, c2, trivial⟩
theorem Try.k122_2 (neg : Bool) (N : Nat) (cs : List AV) (n : Int) (x : Int) (c1 : (decide (n > 0)) = true) (c2 : (x == 0) = false) (n1 : 0 ≤ (IntKind.i64.wrap (n - 1)) ∧ (IntKind.i64.wrap (n - 1)) < ((N : Nat) : Int)) (n2 : takeA (List.drop (Int.toNat (IntKind.i64.wrap (n - 1)) * 1) cs) 0 1 true = some (.int .u32 x)) : RunsW Try.ir Try.c122 (Try.s122 neg N cs n) (.exit 0) (Try.s122 neg N cs n) :=
  RunsW.script (ps := [(decide (n > 0)) = true, 0 ≤ (IntKind.i64.wrap (n - 1)) ∧ (IntKind.i64.wrap (n - 1)) < ((N : Nat) : Int), takeA (List.drop (Int.toNat (IntKind.i64.wrap (n - 1)) * 1) cs) 0 1 true = some (.int .u32 x), (x == 0) = false]) TQ0_holds 300 [.b true, .v (.int .u32 x), .b false] [1, 2, 3, 4] (by kernel_rfl) ⟨c1, n1, n2, c2, trivial⟩
theorem Try.k122_3 (neg : Bool) (N : Nat) (cs : List AV) (n : Int) (c1 : (decide (n > 0)) = false) : RunsW Try.ir Try.c122 (Try.s122 neg N cs n) (.exit 0) (Try.s122 neg N cs n) :=
  RunsW.script (ps := [(decide (n > 0)) = false, false = false]) TQ0_holds 300 [.b false, .b false] [1, 2, 3, 4] (by kernel_rfl) ⟨c1, rfl, trivial⟩
theorem Try.loop122 (neg : Bool) (xs : List Int) (hN : xs.length ≤ 1048576) : ∀ m, m ≤ xs.length → RunsW Try.ir (.loop Try.c122) (Try.s122 neg xs.length (lm xs) ((m : Nat) : Int)) (.exit 0) (Try.s122 neg xs.length (lm xs) ((topN xs m : Nat) : Int)) := by
  intro m
  induction m with
  | zero =>
    intro _
    exact RunsW.loop_out (Try.k122_3 neg xs.length (lm xs) ((0 : Nat) : Int) (by simp)) (by intro e; cases e)
  | succ m ih =>
    intro hm
    have e1 : IntKind.i64.wrap (((m + 1 : Nat) : Int) - 1) = ((m : Nat) : Int) := by rw [w64 (by omega) (by omega)]; omega
    have hx := take_lim (xs := xs) (i := m) (by omega)
    simp only [topN]
    by_cases h0 : xs.getD m 0 = 0
    · rw [if_pos h0]
      have h1 := Try.k122_1 neg xs.length (lm xs) ((m + 1 : Nat) : Int) (xs.getD m 0) (by simp) (by rw [h0]; rfl) (by rw [e1]; omega) (by rw [e1, Int.toNat_natCast]; exact hx)
      rw [e1] at h1
      exact RunsW.loop h1 (ih (by omega))
    · rw [if_neg h0]
      exact RunsW.loop_out (Try.k122_2 neg xs.length (lm xs) ((m + 1 : Nat) : Int) (xs.getD m 0) (by simp) (by simpa using h0) (by rw [e1]; omega) (by rw [e1, Int.toNat_natCast]; exact hx)) (by intro e; cases e)
theorem Try.run122_true (xs : List Int) (hl : RunsW Try.ir (.loop Try.c122) (Try.s122 true xs.length (lm xs) ((xs.length : Nat) : Int)) (.exit 0) (Try.s122 true xs.length (lm xs) ((topN xs xs.length : Nat) : Int)))
    (hsc : 0 ≤ (Int.toNat ((topN xs xs.length : Nat) : Int)) ∧ (Int.toNat ((topN xs xs.length : Nat) : Int)) ≤ xs.length ∧ xs.length ≤ xs.length ∧ (false = true → true = true)) : Runs Try.ir 122 [.agg [.bool true, .sl xs.length (lm xs)]] (.tup [.bool (decide (((topN xs xs.length : Nat) : Int) > 0)), .sl ((Int.toNat ((topN xs xs.length : Nat) : Int)) - 0) (List.take (((Int.toNat ((topN xs xs.length : Nat) : Int)) - 0) * 1) (List.drop (0 * 1) (lm xs)))]) :=
  Runs.of_bodyW (fn := Try.i122) (s := (dds 1 (.box [.bool true, .sl xs.length (lm xs)] :: (.val (.bool (decide (((topN xs xs.length : Nat) : Int) > 0))) :: (.val (.sl ((Int.toNat ((topN xs xs.length : Nat) : Int)) - 0) (List.take (((Int.toNat ((topN xs xs.length : Nat) : Int)) - 0) * 1) (List.drop (0 * 1) (lm xs)))) :: (.val (.int .i64 ((topN xs xs.length : Nat) : Int)) :: (dds 16 (.ptr 1 0 :: (.val (.bool true) :: (.val (.bool true) :: (.val (.int .i64 ((topN xs xs.length : Nat) : Int)) :: (.val (.bool (decide (((topN xs xs.length : Nat) : Int) > 0))) :: (.val (.bool (decide (((topN xs xs.length : Nat) : Int) > 0))) :: (.ptr 1 1 :: (.val (.sl xs.length (lm xs)) :: (.val (.int .i64 ((topN xs xs.length : Nat) : Int)) :: (.val (.sl ((Int.toNat ((topN xs xs.length : Nat) : Int)) - 0) (List.take (((Int.toNat ((topN xs xs.length : Nat) : Int)) - 0) * 1) (List.drop (0 * 1) (lm xs)))) :: []))))))))))))))))) (ex := .ret) rfl rfl
    (RunsW.seq (RunsW.script (t := (.val (.agg [.bool true, .sl xs.length (lm xs)]) :: (.box [.bool true, .sl xs.length (lm xs)] :: (.val (.bool false) :: (.own 1 0 [] :: (dds 27 [])))))) (ex := .norm) (ps := []) TQ0_holds 300 [] [0, 1, 2, 3] (by kernel_rfl) trivial)
    (RunsW.seq (RunsW.script (t := (dds 1 (.box [.bool true, .sl xs.length (lm xs)] :: (.val (.bool false) :: (.own 1 0 [] :: (.val (.int .i64 ((xs.length : Nat) : Int)) :: (dds 26 []))))))) (ex := .norm) (ps := []) TQ0_holds 300 [] [1, 2, 3, 4] (by kernel_rfl) trivial)
    (RunsW.seq (RunsW.block hl)
    (RunsW.script (t := (dds 1 (.box [.bool true, .sl xs.length (lm xs)] :: (.val (.bool (decide (((topN xs xs.length : Nat) : Int) > 0))) :: (.val (.sl ((Int.toNat ((topN xs xs.length : Nat) : Int)) - 0) (List.take (((Int.toNat ((topN xs xs.length : Nat) : Int)) - 0) * 1) (List.drop (0 * 1) (lm xs)))) :: (.val (.int .i64 ((topN xs xs.length : Nat) : Int)) :: (dds 16 (.ptr 1 0 :: (.val (.bool true) :: (.val (.bool true) :: (.val (.int .i64 ((topN xs xs.length : Nat) : Int)) :: (.val (.bool (decide (((topN xs xs.length : Nat) : Int) > 0))) :: (.val (.bool (decide (((topN xs xs.length : Nat) : Int) > 0))) :: (.ptr 1 1 :: (.val (.sl xs.length (lm xs)) :: (.val (.int .i64 ((topN xs xs.length : Nat) : Int)) :: (.val (.sl ((Int.toNat ((topN xs xs.length : Nat) : Int)) - 0) (List.take (((Int.toNat ((topN xs xs.length : Nat) : Int)) - 0) * 1) (List.drop (0 * 1) (lm xs)))) :: []))))))))))))))))) (ex := .ret) (ps := [true = true, 0 ≤ ((topN xs xs.length : Nat) : Int), 0 ≤ (Int.toNat ((topN xs xs.length : Nat) : Int)) ∧ (Int.toNat ((topN xs xs.length : Nat) : Int)) ≤ xs.length ∧ xs.length ≤ xs.length ∧ (false = true → true = true)]) TQ0_holds 300 [.b true] [1, 2, 3, 4, 21, 22, 23, 24, 25, 26, 27, 28, 29, 30] (by kernel_rfl) ⟨rfl, (Int.natCast_nonneg _), hsc, trivial⟩)))) (by intro i e; cases e) rfl
theorem Try.run122_false (xs : List Int) (hl : RunsW Try.ir (.loop Try.c122) (Try.s122 false xs.length (lm xs) ((xs.length : Nat) : Int)) (.exit 0) (Try.s122 false xs.length (lm xs) ((topN xs xs.length : Nat) : Int)))
    (hsc : 0 ≤ (Int.toNat ((topN xs xs.length : Nat) : Int)) ∧ (Int.toNat ((topN xs xs.length : Nat) : Int)) ≤ xs.length ∧ xs.length ≤ xs.length ∧ (false = true → true = true)) : Runs Try.ir 122 [.agg [.bool false, .sl xs.length (lm xs)]] (.tup [.bool false, .sl ((Int.toNat ((topN xs xs.length : Nat) : Int)) - 0) (List.take (((Int.toNat ((topN xs xs.length : Nat) : Int)) - 0) * 1) (List.drop (0 * 1) (lm xs)))]) :=
  Runs.of_bodyW (fn := Try.i122) (s := (dds 1 (.box [.bool false, .sl xs.length (lm xs)] :: (.val (.bool false) :: (.val (.sl ((Int.toNat ((topN xs xs.length : Nat) : Int)) - 0) (List.take (((Int.toNat ((topN xs xs.length : Nat) : Int)) - 0) * 1) (List.drop (0 * 1) (lm xs)))) :: (.val (.int .i64 ((topN xs xs.length : Nat) : Int)) :: (dds 16 (.ptr 1 0 :: (.val (.bool false) :: (.val (.bool false) :: (.val (.undef) :: (.val (.undef) :: (.val (.bool false) :: (.ptr 1 1 :: (.val (.sl xs.length (lm xs)) :: (.val (.int .i64 ((topN xs xs.length : Nat) : Int)) :: (.val (.sl ((Int.toNat ((topN xs xs.length : Nat) : Int)) - 0) (List.take (((Int.toNat ((topN xs xs.length : Nat) : Int)) - 0) * 1) (List.drop (0 * 1) (lm xs)))) :: []))))))))))))))))) (ex := .ret) rfl rfl
    (RunsW.seq (RunsW.script (t := (.val (.agg [.bool false, .sl xs.length (lm xs)]) :: (.box [.bool false, .sl xs.length (lm xs)] :: (.val (.bool false) :: (.own 1 0 [] :: (dds 27 [])))))) (ex := .norm) (ps := []) TQ0_holds 300 [] [0, 1, 2, 3] (by kernel_rfl) trivial)
    (RunsW.seq (RunsW.script (t := (dds 1 (.box [.bool false, .sl xs.length (lm xs)] :: (.val (.bool false) :: (.own 1 0 [] :: (.val (.int .i64 ((xs.length : Nat) : Int)) :: (dds 26 []))))))) (ex := .norm) (ps := []) TQ0_holds 300 [] [1, 2, 3, 4] (by kernel_rfl) trivial)
    (RunsW.seq (RunsW.block hl)
    (RunsW.script (t := (dds 1 (.box [.bool false, .sl xs.length (lm xs)] :: (.val (.bool false) :: (.val (.sl ((Int.toNat ((topN xs xs.length : Nat) : Int)) - 0) (List.take (((Int.toNat ((topN xs xs.length : Nat) : Int)) - 0) * 1) (List.drop (0 * 1) (lm xs)))) :: (.val (.int .i64 ((topN xs xs.length : Nat) : Int)) :: (dds 16 (.ptr 1 0 :: (.val (.bool false) :: (.val (.bool false) :: (.val (.undef) :: (.val (.undef) :: (.val (.bool false) :: (.ptr 1 1 :: (.val (.sl xs.length (lm xs)) :: (.val (.int .i64 ((topN xs xs.length : Nat) : Int)) :: (.val (.sl ((Int.toNat ((topN xs xs.length : Nat) : Int)) - 0) (List.take (((Int.toNat ((topN xs xs.length : Nat) : Int)) - 0) * 1) (List.drop (0 * 1) (lm xs)))) :: []))))))))))))))))) (ex := .ret) (ps := [false = false, 0 ≤ ((topN xs xs.length : Nat) : Int), 0 ≤ (Int.toNat ((topN xs xs.length : Nat) : Int)) ∧ (Int.toNat ((topN xs xs.length : Nat) : Int)) ≤ xs.length ∧ xs.length ≤ xs.length ∧ (false = true → true = true)]) TQ0_holds 300 [.b false] [1, 2, 3, 4, 21, 22, 23, 24, 25, 26, 27, 28, 29, 30] (by kernel_rfl) ⟨rfl, (Int.natCast_nonneg _), hsc, trivial⟩)))) (by intro i e; cases e) rfl
theorem topN_sl (xs : List Int) : (Int.toNat ((topN xs xs.length : Nat) : Int) - 0) = (trimL xs).length ∧ (List.take ((Int.toNat ((topN xs xs.length : Nat) : Int) - 0) * 1) (List.drop (0 * 1) (lm xs))) = lm (trimL xs) ∧ (0 ≤ (Int.toNat ((topN xs xs.length : Nat) : Int)) ∧ (Int.toNat ((topN xs xs.length : Nat) : Int)) ≤ xs.length ∧ xs.length ≤ xs.length ∧ (false = true → true = true)) := by
  have hle := topN_le xs xs.length
  rw [Int.toNat_natCast]
  refine ⟨by simp [trimL]; omega, by simp [lm, trimL, List.map_take], by omega, hle, Nat.le_refl _, fun h => by cases h⟩
theorem limbs_run {neg : Bool} {xs : List Int} (hu : U32 xs) (hN : xs.length ≤ 1048576) : Runs Try.ir 122 [.agg [.bool neg, .sl xs.length (lm xs)]]
    (.tup [.bool (decide (rv neg xs < 0)), .sl (limbs (rv neg xs).natAbs).length (lm (limbs (rv neg xs).natAbs))]) := by
  obtain ⟨e1, e2, e3⟩ := topN_sl xs
  have ht := trimL_rv (neg := neg) hu
  have hn := neg_rv (neg := neg) hu
  have hlen : (trimL xs).length = topN xs xs.length := by rw [← e1, Int.toNat_natCast]; rfl
  cases neg with
  | true =>
    have h := Try.run122_true xs (Try.loop122 true xs hN xs.length (Nat.le_refl _)) e3
    rw [e2, e1, ht] at h
    have e4 : decide (((topN xs xs.length : Nat) : Int) > 0) = decide (rv true xs < 0) := by
      rw [← hn, Bool.true_and, ← ht, hlen, decide_eq_decide]; omega
    rw [e4] at h
    exact h
  | false =>
    have h := Try.run122_false xs (Try.loop122 false xs hN xs.length (Nat.le_refl _)) e3
    rw [e2, e1, ht] at h
    rw [Bool.false_and] at hn
    rw [← hn]
    exact h
def Try.c133 : ICode := .seq (.seq (.region false [oM 8 5,
   o1 9 (.bin .gtr (.t 8) (.c (.int .i64 0))),
   oM 10 9,
   oG 11 (.mov (.t 1)) 10 true,
   oG 12 (.mov (.t 5)) 10 true,
   oG 13 (.bin .sub (.t 12) (.c (.int .i64 1))) 10 true,
   oG 14 (.ixa 11 (.t 13) 1) 10 true,
   oG 15 (.ld 14 14 1 true) 10 true,
   oG 16 (.bin .eql (.t 15) (.c (.int .u32 0))) 10 true,
   o1 17 (.pick (.t 10) (.t 16) (.c (.bool false)))])
  (.cond (.t 17) (.skip)
  (.exit 0)))
  (.block 1 (.region false [oM 18 5,
   o1 19 (.bin .sub (.t 18) (.c (.int .i64 1))),
   oM 5 19]))
def Try.s133 (neg : Bool) (N : Nat) (cs : List AV) (n : Int) : State := (.val (.bool neg) :: (.val (.sl N cs) :: (dds 2 (.box [.bool false, .sl 0 []] :: (.val (.int .i64 n) :: (dds 23 []))))))
theorem Try.k133_1 (neg : Bool) (N : Nat) (cs : List AV) (n : Int) (x : Int) (c1 : (decide (n > 0)) = true) (c2 : (x == 0) = true) (n1 : 0 ≤ (IntKind.i64.wrap (n - 1)) ∧ (IntKind.i64.wrap (n - 1)) < ((N : Nat) : Int)) (n2 : takeA (List.drop (Int.toNat (IntKind.i64.wrap (n - 1)) * 1) cs) 0 1 true = some (.int .u32 x)) : RunsW Try.ir Try.c133 (Try.s133 neg N cs n) .norm (Try.s133 neg N cs (IntKind.i64.wrap (n - 1))) :=
  RunsW.script (ps := [(decide (n > 0)) = true, 0 ≤ (IntKind.i64.wrap (n - 1)) ∧ (IntKind.i64.wrap (n - 1)) < ((N : Nat) : Int), takeA (List.drop (Int.toNat (IntKind.i64.wrap (n - 1)) * 1) cs) 0 1 true = some (.int .u32 x), (x == 0) = true]) TQ0_holds 300 [.b true, .v (.int .u32 x), .b true] [0, 1, 4, 5] (by kernel_rfl) ⟨c1, n1, n2, c2, trivial⟩
theorem Try.k133_2 (neg : Bool) (N : Nat) (cs : List AV) (n : Int) (x : Int) (c1 : (decide (n > 0)) = true) (c2 : (x == 0) = false) (n1 : 0 ≤ (IntKind.i64.wrap (n - 1)) ∧ (IntKind.i64.wrap (n - 1)) < ((N : Nat) : Int)) (n2 : takeA (List.drop (Int.toNat (IntKind.i64.wrap (n - 1)) * 1) cs) 0 1 true = some (.int .u32 x)) : RunsW Try.ir Try.c133 (Try.s133 neg N cs n) (.exit 0) (Try.s133 neg N cs n) :=
  RunsW.script (ps := [(decide (n > 0)) = true, 0 ≤ (IntKind.i64.wrap (n - 1)) ∧ (IntKind.i64.wrap (n - 1)) < ((N : Nat) : Int), takeA (List.drop (Int.toNat (IntKind.i64.wrap (n - 1)) * 1) cs) 0 1 true = some (.int .u32 x), (x == 0) = false]) TQ0_holds 300 [.b true, .v (.int .u32 x), .b false] [0, 1, 4, 5] (by kernel_rfl) ⟨c1, n1, n2, c2, trivial⟩
theorem Try.k133_3 (neg : Bool) (N : Nat) (cs : List AV) (n : Int) (c1 : (decide (n > 0)) = false) : RunsW Try.ir Try.c133 (Try.s133 neg N cs n) (.exit 0) (Try.s133 neg N cs n) :=
  RunsW.script (ps := [(decide (n > 0)) = false, false = false]) TQ0_holds 300 [.b false, .b false] [0, 1, 4, 5] (by kernel_rfl) ⟨c1, rfl, trivial⟩
theorem Try.loop133 (neg : Bool) (xs : List Int) (hN : xs.length ≤ 1048576) : ∀ m, m ≤ xs.length → RunsW Try.ir (.loop Try.c133) (Try.s133 neg xs.length (lm xs) ((m : Nat) : Int)) (.exit 0) (Try.s133 neg xs.length (lm xs) ((topN xs m : Nat) : Int)) := by
  intro m
  induction m with
  | zero =>
    intro _
    exact RunsW.loop_out (Try.k133_3 neg xs.length (lm xs) ((0 : Nat) : Int) (by simp)) (by intro e; cases e)
  | succ m ih =>
    intro hm
    have e1 : IntKind.i64.wrap (((m + 1 : Nat) : Int) - 1) = ((m : Nat) : Int) := by rw [w64 (by omega) (by omega)]; omega
    have hx := take_lim (xs := xs) (i := m) (by omega)
    simp only [topN]
    by_cases h0 : xs.getD m 0 = 0
    · rw [if_pos h0]
      have h1 := Try.k133_1 neg xs.length (lm xs) ((m + 1 : Nat) : Int) (xs.getD m 0) (by simp) (by rw [h0]; rfl) (by rw [e1]; omega) (by rw [e1, Int.toNat_natCast]; exact hx)
      rw [e1] at h1
      exact RunsW.loop h1 (ih (by omega))
    · rw [if_neg h0]
      exact RunsW.loop_out (Try.k133_2 neg xs.length (lm xs) ((m + 1 : Nat) : Int) (xs.getD m 0) (by simp) (by simpa using h0) (by rw [e1]; omega) (by rw [e1, Int.toNat_natCast]; exact hx)) (by intro e; cases e)
theorem Try.run133_z (neg : Bool) (xs : List Int) (hz : (((topN xs xs.length : Nat) : Int) == 0) = true) (hl : RunsW Try.ir (.loop Try.c133) (Try.s133 neg xs.length (lm xs) ((xs.length : Nat) : Int)) (.exit 0) (Try.s133 neg xs.length (lm xs) ((topN xs xs.length : Nat) : Int))) : Runs Try.ir 133 [.bool neg, .sl xs.length (lm xs)] (.agg [.bool false, .sl 0 []]) :=
  Runs.of_bodyW (fn := Try.i133) (s := (.val (.bool neg) :: (.val (.sl xs.length (lm xs)) :: (dds 2 (.box [.bool false, .sl 0 []] :: (.val (.int .i64 ((topN xs xs.length : Nat) : Int)) :: (dds 14 (.val (.int .i64 ((topN xs xs.length : Nat) : Int)) :: (.val (.bool (((topN xs xs.length : Nat) : Int) == 0)) :: (.val (.agg [.bool false, .sl 0 []]) :: (dds 6 []))))))))))) (ex := .ret) rfl rfl
    (RunsW.seq (RunsW.script (t := (.val (.bool neg) :: (.val (.sl xs.length (lm xs)) :: (dds 2 (.box [.bool false, .sl 0 []] :: (dds 24 [])))))) (ex := .norm) (ps := []) TQ0_holds 300 [] [0, 1, 4] (by kernel_rfl) trivial)
    (RunsW.seq (RunsW.script (t := (.val (.bool neg) :: (.val (.sl xs.length (lm xs)) :: (dds 2 (.box [.bool false, .sl 0 []] :: (.val (.int .i64 ((xs.length : Nat) : Int)) :: (dds 23 []))))))) (ex := .norm) (ps := []) TQ0_holds 300 [] [0, 1, 4, 5] (by kernel_rfl) trivial)
    (RunsW.seq (RunsW.block hl)
    (RunsW.script (t := (.val (.bool neg) :: (.val (.sl xs.length (lm xs)) :: (dds 2 (.box [.bool false, .sl 0 []] :: (.val (.int .i64 ((topN xs xs.length : Nat) : Int)) :: (dds 14 (.val (.int .i64 ((topN xs xs.length : Nat) : Int)) :: (.val (.bool (((topN xs xs.length : Nat) : Int) == 0)) :: (.val (.agg [.bool false, .sl 0 []]) :: (dds 6 []))))))))))) (ex := .ret) (ps := [(((topN xs xs.length : Nat) : Int) == 0) = true]) TQ0_holds 300 [.b true] [0, 1, 4, 5, 20, 21, 22] (by kernel_rfl) ⟨hz, trivial⟩)))) (by intro i e; cases e) rfl
theorem Try.run133_p (neg : Bool) (xs : List Int) (hz : (((topN xs xs.length : Nat) : Int) == 0) = false) (hl : RunsW Try.ir (.loop Try.c133) (Try.s133 neg xs.length (lm xs) ((xs.length : Nat) : Int)) (.exit 0) (Try.s133 neg xs.length (lm xs) ((topN xs xs.length : Nat) : Int))) (hsc : 0 ≤ (Int.toNat ((topN xs xs.length : Nat) : Int)) ∧ (Int.toNat ((topN xs xs.length : Nat) : Int)) ≤ (Int.toNat ((topN xs xs.length : Nat) : Int)) ∧ (Int.toNat ((topN xs xs.length : Nat) : Int)) ≤ xs.length ∧ (true = true → true = true)) : Runs Try.ir 133 [.bool neg, .sl xs.length (lm xs)] (.agg [.bool neg, .sl ((Int.toNat ((topN xs xs.length : Nat) : Int)) - 0) (List.take (((Int.toNat ((topN xs xs.length : Nat) : Int)) - 0) * 1) (List.drop (0 * 1) (lm xs)))]) :=
  Runs.of_bodyW (fn := Try.i133) (s := (.val (.bool neg) :: (.val (.sl xs.length (lm xs)) :: (dds 2 (.box [.bool neg, .sl ((Int.toNat ((topN xs xs.length : Nat) : Int)) - 0) (List.take (((Int.toNat ((topN xs xs.length : Nat) : Int)) - 0) * 1) (List.drop (0 * 1) (lm xs)))] :: (.val (.int .i64 ((topN xs xs.length : Nat) : Int)) :: (dds 14 (.val (.int .i64 ((topN xs xs.length : Nat) : Int)) :: (.val (.bool (((topN xs xs.length : Nat) : Int) == 0)) :: (dds 1 (.val (.bool neg) :: (.val (.sl xs.length (lm xs)) :: (.val (.int .i64 ((topN xs xs.length : Nat) : Int)) :: (.val (.int .i64 ((topN xs xs.length : Nat) : Int)) :: (.val (.sl ((Int.toNat ((topN xs xs.length : Nat) : Int)) - 0) (List.take (((Int.toNat ((topN xs xs.length : Nat) : Int)) - 0) * 1) (List.drop (0 * 1) (lm xs)))) :: (.val (.agg [.bool neg, .sl ((Int.toNat ((topN xs xs.length : Nat) : Int)) - 0) (List.take (((Int.toNat ((topN xs xs.length : Nat) : Int)) - 0) * 1) (List.drop (0 * 1) (lm xs)))]) :: [])))))))))))))))) (ex := .ret) rfl rfl
    (RunsW.seq (RunsW.script (t := (.val (.bool neg) :: (.val (.sl xs.length (lm xs)) :: (dds 2 (.box [.bool false, .sl 0 []] :: (dds 24 [])))))) (ex := .norm) (ps := []) TQ0_holds 300 [] [0, 1, 4] (by kernel_rfl) trivial)
    (RunsW.seq (RunsW.script (t := (.val (.bool neg) :: (.val (.sl xs.length (lm xs)) :: (dds 2 (.box [.bool false, .sl 0 []] :: (.val (.int .i64 ((xs.length : Nat) : Int)) :: (dds 23 []))))))) (ex := .norm) (ps := []) TQ0_holds 300 [] [0, 1, 4, 5] (by kernel_rfl) trivial)
    (RunsW.seq (RunsW.block hl)
    (RunsW.script (t := (.val (.bool neg) :: (.val (.sl xs.length (lm xs)) :: (dds 2 (.box [.bool neg, .sl ((Int.toNat ((topN xs xs.length : Nat) : Int)) - 0) (List.take (((Int.toNat ((topN xs xs.length : Nat) : Int)) - 0) * 1) (List.drop (0 * 1) (lm xs)))] :: (.val (.int .i64 ((topN xs xs.length : Nat) : Int)) :: (dds 14 (.val (.int .i64 ((topN xs xs.length : Nat) : Int)) :: (.val (.bool (((topN xs xs.length : Nat) : Int) == 0)) :: (dds 1 (.val (.bool neg) :: (.val (.sl xs.length (lm xs)) :: (.val (.int .i64 ((topN xs xs.length : Nat) : Int)) :: (.val (.int .i64 ((topN xs xs.length : Nat) : Int)) :: (.val (.sl ((Int.toNat ((topN xs xs.length : Nat) : Int)) - 0) (List.take (((Int.toNat ((topN xs xs.length : Nat) : Int)) - 0) * 1) (List.drop (0 * 1) (lm xs)))) :: (.val (.agg [.bool neg, .sl ((Int.toNat ((topN xs xs.length : Nat) : Int)) - 0) (List.take (((Int.toNat ((topN xs xs.length : Nat) : Int)) - 0) * 1) (List.drop (0 * 1) (lm xs)))]) :: [])))))))))))))))) (ex := .ret) (ps := [(((topN xs xs.length : Nat) : Int) == 0) = false, 0 ≤ ((topN xs xs.length : Nat) : Int), 0 ≤ ((topN xs xs.length : Nat) : Int), 0 ≤ (Int.toNat ((topN xs xs.length : Nat) : Int)) ∧ (Int.toNat ((topN xs xs.length : Nat) : Int)) ≤ (Int.toNat ((topN xs xs.length : Nat) : Int)) ∧ (Int.toNat ((topN xs xs.length : Nat) : Int)) ≤ xs.length ∧ (true = true → true = true)]) TQ0_holds 300 [.b false] [0, 1, 4, 5, 20, 21, 23, 24, 25, 26, 27, 28] (by kernel_rfl) ⟨hz, (Int.natCast_nonneg _), (Int.natCast_nonneg _), hsc, trivial⟩)))) (by intro i e; cases e) rfl
theorem made_run {neg : Bool} {xs : List Int} (hu : U32 xs) (hN : xs.length ≤ 1048576) : Runs Try.ir 133 [.bool neg, .sl xs.length (lm xs)] (bigAV (rv neg xs)) := by
  obtain ⟨e1, e2, e3⟩ := topN_sl xs
  have ht := trimL_rv (neg := neg) hu
  have hn := neg_rv (neg := neg) hu
  have hlen : (trimL xs).length = topN xs xs.length := by rw [← e1, Int.toNat_natCast]; rfl
  have hl := Try.loop133 neg xs hN xs.length (Nat.le_refl _)
  by_cases h0 : topN xs xs.length = 0
  · have h := Try.run133_z neg xs (by rw [h0]; rfl) hl
    have hz : (limbs (rv neg xs).natAbs).length = 0 := by rw [← ht, hlen, h0]
    have hv : rv neg xs = 0 := by have := (limbs_zero_len _).1 hz; omega
    rw [hv]
    exact h
  · have h := Try.run133_p neg xs (by rw [beq_eq_false_iff_ne]; omega) hl ⟨e3.1, Nat.le_refl _, e3.2.1, fun _ => rfl⟩
    rw [e2, e1, ht] at h
    have hp : decide (0 < (limbs (rv neg xs).natAbs).length) = true := by rw [← ht, hlen]; simp; omega
    rw [hp, Bool.and_true] at hn
    rw [bigAV, ← hn]
    exact h
theorem Try.run94_n (n : Int) (c1 : decide (n < 0) = true) (hcall : Runs Try.ir 133 [.bool (decide (n < 0)), .sl 2 [.int .u32 (IntKind.u32.wrap (IntKind.u64.wrap (0 - (IntKind.u64.wrap n)))), .int .u32 (IntKind.u32.wrap (Int.fdiv (IntKind.u64.wrap (0 - (IntKind.u64.wrap n))) (2 ^ (min (Int.toNat 32) (IntKind.bits .u64)))))]] (.agg [.bool (decide (n < 0)), .sl ((limbs (Int.natAbs n)).length) (lm (limbs (Int.natAbs n)))])) : Runs Try.ir 94 [.int .i64 n] (.agg [.bool (decide (n < 0)), .sl ((limbs (Int.natAbs n)).length) (lm (limbs (Int.natAbs n)))]) :=
  Runs.script (ps := [(decide (n < 0)) = true, ¬ (32 : Int) < 0, Runs Try.ir 133 [.bool (decide (n < 0)), .sl 2 [.int .u32 (IntKind.u32.wrap (IntKind.u64.wrap (0 - (IntKind.u64.wrap n)))), .int .u32 (IntKind.u32.wrap (Int.fdiv (IntKind.u64.wrap (0 - (IntKind.u64.wrap n))) (2 ^ (min (Int.toNat 32) (IntKind.bits .u64)))))]] (.agg [.bool (decide (n < 0)), .sl ((limbs (Int.natAbs n)).length) (lm (limbs (Int.natAbs n)))])]) TQ0_holds rfl 300 rfl [.b true, .r (.agg [.bool (decide (n < 0)), .sl ((limbs (Int.natAbs n)).length) (lm (limbs (Int.natAbs n)))])] (by kernel_rfl) ⟨c1, (by decide), hcall, trivial⟩
theorem Try.run94_p (n : Int) (c1 : decide (n < 0) = false) (hcall : Runs Try.ir 133 [.bool (decide (n < 0)), .sl 2 [.int .u32 (IntKind.u32.wrap (IntKind.u64.wrap n)), .int .u32 (IntKind.u32.wrap (Int.fdiv (IntKind.u64.wrap n) (2 ^ (min (Int.toNat 32) (IntKind.bits .u64)))))]] (.agg [.bool (decide (n < 0)), .sl ((limbs (Int.natAbs n)).length) (lm (limbs (Int.natAbs n)))])) : Runs Try.ir 94 [.int .i64 n] (.agg [.bool (decide (n < 0)), .sl ((limbs (Int.natAbs n)).length) (lm (limbs (Int.natAbs n)))]) :=
  Runs.script (ps := [(decide (n < 0)) = false, ¬ (32 : Int) < 0, Runs Try.ir 133 [.bool (decide (n < 0)), .sl 2 [.int .u32 (IntKind.u32.wrap (IntKind.u64.wrap n)), .int .u32 (IntKind.u32.wrap (Int.fdiv (IntKind.u64.wrap n) (2 ^ (min (Int.toNat 32) (IntKind.bits .u64)))))]] (.agg [.bool (decide (n < 0)), .sl ((limbs (Int.natAbs n)).length) (lm (limbs (Int.natAbs n)))])]) TQ0_holds rfl 300 rfl [.b false, .r (.agg [.bool (decide (n < 0)), .sl ((limbs (Int.natAbs n)).length) (lm (limbs (Int.natAbs n)))])] (by kernel_rfl) ⟨c1, (by decide), hcall, trivial⟩
theorem wof_run {n : Int} (hn : -9223372036854775808 ≤ n ∧ n ≤ 9223372036854775807) : Runs Try.ir 94 [.int .i64 n] (bigAV n) := by
  cases c1 : decide (n < 0) with
  | true =>
    have h0 : n < 0 := by simpa using c1
    have eu : (IntKind.u64.wrap (0 - IntKind.u64.wrap n)) = -n := by rw [wu64m, wu64m]; omega
    obtain ⟨k1, k2⟩ := of_limbs (u := (IntKind.u64.wrap (0 - IntKind.u64.wrap n))) (by rw [eu]; omega)
    refine Try.run94_n n c1 ?_
    have := made_run (neg := true) k1 (by simp)
    have e : rv true [IntKind.u32.wrap (IntKind.u64.wrap (0 - IntKind.u64.wrap n)), IntKind.u32.wrap (Int.fdiv (IntKind.u64.wrap (0 - IntKind.u64.wrap n)) (2 ^ (min (Int.toNat 32) (IntKind.bits .u64))))] = n := by
      unfold rv; rw [k2, if_pos rfl, eu]; omega
    rw [e, bigAV, c1] at this
    rw [c1]
    exact this
  | false =>
    have h0 : ¬ n < 0 := by simpa using c1
    have eu : IntKind.u64.wrap n = n := by rw [wu64m]; omega
    obtain ⟨k1, k2⟩ := of_limbs (u := IntKind.u64.wrap n) (by rw [eu]; omega)
    refine Try.run94_p n c1 ?_
    have := made_run (neg := false) k1 (by simp)
    have e : rv false [IntKind.u32.wrap (IntKind.u64.wrap n), IntKind.u32.wrap (Int.fdiv (IntKind.u64.wrap n) (2 ^ (min (Int.toNat 32) (IntKind.bits .u64))))] = n := by
      unfold rv; rw [if_neg (by decide), k2, eu]
    rw [e, bigAV, c1] at this
    rw [c1]
    exact this
theorem Try.run132 (neg : Bool) (xs : List Int) (a r : Int) (h1 : Runs Try.ir 122 [.agg [.bool neg, .sl xs.length (lm xs)]] (.tup [.bool (decide (a < 0)), .sl ((limbs (Int.natAbs a)).length) (lm (limbs (Int.natAbs a)))])) (h2 : Runs Try.ir 133 [.bool (decide (a < 0)), .sl (limbs (Int.natAbs a)).length (lm (limbs (Int.natAbs a)))] (.agg [.bool (decide (r < 0)), .sl ((limbs (Int.natAbs r)).length) (lm (limbs (Int.natAbs r)))])) (hal : List.length (lm (limbs (Int.natAbs a))) = (limbs (Int.natAbs a)).length * 1) (han : (limbs (Int.natAbs a)).length ≤ 1048576) : Runs Try.ir 132 [.agg [.bool neg, .sl xs.length (lm xs)]] (.agg [.bool (decide (r < 0)), .sl ((limbs (Int.natAbs r)).length) (lm (limbs (Int.natAbs r)))]) :=
  Runs.script (ps := [Runs Try.ir 122 [.agg [.bool neg, .sl xs.length (lm xs)]] (.tup [.bool (decide (a < 0)), .sl ((limbs (Int.natAbs a)).length) (lm (limbs (Int.natAbs a)))]), List.length (lm (limbs (Int.natAbs a))) = ((limbs (Int.natAbs a)).length) * 1, ((limbs (Int.natAbs a)).length) ≤ 1048576, Runs Try.ir 133 [.bool (decide (a < 0)), .sl ((limbs (Int.natAbs a)).length) (lm (limbs (Int.natAbs a)))] (.agg [.bool (decide (r < 0)), .sl ((limbs (Int.natAbs r)).length) (lm (limbs (Int.natAbs r)))])]) TQ0_holds rfl 300 rfl [.r (.tup [.bool (decide (a < 0)), .sl ((limbs (Int.natAbs a)).length) (lm (limbs (Int.natAbs a)))]), .r (.agg [.bool (decide (r < 0)), .sl ((limbs (Int.natAbs r)).length) (lm (limbs (Int.natAbs r)))])] (by kernel_rfl) ⟨h1, hal, han, h2, trivial⟩
theorem Try.run112 (neg : Bool) (xs : List Int) (a r : Int) (h1 : Runs Try.ir 122 [.agg [.bool neg, .sl xs.length (lm xs)]] (.tup [.bool (decide (a < 0)), .sl ((limbs (Int.natAbs a)).length) (lm (limbs (Int.natAbs a)))])) (h2 : Runs Try.ir 133 [.bool (!(decide (a < 0))), .sl (limbs (Int.natAbs a)).length (lm (limbs (Int.natAbs a)))] (.agg [.bool (decide (r < 0)), .sl ((limbs (Int.natAbs r)).length) (lm (limbs (Int.natAbs r)))])) (hal : List.length (lm (limbs (Int.natAbs a))) = (limbs (Int.natAbs a)).length * 1) (han : (limbs (Int.natAbs a)).length ≤ 1048576) : Runs Try.ir 112 [.agg [.bool neg, .sl xs.length (lm xs)]] (.agg [.bool (decide (r < 0)), .sl ((limbs (Int.natAbs r)).length) (lm (limbs (Int.natAbs r)))]) :=
  Runs.script (ps := [Runs Try.ir 122 [.agg [.bool neg, .sl xs.length (lm xs)]] (.tup [.bool (decide (a < 0)), .sl ((limbs (Int.natAbs a)).length) (lm (limbs (Int.natAbs a)))]), List.length (lm (limbs (Int.natAbs a))) = ((limbs (Int.natAbs a)).length) * 1, ((limbs (Int.natAbs a)).length) ≤ 1048576, Runs Try.ir 133 [.bool (!(decide (a < 0))), .sl ((limbs (Int.natAbs a)).length) (lm (limbs (Int.natAbs a)))] (.agg [.bool (decide (r < 0)), .sl ((limbs (Int.natAbs r)).length) (lm (limbs (Int.natAbs r)))])]) TQ0_holds rfl 300 rfl [.r (.tup [.bool (decide (a < 0)), .sl ((limbs (Int.natAbs a)).length) (lm (limbs (Int.natAbs a)))]), .r (.agg [.bool (decide (r < 0)), .sl ((limbs (Int.natAbs r)).length) (lm (limbs (Int.natAbs r)))])] (by kernel_rfl) ⟨h1, hal, han, h2, trivial⟩
theorem lim_al (xs : List Int) : List.length (lm xs) = xs.length * 1 := by rw [lim_length, Nat.mul_one]
theorem rv_pos (n : Int) : rv false (limbs n.natAbs) = ((n.natAbs : Nat) : Int) := by unfold rv; rw [if_neg (by decide), limbs_val]
theorem rv_not (n : Int) : rv (!decide (n < 0)) (limbs n.natAbs) = -n := by
  unfold rv
  rw [limbs_val]
  by_cases h : n < 0 <;> simp [h] <;> omega
theorem wtrim_run {neg : Bool} {xs : List Int} (hu : U32 xs) (hN : xs.length ≤ 1048576) : Runs Try.ir 132 [.agg [.bool neg, .sl xs.length (lm xs)]] (bigAV (rv neg xs)) := by
  have hl : (limbs (rv neg xs).natAbs).length ≤ 1048576 := Nat.le_trans (rv_len hu) hN
  have h2 := made_run (neg := decide (rv neg xs < 0)) (big_u32 (rv neg xs).natAbs) hl
  rw [rv_big] at h2
  exact Try.run132 neg xs (rv neg xs) (rv neg xs) (limbs_run hu hN) h2 (lim_al _) hl
theorem wneg_run {neg : Bool} {xs : List Int} (hu : U32 xs) (hN : xs.length ≤ 1048576) : Runs Try.ir 112 [.agg [.bool neg, .sl xs.length (lm xs)]] (bigAV (-(rv neg xs))) := by
  have hl : (limbs (rv neg xs).natAbs).length ≤ 1048576 := Nat.le_trans (rv_len hu) hN
  have h2 := made_run (neg := !decide (rv neg xs < 0)) (big_u32 (rv neg xs).natAbs) hl
  rw [rv_not] at h2
  exact Try.run112 neg xs (rv neg xs) (-(rv neg xs)) (limbs_run hu hN) h2 (lim_al _) hl
def Try.sh73 (a : Int) : AV :=
  match (((limbs (Int.natAbs a)).length : Nat) : Int) == 0 with
  | true => (.int .i64 0)
  | false => (match decide (a < 0) with
  | true => (.int .i64 (-1))
  | false => (.int .i64 1))
theorem Try.run73 (neg : Bool) (xs : List Int) (a : Int) (h1 : Runs Try.ir 122 [.agg [.bool neg, .sl xs.length (lm xs)]] (.tup [.bool (decide (a < 0)), .sl ((limbs (Int.natAbs a)).length) (lm (limbs (Int.natAbs a)))])) : Runs Try.ir 73 [.agg [.bool neg, .sl xs.length (lm xs)]] (Try.sh73 a) := by
  unfold Try.sh73
  cases c1 : ((((limbs (Int.natAbs a)).length : Nat) : Int) == 0)
  · cases c2 : (decide (a < 0))
    · exact Runs.script (r := .int .i64 1) (ps := [Runs Try.ir 122 [.agg [.bool neg, .sl xs.length (lm xs)]] (.tup [.bool (decide (a < 0)), .sl ((limbs (Int.natAbs a)).length) (lm (limbs (Int.natAbs a)))]), ((((limbs (Int.natAbs a)).length : Nat) : Int) == 0) = false, (decide (a < 0)) = false]) TQ0_holds rfl 300 rfl [.r (.tup [.bool (decide (a < 0)), .sl ((limbs (Int.natAbs a)).length) (lm (limbs (Int.natAbs a)))]), .b false, .b false] (by kernel_rfl) ⟨h1, c1, c2, trivial⟩
    · exact Runs.script (r := .int .i64 (-1)) (ps := [Runs Try.ir 122 [.agg [.bool neg, .sl xs.length (lm xs)]] (.tup [.bool (decide (a < 0)), .sl ((limbs (Int.natAbs a)).length) (lm (limbs (Int.natAbs a)))]), ((((limbs (Int.natAbs a)).length : Nat) : Int) == 0) = false, (decide (a < 0)) = true]) TQ0_holds rfl 300 rfl [.r (.tup [.bool (decide (a < 0)), .sl ((limbs (Int.natAbs a)).length) (lm (limbs (Int.natAbs a)))]), .b false, .b true] (by kernel_rfl) ⟨h1, c1, c2, trivial⟩
  · exact Runs.script (r := .int .i64 0) (ps := [Runs Try.ir 122 [.agg [.bool neg, .sl xs.length (lm xs)]] (.tup [.bool (decide (a < 0)), .sl ((limbs (Int.natAbs a)).length) (lm (limbs (Int.natAbs a)))]), ((((limbs (Int.natAbs a)).length : Nat) : Int) == 0) = true]) TQ0_holds rfl 300 rfl [.r (.tup [.bool (decide (a < 0)), .sl ((limbs (Int.natAbs a)).length) (lm (limbs (Int.natAbs a)))]), .b true] (by kernel_rfl) ⟨h1, c1, trivial⟩
theorem wsign_run {neg : Bool} {xs : List Int} (hu : U32 xs) (hN : xs.length ≤ 1048576) : Runs Try.ir 73 [.agg [.bool neg, .sl xs.length (lm xs)]] (.int .i64 (sgnI (rv neg xs))) := by
  have h := Try.run73 neg xs (rv neg xs) (limbs_run hu hN)
  have e : Try.sh73 (rv neg xs) = .int .i64 (sgnI (rv neg xs)) := by
    unfold Try.sh73 sgnI
    have hz := limbs_zero_len (rv neg xs).natAbs
    by_cases h0 : rv neg xs = 0
    · rw [h0]; rfl
    · have e1 : ((((limbs (rv neg xs).natAbs).length : Nat) : Int) == 0) = false := by rw [beq_eq_false_iff_ne]; omega
      rw [e1]
      by_cases h1 : rv neg xs < 0
      · simp [h1]
      · have h2 : 0 < rv neg xs := by omega
        simp [h1, h2]
  rw [← e]; exact h
def TWA : Table := TQ0
theorem TWA_holds : THolds Try.ir TWA := TQ0_holds
end Go.Proofs.Ythnnfemologhfaa

namespace Go.Ai
theorem drop_val : ∀ (xs : List Int) (i : Nat), valL (xs.drop i) = xs.getD i 0 + 4294967296 * valL (xs.drop (i + 1))
  | [], i => by simp [valL]
  | x :: xs, 0 => by simp [valL]
  | x :: xs, i + 1 => by
    have := drop_val xs i
    simpa using this
theorem getD_other {xs : List Int} {i j : Nat} {v : Int} (h : i ≠ j) : (xs.set i v).getD j 0 = xs.getD j 0 := by
  simp only [List.getD_eq_getElem?_getD, List.getElem?_set_ne h]
theorem getD_end {xs : List Int} {i : Nat} (h : xs.length ≤ i) : xs.getD i 0 = 0 := by
  simp [List.getD_eq_getElem?_getD, List.getElem?_eq_none h]
theorem drop_end {xs : List Int} {i : Nat} (h : xs.length ≤ i) : valL (xs.drop i) = 0 := by
  rw [List.drop_eq_nil_of_le h]; rfl
def addGo (xs ys : List Int) : Nat → Nat → List Int → Int → List Int × Int
  | 0, _, o, c => (o, c)
  | r + 1, i, o, c => addGo xs ys r (i + 1) (o.set i ((xs.getD i 0 + c + ys.getD i 0) % 4294967296)) ((xs.getD i 0 + c + ys.getD i 0) / 4294967296)
theorem addGo_ok {xs ys : List Int} (hx : U32 xs) (hy : U32 ys) (hl : ys.length ≤ xs.length) : ∀ (r i : Nat) (o : List Int) (c : Int), r + i = xs.length → xs.length < o.length → U32 o → 0 ≤ c ∧ c ≤ 1 → (∀ j, i ≤ j → o.getD j 0 = 0) →
    (addGo xs ys r i o c).1.length = o.length ∧ U32 (addGo xs ys r i o c).1 ∧ (0 ≤ (addGo xs ys r i o c).2 ∧ (addGo xs ys r i o c).2 ≤ 1) ∧
    valL (addGo xs ys r i o c).1 + 4294967296 ^ xs.length * (addGo xs ys r i o c).2 = valL o + 4294967296 ^ i * (c + valL (xs.drop i) + valL (ys.drop i)) ∧
    ∀ j, xs.length ≤ j → (addGo xs ys r i o c).1.getD j 0 = 0 := by
  intro r
  induction r with
  | zero =>
    intro i o c hi _ hu hc hz
    have hi' : i = xs.length := by omega
    subst hi'
    refine ⟨rfl, hu, hc, ?_, fun j hj => hz j hj⟩
    rw [drop_end (Nat.le_refl _), drop_end hl]
    simp [addGo]
  | succ r ih =>
    intro i o c hi hlo hu hc hz
    have h1 := getD_u32 hx i
    have h2 := getD_u32 hy i
    simp only [addGo]
    have ex := drop_val xs i
    have ey := drop_val ys i
    have hoz := hz i (Nat.le_refl _)
    generalize hW : xs.getD i 0 + c + ys.getD i 0 = W at *
    have hm : 0 ≤ W % 4294967296 ∧ W % 4294967296 < 4294967296 := by omega
    obtain ⟨g1, g2, g3, g4, g5⟩ := ih (i + 1) (o.set i (W % 4294967296)) (W / 4294967296) (by omega) (by simpa using hlo) (u32_set hu hm) (by omega) (fun j hj => by rw [getD_other (by omega)]; exact hz j (by omega))
    refine ⟨by simpa using g1, g2, g3, ?_, g5⟩
    rw [g4, valL_set o i _ (by omega), ex, ey, hoz, Int.pow_succ]
    generalize (4294967296 : Int) ^ i = p at *
    generalize valL (xs.drop (i + 1)) = V at *
    generalize valL (ys.drop (i + 1)) = U at *
    have e1 : W = 4294967296 * (W / 4294967296) + W % 4294967296 := by omega
    have e2 : c = W - xs.getD i 0 - ys.getD i 0 := by omega
    rw [e2]
    generalize W / 4294967296 = q at *
    generalize W % 4294967296 = m at *
    generalize xs.getD i 0 = a at *
    generalize ys.getD i 0 = b at *
    subst e1
    grind
def subGo (xs ys : List Int) : Nat → Nat → List Int → Int → List Int × Int
  | 0, _, o, c => (o, c)
  | r + 1, i, o, c => subGo xs ys r (i + 1) (o.set i ((xs.getD i 0 - c - ys.getD i 0) % 4294967296)) (-((xs.getD i 0 - c - ys.getD i 0) / 4294967296))
theorem subGo_ok {xs ys : List Int} (hx : U32 xs) (hy : U32 ys) (hl : ys.length ≤ xs.length) : ∀ (r i : Nat) (o : List Int) (c : Int), r + i = xs.length → xs.length ≤ o.length → U32 o → 0 ≤ c ∧ c ≤ 1 → (∀ j, i ≤ j → o.getD j 0 = 0) →
    (subGo xs ys r i o c).1.length = o.length ∧ U32 (subGo xs ys r i o c).1 ∧ (0 ≤ (subGo xs ys r i o c).2 ∧ (subGo xs ys r i o c).2 ≤ 1) ∧
    valL (subGo xs ys r i o c).1 = valL o + 4294967296 ^ i * (valL (xs.drop i) - valL (ys.drop i) - c) + 4294967296 ^ xs.length * (subGo xs ys r i o c).2 := by
  intro r
  induction r with
  | zero =>
    intro i o c hi _ hu hc hz
    have hi' : i = xs.length := by omega
    subst hi'
    refine ⟨rfl, hu, hc, ?_⟩
    rw [drop_end (Nat.le_refl _), drop_end hl]
    simp only [subGo]
    generalize (4294967296 : Int) ^ xs.length = p
    grind
  | succ r ih =>
    intro i o c hi hlo hu hc hz
    have h1 := getD_u32 hx i
    have h2 := getD_u32 hy i
    simp only [subGo]
    have ex := drop_val xs i
    have ey := drop_val ys i
    have hoz := hz i (Nat.le_refl _)
    generalize hW : xs.getD i 0 - c - ys.getD i 0 = W at *
    have hm : 0 ≤ W % 4294967296 ∧ W % 4294967296 < 4294967296 := by omega
    obtain ⟨g1, g2, g3, g4⟩ := ih (i + 1) (o.set i (W % 4294967296)) (-(W / 4294967296)) (by omega) (by simpa using hlo) (u32_set hu hm) (by omega) (fun j hj => by rw [getD_other (by omega)]; exact hz j (by omega))
    refine ⟨by simpa using g1, g2, g3, ?_⟩
    rw [g4, valL_set o i _ (by omega), ex, ey, hoz, Int.pow_succ]
    generalize (4294967296 : Int) ^ i = p at *
    generalize valL (xs.drop (i + 1)) = V at *
    generalize valL (ys.drop (i + 1)) = U at *
    have e1 : W = 4294967296 * (W / 4294967296) + W % 4294967296 := by omega
    have e2 : c = xs.getD i 0 - ys.getD i 0 - W := by omega
    rw [e2]
    generalize W / 4294967296 = q at *
    generalize W % 4294967296 = m at *
    generalize xs.getD i 0 = a at *
    generalize ys.getD i 0 = b at *
    subst e1
    grind
theorem getD_zeros (n j : Nat) : (List.replicate n (0 : Int)).getD j 0 = 0 := by
  simp [List.getD_eq_getElem?_getD, List.getElem?_replicate]; split <;> rfl
theorem u32_zeros (n : Nat) : U32 (List.replicate n 0) := fun x hx => by rw [List.eq_of_mem_replicate hx]; omega
theorem add_whole {xs ys : List Int} (hx : U32 xs) (hy : U32 ys) (hl : ys.length ≤ xs.length) (o : List Int) (c : Int) (e : addGo xs ys xs.length 0 (List.replicate (xs.length + 1) 0) 0 = (o, c)) :
    o.length = xs.length + 1 ∧ U32 o ∧ (0 ≤ c ∧ c ≤ 1) ∧ U32 (o.set xs.length c) ∧ valL (o.set xs.length c) = valL xs + valL ys := by
  obtain ⟨g1, g2, g3, g4, g5⟩ := addGo_ok hx hy hl xs.length 0 (List.replicate (xs.length + 1) 0) 0 (by omega) (by simp) (u32_zeros _) (by omega) (fun j _ => getD_zeros _ j)
  rw [e] at g1 g2 g3 g4 g5
  dsimp only at g1 g2 g3 g4 g5
  have hlo : o.length = xs.length + 1 := by simpa using g1
  refine ⟨hlo, g2, g3, u32_set g2 (by omega), ?_⟩
  rw [valL_set o _ _ (by omega), g5 _ (Nat.le_refl _), Int.sub_zero, g4, valL_zeros]
  simp
theorem sub_whole {xs ys : List Int} (hx : U32 xs) (hy : U32 ys) (hl : ys.length ≤ xs.length) (hv : valL ys ≤ valL xs) (o : List Int) (c : Int) (e : subGo xs ys xs.length 0 (List.replicate xs.length 0) 0 = (o, c)) :
    o.length = xs.length ∧ U32 o ∧ valL o = valL xs - valL ys := by
  obtain ⟨g1, g2, g3, g4⟩ := subGo_ok hx hy hl xs.length 0 (List.replicate xs.length 0) 0 (by omega) (by simp) (u32_zeros _) (by omega) (fun j _ => getD_zeros _ j)
  rw [e] at g1 g2 g3 g4
  dsimp only at g1 g2 g3 g4
  have hlo : o.length = xs.length := by simpa using g1
  refine ⟨hlo, g2, ?_⟩
  rw [valL_zeros] at g4
  simp at g4
  have h1 := valL_lt g2
  rw [hlo] at h1
  have hp := pow32_pos xs.length
  rcases (show c = 0 ∨ c = 1 by omega) with h | h
  · rw [g4, h]; simp
  · rw [h, Int.mul_one] at g4; omega
end Go.Ai

namespace Go.Proofs.Ythnnfemologhfaa
open Go.Ai
set_option maxRecDepth 100000
def Try.c150 : ICode := .seq (.seq (.region false [oM 19 5,
   o1 20 (.bin .geq (.t 19) (.c (.int .i64 0)))])
  (.cond (.t 20) (.skip)
  (.exit 0)))
  (.seq (.block 1 (.seq (.region true [oM 23 0,
   oM 24 5,
   o1 25 (.ixa 23 (.t 24) 1),
   o1 26 (.ld 25 25 1 true),
   oM 27 1,
   oM 28 5,
   o1 29 (.ixa 27 (.t 28) 1),
   o1 30 (.ld 29 29 1 true),
   oB 31 .neq 26 30])
  (.cond (.t 31) (.seq (.seq (.region true [oM 32 0,
   oM 33 5,
   o1 34 (.ixa 32 (.t 33) 1),
   o1 35 (.ld 34 34 1 true),
   oM 36 1,
   oM 37 5,
   o1 38 (.ixa 36 (.t 37) 1),
   o1 39 (.ld 38 38 1 true),
   oB 40 .lss 35 39])
  (.cond (.t 40) (.seq (.region false [o1 4 (.mov (.c (.int .i64 (-1))))])
  (.ret))
  (.skip)))
  (.seq (.region false [o1 4 (.mov (.c (.int .i64 1)))])
  (.ret)))
  (.skip))))
  (.region false [oM 21 5,
   o1 22 (.bin .sub (.t 21) (.c (.int .i64 1))),
   oM 5 22]))
def Try.s150 (N : Nat) (cs : List AV) (M : Nat) (ds : List AV) (v i : Int) : State := (.val (.sl N cs) :: (.val (.sl M ds) :: (dds 2 (.val (.int .i64 v) :: (.val (.int .i64 i) :: (dds 35 []))))))
theorem Try.k150_1 (N : Nat) (cs : List AV) (M : Nat) (ds : List AV) (v i x y : Int) (c1 : (decide (i ≥ 0)) = true) (c2 : (x != y) = true) (c3 : (decide (x < y)) = true) (n1 : 0 ≤ i ∧ i < ((N : Nat) : Int)) (n2 : takeA (List.drop (Int.toNat i * 1) cs) 0 1 true = some (.int .u32 x)) (n3 : 0 ≤ i ∧ i < ((M : Nat) : Int)) (n4 : takeA (List.drop (Int.toNat i * 1) ds) 0 1 true = some (.int .u32 y)) (n5 : 0 ≤ i ∧ i < ((N : Nat) : Int)) (n6 : takeA (List.drop (Int.toNat i * 1) cs) 0 1 true = some (.int .u32 x)) (n7 : 0 ≤ i ∧ i < ((M : Nat) : Int)) (n8 : takeA (List.drop (Int.toNat i * 1) ds) 0 1 true = some (.int .u32 y)) : RunsW Try.ir Try.c150 (Try.s150 N cs M ds v i) .ret (Try.s150 N cs M ds (-1) i) :=
  RunsW.script (ps := [(decide (i ≥ 0)) = true, 0 ≤ i ∧ i < ((N : Nat) : Int), takeA (List.drop (Int.toNat i * 1) cs) 0 1 true = some (.int .u32 x), 0 ≤ i ∧ i < ((M : Nat) : Int), takeA (List.drop (Int.toNat i * 1) ds) 0 1 true = some (.int .u32 y), (x != y) = true, 0 ≤ i ∧ i < ((N : Nat) : Int), takeA (List.drop (Int.toNat i * 1) cs) 0 1 true = some (.int .u32 x), 0 ≤ i ∧ i < ((M : Nat) : Int), takeA (List.drop (Int.toNat i * 1) ds) 0 1 true = some (.int .u32 y), (decide (x < y)) = true]) TWA_holds 300 [.b true, .v (.int .u32 x), .v (.int .u32 y), .b true, .v (.int .u32 x), .v (.int .u32 y), .b true] [0, 1, 4, 5] (by kernel_rfl) ⟨c1, n1, n2, n3, n4, c2, n5, n6, n7, n8, c3, trivial⟩
theorem Try.k150_2 (N : Nat) (cs : List AV) (M : Nat) (ds : List AV) (v i x y : Int) (c1 : (decide (i ≥ 0)) = true) (c2 : (x != y) = true) (c3 : (decide (x < y)) = false) (n1 : 0 ≤ i ∧ i < ((N : Nat) : Int)) (n2 : takeA (List.drop (Int.toNat i * 1) cs) 0 1 true = some (.int .u32 x)) (n3 : 0 ≤ i ∧ i < ((M : Nat) : Int)) (n4 : takeA (List.drop (Int.toNat i * 1) ds) 0 1 true = some (.int .u32 y)) (n5 : 0 ≤ i ∧ i < ((N : Nat) : Int)) (n6 : takeA (List.drop (Int.toNat i * 1) cs) 0 1 true = some (.int .u32 x)) (n7 : 0 ≤ i ∧ i < ((M : Nat) : Int)) (n8 : takeA (List.drop (Int.toNat i * 1) ds) 0 1 true = some (.int .u32 y)) : RunsW Try.ir Try.c150 (Try.s150 N cs M ds v i) .ret (Try.s150 N cs M ds 1 i) :=
  RunsW.script (ps := [(decide (i ≥ 0)) = true, 0 ≤ i ∧ i < ((N : Nat) : Int), takeA (List.drop (Int.toNat i * 1) cs) 0 1 true = some (.int .u32 x), 0 ≤ i ∧ i < ((M : Nat) : Int), takeA (List.drop (Int.toNat i * 1) ds) 0 1 true = some (.int .u32 y), (x != y) = true, 0 ≤ i ∧ i < ((N : Nat) : Int), takeA (List.drop (Int.toNat i * 1) cs) 0 1 true = some (.int .u32 x), 0 ≤ i ∧ i < ((M : Nat) : Int), takeA (List.drop (Int.toNat i * 1) ds) 0 1 true = some (.int .u32 y), (decide (x < y)) = false]) TWA_holds 300 [.b true, .v (.int .u32 x), .v (.int .u32 y), .b true, .v (.int .u32 x), .v (.int .u32 y), .b false] [0, 1, 4, 5] (by kernel_rfl) ⟨c1, n1, n2, n3, n4, c2, n5, n6, n7, n8, c3, trivial⟩
theorem Try.k150_3 (N : Nat) (cs : List AV) (M : Nat) (ds : List AV) (v i x y : Int) (c1 : (decide (i ≥ 0)) = true) (c2 : (x != y) = false) (n1 : 0 ≤ i ∧ i < ((N : Nat) : Int)) (n2 : takeA (List.drop (Int.toNat i * 1) cs) 0 1 true = some (.int .u32 x)) (n3 : 0 ≤ i ∧ i < ((M : Nat) : Int)) (n4 : takeA (List.drop (Int.toNat i * 1) ds) 0 1 true = some (.int .u32 y)) : RunsW Try.ir Try.c150 (Try.s150 N cs M ds v i) .norm (Try.s150 N cs M ds v (IntKind.i64.wrap (i - 1))) :=
  RunsW.script (ps := [(decide (i ≥ 0)) = true, 0 ≤ i ∧ i < ((N : Nat) : Int), takeA (List.drop (Int.toNat i * 1) cs) 0 1 true = some (.int .u32 x), 0 ≤ i ∧ i < ((M : Nat) : Int), takeA (List.drop (Int.toNat i * 1) ds) 0 1 true = some (.int .u32 y), (x != y) = false]) TWA_holds 300 [.b true, .v (.int .u32 x), .v (.int .u32 y), .b false] [0, 1, 4, 5] (by kernel_rfl) ⟨c1, n1, n2, n3, n4, c2, trivial⟩
theorem Try.k150_4 (N : Nat) (cs : List AV) (M : Nat) (ds : List AV) (v i : Int) (c1 : (decide (i ≥ 0)) = false) : RunsW Try.ir Try.c150 (Try.s150 N cs M ds v i) (.exit 0) (Try.s150 N cs M ds v i) :=
  RunsW.script (ps := [(decide (i ≥ 0)) = false]) TWA_holds 300 [.b false] [0, 1, 4, 5] (by kernel_rfl) ⟨c1, trivial⟩
theorem Try.loop150 (xs ys : List Int) (hN : xs.length ≤ 1048576) (hl : xs.length = ys.length) : ∀ m, m ≤ xs.length →
    (cmpGo xs ys m = 0 ∧ RunsW Try.ir (.loop Try.c150) (Try.s150 xs.length (lm xs) ys.length (lm ys) 0 (((m : Nat) : Int) - 1)) (.exit 0) (Try.s150 xs.length (lm xs) ys.length (lm ys) 0 (-1))) ∨
    (cmpGo xs ys m ≠ 0 ∧ ∃ j, RunsW Try.ir (.loop Try.c150) (Try.s150 xs.length (lm xs) ys.length (lm ys) 0 (((m : Nat) : Int) - 1)) .ret (Try.s150 xs.length (lm xs) ys.length (lm ys) (cmpGo xs ys m) j)) := by
  intro m
  induction m with
  | zero =>
    intro _
    left
    refine ⟨rfl, ?_⟩
    exact RunsW.loop_out (Try.k150_4 xs.length (lm xs) ys.length (lm ys) 0 (((0 : Nat) : Int) - 1) (by simp)) (by intro e; cases e)
  | succ m ih =>
    intro hm
    have e0 : ((m + 1 : Nat) : Int) - 1 = ((m : Nat) : Int) := by omega
    have e1 : IntKind.i64.wrap (((m : Nat) : Int) - 1) = ((m : Nat) : Int) - 1 := w64 (by omega) (by omega)
    have hx := take_lim (xs := xs) (i := m) (by omega)
    have hy := take_lim (xs := ys) (i := m) (by omega)
    rw [e0]
    simp only [cmpGo]
    by_cases h : xs.getD m 0 = ys.getD m 0
    · rw [if_pos h]
      have h1 := Try.k150_3 xs.length (lm xs) ys.length (lm ys) 0 ((m : Nat) : Int) (xs.getD m 0) (ys.getD m 0) (by simp) (by simpa using h) (by omega) (by rw [Int.toNat_natCast]; exact hx) (by omega) (by rw [Int.toNat_natCast]; exact hy)
      rw [e1] at h1
      rcases ih (by omega) with ⟨k1, k2⟩ | ⟨k1, j, k2⟩
      · exact .inl ⟨k1, RunsW.loop h1 k2⟩
      · exact .inr ⟨k1, j, RunsW.loop h1 k2⟩
    · rw [if_neg h]
      right
      by_cases hlt : xs.getD m 0 < ys.getD m 0
      · rw [if_pos hlt]
        refine ⟨by decide, ((m : Nat) : Int), ?_⟩
        exact RunsW.loop_out (Try.k150_1 xs.length (lm xs) ys.length (lm ys) 0 ((m : Nat) : Int) (xs.getD m 0) (ys.getD m 0) (by simp) (by simpa using h) (by simpa using hlt) (by omega) (by rw [Int.toNat_natCast]; exact hx) (by omega) (by rw [Int.toNat_natCast]; exact hy) (by omega) (by rw [Int.toNat_natCast]; exact hx) (by omega) (by rw [Int.toNat_natCast]; exact hy)) (by intro e; cases e)
      · rw [if_neg hlt]
        refine ⟨by decide, ((m : Nat) : Int), ?_⟩
        exact RunsW.loop_out (Try.k150_2 xs.length (lm xs) ys.length (lm ys) 0 ((m : Nat) : Int) (xs.getD m 0) (ys.getD m 0) (by simp) (by simpa using h) (by simpa using hlt) (by omega) (by rw [Int.toNat_natCast]; exact hx) (by omega) (by rw [Int.toNat_natCast]; exact hy) (by omega) (by rw [Int.toNat_natCast]; exact hx) (by omega) (by rw [Int.toNat_natCast]; exact hy)) (by intro e; cases e)
theorem Try.run150_lt (xs ys : List Int) (h : (((xs.length : Nat) : Int) != ((ys.length : Nat) : Int)) = true) (h2 : (decide (((xs.length : Nat) : Int) < ((ys.length : Nat) : Int))) = true) : Runs Try.ir 150 [.sl xs.length (lm xs), .sl ys.length (lm ys)] (.int .i64 (-1)) :=
  Runs.script (ps := [(((xs.length : Nat) : Int) != ((ys.length : Nat) : Int)) = true, (decide (((xs.length : Nat) : Int) < ((ys.length : Nat) : Int))) = true]) TWA_holds rfl 300 rfl [.b true, .b true] (by kernel_rfl) ⟨h, h2, trivial⟩
theorem Try.run150_gt (xs ys : List Int) (h : (((xs.length : Nat) : Int) != ((ys.length : Nat) : Int)) = true) (h2 : (decide (((xs.length : Nat) : Int) < ((ys.length : Nat) : Int))) = false) : Runs Try.ir 150 [.sl xs.length (lm xs), .sl ys.length (lm ys)] (.int .i64 1) :=
  Runs.script (ps := [(((xs.length : Nat) : Int) != ((ys.length : Nat) : Int)) = true, (decide (((xs.length : Nat) : Int) < ((ys.length : Nat) : Int))) = false]) TWA_holds rfl 300 rfl [.b true, .b false] (by kernel_rfl) ⟨h, h2, trivial⟩
theorem Try.run150_eq (xs ys : List Int) (h : (((xs.length : Nat) : Int) != ((ys.length : Nat) : Int)) = false) (hl : RunsW Try.ir (.loop Try.c150) (Try.s150 xs.length (lm xs) ys.length (lm ys) 0 (IntKind.i64.wrap (((xs.length : Nat) : Int) - 1))) (.exit 0) (Try.s150 xs.length (lm xs) ys.length (lm ys) 0 (-1))) : Runs Try.ir 150 [.sl xs.length (lm xs), .sl ys.length (lm ys)] (.int .i64 0) :=
  Runs.of_bodyW (fn := Try.i150) (s := (.val (.sl xs.length (lm xs)) :: (.val (.sl ys.length (lm ys)) :: (dds 2 (.val (.int .i64 0) :: (.val (.int .i64 (-1)) :: (dds 35 []))))))) (ex := .ret) rfl rfl
    (RunsW.seq (RunsW.script (t := (.val (.sl xs.length (lm xs)) :: (.val (.sl ys.length (lm ys)) :: (dds 2 (.val (.int .i64 0) :: (dds 36 [])))))) (ex := .norm) (ps := []) TWA_holds 300 [] [0, 1, 4] (by kernel_rfl) trivial)
    (RunsW.seq (RunsW.script (t := (.val (.sl xs.length (lm xs)) :: (.val (.sl ys.length (lm ys)) :: (dds 2 (.val (.int .i64 0) :: (dds 1 (.val (.sl xs.length (lm xs)) :: (.val (.int .i64 ((xs.length : Nat) : Int)) :: (.val (.sl ys.length (lm ys)) :: (.val (.int .i64 ((ys.length : Nat) : Int)) :: (.val (.bool (((xs.length : Nat) : Int) != ((ys.length : Nat) : Int))) :: (dds 30 [])))))))))))) (ex := .norm) (ps := [(((xs.length : Nat) : Int) != ((ys.length : Nat) : Int)) = false]) TWA_holds 300 [.b false] [0, 1, 4, 6, 7, 8, 9, 10] (by kernel_rfl) ⟨h, trivial⟩)
    (RunsW.seq (RunsW.seq (RunsW.script (t := (.val (.sl xs.length (lm xs)) :: (.val (.sl ys.length (lm ys)) :: (dds 2 (.val (.int .i64 0) :: (.val (.int .i64 (IntKind.i64.wrap (((xs.length : Nat) : Int) - 1))) :: (dds 35 []))))))) (ex := .norm) (ps := []) TWA_holds 300 [] [0, 1, 4, 5] (by kernel_rfl) trivial)
    (RunsW.block hl))
    (RunsW.script (t := (.val (.sl xs.length (lm xs)) :: (.val (.sl ys.length (lm ys)) :: (dds 2 (.val (.int .i64 0) :: (.val (.int .i64 (-1)) :: (dds 35 []))))))) (ex := .ret) (ps := []) TWA_holds 300 [] [0, 1, 4, 5] (by kernel_rfl) trivial)))) (by intro i e; cases e) rfl
theorem Try.run150_ne (xs ys : List Int) (r j : Int) (h : (((xs.length : Nat) : Int) != ((ys.length : Nat) : Int)) = false) (hl : RunsW Try.ir (.loop Try.c150) (Try.s150 xs.length (lm xs) ys.length (lm ys) 0 (IntKind.i64.wrap (((xs.length : Nat) : Int) - 1))) .ret (Try.s150 xs.length (lm xs) ys.length (lm ys) r j)) : Runs Try.ir 150 [.sl xs.length (lm xs), .sl ys.length (lm ys)] (.int .i64 r) :=
  Runs.of_bodyW (fn := Try.i150) (s := (.val (.sl xs.length (lm xs)) :: (.val (.sl ys.length (lm ys)) :: (dds 2 (.val (.int .i64 r) :: (.val (.int .i64 j) :: (dds 35 []))))))) (ex := .ret) rfl rfl
    (RunsW.seq (RunsW.script (t := (.val (.sl xs.length (lm xs)) :: (.val (.sl ys.length (lm ys)) :: (dds 2 (.val (.int .i64 0) :: (dds 36 [])))))) (ex := .norm) (ps := []) TWA_holds 300 [] [0, 1, 4] (by kernel_rfl) trivial)
    (RunsW.seq (RunsW.script (t := (.val (.sl xs.length (lm xs)) :: (.val (.sl ys.length (lm ys)) :: (dds 2 (.val (.int .i64 0) :: (dds 1 (.val (.sl xs.length (lm xs)) :: (.val (.int .i64 ((xs.length : Nat) : Int)) :: (.val (.sl ys.length (lm ys)) :: (.val (.int .i64 ((ys.length : Nat) : Int)) :: (.val (.bool (((xs.length : Nat) : Int) != ((ys.length : Nat) : Int))) :: (dds 30 [])))))))))))) (ex := .norm) (ps := [(((xs.length : Nat) : Int) != ((ys.length : Nat) : Int)) = false]) TWA_holds 300 [.b false] [0, 1, 4, 6, 7, 8, 9, 10] (by kernel_rfl) ⟨h, trivial⟩)
    (RunsW.seq_out (RunsW.seq (RunsW.script (t := (.val (.sl xs.length (lm xs)) :: (.val (.sl ys.length (lm ys)) :: (dds 2 (.val (.int .i64 0) :: (.val (.int .i64 (IntKind.i64.wrap (((xs.length : Nat) : Int) - 1))) :: (dds 35 []))))))) (ex := .norm) (ps := []) TWA_holds 300 [] [0, 1, 4, 5] (by kernel_rfl) trivial)
    (RunsW.block_ret hl)) (by intro e; cases e)))) (by intro i e; cases e) rfl
theorem cmpLimbs_run {xs ys : List Int} (hx : Canon xs) (hy : Canon ys) (hN : xs.length ≤ 1048576) : Runs Try.ir 150 [.sl xs.length (lm xs), .sl ys.length (lm ys)] (.int .i64 (cmpI (valL xs) (valL ys))) := by
  by_cases hl : xs.length = ys.length
  · have h : (((xs.length : Nat) : Int) != ((ys.length : Nat) : Int)) = false := by rw [hl]; simp
    have hg := cmpGo_eq hx.1 hy.1 xs.length (Nat.le_refl _) (by omega)
    rw [List.take_length, hl, List.take_length, ← hl] at hg
    have e1 : IntKind.i64.wrap (((xs.length : Nat) : Int) - 1) = ((xs.length : Nat) : Int) - 1 := w64 (by omega) (by omega)
    rcases Try.loop150 xs ys hN hl xs.length (Nat.le_refl _) with ⟨k1, k2⟩ | ⟨k1, j, k2⟩
    · rw [← hg, k1]
      exact Try.run150_eq xs ys h (by rw [e1]; exact k2)
    · rw [← hg]
      exact Try.run150_ne xs ys _ j h (by rw [e1]; exact k2)
  · have h : (((xs.length : Nat) : Int) != ((ys.length : Nat) : Int)) = true := by simp; omega
    by_cases hlt : xs.length < ys.length
    · have e : cmpI (valL xs) (valL ys) = -1 := by unfold cmpI; rw [if_pos (canon_lt hx hy hlt)]
      rw [e]
      exact Try.run150_lt xs ys h (by simp; omega)
    · have := canon_lt hy hx (by omega)
      have e : cmpI (valL xs) (valL ys) = 1 := by unfold cmpI; rw [if_neg (by omega), if_pos this]
      rw [e]
      exact Try.run150_gt xs ys h (by simp; omega)
def Try.c156 : ICode := .seq (.region false [oB 23 .lss 22 21])
  (.seq (.cond (.t 23) (.skip)
  (.exit 0))
  (.seq (.block 1 (.seq (.region false [oM 24 22,
   oM 7 24])
  (.seq (.region false [oM 25 0,
   oM 26 7,
   o1 27 (.ixa 25 (.t 26) 1),
   o1 28 (.ld 27 27 1 true),
   o1 29 (.cv .u64 (.t 28)),
   oM 30 6,
   oB 31 .add 29 30,
   oM 8 31])
  (.seq (.seq (.region false [oM 32 7,
   oM 33 1,
   o1 34 (.len (.t 33)),
   oB 35 .lss 32 34])
  (.cond (.t 35) (.region false [oM 36 8,
   oM 37 1,
   oM 38 7,
   o1 39 (.ixa 37 (.t 38) 1),
   o1 40 (.ld 39 39 1 true),
   o1 41 (.cv .u64 (.t 40)),
   oB 42 .add 36 41,
   oM 8 42])
  (.skip)))
  (.region false [o1 43 (.cpy 5),
   oM 44 7,
   oM 45 8,
   o1 46 (.cv .u32 (.t 45)),
   oM 47 8,
   o1 48 (.bin .shr (.t 47) (.c (.int .u64 32))),
   o1 49 (.ixo 43 5 (.t 44) 1),
   oN (.st 49 5 1 (.t 46)),
   oM 6 48])))))
  (.region false [o1 50 (.bin .add (.t 22) (.c (.int .i64 1))),
   oM 22 50])))
def Try.s156 (la : Nat) (xa : List AV) (lb : Nat) (xb : List AV) (n : Nat) (cs : List AV) (c : Int) (m : Int) (i : Int) : State := (.val (.sl la xa) :: (.val (.sl lb xb) :: (dds 2 (.own 1 0 [] :: (.own 1 n cs :: (.val (.int .u64 c) :: (dds 14 (.val (.int .i64 m) :: (.val (.int .i64 i) :: (dds 35 []))))))))))
theorem Try.k156_1 (la : Nat) (xa : List AV) (lb : Nat) (xb : List AV) (n : Nat) (cs : List AV) (c : Int) (m : Int) (i : Int) (ds : List AV) (x y : Int) (c1 : (decide (i < m)) = true) (c2 : (decide (i < ((lb : Nat) : Int))) = true) (n1 : 0 ≤ i ∧ i < ((la : Nat) : Int)) (n2 : takeA (List.drop (Int.toNat i * 1) xa) 0 1 true = some (.int .u32 x)) (n3 : 0 ≤ i ∧ i < ((lb : Nat) : Int)) (n4 : takeA (List.drop (Int.toNat i * 1) xb) 0 1 true = some (.int .u32 y)) (n5 : 0 ≤ i ∧ i < ((n : Nat) : Int)) (n6 : layA cs (Int.toNat i * 1) [.int .u32 (IntKind.u32.wrap (IntKind.u64.wrap ((IntKind.u64.wrap ((IntKind.u64.wrap x) + c)) + (IntKind.u64.wrap y))))] = some ds) : RunsW Try.ir Try.c156 (Try.s156 la xa lb xb n cs c m i) .norm (Try.s156 la xa lb xb n ds (Int.fdiv (IntKind.u64.wrap ((IntKind.u64.wrap ((IntKind.u64.wrap x) + c)) + (IntKind.u64.wrap y))) (2 ^ (min (Int.toNat 32) (IntKind.bits .u64)))) m (IntKind.i64.wrap (i + 1))) :=
  RunsW.script (ps := [(decide (i < m)) = true, 0 ≤ i ∧ i < ((la : Nat) : Int), takeA (List.drop (Int.toNat i * 1) xa) 0 1 true = some (.int .u32 x), (decide (i < ((lb : Nat) : Int))) = true, 0 ≤ i ∧ i < ((lb : Nat) : Int), takeA (List.drop (Int.toNat i * 1) xb) 0 1 true = some (.int .u32 y), ¬ (32 : Int) < 0, 0 ≤ i ∧ i < ((n : Nat) : Int), layA cs (Int.toNat i * 1) [.int .u32 (IntKind.u32.wrap (IntKind.u64.wrap ((IntKind.u64.wrap ((IntKind.u64.wrap x) + c)) + (IntKind.u64.wrap y))))] = some ds]) TWA_holds 300 [.b true, .v (.int .u32 x), .b true, .v (.int .u32 y), .l ds] [0, 1, 4, 5, 6, 21, 22] (by kernel_rfl) ⟨c1, n1, n2, c2, n3, n4, (by decide), n5, n6, trivial⟩
theorem Try.k156_2 (la : Nat) (xa : List AV) (lb : Nat) (xb : List AV) (n : Nat) (cs : List AV) (c : Int) (m : Int) (i : Int) (ds : List AV) (x : Int) (c1 : (decide (i < m)) = true) (c2 : (decide (i < ((lb : Nat) : Int))) = false) (n1 : 0 ≤ i ∧ i < ((la : Nat) : Int)) (n2 : takeA (List.drop (Int.toNat i * 1) xa) 0 1 true = some (.int .u32 x)) (n3 : 0 ≤ i ∧ i < ((n : Nat) : Int)) (n4 : layA cs (Int.toNat i * 1) [.int .u32 (IntKind.u32.wrap (IntKind.u64.wrap ((IntKind.u64.wrap x) + c)))] = some ds) : RunsW Try.ir Try.c156 (Try.s156 la xa lb xb n cs c m i) .norm (Try.s156 la xa lb xb n ds (Int.fdiv (IntKind.u64.wrap ((IntKind.u64.wrap x) + c)) (2 ^ (min (Int.toNat 32) (IntKind.bits .u64)))) m (IntKind.i64.wrap (i + 1))) :=
  RunsW.script (ps := [(decide (i < m)) = true, 0 ≤ i ∧ i < ((la : Nat) : Int), takeA (List.drop (Int.toNat i * 1) xa) 0 1 true = some (.int .u32 x), (decide (i < ((lb : Nat) : Int))) = false, ¬ (32 : Int) < 0, 0 ≤ i ∧ i < ((n : Nat) : Int), layA cs (Int.toNat i * 1) [.int .u32 (IntKind.u32.wrap (IntKind.u64.wrap ((IntKind.u64.wrap x) + c)))] = some ds]) TWA_holds 300 [.b true, .v (.int .u32 x), .b false, .l ds] [0, 1, 4, 5, 6, 21, 22] (by kernel_rfl) ⟨c1, n1, n2, c2, (by decide), n3, n4, trivial⟩
theorem Try.k156_3 (la : Nat) (xa : List AV) (lb : Nat) (xb : List AV) (n : Nat) (cs : List AV) (c : Int) (m : Int) (i : Int) (c1 : (decide (i < m)) = false) : RunsW Try.ir Try.c156 (Try.s156 la xa lb xb n cs c m i) (.exit 0) (Try.s156 la xa lb xb n cs c m i) :=
  RunsW.script (ps := [(decide (i < m)) = false]) TWA_holds 300 [.b false] [0, 1, 4, 5, 6, 21, 22] (by kernel_rfl) ⟨c1, trivial⟩
theorem Try.loop156 (xs ys : List Int) (hx : U32 xs) (hy : U32 ys) (n : Nat) (hn : n ≤ 1048576) (hxn : xs.length ≤ n) : ∀ (r i : Nat) (o : List Int) (c : Int), r + i = xs.length → o.length = n → U32 o → 0 ≤ c ∧ c ≤ 1 →
    RunsW Try.ir (.loop Try.c156) (Try.s156 xs.length (lm xs) ys.length (lm ys) n (lm o) c ((xs.length : Nat) : Int) ((i : Nat) : Int)) (.exit 0)
      (Try.s156 xs.length (lm xs) ys.length (lm ys) n (lm (addGo xs ys r i o c).1) (addGo xs ys r i o c).2 ((xs.length : Nat) : Int) ((xs.length : Nat) : Int)) := by
  intro r
  induction r with
  | zero =>
    intro i o c hi _ _ _
    have hi' : i = xs.length := by omega
    subst hi'
    exact RunsW.loop_out (Try.k156_3 xs.length (lm xs) ys.length (lm ys) n (lm o) c ((xs.length : Nat) : Int) ((xs.length : Nat) : Int) (by simp)) (by intro e; cases e)
  | succ r ih =>
    intro i o c hi hlo hu hc
    have h1 := getD_u32 hx i
    have h2 := getD_u32 hy i
    have ei : IntKind.i64.wrap (((i : Nat) : Int) + 1) = ((i + 1 : Nat) : Int) := by rw [w64 (by omega) (by omega)]; omega
    have hxi := take_lim (xs := xs) (i := i) (by omega)
    have hst := lay_lim (xs := o) (i := i) (v := (xs.getD i 0 + c + ys.getD i 0) % 4294967296) (by omega)
    by_cases hy2 : i < ys.length
    · have hyi := take_lim (xs := ys) (i := i) hy2
      have eW : IntKind.u32.wrap (IntKind.u64.wrap (IntKind.u64.wrap (IntKind.u64.wrap (xs.getD i 0) + c) + IntKind.u64.wrap (ys.getD i 0))) = (xs.getD i 0 + c + ys.getD i 0) % 4294967296 := by rw [wu32, wu64m, wu64m, wu64m, wu64m]; omega
      have eC : Int.fdiv (IntKind.u64.wrap (IntKind.u64.wrap (IntKind.u64.wrap (xs.getD i 0) + c) + IntKind.u64.wrap (ys.getD i 0))) (2 ^ (min (Int.toNat 32) (IntKind.bits .u64))) = ((xs.getD i 0 + c + ys.getD i 0) / 4294967296) := by
        show Int.fdiv _ 4294967296 = _
        rw [Int.fdiv_eq_ediv_of_nonneg _ (by omega), wu64m, wu64m, wu64m, wu64m]; omega
      have k := Try.k156_1 xs.length (lm xs) ys.length (lm ys) n (lm o) c ((xs.length : Nat) : Int) ((i : Nat) : Int) (lm (o.set i ((xs.getD i 0 + c + ys.getD i 0) % 4294967296))) (xs.getD i 0) (ys.getD i 0)
        (by simp; omega) (by simp; omega) (by omega) (by rw [Int.toNat_natCast]; exact hxi) (by omega) (by rw [Int.toNat_natCast]; exact hyi) (by omega) (by rw [Int.toNat_natCast, eW]; exact hst)
      rw [eC, ei] at k
      exact RunsW.loop k (ih (i + 1) _ _ (by omega) (by simpa using hlo) (u32_set hu (by omega)) (by omega))
    · have hy0 := getD_end (xs := ys) (i := i) (by omega)
      have eW : IntKind.u32.wrap (IntKind.u64.wrap (IntKind.u64.wrap (xs.getD i 0) + c)) = (xs.getD i 0 + c + ys.getD i 0) % 4294967296 := by rw [wu32, wu64m, wu64m]; omega
      have eC : Int.fdiv (IntKind.u64.wrap (IntKind.u64.wrap (xs.getD i 0) + c)) (2 ^ (min (Int.toNat 32) (IntKind.bits .u64))) = ((xs.getD i 0 + c + ys.getD i 0) / 4294967296) := by
        show Int.fdiv _ 4294967296 = _
        rw [Int.fdiv_eq_ediv_of_nonneg _ (by omega), wu64m, wu64m]; omega
      have k := Try.k156_2 xs.length (lm xs) ys.length (lm ys) n (lm o) c ((xs.length : Nat) : Int) ((i : Nat) : Int) (lm (o.set i ((xs.getD i 0 + c + ys.getD i 0) % 4294967296))) (xs.getD i 0)
        (by simp; omega) (by simp; omega) (by omega) (by rw [Int.toNat_natCast]; exact hxi) (by omega) (by rw [Int.toNat_natCast, eW]; exact hst)
      rw [eC, ei] at k
      exact RunsW.loop k (ih (i + 1) _ _ (by omega) (by simpa using hlo) (u32_set hu (by omega)) (by omega))
def Try.c157 : ICode := .seq (.region false [oB 15 .lss 14 13])
  (.seq (.cond (.t 15) (.skip)
  (.exit 0))
  (.seq (.block 1 (.seq (.region false [oM 16 14,
   oM 7 16])
  (.seq (.region false [oM 17 0,
   oM 18 7,
   o1 19 (.ixa 17 (.t 18) 1),
   o1 20 (.ld 19 19 1 true),
   o1 21 (.cv .u64 (.t 20)),
   oM 22 6,
   oB 23 .sub 21 22,
   oM 8 23])
  (.seq (.seq (.region false [oM 24 7,
   oM 25 1,
   o1 26 (.len (.t 25)),
   oB 27 .lss 24 26])
  (.cond (.t 27) (.region false [oM 28 8,
   oM 29 1,
   oM 30 7,
   o1 31 (.ixa 29 (.t 30) 1),
   o1 32 (.ld 31 31 1 true),
   o1 33 (.cv .u64 (.t 32)),
   oB 34 .sub 28 33,
   oM 8 34])
  (.skip)))
  (.region false [o1 35 (.cpy 5),
   oM 36 7,
   oM 37 8,
   o1 38 (.cv .u32 (.t 37)),
   oM 39 8,
   o1 40 (.bin .shr (.t 39) (.c (.int .u64 63))),
   o1 41 (.ixo 35 5 (.t 36) 1),
   oN (.st 41 5 1 (.t 38)),
   oM 6 40])))))
  (.region false [o1 42 (.bin .add (.t 14) (.c (.int .i64 1))),
   oM 14 42])))
def Try.s157 (la : Nat) (xa : List AV) (lb : Nat) (xb : List AV) (n : Nat) (cs : List AV) (c : Int) (m : Int) (i : Int) : State := (.val (.sl la xa) :: (.val (.sl lb xb) :: (dds 2 (.own 1 0 [] :: (.own 1 n cs :: (.val (.int .u64 c) :: (dds 6 (.val (.int .i64 m) :: (.val (.int .i64 i) :: (dds 29 []))))))))))
theorem Try.k157_1 (la : Nat) (xa : List AV) (lb : Nat) (xb : List AV) (n : Nat) (cs : List AV) (c : Int) (m : Int) (i : Int) (ds : List AV) (x y : Int) (c1 : (decide (i < m)) = true) (c2 : (decide (i < ((lb : Nat) : Int))) = true) (n1 : 0 ≤ i ∧ i < ((la : Nat) : Int)) (n2 : takeA (List.drop (Int.toNat i * 1) xa) 0 1 true = some (.int .u32 x)) (n3 : 0 ≤ i ∧ i < ((lb : Nat) : Int)) (n4 : takeA (List.drop (Int.toNat i * 1) xb) 0 1 true = some (.int .u32 y)) (n5 : 0 ≤ i ∧ i < ((n : Nat) : Int)) (n6 : layA cs (Int.toNat i * 1) [.int .u32 (IntKind.u32.wrap (IntKind.u64.wrap ((IntKind.u64.wrap ((IntKind.u64.wrap x) - c)) - (IntKind.u64.wrap y))))] = some ds) : RunsW Try.ir Try.c157 (Try.s157 la xa lb xb n cs c m i) .norm (Try.s157 la xa lb xb n ds (Int.fdiv (IntKind.u64.wrap ((IntKind.u64.wrap ((IntKind.u64.wrap x) - c)) - (IntKind.u64.wrap y))) (2 ^ (min (Int.toNat 63) (IntKind.bits .u64)))) m (IntKind.i64.wrap (i + 1))) :=
  RunsW.script (ps := [(decide (i < m)) = true, 0 ≤ i ∧ i < ((la : Nat) : Int), takeA (List.drop (Int.toNat i * 1) xa) 0 1 true = some (.int .u32 x), (decide (i < ((lb : Nat) : Int))) = true, 0 ≤ i ∧ i < ((lb : Nat) : Int), takeA (List.drop (Int.toNat i * 1) xb) 0 1 true = some (.int .u32 y), ¬ (63 : Int) < 0, 0 ≤ i ∧ i < ((n : Nat) : Int), layA cs (Int.toNat i * 1) [.int .u32 (IntKind.u32.wrap (IntKind.u64.wrap ((IntKind.u64.wrap ((IntKind.u64.wrap x) - c)) - (IntKind.u64.wrap y))))] = some ds]) TWA_holds 300 [.b true, .v (.int .u32 x), .b true, .v (.int .u32 y), .l ds] [0, 1, 4, 5, 6, 13, 14] (by kernel_rfl) ⟨c1, n1, n2, c2, n3, n4, (by decide), n5, n6, trivial⟩
theorem Try.k157_2 (la : Nat) (xa : List AV) (lb : Nat) (xb : List AV) (n : Nat) (cs : List AV) (c : Int) (m : Int) (i : Int) (ds : List AV) (x : Int) (c1 : (decide (i < m)) = true) (c2 : (decide (i < ((lb : Nat) : Int))) = false) (n1 : 0 ≤ i ∧ i < ((la : Nat) : Int)) (n2 : takeA (List.drop (Int.toNat i * 1) xa) 0 1 true = some (.int .u32 x)) (n3 : 0 ≤ i ∧ i < ((n : Nat) : Int)) (n4 : layA cs (Int.toNat i * 1) [.int .u32 (IntKind.u32.wrap (IntKind.u64.wrap ((IntKind.u64.wrap x) - c)))] = some ds) : RunsW Try.ir Try.c157 (Try.s157 la xa lb xb n cs c m i) .norm (Try.s157 la xa lb xb n ds (Int.fdiv (IntKind.u64.wrap ((IntKind.u64.wrap x) - c)) (2 ^ (min (Int.toNat 63) (IntKind.bits .u64)))) m (IntKind.i64.wrap (i + 1))) :=
  RunsW.script (ps := [(decide (i < m)) = true, 0 ≤ i ∧ i < ((la : Nat) : Int), takeA (List.drop (Int.toNat i * 1) xa) 0 1 true = some (.int .u32 x), (decide (i < ((lb : Nat) : Int))) = false, ¬ (63 : Int) < 0, 0 ≤ i ∧ i < ((n : Nat) : Int), layA cs (Int.toNat i * 1) [.int .u32 (IntKind.u32.wrap (IntKind.u64.wrap ((IntKind.u64.wrap x) - c)))] = some ds]) TWA_holds 300 [.b true, .v (.int .u32 x), .b false, .l ds] [0, 1, 4, 5, 6, 13, 14] (by kernel_rfl) ⟨c1, n1, n2, c2, (by decide), n3, n4, trivial⟩
theorem Try.k157_3 (la : Nat) (xa : List AV) (lb : Nat) (xb : List AV) (n : Nat) (cs : List AV) (c : Int) (m : Int) (i : Int) (c1 : (decide (i < m)) = false) : RunsW Try.ir Try.c157 (Try.s157 la xa lb xb n cs c m i) (.exit 0) (Try.s157 la xa lb xb n cs c m i) :=
  RunsW.script (ps := [(decide (i < m)) = false]) TWA_holds 300 [.b false] [0, 1, 4, 5, 6, 13, 14] (by kernel_rfl) ⟨c1, trivial⟩
theorem Try.loop157 (xs ys : List Int) (hx : U32 xs) (hy : U32 ys) (n : Nat) (hn : n ≤ 1048576) (hxn : xs.length ≤ n) : ∀ (r i : Nat) (o : List Int) (c : Int), r + i = xs.length → o.length = n → U32 o → 0 ≤ c ∧ c ≤ 1 →
    RunsW Try.ir (.loop Try.c157) (Try.s157 xs.length (lm xs) ys.length (lm ys) n (lm o) c ((xs.length : Nat) : Int) ((i : Nat) : Int)) (.exit 0)
      (Try.s157 xs.length (lm xs) ys.length (lm ys) n (lm (subGo xs ys r i o c).1) (subGo xs ys r i o c).2 ((xs.length : Nat) : Int) ((xs.length : Nat) : Int)) := by
  intro r
  induction r with
  | zero =>
    intro i o c hi _ _ _
    have hi' : i = xs.length := by omega
    subst hi'
    exact RunsW.loop_out (Try.k157_3 xs.length (lm xs) ys.length (lm ys) n (lm o) c ((xs.length : Nat) : Int) ((xs.length : Nat) : Int) (by simp)) (by intro e; cases e)
  | succ r ih =>
    intro i o c hi hlo hu hc
    have h1 := getD_u32 hx i
    have h2 := getD_u32 hy i
    have ei : IntKind.i64.wrap (((i : Nat) : Int) + 1) = ((i + 1 : Nat) : Int) := by rw [w64 (by omega) (by omega)]; omega
    have hxi := take_lim (xs := xs) (i := i) (by omega)
    have hst := lay_lim (xs := o) (i := i) (v := (xs.getD i 0 - c - ys.getD i 0) % 4294967296) (by omega)
    by_cases hy2 : i < ys.length
    · have hyi := take_lim (xs := ys) (i := i) hy2
      have eW : IntKind.u32.wrap (IntKind.u64.wrap (IntKind.u64.wrap (IntKind.u64.wrap (xs.getD i 0) - c) - IntKind.u64.wrap (ys.getD i 0))) = (xs.getD i 0 - c - ys.getD i 0) % 4294967296 := by rw [wu32, wu64m, wu64m, wu64m, wu64m]; omega
      have eC : Int.fdiv (IntKind.u64.wrap (IntKind.u64.wrap (IntKind.u64.wrap (xs.getD i 0) - c) - IntKind.u64.wrap (ys.getD i 0))) (2 ^ (min (Int.toNat 63) (IntKind.bits .u64))) = (-((xs.getD i 0 - c - ys.getD i 0) / 4294967296)) := by
        show Int.fdiv _ 9223372036854775808 = _
        rw [Int.fdiv_eq_ediv_of_nonneg _ (by omega), wu64m, wu64m, wu64m, wu64m]; omega
      have k := Try.k157_1 xs.length (lm xs) ys.length (lm ys) n (lm o) c ((xs.length : Nat) : Int) ((i : Nat) : Int) (lm (o.set i ((xs.getD i 0 - c - ys.getD i 0) % 4294967296))) (xs.getD i 0) (ys.getD i 0)
        (by simp; omega) (by simp; omega) (by omega) (by rw [Int.toNat_natCast]; exact hxi) (by omega) (by rw [Int.toNat_natCast]; exact hyi) (by omega) (by rw [Int.toNat_natCast, eW]; exact hst)
      rw [eC, ei] at k
      exact RunsW.loop k (ih (i + 1) _ _ (by omega) (by simpa using hlo) (u32_set hu (by omega)) (by omega))
    · have hy0 := getD_end (xs := ys) (i := i) (by omega)
      have eW : IntKind.u32.wrap (IntKind.u64.wrap (IntKind.u64.wrap (xs.getD i 0) - c)) = (xs.getD i 0 - c - ys.getD i 0) % 4294967296 := by rw [wu32, wu64m, wu64m]; omega
      have eC : Int.fdiv (IntKind.u64.wrap (IntKind.u64.wrap (xs.getD i 0) - c)) (2 ^ (min (Int.toNat 63) (IntKind.bits .u64))) = (-((xs.getD i 0 - c - ys.getD i 0) / 4294967296)) := by
        show Int.fdiv _ 9223372036854775808 = _
        rw [Int.fdiv_eq_ediv_of_nonneg _ (by omega), wu64m, wu64m]; omega
      have k := Try.k157_2 xs.length (lm xs) ys.length (lm ys) n (lm o) c ((xs.length : Nat) : Int) ((i : Nat) : Int) (lm (o.set i ((xs.getD i 0 - c - ys.getD i 0) % 4294967296))) (xs.getD i 0)
        (by simp; omega) (by simp; omega) (by omega) (by rw [Int.toNat_natCast]; exact hxi) (by omega) (by rw [Int.toNat_natCast, eW]; exact hst)
      rw [eC, ei] at k
      exact RunsW.loop k (ih (i + 1) _ _ (by omega) (by simpa using hlo) (u32_set hu (by omega)) (by omega))
theorem Try.run156_sw (xs ys o : List Int) (c : Int) (h : (decide (((xs.length : Nat) : Int) < ((ys.length : Nat) : Int))) = true) (hmk : 0 ≤ IntKind.i64.wrap (((ys.length : Nat) : Int) + 1) ∧ IntKind.i64.wrap (((ys.length : Nat) : Int) + 1) ≤ 1048576)
    (hl : RunsW Try.ir (.loop Try.c156) (Try.s156 ys.length (lm ys) xs.length (lm xs) (Int.toNat (IntKind.i64.wrap (((ys.length : Nat) : Int) + 1))) (replA [.int .u32 0] (Int.toNat (IntKind.i64.wrap (((ys.length : Nat) : Int) + 1)))) 0 ((ys.length : Nat) : Int) 0) (.exit 0) (Try.s156 ys.length (lm ys) xs.length (lm xs) (Int.toNat (IntKind.i64.wrap (((ys.length : Nat) : Int) + 1))) (lm o) c ((ys.length : Nat) : Int) ((ys.length : Nat) : Int)))
    (hix : 0 ≤ ((ys.length : Nat) : Int) ∧ ((ys.length : Nat) : Int) < (((Int.toNat (IntKind.i64.wrap (((ys.length : Nat) : Int) + 1))) : Nat) : Int)) (hst : layA (lm o) (Int.toNat ((ys.length : Nat) : Int) * 1) [.int .u32 (IntKind.u32.wrap c)] = some (lm (o.set ys.length c))) :
    Runs Try.ir 156 [.sl xs.length (lm xs), .sl ys.length (lm ys)] (.fresh 1 (Int.toNat (IntKind.i64.wrap (((ys.length : Nat) : Int) + 1))) (lm (o.set ys.length c))) :=
  Runs.of_bodyW (fn := Try.i156) (s := (.val (.sl ys.length (lm ys)) :: (.val (.sl xs.length (lm xs)) :: (dds 2 (.own 1 (Int.toNat (IntKind.i64.wrap (((ys.length : Nat) : Int) + 1))) (lm (o.set ys.length c)) :: (dds 1 (.val (.int .u64 c) :: (dds 14 (.val (.int .i64 ((ys.length : Nat) : Int)) :: (.val (.int .i64 ((ys.length : Nat) : Int)) :: (dds 28 (.dup 5 :: (.val (.sl ys.length (lm ys)) :: (.val (.int .i64 ((ys.length : Nat) : Int)) :: (.val (.int .u64 c) :: (.val (.int .u32 (IntKind.u32.wrap c)) :: (.ptr 5 (Int.toNat ((ys.length : Nat) : Int) * 1) :: (dds 1 [])))))))))))))))))) (ex := .ret) rfl rfl
    (RunsW.seq (RunsW.script (t := (.val (.sl xs.length (lm xs)) :: (.val (.sl ys.length (lm ys)) :: (dds 2 (.own 1 0 [] :: (dds 53 [])))))) (ex := .norm) (ps := []) TWA_holds 300 [] [0, 1, 4] (by kernel_rfl) trivial)
    (RunsW.seq (RunsW.script (t := (.val (.sl ys.length (lm ys)) :: (.val (.sl xs.length (lm xs)) :: (dds 2 (.own 1 0 [] :: (dds 4 (.val (.sl xs.length (lm xs)) :: (.val (.int .i64 ((xs.length : Nat) : Int)) :: (.val (.sl ys.length (lm ys)) :: (.val (.int .i64 ((ys.length : Nat) : Int)) :: (.val (.bool (decide (((xs.length : Nat) : Int) < ((ys.length : Nat) : Int)))) :: (.val (.sl ys.length (lm ys)) :: (.val (.sl xs.length (lm xs)) :: (dds 42 [])))))))))))))) (ex := .norm) (ps := [(decide (((xs.length : Nat) : Int) < ((ys.length : Nat) : Int))) = true]) TWA_holds 300 [.b true] [0, 1, 4, 9, 10, 11, 12, 13, 14, 15] (by kernel_rfl) ⟨h, trivial⟩)
    (RunsW.seq (RunsW.script (t := (.val (.sl ys.length (lm ys)) :: (.val (.sl xs.length (lm xs)) :: (dds 2 (.own 1 0 [] :: (.own 1 (Int.toNat (IntKind.i64.wrap (((ys.length : Nat) : Int) + 1))) (replA [.int .u32 0] (Int.toNat (IntKind.i64.wrap (((ys.length : Nat) : Int) + 1)))) :: (dds 3 (.val (.sl xs.length (lm xs)) :: (.val (.int .i64 ((xs.length : Nat) : Int)) :: (.val (.sl ys.length (lm ys)) :: (.val (.int .i64 ((ys.length : Nat) : Int)) :: (.val (.bool (decide (((xs.length : Nat) : Int) < ((ys.length : Nat) : Int)))) :: (.val (.sl ys.length (lm ys)) :: (.val (.sl xs.length (lm xs)) :: (.val (.sl ys.length (lm ys)) :: (.val (.int .i64 ((ys.length : Nat) : Int)) :: (.val (.int .i64 (IntKind.i64.wrap (((ys.length : Nat) : Int) + 1))) :: (dds 39 [])))))))))))))))))) (ex := .norm) (ps := [0 ≤ (IntKind.i64.wrap (((ys.length : Nat) : Int) + 1)) ∧ (IntKind.i64.wrap (((ys.length : Nat) : Int) + 1)) ≤ 1048576]) TWA_holds 300 [] [0, 1, 4, 5, 9, 10, 11, 12, 13, 14, 15, 16, 17, 18] (by kernel_rfl) ⟨hmk, trivial⟩)
    (RunsW.seq (RunsW.script (t := (.val (.sl ys.length (lm ys)) :: (.val (.sl xs.length (lm xs)) :: (dds 2 (.own 1 0 [] :: (.own 1 (Int.toNat (IntKind.i64.wrap (((ys.length : Nat) : Int) + 1))) (replA [.int .u32 0] (Int.toNat (IntKind.i64.wrap (((ys.length : Nat) : Int) + 1)))) :: (.val (.int .u64 0) :: (dds 2 (.val (.sl xs.length (lm xs)) :: (.val (.int .i64 ((xs.length : Nat) : Int)) :: (.val (.sl ys.length (lm ys)) :: (.val (.int .i64 ((ys.length : Nat) : Int)) :: (.val (.bool (decide (((xs.length : Nat) : Int) < ((ys.length : Nat) : Int)))) :: (.val (.sl ys.length (lm ys)) :: (.val (.sl xs.length (lm xs)) :: (.val (.sl ys.length (lm ys)) :: (.val (.int .i64 ((ys.length : Nat) : Int)) :: (.val (.int .i64 (IntKind.i64.wrap (((ys.length : Nat) : Int) + 1))) :: (dds 39 []))))))))))))))))))) (ex := .norm) (ps := []) TWA_holds 300 [] [0, 1, 4, 5, 6, 9, 10, 11, 12, 13, 14, 15, 16, 17, 18] (by kernel_rfl) trivial)
    (RunsW.seq (RunsW.seq (RunsW.script (t := (.val (.sl ys.length (lm ys)) :: (.val (.sl xs.length (lm xs)) :: (dds 2 (.own 1 0 [] :: (.own 1 (Int.toNat (IntKind.i64.wrap (((ys.length : Nat) : Int) + 1))) (replA [.int .u32 0] (Int.toNat (IntKind.i64.wrap (((ys.length : Nat) : Int) + 1)))) :: (.val (.int .u64 0) :: (dds 14 (.val (.int .i64 ((ys.length : Nat) : Int)) :: (.val (.int .i64 0) :: (dds 35 []))))))))))) (ex := .norm) (ps := []) TWA_holds 300 [] [0, 1, 4, 5, 6, 21, 22] (by kernel_rfl) trivial)
    (RunsW.block hl))
    (RunsW.script (t := (.val (.sl ys.length (lm ys)) :: (.val (.sl xs.length (lm xs)) :: (dds 2 (.own 1 (Int.toNat (IntKind.i64.wrap (((ys.length : Nat) : Int) + 1))) (lm (o.set ys.length c)) :: (dds 1 (.val (.int .u64 c) :: (dds 14 (.val (.int .i64 ((ys.length : Nat) : Int)) :: (.val (.int .i64 ((ys.length : Nat) : Int)) :: (dds 28 (.dup 5 :: (.val (.sl ys.length (lm ys)) :: (.val (.int .i64 ((ys.length : Nat) : Int)) :: (.val (.int .u64 c) :: (.val (.int .u32 (IntKind.u32.wrap c)) :: (.ptr 5 (Int.toNat ((ys.length : Nat) : Int) * 1) :: (dds 1 [])))))))))))))))))) (ex := .ret) (ps := [0 ≤ ((ys.length : Nat) : Int) ∧ ((ys.length : Nat) : Int) < (((Int.toNat (IntKind.i64.wrap (((ys.length : Nat) : Int) + 1))) : Nat) : Int), layA (lm o) (Int.toNat ((ys.length : Nat) : Int) * 1) [.int .u32 (IntKind.u32.wrap c)] = some (lm (o.set ys.length c))]) TWA_holds 300 [.l (lm (o.set ys.length c))] [0, 1, 4, 6, 21, 22, 51, 52, 53, 54, 55, 56] (by kernel_rfl) ⟨hix, hst, trivial⟩)))))) (by intro i e; cases e) rfl
theorem Try.run156_no (xs ys o : List Int) (c : Int) (h : (decide (((xs.length : Nat) : Int) < ((ys.length : Nat) : Int))) = false) (hmk : 0 ≤ IntKind.i64.wrap (((xs.length : Nat) : Int) + 1) ∧ IntKind.i64.wrap (((xs.length : Nat) : Int) + 1) ≤ 1048576)
    (hl : RunsW Try.ir (.loop Try.c156) (Try.s156 xs.length (lm xs) ys.length (lm ys) (Int.toNat (IntKind.i64.wrap (((xs.length : Nat) : Int) + 1))) (replA [.int .u32 0] (Int.toNat (IntKind.i64.wrap (((xs.length : Nat) : Int) + 1)))) 0 ((xs.length : Nat) : Int) 0) (.exit 0) (Try.s156 xs.length (lm xs) ys.length (lm ys) (Int.toNat (IntKind.i64.wrap (((xs.length : Nat) : Int) + 1))) (lm o) c ((xs.length : Nat) : Int) ((xs.length : Nat) : Int)))
    (hix : 0 ≤ ((xs.length : Nat) : Int) ∧ ((xs.length : Nat) : Int) < (((Int.toNat (IntKind.i64.wrap (((xs.length : Nat) : Int) + 1))) : Nat) : Int)) (hst : layA (lm o) (Int.toNat ((xs.length : Nat) : Int) * 1) [.int .u32 (IntKind.u32.wrap c)] = some (lm (o.set xs.length c))) :
    Runs Try.ir 156 [.sl xs.length (lm xs), .sl ys.length (lm ys)] (.fresh 1 (Int.toNat (IntKind.i64.wrap (((xs.length : Nat) : Int) + 1))) (lm (o.set xs.length c))) :=
  Runs.of_bodyW (fn := Try.i156) (s := (.val (.sl xs.length (lm xs)) :: (.val (.sl ys.length (lm ys)) :: (dds 2 (.own 1 (Int.toNat (IntKind.i64.wrap (((xs.length : Nat) : Int) + 1))) (lm (o.set xs.length c)) :: (dds 1 (.val (.int .u64 c) :: (dds 14 (.val (.int .i64 ((xs.length : Nat) : Int)) :: (.val (.int .i64 ((xs.length : Nat) : Int)) :: (dds 28 (.dup 5 :: (.val (.sl xs.length (lm xs)) :: (.val (.int .i64 ((xs.length : Nat) : Int)) :: (.val (.int .u64 c) :: (.val (.int .u32 (IntKind.u32.wrap c)) :: (.ptr 5 (Int.toNat ((xs.length : Nat) : Int) * 1) :: (dds 1 [])))))))))))))))))) (ex := .ret) rfl rfl
    (RunsW.seq (RunsW.script (t := (.val (.sl xs.length (lm xs)) :: (.val (.sl ys.length (lm ys)) :: (dds 2 (.own 1 0 [] :: (dds 53 [])))))) (ex := .norm) (ps := []) TWA_holds 300 [] [0, 1, 4] (by kernel_rfl) trivial)
    (RunsW.seq (RunsW.script (t := (.val (.sl xs.length (lm xs)) :: (.val (.sl ys.length (lm ys)) :: (dds 2 (.own 1 0 [] :: (dds 4 (.val (.sl xs.length (lm xs)) :: (.val (.int .i64 ((xs.length : Nat) : Int)) :: (.val (.sl ys.length (lm ys)) :: (.val (.int .i64 ((ys.length : Nat) : Int)) :: (.val (.bool (decide (((xs.length : Nat) : Int) < ((ys.length : Nat) : Int)))) :: (dds 44 [])))))))))))) (ex := .norm) (ps := [(decide (((xs.length : Nat) : Int) < ((ys.length : Nat) : Int))) = false]) TWA_holds 300 [.b false] [0, 1, 4, 9, 10, 11, 12, 13] (by kernel_rfl) ⟨h, trivial⟩)
    (RunsW.seq (RunsW.script (t := (.val (.sl xs.length (lm xs)) :: (.val (.sl ys.length (lm ys)) :: (dds 2 (.own 1 0 [] :: (.own 1 (Int.toNat (IntKind.i64.wrap (((xs.length : Nat) : Int) + 1))) (replA [.int .u32 0] (Int.toNat (IntKind.i64.wrap (((xs.length : Nat) : Int) + 1)))) :: (dds 3 (.val (.sl xs.length (lm xs)) :: (.val (.int .i64 ((xs.length : Nat) : Int)) :: (.val (.sl ys.length (lm ys)) :: (.val (.int .i64 ((ys.length : Nat) : Int)) :: (.val (.bool (decide (((xs.length : Nat) : Int) < ((ys.length : Nat) : Int)))) :: (dds 2 (.val (.sl xs.length (lm xs)) :: (.val (.int .i64 ((xs.length : Nat) : Int)) :: (.val (.int .i64 (IntKind.i64.wrap (((xs.length : Nat) : Int) + 1))) :: (dds 39 []))))))))))))))))) (ex := .norm) (ps := [0 ≤ (IntKind.i64.wrap (((xs.length : Nat) : Int) + 1)) ∧ (IntKind.i64.wrap (((xs.length : Nat) : Int) + 1)) ≤ 1048576]) TWA_holds 300 [] [0, 1, 4, 5, 9, 10, 11, 12, 13, 16, 17, 18] (by kernel_rfl) ⟨hmk, trivial⟩)
    (RunsW.seq (RunsW.script (t := (.val (.sl xs.length (lm xs)) :: (.val (.sl ys.length (lm ys)) :: (dds 2 (.own 1 0 [] :: (.own 1 (Int.toNat (IntKind.i64.wrap (((xs.length : Nat) : Int) + 1))) (replA [.int .u32 0] (Int.toNat (IntKind.i64.wrap (((xs.length : Nat) : Int) + 1)))) :: (.val (.int .u64 0) :: (dds 2 (.val (.sl xs.length (lm xs)) :: (.val (.int .i64 ((xs.length : Nat) : Int)) :: (.val (.sl ys.length (lm ys)) :: (.val (.int .i64 ((ys.length : Nat) : Int)) :: (.val (.bool (decide (((xs.length : Nat) : Int) < ((ys.length : Nat) : Int)))) :: (dds 2 (.val (.sl xs.length (lm xs)) :: (.val (.int .i64 ((xs.length : Nat) : Int)) :: (.val (.int .i64 (IntKind.i64.wrap (((xs.length : Nat) : Int) + 1))) :: (dds 39 [])))))))))))))))))) (ex := .norm) (ps := []) TWA_holds 300 [] [0, 1, 4, 5, 6, 9, 10, 11, 12, 13, 16, 17, 18] (by kernel_rfl) trivial)
    (RunsW.seq (RunsW.seq (RunsW.script (t := (.val (.sl xs.length (lm xs)) :: (.val (.sl ys.length (lm ys)) :: (dds 2 (.own 1 0 [] :: (.own 1 (Int.toNat (IntKind.i64.wrap (((xs.length : Nat) : Int) + 1))) (replA [.int .u32 0] (Int.toNat (IntKind.i64.wrap (((xs.length : Nat) : Int) + 1)))) :: (.val (.int .u64 0) :: (dds 14 (.val (.int .i64 ((xs.length : Nat) : Int)) :: (.val (.int .i64 0) :: (dds 35 []))))))))))) (ex := .norm) (ps := []) TWA_holds 300 [] [0, 1, 4, 5, 6, 21, 22] (by kernel_rfl) trivial)
    (RunsW.block hl))
    (RunsW.script (t := (.val (.sl xs.length (lm xs)) :: (.val (.sl ys.length (lm ys)) :: (dds 2 (.own 1 (Int.toNat (IntKind.i64.wrap (((xs.length : Nat) : Int) + 1))) (lm (o.set xs.length c)) :: (dds 1 (.val (.int .u64 c) :: (dds 14 (.val (.int .i64 ((xs.length : Nat) : Int)) :: (.val (.int .i64 ((xs.length : Nat) : Int)) :: (dds 28 (.dup 5 :: (.val (.sl xs.length (lm xs)) :: (.val (.int .i64 ((xs.length : Nat) : Int)) :: (.val (.int .u64 c) :: (.val (.int .u32 (IntKind.u32.wrap c)) :: (.ptr 5 (Int.toNat ((xs.length : Nat) : Int) * 1) :: (dds 1 [])))))))))))))))))) (ex := .ret) (ps := [0 ≤ ((xs.length : Nat) : Int) ∧ ((xs.length : Nat) : Int) < (((Int.toNat (IntKind.i64.wrap (((xs.length : Nat) : Int) + 1))) : Nat) : Int), layA (lm o) (Int.toNat ((xs.length : Nat) : Int) * 1) [.int .u32 (IntKind.u32.wrap c)] = some (lm (o.set xs.length c))]) TWA_holds 300 [.l (lm (o.set xs.length c))] [0, 1, 4, 6, 21, 22, 51, 52, 53, 54, 55, 56] (by kernel_rfl) ⟨hix, hst, trivial⟩)))))) (by intro i e; cases e) rfl
theorem addLimbs_any {xs ys : List Int} (hx : U32 xs) (hy : U32 ys) (hl : ys.length ≤ xs.length) (hN : xs.length < 1048576) : ∃ o c, (o : List Int).length = xs.length + 1 ∧ U32 (o.set xs.length c) ∧ valL (o.set xs.length c) = valL xs + valL ys ∧ (0 ≤ c ∧ c ≤ 1) ∧
    RunsW Try.ir (.loop Try.c156) (Try.s156 xs.length (lm xs) ys.length (lm ys) (xs.length + 1) (lm (List.replicate (xs.length + 1) 0)) 0 ((xs.length : Nat) : Int) 0) (.exit 0) (Try.s156 xs.length (lm xs) ys.length (lm ys) (xs.length + 1) (lm o) c ((xs.length : Nat) : Int) ((xs.length : Nat) : Int)) := by
  have hg := Try.loop156 xs ys hx hy (xs.length + 1) (by omega) (by omega) xs.length 0 (List.replicate (xs.length + 1) 0) 0 (by omega) (by simp) (u32_zeros _) (by omega)
  cases e : addGo xs ys xs.length 0 (List.replicate (xs.length + 1) 0) 0 with
  | mk o c =>
    obtain ⟨g1, g2, g3, g4, g5⟩ := add_whole hx hy hl o c e
    rw [e] at hg
    exact ⟨o, c, g1, g4, g5, g3, hg⟩
theorem addLimbs_run {xs ys : List Int} (hx : U32 xs) (hy : U32 ys) (h1 : xs.length < 1048576) (h2 : ys.length < 1048576) : ∃ zs, U32 zs ∧ valL zs = valL xs + valL ys ∧ zs.length ≤ 1048576 ∧ Runs Try.ir 156 [.sl xs.length (lm xs), .sl ys.length (lm ys)] (.fresh 1 zs.length (lm zs)) := by
  by_cases hlt : xs.length < ys.length
  · obtain ⟨o, c, g1, g2, g3, g4, g5⟩ := addLimbs_any hy hx (by omega) h2
    have e1 : IntKind.i64.wrap (((ys.length : Nat) : Int) + 1) = ((ys.length + 1 : Nat) : Int) := by rw [w64 (by omega) (by omega)]; omega
    have e2 : Int.toNat (IntKind.i64.wrap (((ys.length : Nat) : Int) + 1)) = ys.length + 1 := by rw [e1, Int.toNat_natCast]
    have hst := lay_lim (xs := o) (i := ys.length) (v := c) (by omega)
    have h := Try.run156_sw xs ys o c (by simp; omega) (by rw [e1]; omega) (by rw [e2, repl_lim]; exact g5) (by rw [e2]; omega) (by rw [Int.toNat_natCast, wu32, Int.emod_eq_of_lt (by omega) (by omega)]; exact hst)
    refine ⟨o.set ys.length c, g2, by rw [g3, Int.add_comm], by simp; omega, ?_⟩
    rw [e2] at h
    rw [List.length_set, g1]
    exact h
  · obtain ⟨o, c, g1, g2, g3, g4, g5⟩ := addLimbs_any hx hy (by omega) h1
    have e1 : IntKind.i64.wrap (((xs.length : Nat) : Int) + 1) = ((xs.length + 1 : Nat) : Int) := by rw [w64 (by omega) (by omega)]; omega
    have e2 : Int.toNat (IntKind.i64.wrap (((xs.length : Nat) : Int) + 1)) = xs.length + 1 := by rw [e1, Int.toNat_natCast]
    have hst := lay_lim (xs := o) (i := xs.length) (v := c) (by omega)
    have h := Try.run156_no xs ys o c (by simp; omega) (by rw [e1]; omega) (by rw [e2, repl_lim]; exact g5) (by rw [e2]; omega) (by rw [Int.toNat_natCast, wu32, Int.emod_eq_of_lt (by omega) (by omega)]; exact hst)
    refine ⟨o.set xs.length c, g2, g3, by simp; omega, ?_⟩
    rw [e2] at h
    rw [List.length_set, g1]
    exact h
theorem Try.run157 (xs ys o : List Int) (c : Int) (hmk : 0 ≤ ((xs.length : Nat) : Int) ∧ ((xs.length : Nat) : Int) ≤ 1048576)
    (hl : RunsW Try.ir (.loop Try.c157) (Try.s157 xs.length (lm xs) ys.length (lm ys) (Int.toNat ((xs.length : Nat) : Int)) (replA [.int .u32 0] (Int.toNat ((xs.length : Nat) : Int))) 0 ((xs.length : Nat) : Int) 0) (.exit 0) (Try.s157 xs.length (lm xs) ys.length (lm ys) (Int.toNat ((xs.length : Nat) : Int)) (lm o) c ((xs.length : Nat) : Int) ((xs.length : Nat) : Int))) :
    Runs Try.ir 157 [.sl xs.length (lm xs), .sl ys.length (lm ys)] (.fresh 1 (Int.toNat ((xs.length : Nat) : Int)) (lm o)) :=
  Runs.of_bodyW (fn := Try.i157) (s := (.val (.sl xs.length (lm xs)) :: (.val (.sl ys.length (lm ys)) :: (dds 2 (.own 1 (Int.toNat ((xs.length : Nat) : Int)) (lm o) :: (dds 1 (.val (.int .u64 c) :: (dds 6 (.val (.int .i64 ((xs.length : Nat) : Int)) :: (.val (.int .i64 ((xs.length : Nat) : Int)) :: (dds 29 []))))))))))) (ex := .ret) rfl rfl
    (RunsW.seq (RunsW.script (t := (.val (.sl xs.length (lm xs)) :: (.val (.sl ys.length (lm ys)) :: (dds 2 (.own 1 0 [] :: (dds 39 [])))))) (ex := .norm) (ps := []) TWA_holds 300 [] [0, 1, 4] (by kernel_rfl) trivial)
    (RunsW.seq (RunsW.script (t := (.val (.sl xs.length (lm xs)) :: (.val (.sl ys.length (lm ys)) :: (dds 2 (.own 1 0 [] :: (.own 1 (Int.toNat ((xs.length : Nat) : Int)) (replA [.int .u32 0] (Int.toNat ((xs.length : Nat) : Int))) :: (dds 3 (.val (.sl xs.length (lm xs)) :: (.val (.int .i64 ((xs.length : Nat) : Int)) :: (dds 33 [])))))))))) (ex := .norm) (ps := [0 ≤ ((xs.length : Nat) : Int) ∧ ((xs.length : Nat) : Int) ≤ 1048576]) TWA_holds 300 [] [0, 1, 4, 5, 9, 10] (by kernel_rfl) ⟨hmk, trivial⟩)
    (RunsW.seq (RunsW.script (t := (.val (.sl xs.length (lm xs)) :: (.val (.sl ys.length (lm ys)) :: (dds 2 (.own 1 0 [] :: (.own 1 (Int.toNat ((xs.length : Nat) : Int)) (replA [.int .u32 0] (Int.toNat ((xs.length : Nat) : Int))) :: (.val (.int .u64 0) :: (dds 2 (.val (.sl xs.length (lm xs)) :: (.val (.int .i64 ((xs.length : Nat) : Int)) :: (dds 33 []))))))))))) (ex := .norm) (ps := []) TWA_holds 300 [] [0, 1, 4, 5, 6, 9, 10] (by kernel_rfl) trivial)
    (RunsW.seq (RunsW.seq (RunsW.script (t := (.val (.sl xs.length (lm xs)) :: (.val (.sl ys.length (lm ys)) :: (dds 2 (.own 1 0 [] :: (.own 1 (Int.toNat ((xs.length : Nat) : Int)) (replA [.int .u32 0] (Int.toNat ((xs.length : Nat) : Int))) :: (.val (.int .u64 0) :: (dds 6 (.val (.int .i64 ((xs.length : Nat) : Int)) :: (.val (.int .i64 0) :: (dds 29 []))))))))))) (ex := .norm) (ps := []) TWA_holds 300 [] [0, 1, 4, 5, 6, 13, 14] (by kernel_rfl) trivial)
    (RunsW.block hl))
    (RunsW.script (t := (.val (.sl xs.length (lm xs)) :: (.val (.sl ys.length (lm ys)) :: (dds 2 (.own 1 (Int.toNat ((xs.length : Nat) : Int)) (lm o) :: (dds 1 (.val (.int .u64 c) :: (dds 6 (.val (.int .i64 ((xs.length : Nat) : Int)) :: (.val (.int .i64 ((xs.length : Nat) : Int)) :: (dds 29 []))))))))))) (ex := .ret) (ps := []) TWA_holds 300 [] [0, 1, 4, 6, 13, 14] (by kernel_rfl) trivial))))) (by intro i e; cases e) rfl
theorem subLimbs_run {xs ys : List Int} (hx : U32 xs) (hy : U32 ys) (hl : ys.length ≤ xs.length) (hv : valL ys ≤ valL xs) (hN : xs.length ≤ 1048576) : ∃ zs, U32 zs ∧ valL zs = valL xs - valL ys ∧ zs.length ≤ 1048576 ∧ Runs Try.ir 157 [.sl xs.length (lm xs), .sl ys.length (lm ys)] (.fresh 1 zs.length (lm zs)) := by
  have hg := Try.loop157 xs ys hx hy xs.length hN (Nat.le_refl _) xs.length 0 (List.replicate xs.length 0) 0 (by omega) (by simp) (u32_zeros _) (by omega)
  cases e : subGo xs ys xs.length 0 (List.replicate xs.length 0) 0 with
  | mk o c =>
    obtain ⟨g1, g2, g3⟩ := sub_whole hx hy hl hv o c e
    rw [e] at hg
    have h := Try.run157 xs ys o c (by omega) (by rw [Int.toNat_natCast, repl_lim]; exact hg)
    rw [Int.toNat_natCast] at h
    refine ⟨o, g2, g3, by omega, ?_⟩
    rw [g1]
    exact h
theorem Try.run148_a (na : Bool) (p : Nat) (nb : Bool) (q : Nat) (zs : List Int) (r : Int) (h : (na == nb) = true) (h1 : Runs Try.ir 156 [.sl (limbs p).length (lm (limbs p)), .sl (limbs q).length (lm (limbs q))] (.fresh 1 zs.length (lm zs))) (h2 : Runs Try.ir 133 [.bool na, .sl zs.length (lm zs)] (.agg [.bool (decide (r < 0)), .sl ((limbs (Int.natAbs r)).length) (lm (limbs (Int.natAbs r)))])) : Runs Try.ir 148 [.bool na, .sl ((limbs p).length) (lm (limbs p)), .bool nb, .sl ((limbs q).length) (lm (limbs q))] (.agg [.bool (decide (r < 0)), .sl ((limbs (Int.natAbs r)).length) (lm (limbs (Int.natAbs r)))]) :=
  Runs.script (ps := [(na == nb) = true, Runs Try.ir 156 [.sl ((limbs p).length) (lm (limbs p)), .sl ((limbs q).length) (lm (limbs q))] (.fresh 1 zs.length (lm zs)), Runs Try.ir 133 [.bool na, .sl zs.length (lm zs)] (.agg [.bool (decide (r < 0)), .sl ((limbs (Int.natAbs r)).length) (lm (limbs (Int.natAbs r)))])]) TWA_holds rfl 300 rfl [.b true, .r (.fresh 1 zs.length (lm zs)), .r (.agg [.bool (decide (r < 0)), .sl ((limbs (Int.natAbs r)).length) (lm (limbs (Int.natAbs r)))])] (by kernel_rfl) ⟨h, h1, h2, trivial⟩
theorem Try.run148_b (na : Bool) (p : Nat) (nb : Bool) (q : Nat) (zs : List Int) (r : Int) (k : Int) (h : (na == nb) = false) (h3 : Runs Try.ir 150 [.sl (limbs p).length (lm (limbs p)), .sl (limbs q).length (lm (limbs q))] (.int .i64 k)) (hk : (decide (k ≥ 0)) = true) (h1 : Runs Try.ir 157 [.sl (limbs p).length (lm (limbs p)), .sl (limbs q).length (lm (limbs q))] (.fresh 1 zs.length (lm zs))) (h2 : Runs Try.ir 133 [.bool na, .sl zs.length (lm zs)] (.agg [.bool (decide (r < 0)), .sl ((limbs (Int.natAbs r)).length) (lm (limbs (Int.natAbs r)))])) : Runs Try.ir 148 [.bool na, .sl ((limbs p).length) (lm (limbs p)), .bool nb, .sl ((limbs q).length) (lm (limbs q))] (.agg [.bool (decide (r < 0)), .sl ((limbs (Int.natAbs r)).length) (lm (limbs (Int.natAbs r)))]) :=
  Runs.script (ps := [(na == nb) = false, Runs Try.ir 150 [.sl ((limbs p).length) (lm (limbs p)), .sl ((limbs q).length) (lm (limbs q))] (.int .i64 k), (decide (k ≥ 0)) = true, Runs Try.ir 157 [.sl ((limbs p).length) (lm (limbs p)), .sl ((limbs q).length) (lm (limbs q))] (.fresh 1 zs.length (lm zs)), Runs Try.ir 133 [.bool na, .sl zs.length (lm zs)] (.agg [.bool (decide (r < 0)), .sl ((limbs (Int.natAbs r)).length) (lm (limbs (Int.natAbs r)))])]) TWA_holds rfl 300 rfl [.b false, .r (.int .i64 k), .b true, .r (.fresh 1 zs.length (lm zs)), .r (.agg [.bool (decide (r < 0)), .sl ((limbs (Int.natAbs r)).length) (lm (limbs (Int.natAbs r)))])] (by kernel_rfl) ⟨h, h3, hk, h1, h2, trivial⟩
theorem Try.run148_c (na : Bool) (p : Nat) (nb : Bool) (q : Nat) (zs : List Int) (r : Int) (k : Int) (h : (na == nb) = false) (h3 : Runs Try.ir 150 [.sl (limbs p).length (lm (limbs p)), .sl (limbs q).length (lm (limbs q))] (.int .i64 k)) (hk : (decide (k ≥ 0)) = false) (h1 : Runs Try.ir 157 [.sl (limbs q).length (lm (limbs q)), .sl (limbs p).length (lm (limbs p))] (.fresh 1 zs.length (lm zs))) (h2 : Runs Try.ir 133 [.bool nb, .sl zs.length (lm zs)] (.agg [.bool (decide (r < 0)), .sl ((limbs (Int.natAbs r)).length) (lm (limbs (Int.natAbs r)))])) : Runs Try.ir 148 [.bool na, .sl ((limbs p).length) (lm (limbs p)), .bool nb, .sl ((limbs q).length) (lm (limbs q))] (.agg [.bool (decide (r < 0)), .sl ((limbs (Int.natAbs r)).length) (lm (limbs (Int.natAbs r)))]) :=
  Runs.script (ps := [(na == nb) = false, Runs Try.ir 150 [.sl ((limbs p).length) (lm (limbs p)), .sl ((limbs q).length) (lm (limbs q))] (.int .i64 k), (decide (k ≥ 0)) = false, Runs Try.ir 157 [.sl ((limbs q).length) (lm (limbs q)), .sl ((limbs p).length) (lm (limbs p))] (.fresh 1 zs.length (lm zs)), Runs Try.ir 133 [.bool nb, .sl zs.length (lm zs)] (.agg [.bool (decide (r < 0)), .sl ((limbs (Int.natAbs r)).length) (lm (limbs (Int.natAbs r)))])]) TWA_holds rfl 300 rfl [.b false, .r (.int .i64 k), .b false, .r (.fresh 1 zs.length (lm zs)), .r (.agg [.bool (decide (r < 0)), .sl ((limbs (Int.natAbs r)).length) (lm (limbs (Int.natAbs r)))])] (by kernel_rfl) ⟨h, h3, hk, h1, h2, trivial⟩
theorem sum_run {na nb : Bool} {p q : Nat} (hp : (limbs p).length < 1048576) (hq : (limbs q).length < 1048576) : Runs Try.ir 148 [.bool na, .sl (limbs p).length (lm (limbs p)), .bool nb, .sl (limbs q).length (lm (limbs q))] (bigAV (rv na (limbs p) + rv nb (limbs q))) := by
  have up := big_u32 p
  have uq := big_u32 q
  by_cases e : na = nb
  · subst e
    obtain ⟨zs, z1, z2, z3, z4⟩ := addLimbs_run up uq hp hq
    have h2 := made_run (neg := na) z1 z3
    have ev : rv na zs = rv na (limbs p) + rv na (limbs q) := by
      unfold rv; rw [z2]; cases na <;> simp <;> omega
    rw [ev] at h2
    exact Try.run148_a na p na q zs _ (by simp) z4 h2
  · have hne : (na == nb) = false := by simpa using e
    have hc := cmpLimbs_run (limbs_canon p) (limbs_canon q) (by omega)
    have hnb : nb = !na := by cases na <;> cases nb <;> simp_all
    have lenle : ∀ {a b : Nat}, valL (limbs a) ≤ valL (limbs b) → (limbs a).length ≤ (limbs b).length := by
      intro a b h
      rcases Nat.lt_or_ge (limbs b).length (limbs a).length with g | g
      · have := canon_lt (limbs_canon b) (limbs_canon a) g; omega
      · exact g
    by_cases hk : valL (limbs q) ≤ valL (limbs p)
    · obtain ⟨zs, z1, z2, z3, z4⟩ := subLimbs_run up uq (lenle hk) hk (by omega)
      have h2 := made_run (neg := na) z1 z3
      have ev : rv na zs = rv na (limbs p) + rv nb (limbs q) := by
        subst hnb; unfold rv; rw [z2]; cases na <;> simp <;> omega
      rw [ev] at h2
      refine Try.run148_b na p nb q zs _ _ hne hc ?_ z4 h2
      unfold cmpI; rw [if_neg (by omega)]; split <;> rfl
    · obtain ⟨zs, z1, z2, z3, z4⟩ := subLimbs_run uq up (lenle (by omega)) (by omega) (by omega)
      have h2 := made_run (neg := nb) z1 z3
      have ev : rv nb zs = rv na (limbs p) + rv nb (limbs q) := by
        subst hnb; unfold rv; rw [z2]; cases na <;> simp <;> omega
      rw [ev] at h2
      refine Try.run148_c na p nb q zs _ _ hne hc ?_ z4 h2
      unfold cmpI; rw [if_pos (by omega)]; rfl
theorem Try.run121 (na : Bool) (xs : List Int) (nb : Bool) (ys : List Int) (a b r : Int) (h1 : Runs Try.ir 122 [.agg [.bool na, .sl xs.length (lm xs)]] (.tup [.bool (decide (a < 0)), .sl (limbs (Int.natAbs a)).length (lm (limbs (Int.natAbs a)))])) (h2 : Runs Try.ir 122 [.agg [.bool nb, .sl ys.length (lm ys)]] (.tup [.bool (decide (b < 0)), .sl (limbs (Int.natAbs b)).length (lm (limbs (Int.natAbs b)))])) (h3 : Runs Try.ir 148 [.bool (decide (a < 0)), .sl (limbs (Int.natAbs a)).length (lm (limbs (Int.natAbs a))), .bool (decide (b < 0)), .sl (limbs (Int.natAbs b)).length (lm (limbs (Int.natAbs b)))] (.agg [.bool (decide (r < 0)), .sl ((limbs (Int.natAbs r)).length) (lm (limbs (Int.natAbs r)))])) : Runs Try.ir 121 [.agg [.bool na, .sl xs.length (lm xs)], .agg [.bool nb, .sl ys.length (lm ys)]] (.agg [.bool (decide (r < 0)), .sl ((limbs (Int.natAbs r)).length) (lm (limbs (Int.natAbs r)))]) :=
  Runs.script (ps := [Runs Try.ir 122 [.agg [.bool na, .sl xs.length (lm xs)]] (.tup [.bool (decide (a < 0)), .sl ((limbs (Int.natAbs a)).length) (lm (limbs (Int.natAbs a)))]), Runs Try.ir 122 [.agg [.bool nb, .sl ys.length (lm ys)]] (.tup [.bool (decide (b < 0)), .sl ((limbs (Int.natAbs b)).length) (lm (limbs (Int.natAbs b)))]), Runs Try.ir 148 [.bool (decide (a < 0)), .sl ((limbs (Int.natAbs a)).length) (lm (limbs (Int.natAbs a))), .bool (decide (b < 0)), .sl ((limbs (Int.natAbs b)).length) (lm (limbs (Int.natAbs b)))] (.agg [.bool (decide (r < 0)), .sl ((limbs (Int.natAbs r)).length) (lm (limbs (Int.natAbs r)))])]) TWA_holds rfl 300 rfl [.r (.tup [.bool (decide (a < 0)), .sl ((limbs (Int.natAbs a)).length) (lm (limbs (Int.natAbs a)))]), .r (.tup [.bool (decide (b < 0)), .sl ((limbs (Int.natAbs b)).length) (lm (limbs (Int.natAbs b)))]), .r (.agg [.bool (decide (r < 0)), .sl ((limbs (Int.natAbs r)).length) (lm (limbs (Int.natAbs r)))])] (by kernel_rfl) ⟨h1, h2, h3, trivial⟩
theorem wadd_run {na nb : Bool} {xs ys : List Int} (hx : U32 xs) (hy : U32 ys) (h1 : xs.length < 1048576) (h2 : ys.length < 1048576) : Runs Try.ir 121 [.agg [.bool na, .sl xs.length (lm xs)], .agg [.bool nb, .sl ys.length (lm ys)]] (bigAV (rv na xs + rv nb ys)) := by
  have l1 := Nat.lt_of_le_of_lt (rv_len (neg := na) hx) h1
  have l2 := Nat.lt_of_le_of_lt (rv_len (neg := nb) hy) h2
  have h3 := sum_run (na := decide (rv na xs < 0)) (nb := decide (rv nb ys < 0)) l1 l2
  rw [rv_big, rv_big] at h3
  exact Try.run121 na xs nb ys (rv na xs) (rv nb ys) _ (limbs_run hx (by omega)) (limbs_run hy (by omega)) h3
theorem Try.run114 (na : Bool) (xs : List Int) (nb : Bool) (ys : List Int) (a b r : Int) (h1 : Runs Try.ir 122 [.agg [.bool na, .sl xs.length (lm xs)]] (.tup [.bool (decide (a < 0)), .sl (limbs (Int.natAbs a)).length (lm (limbs (Int.natAbs a)))])) (h2 : Runs Try.ir 122 [.agg [.bool nb, .sl ys.length (lm ys)]] (.tup [.bool (decide (b < 0)), .sl (limbs (Int.natAbs b)).length (lm (limbs (Int.natAbs b)))])) (h3 : Runs Try.ir 148 [.bool (decide (a < 0)), .sl (limbs (Int.natAbs a)).length (lm (limbs (Int.natAbs a))), .bool (!(decide (b < 0))), .sl (limbs (Int.natAbs b)).length (lm (limbs (Int.natAbs b)))] (.agg [.bool (decide (r < 0)), .sl ((limbs (Int.natAbs r)).length) (lm (limbs (Int.natAbs r)))])) : Runs Try.ir 114 [.agg [.bool na, .sl xs.length (lm xs)], .agg [.bool nb, .sl ys.length (lm ys)]] (.agg [.bool (decide (r < 0)), .sl ((limbs (Int.natAbs r)).length) (lm (limbs (Int.natAbs r)))]) :=
  Runs.script (ps := [Runs Try.ir 122 [.agg [.bool na, .sl xs.length (lm xs)]] (.tup [.bool (decide (a < 0)), .sl ((limbs (Int.natAbs a)).length) (lm (limbs (Int.natAbs a)))]), Runs Try.ir 122 [.agg [.bool nb, .sl ys.length (lm ys)]] (.tup [.bool (decide (b < 0)), .sl ((limbs (Int.natAbs b)).length) (lm (limbs (Int.natAbs b)))]), Runs Try.ir 148 [.bool (decide (a < 0)), .sl ((limbs (Int.natAbs a)).length) (lm (limbs (Int.natAbs a))), .bool (!(decide (b < 0))), .sl ((limbs (Int.natAbs b)).length) (lm (limbs (Int.natAbs b)))] (.agg [.bool (decide (r < 0)), .sl ((limbs (Int.natAbs r)).length) (lm (limbs (Int.natAbs r)))])]) TWA_holds rfl 300 rfl [.r (.tup [.bool (decide (a < 0)), .sl ((limbs (Int.natAbs a)).length) (lm (limbs (Int.natAbs a)))]), .r (.tup [.bool (decide (b < 0)), .sl ((limbs (Int.natAbs b)).length) (lm (limbs (Int.natAbs b)))]), .r (.agg [.bool (decide (r < 0)), .sl ((limbs (Int.natAbs r)).length) (lm (limbs (Int.natAbs r)))])] (by kernel_rfl) ⟨h1, h2, h3, trivial⟩
theorem wsub_run {na nb : Bool} {xs ys : List Int} (hx : U32 xs) (hy : U32 ys) (h1 : xs.length < 1048576) (h2 : ys.length < 1048576) : Runs Try.ir 114 [.agg [.bool na, .sl xs.length (lm xs)], .agg [.bool nb, .sl ys.length (lm ys)]] (bigAV (rv na xs - rv nb ys)) := by
  have l1 := Nat.lt_of_le_of_lt (rv_len (neg := na) hx) h1
  have l2 := Nat.lt_of_le_of_lt (rv_len (neg := nb) hy) h2
  have h3 := sum_run (na := decide (rv na xs < 0)) (nb := !decide (rv nb ys < 0)) l1 l2
  rw [rv_big, rv_not, ← Int.sub_eq_add_neg] at h3
  exact Try.run114 na xs nb ys (rv na xs) (rv nb ys) _ (limbs_run hx (by omega)) (limbs_run hy (by omega)) h3
def TWB : Table := TWA
theorem TWB_holds : THolds Try.ir TWB := TWA_holds
end Go.Proofs.Ythnnfemologhfaa
