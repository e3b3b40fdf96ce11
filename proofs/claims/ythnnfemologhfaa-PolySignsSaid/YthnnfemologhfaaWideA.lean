/- The package wide: limbs, canonical integers, signs: what the functions return. -/
import Derived.Test.YthnnfemologhfaaBigB
namespace Go.Proofs.Ythnnfemologhfaa
open Go.Ai
set_option maxRecDepth 100000

def TQ0 : Table := []
theorem TQ0_holds : THolds Try.ir TQ0 := THolds.nil _

def Try.c122 : ICode := .seq (.seq (.region false [oM 8 4,
   o1 9 (.bin .gtr (.t 8) (.c (.int .i64 0))),
   oM 10 9,
   oG 11 (.adr 1 1 1) 10 true,
   oG 12 (.ld 11 1 1 true) 10 true,
   oG 13 (.mov (.t 4)) 10 true,
   oG 14 (.bin .sub (.t 13) (.c (.int .i64 1))) 10 true,
   oG 15 (.ixa 12 (.t 14) 1) 10 true,
   oG 16 (.ld 15 15 1 true) 10 true,
   oG 17 (.bin .eql (.t 16) (.c (.int .u32 0))) 10 true,
   o1 18 (.pick (.t 10) (.t 17) (.c (.bool false)))])
  (.cond (.t 18) (.skip)
  (.exit 0)))
  (.block 1 (.region false [oM 19 4,
   o1 20 (.bin .sub (.t 19) (.c (.int .i64 1))),
   oM 4 20]))
def Try.s122 (neg : Bool) (N : Nat) (cs : List AV) (n : Int) : State := (dds 1 (.box [.bool neg, .sl N cs] :: (.val (.bool false) :: (.own 1 0 [] :: (.val (.int .i64 n) :: (dds 26 []))))))
theorem Try.k122_1 (neg : Bool) (N : Nat) (cs : List AV) (n : Int) (x : Int) (c1 : (decide (n > 0)) = true) (c2 : (x == 0) = true) (n1 : 0 ≤ (IntKind.i64.wrap (n - 1)) ∧ (IntKind.i64.wrap (n - 1)) < ((N : Nat) : Int)) (n2 : takeA (List.drop (Int.toNat (IntKind.i64.wrap (n - 1)) * 1) cs) 0 1 true = some (.int .u32 x)) : RunsW Try.ir Try.c122 (Try.s122 neg N cs n) .norm (Try.s122 neg N cs (IntKind.i64.wrap (n - 1))) :=
  RunsW.script (ps := [(decide (n > 0)) = true, 0 ≤ (IntKind.i64.wrap (n - 1)) ∧ (IntKind.i64.wrap (n - 1)) < ((N : Nat) : Int), takeA (List.drop (Int.toNat (IntKind.i64.wrap (n - 1)) * 1) cs) 0 1 true = some (.int .u32 x), (x == 0) = true]) TQ0_holds 300 [.b true, .v (.int .u32 x), .b true] [1, 2, 3, 4] (by kernel_rfl) ⟨c1, n1, n2, c2, trivial⟩
theorem Try.k122_2 (neg : Bool) (N : Nat) (cs : List AV) (n : Int) (x : Int) (c1 : (decide (n > 0)) = true) (c2 : (x == 0) = false) (n1 : 0 ≤ (IntKind.i64.wrap (n - 1)) ∧ (IntKind.i64.wrap (n - 1)) < ((N : Nat) : Int)) (n2 : takeA (List.drop (Int.toNat (IntKind.i64.wrap (n - 1)) * 1) cs) 0 1 true = some (.int .u32 x)) : RunsW Try.ir Try.c122 (Try.s122 neg N cs n) (.exit 0) (Try.s122 neg N cs n) :=
  RunsW.script (ps := [(decide (n > 0)) = true, 0 ≤ (IntKind.i64.wrap (n - 1)) ∧ (IntKind.i64.wrap (n - 1)) < ((N : Nat) : Int), takeA (List.drop (Int.toNat (IntKind.i64.wrap (n - 1)) * 1) cs) 0 1 true = some (.int .u32 x), (x == 0) = false]) TQ0_holds 300 [.b true, .v (.int .u32 x), .b false] [1, 2, 3, 4] (by kernel_rfl) ⟨c1, n1, n2, c2, trivial⟩
theorem Try.k122_3 (neg : Bool) (N : Nat) (cs : List AV) (n : Int) (c1 : (decide (n > 0)) = false) : RunsW Try.ir Try.c122 (Try.s122 neg N cs n) (.exit 0) (Try.s122 neg N cs n) :=
  RunsW.script (ps := [(decide (n > 0)) = false, false = false]) TQ0_holds 300 [.b false, .b false] [1, 2, 3, 4] (by kernel_rfl) ⟨c1, rfl, trivial⟩

theorem Try.loop122 (neg : Bool) (xs : List Int) (hN : xs.length ≤ 1048576) : ∀ m, m ≤ xs.length → RunsW Try.ir (.loop Try.c122) (Try.s122 neg xs.length (lm xs) ((m : Nat) : Int)) (.exit 0) (Try.s122 neg xs.length (lm xs) ((topN xs m : Nat) : Int)) := by
  intro m
  induction m with
  | zero =>
    intro _
    exact RunsW.loop_out (Try.k122_3 neg xs.length (lm xs) ((0 : Nat) : Int) (by simp)) (by intro e; cases e)
  | succ m ih =>
    intro hm
    have e1 : IntKind.i64.wrap (((m + 1 : Nat) : Int) - 1) = ((m : Nat) : Int) := by rw [w64 (by omega) (by omega)]; omega
    have hx := take_lim (xs := xs) (i := m) (by omega)
    simp only [topN]
    by_cases h0 : xs.getD m 0 = 0
    · rw [if_pos h0]
      have h1 := Try.k122_1 neg xs.length (lm xs) ((m + 1 : Nat) : Int) (xs.getD m 0) (by simp) (by rw [h0]; rfl) (by rw [e1]; omega) (by rw [e1, Int.toNat_natCast]; exact hx)
      rw [e1] at h1
      exact RunsW.loop h1 (ih (by omega))
    · rw [if_neg h0]
      exact RunsW.loop_out (Try.k122_2 neg xs.length (lm xs) ((m + 1 : Nat) : Int) (xs.getD m 0) (by simp) (by simpa using h0) (by rw [e1]; omega) (by rw [e1, Int.toNat_natCast]; exact hx)) (by intro e; cases e)

theorem Try.run122_true (xs : List Int) (hl : RunsW Try.ir (.loop Try.c122) (Try.s122 true xs.length (lm xs) ((xs.length : Nat) : Int)) (.exit 0) (Try.s122 true xs.length (lm xs) ((topN xs xs.length : Nat) : Int)))
    (hsc : 0 ≤ (Int.toNat ((topN xs xs.length : Nat) : Int)) ∧ (Int.toNat ((topN xs xs.length : Nat) : Int)) ≤ xs.length ∧ xs.length ≤ xs.length ∧ (false = true → true = true)) : Runs Try.ir 122 [.agg [.bool true, .sl xs.length (lm xs)]] (.tup [.bool (decide (((topN xs xs.length : Nat) : Int) > 0)), .sl ((Int.toNat ((topN xs xs.length : Nat) : Int)) - 0) (List.take (((Int.toNat ((topN xs xs.length : Nat) : Int)) - 0) * 1) (List.drop (0 * 1) (lm xs)))]) :=
  Runs.of_bodyW (fn := Try.i122) (s := (dds 1 (.box [.bool true, .sl xs.length (lm xs)] :: (.val (.bool (decide (((topN xs xs.length : Nat) : Int) > 0))) :: (.val (.sl ((Int.toNat ((topN xs xs.length : Nat) : Int)) - 0) (List.take (((Int.toNat ((topN xs xs.length : Nat) : Int)) - 0) * 1) (List.drop (0 * 1) (lm xs)))) :: (.val (.int .i64 ((topN xs xs.length : Nat) : Int)) :: (dds 16 (.ptr 1 0 :: (.val (.bool true) :: (.val (.bool true) :: (.val (.int .i64 ((topN xs xs.length : Nat) : Int)) :: (.val (.bool (decide (((topN xs xs.length : Nat) : Int) > 0))) :: (.val (.bool (decide (((topN xs xs.length : Nat) : Int) > 0))) :: (.ptr 1 1 :: (.val (.sl xs.length (lm xs)) :: (.val (.int .i64 ((topN xs xs.length : Nat) : Int)) :: (.val (.sl ((Int.toNat ((topN xs xs.length : Nat) : Int)) - 0) (List.take (((Int.toNat ((topN xs xs.length : Nat) : Int)) - 0) * 1) (List.drop (0 * 1) (lm xs)))) :: []))))))))))))))))) (ex := .ret) rfl rfl
    (RunsW.seq (RunsW.script (t := (.val (.agg [.bool true, .sl xs.length (lm xs)]) :: (.box [.bool true, .sl xs.length (lm xs)] :: (.val (.bool false) :: (.own 1 0 [] :: (dds 27 [])))))) (ex := .norm) (ps := []) TQ0_holds 300 [] [0, 1, 2, 3] (by kernel_rfl) trivial)
    (RunsW.seq (RunsW.script (t := (dds 1 (.box [.bool true, .sl xs.length (lm xs)] :: (.val (.bool false) :: (.own 1 0 [] :: (.val (.int .i64 ((xs.length : Nat) : Int)) :: (dds 26 []))))))) (ex := .norm) (ps := []) TQ0_holds 300 [] [1, 2, 3, 4] (by kernel_rfl) trivial)
    (RunsW.seq (RunsW.block hl)
    (RunsW.script (t := (dds 1 (.box [.bool true, .sl xs.length (lm xs)] :: (.val (.bool (decide (((topN xs xs.length : Nat) : Int) > 0))) :: (.val (.sl ((Int.toNat ((topN xs xs.length : Nat) : Int)) - 0) (List.take (((Int.toNat ((topN xs xs.length : Nat) : Int)) - 0) * 1) (List.drop (0 * 1) (lm xs)))) :: (.val (.int .i64 ((topN xs xs.length : Nat) : Int)) :: (dds 16 (.ptr 1 0 :: (.val (.bool true) :: (.val (.bool true) :: (.val (.int .i64 ((topN xs xs.length : Nat) : Int)) :: (.val (.bool (decide (((topN xs xs.length : Nat) : Int) > 0))) :: (.val (.bool (decide (((topN xs xs.length : Nat) : Int) > 0))) :: (.ptr 1 1 :: (.val (.sl xs.length (lm xs)) :: (.val (.int .i64 ((topN xs xs.length : Nat) : Int)) :: (.val (.sl ((Int.toNat ((topN xs xs.length : Nat) : Int)) - 0) (List.take (((Int.toNat ((topN xs xs.length : Nat) : Int)) - 0) * 1) (List.drop (0 * 1) (lm xs)))) :: []))))))))))))))))) (ex := .ret) (ps := [true = true, 0 ≤ ((topN xs xs.length : Nat) : Int), 0 ≤ (Int.toNat ((topN xs xs.length : Nat) : Int)) ∧ (Int.toNat ((topN xs xs.length : Nat) : Int)) ≤ xs.length ∧ xs.length ≤ xs.length ∧ (false = true → true = true)]) TQ0_holds 300 [.b true] [1, 2, 3, 4, 21, 22, 23, 24, 25, 26, 27, 28, 29, 30] (by kernel_rfl) ⟨rfl, (Int.natCast_nonneg _), hsc, trivial⟩)))) (by intro i e; cases e) rfl

theorem Try.run122_false (xs : List Int) (hl : RunsW Try.ir (.loop Try.c122) (Try.s122 false xs.length (lm xs) ((xs.length : Nat) : Int)) (.exit 0) (Try.s122 false xs.length (lm xs) ((topN xs xs.length : Nat) : Int)))
    (hsc : 0 ≤ (Int.toNat ((topN xs xs.length : Nat) : Int)) ∧ (Int.toNat ((topN xs xs.length : Nat) : Int)) ≤ xs.length ∧ xs.length ≤ xs.length ∧ (false = true → true = true)) : Runs Try.ir 122 [.agg [.bool false, .sl xs.length (lm xs)]] (.tup [.bool false, .sl ((Int.toNat ((topN xs xs.length : Nat) : Int)) - 0) (List.take (((Int.toNat ((topN xs xs.length : Nat) : Int)) - 0) * 1) (List.drop (0 * 1) (lm xs)))]) :=
  Runs.of_bodyW (fn := Try.i122) (s := (dds 1 (.box [.bool false, .sl xs.length (lm xs)] :: (.val (.bool false) :: (.val (.sl ((Int.toNat ((topN xs xs.length : Nat) : Int)) - 0) (List.take (((Int.toNat ((topN xs xs.length : Nat) : Int)) - 0) * 1) (List.drop (0 * 1) (lm xs)))) :: (.val (.int .i64 ((topN xs xs.length : Nat) : Int)) :: (dds 16 (.ptr 1 0 :: (.val (.bool false) :: (.val (.bool false) :: (.val (.undef) :: (.val (.undef) :: (.val (.bool false) :: (.ptr 1 1 :: (.val (.sl xs.length (lm xs)) :: (.val (.int .i64 ((topN xs xs.length : Nat) : Int)) :: (.val (.sl ((Int.toNat ((topN xs xs.length : Nat) : Int)) - 0) (List.take (((Int.toNat ((topN xs xs.length : Nat) : Int)) - 0) * 1) (List.drop (0 * 1) (lm xs)))) :: []))))))))))))))))) (ex := .ret) rfl rfl
    (RunsW.seq (RunsW.script (t := (.val (.agg [.bool false, .sl xs.length (lm xs)]) :: (.box [.bool false, .sl xs.length (lm xs)] :: (.val (.bool false) :: (.own 1 0 [] :: (dds 27 [])))))) (ex := .norm) (ps := []) TQ0_holds 300 [] [0, 1, 2, 3] (by kernel_rfl) trivial)
    (RunsW.seq (RunsW.script (t := (dds 1 (.box [.bool false, .sl xs.length (lm xs)] :: (.val (.bool false) :: (.own 1 0 [] :: (.val (.int .i64 ((xs.length : Nat) : Int)) :: (dds 26 []))))))) (ex := .norm) (ps := []) TQ0_holds 300 [] [1, 2, 3, 4] (by kernel_rfl) trivial)
    (RunsW.seq (RunsW.block hl)
    (RunsW.script (t := (dds 1 (.box [.bool false, .sl xs.length (lm xs)] :: (.val (.bool false) :: (.val (.sl ((Int.toNat ((topN xs xs.length : Nat) : Int)) - 0) (List.take (((Int.toNat ((topN xs xs.length : Nat) : Int)) - 0) * 1) (List.drop (0 * 1) (lm xs)))) :: (.val (.int .i64 ((topN xs xs.length : Nat) : Int)) :: (dds 16 (.ptr 1 0 :: (.val (.bool false) :: (.val (.bool false) :: (.val (.undef) :: (.val (.undef) :: (.val (.bool false) :: (.ptr 1 1 :: (.val (.sl xs.length (lm xs)) :: (.val (.int .i64 ((topN xs xs.length : Nat) : Int)) :: (.val (.sl ((Int.toNat ((topN xs xs.length : Nat) : Int)) - 0) (List.take (((Int.toNat ((topN xs xs.length : Nat) : Int)) - 0) * 1) (List.drop (0 * 1) (lm xs)))) :: []))))))))))))))))) (ex := .ret) (ps := [false = false, 0 ≤ ((topN xs xs.length : Nat) : Int), 0 ≤ (Int.toNat ((topN xs xs.length : Nat) : Int)) ∧ (Int.toNat ((topN xs xs.length : Nat) : Int)) ≤ xs.length ∧ xs.length ≤ xs.length ∧ (false = true → true = true)]) TQ0_holds 300 [.b false] [1, 2, 3, 4, 21, 22, 23, 24, 25, 26, 27, 28, 29, 30] (by kernel_rfl) ⟨rfl, (Int.natCast_nonneg _), hsc, trivial⟩)))) (by intro i e; cases e) rfl

theorem topN_sl (xs : List Int) : (Int.toNat ((topN xs xs.length : Nat) : Int) - 0) = (trimL xs).length ∧ (List.take ((Int.toNat ((topN xs xs.length : Nat) : Int) - 0) * 1) (List.drop (0 * 1) (lm xs))) = lm (trimL xs) ∧ (0 ≤ (Int.toNat ((topN xs xs.length : Nat) : Int)) ∧ (Int.toNat ((topN xs xs.length : Nat) : Int)) ≤ xs.length ∧ xs.length ≤ xs.length ∧ (false = true → true = true)) := by
  have hle := topN_le xs xs.length
  rw [Int.toNat_natCast]
  refine ⟨by simp [trimL]; omega, by simp [lm, trimL, List.map_take], by omega, hle, Nat.le_refl _, fun h => by cases h⟩
theorem limbs_run {neg : Bool} {xs : List Int} (hu : U32 xs) (hN : xs.length ≤ 1048576) : Runs Try.ir 122 [.agg [.bool neg, .sl xs.length (lm xs)]]
    (.tup [.bool (decide (rv neg xs < 0)), .sl (limbs (rv neg xs).natAbs).length (lm (limbs (rv neg xs).natAbs))]) := by
  obtain ⟨e1, e2, e3⟩ := topN_sl xs
  have ht := trimL_rv (neg := neg) hu
  have hn := neg_rv (neg := neg) hu
  have hlen : (trimL xs).length = topN xs xs.length := by rw [← e1, Int.toNat_natCast]; rfl
  cases neg with
  | true =>
    have h := Try.run122_true xs (Try.loop122 true xs hN xs.length (Nat.le_refl _)) e3
    rw [e2, e1, ht] at h
    have e4 : decide (((topN xs xs.length : Nat) : Int) > 0) = decide (rv true xs < 0) := by
      rw [← hn, Bool.true_and, ← ht, hlen, decide_eq_decide]; omega
    rw [e4] at h
    exact h
  | false =>
    have h := Try.run122_false xs (Try.loop122 false xs hN xs.length (Nat.le_refl _)) e3
    rw [e2, e1, ht] at h
    rw [Bool.false_and] at hn
    rw [← hn]
    exact h
theorem limbs_big {n : Int} (hN : (limbs n.natAbs).length ≤ 1048576) : Runs Try.ir 122 [bigAV n] (.tup [.bool (decide (n < 0)), .sl (limbs n.natAbs).length (lm (limbs n.natAbs))]) := by
  have := limbs_run (neg := decide (n < 0)) (big_u32 n.natAbs) hN
  rwa [rv_big] at this

def Try.c133 : ICode := .seq (.seq (.region false [oM 8 5,
   o1 9 (.bin .gtr (.t 8) (.c (.int .i64 0))),
   oM 10 9,
   oG 11 (.mov (.t 1)) 10 true,
   oG 12 (.mov (.t 5)) 10 true,
   oG 13 (.bin .sub (.t 12) (.c (.int .i64 1))) 10 true,
   oG 14 (.ixa 11 (.t 13) 1) 10 true,
   oG 15 (.ld 14 14 1 true) 10 true,
   oG 16 (.bin .eql (.t 15) (.c (.int .u32 0))) 10 true,
   o1 17 (.pick (.t 10) (.t 16) (.c (.bool false)))])
  (.cond (.t 17) (.skip)
  (.exit 0)))
  (.block 1 (.region false [oM 18 5,
   o1 19 (.bin .sub (.t 18) (.c (.int .i64 1))),
   oM 5 19]))
def Try.s133 (neg : Bool) (N : Nat) (cs : List AV) (n : Int) : State := (.val (.bool neg) :: (.val (.sl N cs) :: (dds 2 (.box [.bool false, .sl 0 []] :: (.val (.int .i64 n) :: (dds 23 []))))))
theorem Try.k133_1 (neg : Bool) (N : Nat) (cs : List AV) (n : Int) (x : Int) (c1 : (decide (n > 0)) = true) (c2 : (x == 0) = true) (n1 : 0 ≤ (IntKind.i64.wrap (n - 1)) ∧ (IntKind.i64.wrap (n - 1)) < ((N : Nat) : Int)) (n2 : takeA (List.drop (Int.toNat (IntKind.i64.wrap (n - 1)) * 1) cs) 0 1 true = some (.int .u32 x)) : RunsW Try.ir Try.c133 (Try.s133 neg N cs n) .norm (Try.s133 neg N cs (IntKind.i64.wrap (n - 1))) :=
  RunsW.script (ps := [(decide (n > 0)) = true, 0 ≤ (IntKind.i64.wrap (n - 1)) ∧ (IntKind.i64.wrap (n - 1)) < ((N : Nat) : Int), takeA (List.drop (Int.toNat (IntKind.i64.wrap (n - 1)) * 1) cs) 0 1 true = some (.int .u32 x), (x == 0) = true]) TQ0_holds 300 [.b true, .v (.int .u32 x), .b true] [0, 1, 4, 5] (by kernel_rfl) ⟨c1, n1, n2, c2, trivial⟩
theorem Try.k133_2 (neg : Bool) (N : Nat) (cs : List AV) (n : Int) (x : Int) (c1 : (decide (n > 0)) = true) (c2 : (x == 0) = false) (n1 : 0 ≤ (IntKind.i64.wrap (n - 1)) ∧ (IntKind.i64.wrap (n - 1)) < ((N : Nat) : Int)) (n2 : takeA (List.drop (Int.toNat (IntKind.i64.wrap (n - 1)) * 1) cs) 0 1 true = some (.int .u32 x)) : RunsW Try.ir Try.c133 (Try.s133 neg N cs n) (.exit 0) (Try.s133 neg N cs n) :=
  RunsW.script (ps := [(decide (n > 0)) = true, 0 ≤ (IntKind.i64.wrap (n - 1)) ∧ (IntKind.i64.wrap (n - 1)) < ((N : Nat) : Int), takeA (List.drop (Int.toNat (IntKind.i64.wrap (n - 1)) * 1) cs) 0 1 true = some (.int .u32 x), (x == 0) = false]) TQ0_holds 300 [.b true, .v (.int .u32 x), .b false] [0, 1, 4, 5] (by kernel_rfl) ⟨c1, n1, n2, c2, trivial⟩
theorem Try.k133_3 (neg : Bool) (N : Nat) (cs : List AV) (n : Int) (c1 : (decide (n > 0)) = false) : RunsW Try.ir Try.c133 (Try.s133 neg N cs n) (.exit 0) (Try.s133 neg N cs n) :=
  RunsW.script (ps := [(decide (n > 0)) = false, false = false]) TQ0_holds 300 [.b false, .b false] [0, 1, 4, 5] (by kernel_rfl) ⟨c1, rfl, trivial⟩

theorem Try.loop133 (neg : Bool) (xs : List Int) (hN : xs.length ≤ 1048576) : ∀ m, m ≤ xs.length → RunsW Try.ir (.loop Try.c133) (Try.s133 neg xs.length (lm xs) ((m : Nat) : Int)) (.exit 0) (Try.s133 neg xs.length (lm xs) ((topN xs m : Nat) : Int)) := by
  intro m
  induction m with
  | zero =>
    intro _
    exact RunsW.loop_out (Try.k133_3 neg xs.length (lm xs) ((0 : Nat) : Int) (by simp)) (by intro e; cases e)
  | succ m ih =>
    intro hm
    have e1 : IntKind.i64.wrap (((m + 1 : Nat) : Int) - 1) = ((m : Nat) : Int) := by rw [w64 (by omega) (by omega)]; omega
    have hx := take_lim (xs := xs) (i := m) (by omega)
    simp only [topN]
    by_cases h0 : xs.getD m 0 = 0
    · rw [if_pos h0]
      have h1 := Try.k133_1 neg xs.length (lm xs) ((m + 1 : Nat) : Int) (xs.getD m 0) (by simp) (by rw [h0]; rfl) (by rw [e1]; omega) (by rw [e1, Int.toNat_natCast]; exact hx)
      rw [e1] at h1
      exact RunsW.loop h1 (ih (by omega))
    · rw [if_neg h0]
      exact RunsW.loop_out (Try.k133_2 neg xs.length (lm xs) ((m + 1 : Nat) : Int) (xs.getD m 0) (by simp) (by simpa using h0) (by rw [e1]; omega) (by rw [e1, Int.toNat_natCast]; exact hx)) (by intro e; cases e)

theorem Try.run133_z (neg : Bool) (xs : List Int) (hz : (((topN xs xs.length : Nat) : Int) == 0) = true) (hl : RunsW Try.ir (.loop Try.c133) (Try.s133 neg xs.length (lm xs) ((xs.length : Nat) : Int)) (.exit 0) (Try.s133 neg xs.length (lm xs) ((topN xs xs.length : Nat) : Int))) : Runs Try.ir 133 [.bool neg, .sl xs.length (lm xs)] (.agg [.bool false, .sl 0 []]) :=
  Runs.of_bodyW (fn := Try.i133) (s := (.val (.bool neg) :: (.val (.sl xs.length (lm xs)) :: (dds 2 (.box [.bool false, .sl 0 []] :: (.val (.int .i64 ((topN xs xs.length : Nat) : Int)) :: (dds 14 (.val (.int .i64 ((topN xs xs.length : Nat) : Int)) :: (.val (.bool (((topN xs xs.length : Nat) : Int) == 0)) :: (.val (.agg [.bool false, .sl 0 []]) :: (dds 6 []))))))))))) (ex := .ret) rfl rfl
    (RunsW.seq (RunsW.script (t := (.val (.bool neg) :: (.val (.sl xs.length (lm xs)) :: (dds 2 (.box [.bool false, .sl 0 []] :: (dds 24 [])))))) (ex := .norm) (ps := []) TQ0_holds 300 [] [0, 1, 4] (by kernel_rfl) trivial)
    (RunsW.seq (RunsW.script (t := (.val (.bool neg) :: (.val (.sl xs.length (lm xs)) :: (dds 2 (.box [.bool false, .sl 0 []] :: (.val (.int .i64 ((xs.length : Nat) : Int)) :: (dds 23 []))))))) (ex := .norm) (ps := []) TQ0_holds 300 [] [0, 1, 4, 5] (by kernel_rfl) trivial)
    (RunsW.seq (RunsW.block hl)
    (RunsW.script (t := (.val (.bool neg) :: (.val (.sl xs.length (lm xs)) :: (dds 2 (.box [.bool false, .sl 0 []] :: (.val (.int .i64 ((topN xs xs.length : Nat) : Int)) :: (dds 14 (.val (.int .i64 ((topN xs xs.length : Nat) : Int)) :: (.val (.bool (((topN xs xs.length : Nat) : Int) == 0)) :: (.val (.agg [.bool false, .sl 0 []]) :: (dds 6 []))))))))))) (ex := .ret) (ps := [(((topN xs xs.length : Nat) : Int) == 0) = true]) TQ0_holds 300 [.b true] [0, 1, 4, 5, 20, 21, 22] (by kernel_rfl) ⟨hz, trivial⟩)))) (by intro i e; cases e) rfl

theorem Try.run133_p (neg : Bool) (xs : List Int) (hz : (((topN xs xs.length : Nat) : Int) == 0) = false) (hl : RunsW Try.ir (.loop Try.c133) (Try.s133 neg xs.length (lm xs) ((xs.length : Nat) : Int)) (.exit 0) (Try.s133 neg xs.length (lm xs) ((topN xs xs.length : Nat) : Int))) (hsc : 0 ≤ (Int.toNat ((topN xs xs.length : Nat) : Int)) ∧ (Int.toNat ((topN xs xs.length : Nat) : Int)) ≤ (Int.toNat ((topN xs xs.length : Nat) : Int)) ∧ (Int.toNat ((topN xs xs.length : Nat) : Int)) ≤ xs.length ∧ (true = true → true = true)) : Runs Try.ir 133 [.bool neg, .sl xs.length (lm xs)] (.agg [.bool neg, .sl ((Int.toNat ((topN xs xs.length : Nat) : Int)) - 0) (List.take (((Int.toNat ((topN xs xs.length : Nat) : Int)) - 0) * 1) (List.drop (0 * 1) (lm xs)))]) :=
  Runs.of_bodyW (fn := Try.i133) (s := (.val (.bool neg) :: (.val (.sl xs.length (lm xs)) :: (dds 2 (.box [.bool neg, .sl ((Int.toNat ((topN xs xs.length : Nat) : Int)) - 0) (List.take (((Int.toNat ((topN xs xs.length : Nat) : Int)) - 0) * 1) (List.drop (0 * 1) (lm xs)))] :: (.val (.int .i64 ((topN xs xs.length : Nat) : Int)) :: (dds 14 (.val (.int .i64 ((topN xs xs.length : Nat) : Int)) :: (.val (.bool (((topN xs xs.length : Nat) : Int) == 0)) :: (dds 1 (.val (.bool neg) :: (.val (.sl xs.length (lm xs)) :: (.val (.int .i64 ((topN xs xs.length : Nat) : Int)) :: (.val (.int .i64 ((topN xs xs.length : Nat) : Int)) :: (.val (.sl ((Int.toNat ((topN xs xs.length : Nat) : Int)) - 0) (List.take (((Int.toNat ((topN xs xs.length : Nat) : Int)) - 0) * 1) (List.drop (0 * 1) (lm xs)))) :: (.val (.agg [.bool neg, .sl ((Int.toNat ((topN xs xs.length : Nat) : Int)) - 0) (List.take (((Int.toNat ((topN xs xs.length : Nat) : Int)) - 0) * 1) (List.drop (0 * 1) (lm xs)))]) :: [])))))))))))))))) (ex := .ret) rfl rfl
    (RunsW.seq (RunsW.script (t := (.val (.bool neg) :: (.val (.sl xs.length (lm xs)) :: (dds 2 (.box [.bool false, .sl 0 []] :: (dds 24 [])))))) (ex := .norm) (ps := []) TQ0_holds 300 [] [0, 1, 4] (by kernel_rfl) trivial)
    (RunsW.seq (RunsW.script (t := (.val (.bool neg) :: (.val (.sl xs.length (lm xs)) :: (dds 2 (.box [.bool false, .sl 0 []] :: (.val (.int .i64 ((xs.length : Nat) : Int)) :: (dds 23 []))))))) (ex := .norm) (ps := []) TQ0_holds 300 [] [0, 1, 4, 5] (by kernel_rfl) trivial)
    (RunsW.seq (RunsW.block hl)
    (RunsW.script (t := (.val (.bool neg) :: (.val (.sl xs.length (lm xs)) :: (dds 2 (.box [.bool neg, .sl ((Int.toNat ((topN xs xs.length : Nat) : Int)) - 0) (List.take (((Int.toNat ((topN xs xs.length : Nat) : Int)) - 0) * 1) (List.drop (0 * 1) (lm xs)))] :: (.val (.int .i64 ((topN xs xs.length : Nat) : Int)) :: (dds 14 (.val (.int .i64 ((topN xs xs.length : Nat) : Int)) :: (.val (.bool (((topN xs xs.length : Nat) : Int) == 0)) :: (dds 1 (.val (.bool neg) :: (.val (.sl xs.length (lm xs)) :: (.val (.int .i64 ((topN xs xs.length : Nat) : Int)) :: (.val (.int .i64 ((topN xs xs.length : Nat) : Int)) :: (.val (.sl ((Int.toNat ((topN xs xs.length : Nat) : Int)) - 0) (List.take (((Int.toNat ((topN xs xs.length : Nat) : Int)) - 0) * 1) (List.drop (0 * 1) (lm xs)))) :: (.val (.agg [.bool neg, .sl ((Int.toNat ((topN xs xs.length : Nat) : Int)) - 0) (List.take (((Int.toNat ((topN xs xs.length : Nat) : Int)) - 0) * 1) (List.drop (0 * 1) (lm xs)))]) :: [])))))))))))))))) (ex := .ret) (ps := [(((topN xs xs.length : Nat) : Int) == 0) = false, 0 ≤ ((topN xs xs.length : Nat) : Int), 0 ≤ ((topN xs xs.length : Nat) : Int), 0 ≤ (Int.toNat ((topN xs xs.length : Nat) : Int)) ∧ (Int.toNat ((topN xs xs.length : Nat) : Int)) ≤ (Int.toNat ((topN xs xs.length : Nat) : Int)) ∧ (Int.toNat ((topN xs xs.length : Nat) : Int)) ≤ xs.length ∧ (true = true → true = true)]) TQ0_holds 300 [.b false] [0, 1, 4, 5, 20, 21, 23, 24, 25, 26, 27, 28] (by kernel_rfl) ⟨hz, (Int.natCast_nonneg _), (Int.natCast_nonneg _), hsc, trivial⟩)))) (by intro i e; cases e) rfl

theorem made_run {neg : Bool} {xs : List Int} (hu : U32 xs) (hN : xs.length ≤ 1048576) : Runs Try.ir 133 [.bool neg, .sl xs.length (lm xs)] (bigAV (rv neg xs)) := by
  obtain ⟨e1, e2, e3⟩ := topN_sl xs
  have ht := trimL_rv (neg := neg) hu
  have hn := neg_rv (neg := neg) hu
  have hlen : (trimL xs).length = topN xs xs.length := by rw [← e1, Int.toNat_natCast]; rfl
  have hl := Try.loop133 neg xs hN xs.length (Nat.le_refl _)
  by_cases h0 : topN xs xs.length = 0
  · have h := Try.run133_z neg xs (by rw [h0]; rfl) hl
    have hz : (limbs (rv neg xs).natAbs).length = 0 := by rw [← ht, hlen, h0]
    have hv : rv neg xs = 0 := by have := (limbs_zero_len _).1 hz; omega
    rw [hv]
    exact h
  · have h := Try.run133_p neg xs (by rw [beq_eq_false_iff_ne]; omega) hl ⟨e3.1, Nat.le_refl _, e3.2.1, fun _ => rfl⟩
    rw [e2, e1, ht] at h
    have hp : decide (0 < (limbs (rv neg xs).natAbs).length) = true := by rw [← ht, hlen]; simp; omega
    rw [hp, Bool.and_true] at hn
    rw [bigAV, ← hn]
    exact h

theorem Try.run94_n (n : Int) (c1 : decide (n < 0) = true) (hcall : Runs Try.ir 133 [.bool (decide (n < 0)), .sl 2 [.int .u32 (IntKind.u32.wrap (IntKind.u64.wrap (0 - (IntKind.u64.wrap n)))), .int .u32 (IntKind.u32.wrap (Int.fdiv (IntKind.u64.wrap (0 - (IntKind.u64.wrap n))) (2 ^ (min (Int.toNat 32) (IntKind.bits .u64)))))]] (.agg [.bool (decide (n < 0)), .sl ((limbs (Int.natAbs n)).length) (lm (limbs (Int.natAbs n)))])) : Runs Try.ir 94 [.int .i64 n] (.agg [.bool (decide (n < 0)), .sl ((limbs (Int.natAbs n)).length) (lm (limbs (Int.natAbs n)))]) :=
  Runs.script (ps := [(decide (n < 0)) = true, ¬ (32 : Int) < 0, Runs Try.ir 133 [.bool (decide (n < 0)), .sl 2 [.int .u32 (IntKind.u32.wrap (IntKind.u64.wrap (0 - (IntKind.u64.wrap n)))), .int .u32 (IntKind.u32.wrap (Int.fdiv (IntKind.u64.wrap (0 - (IntKind.u64.wrap n))) (2 ^ (min (Int.toNat 32) (IntKind.bits .u64)))))]] (.agg [.bool (decide (n < 0)), .sl ((limbs (Int.natAbs n)).length) (lm (limbs (Int.natAbs n)))])]) TQ0_holds rfl 300 rfl [.b true, .r (.agg [.bool (decide (n < 0)), .sl ((limbs (Int.natAbs n)).length) (lm (limbs (Int.natAbs n)))])] (by kernel_rfl) ⟨c1, (by decide), hcall, trivial⟩

theorem Try.run94_p (n : Int) (c1 : decide (n < 0) = false) (hcall : Runs Try.ir 133 [.bool (decide (n < 0)), .sl 2 [.int .u32 (IntKind.u32.wrap (IntKind.u64.wrap n)), .int .u32 (IntKind.u32.wrap (Int.fdiv (IntKind.u64.wrap n) (2 ^ (min (Int.toNat 32) (IntKind.bits .u64)))))]] (.agg [.bool (decide (n < 0)), .sl ((limbs (Int.natAbs n)).length) (lm (limbs (Int.natAbs n)))])) : Runs Try.ir 94 [.int .i64 n] (.agg [.bool (decide (n < 0)), .sl ((limbs (Int.natAbs n)).length) (lm (limbs (Int.natAbs n)))]) :=
  Runs.script (ps := [(decide (n < 0)) = false, ¬ (32 : Int) < 0, Runs Try.ir 133 [.bool (decide (n < 0)), .sl 2 [.int .u32 (IntKind.u32.wrap (IntKind.u64.wrap n)), .int .u32 (IntKind.u32.wrap (Int.fdiv (IntKind.u64.wrap n) (2 ^ (min (Int.toNat 32) (IntKind.bits .u64)))))]] (.agg [.bool (decide (n < 0)), .sl ((limbs (Int.natAbs n)).length) (lm (limbs (Int.natAbs n)))])]) TQ0_holds rfl 300 rfl [.b false, .r (.agg [.bool (decide (n < 0)), .sl ((limbs (Int.natAbs n)).length) (lm (limbs (Int.natAbs n)))])] (by kernel_rfl) ⟨c1, (by decide), hcall, trivial⟩

theorem wof_run {n : Int} (hn : -9223372036854775808 ≤ n ∧ n ≤ 9223372036854775807) : Runs Try.ir 94 [.int .i64 n] (bigAV n) := by
  cases c1 : decide (n < 0) with
  | true =>
    have h0 : n < 0 := by simpa using c1
    have eu : (IntKind.u64.wrap (0 - IntKind.u64.wrap n)) = -n := by rw [wu64m, wu64m]; omega
    obtain ⟨k1, k2⟩ := of_limbs (u := (IntKind.u64.wrap (0 - IntKind.u64.wrap n))) (by rw [eu]; omega)
    refine Try.run94_n n c1 ?_
    have := made_run (neg := true) k1 (by simp)
    have e : rv true [IntKind.u32.wrap (IntKind.u64.wrap (0 - IntKind.u64.wrap n)), IntKind.u32.wrap (Int.fdiv (IntKind.u64.wrap (0 - IntKind.u64.wrap n)) (2 ^ (min (Int.toNat 32) (IntKind.bits .u64))))] = n := by
      unfold rv; rw [k2, if_pos rfl, eu]; omega
    rw [e, bigAV, c1] at this
    rw [c1]
    exact this
  | false =>
    have h0 : ¬ n < 0 := by simpa using c1
    have eu : IntKind.u64.wrap n = n := by rw [wu64m]; omega
    obtain ⟨k1, k2⟩ := of_limbs (u := IntKind.u64.wrap n) (by rw [eu]; omega)
    refine Try.run94_p n c1 ?_
    have := made_run (neg := false) k1 (by simp)
    have e : rv false [IntKind.u32.wrap (IntKind.u64.wrap n), IntKind.u32.wrap (Int.fdiv (IntKind.u64.wrap n) (2 ^ (min (Int.toNat 32) (IntKind.bits .u64))))] = n := by
      unfold rv; rw [if_neg (by decide), k2, eu]
    rw [e, bigAV, c1] at this
    rw [c1]
    exact this

theorem Try.run132 (neg : Bool) (xs : List Int) (a r : Int) (h1 : Runs Try.ir 122 [.agg [.bool neg, .sl xs.length (lm xs)]] (.tup [.bool (decide (a < 0)), .sl ((limbs (Int.natAbs a)).length) (lm (limbs (Int.natAbs a)))])) (h2 : Runs Try.ir 133 [.bool (decide (a < 0)), .sl (limbs (Int.natAbs a)).length (lm (limbs (Int.natAbs a)))] (.agg [.bool (decide (r < 0)), .sl ((limbs (Int.natAbs r)).length) (lm (limbs (Int.natAbs r)))])) (hal : List.length (lm (limbs (Int.natAbs a))) = (limbs (Int.natAbs a)).length * 1) (han : (limbs (Int.natAbs a)).length ≤ 1048576) : Runs Try.ir 132 [.agg [.bool neg, .sl xs.length (lm xs)]] (.agg [.bool (decide (r < 0)), .sl ((limbs (Int.natAbs r)).length) (lm (limbs (Int.natAbs r)))]) :=
  Runs.script (ps := [Runs Try.ir 122 [.agg [.bool neg, .sl xs.length (lm xs)]] (.tup [.bool (decide (a < 0)), .sl ((limbs (Int.natAbs a)).length) (lm (limbs (Int.natAbs a)))]), List.length (lm (limbs (Int.natAbs a))) = ((limbs (Int.natAbs a)).length) * 1, ((limbs (Int.natAbs a)).length) ≤ 1048576, Runs Try.ir 133 [.bool (decide (a < 0)), .sl ((limbs (Int.natAbs a)).length) (lm (limbs (Int.natAbs a)))] (.agg [.bool (decide (r < 0)), .sl ((limbs (Int.natAbs r)).length) (lm (limbs (Int.natAbs r)))])]) TQ0_holds rfl 300 rfl [.r (.tup [.bool (decide (a < 0)), .sl ((limbs (Int.natAbs a)).length) (lm (limbs (Int.natAbs a)))]), .r (.agg [.bool (decide (r < 0)), .sl ((limbs (Int.natAbs r)).length) (lm (limbs (Int.natAbs r)))])] (by kernel_rfl) ⟨h1, hal, han, h2, trivial⟩

theorem Try.run112 (neg : Bool) (xs : List Int) (a r : Int) (h1 : Runs Try.ir 122 [.agg [.bool neg, .sl xs.length (lm xs)]] (.tup [.bool (decide (a < 0)), .sl ((limbs (Int.natAbs a)).length) (lm (limbs (Int.natAbs a)))])) (h2 : Runs Try.ir 133 [.bool (!(decide (a < 0))), .sl (limbs (Int.natAbs a)).length (lm (limbs (Int.natAbs a)))] (.agg [.bool (decide (r < 0)), .sl ((limbs (Int.natAbs r)).length) (lm (limbs (Int.natAbs r)))])) (hal : List.length (lm (limbs (Int.natAbs a))) = (limbs (Int.natAbs a)).length * 1) (han : (limbs (Int.natAbs a)).length ≤ 1048576) : Runs Try.ir 112 [.agg [.bool neg, .sl xs.length (lm xs)]] (.agg [.bool (decide (r < 0)), .sl ((limbs (Int.natAbs r)).length) (lm (limbs (Int.natAbs r)))]) :=
  Runs.script (ps := [Runs Try.ir 122 [.agg [.bool neg, .sl xs.length (lm xs)]] (.tup [.bool (decide (a < 0)), .sl ((limbs (Int.natAbs a)).length) (lm (limbs (Int.natAbs a)))]), List.length (lm (limbs (Int.natAbs a))) = ((limbs (Int.natAbs a)).length) * 1, ((limbs (Int.natAbs a)).length) ≤ 1048576, Runs Try.ir 133 [.bool (!(decide (a < 0))), .sl ((limbs (Int.natAbs a)).length) (lm (limbs (Int.natAbs a)))] (.agg [.bool (decide (r < 0)), .sl ((limbs (Int.natAbs r)).length) (lm (limbs (Int.natAbs r)))])]) TQ0_holds rfl 300 rfl [.r (.tup [.bool (decide (a < 0)), .sl ((limbs (Int.natAbs a)).length) (lm (limbs (Int.natAbs a)))]), .r (.agg [.bool (decide (r < 0)), .sl ((limbs (Int.natAbs r)).length) (lm (limbs (Int.natAbs r)))])] (by kernel_rfl) ⟨h1, hal, han, h2, trivial⟩

theorem Try.run111 (neg : Bool) (xs : List Int) (a r : Int) (h1 : Runs Try.ir 122 [.agg [.bool neg, .sl xs.length (lm xs)]] (.tup [.bool (decide (a < 0)), .sl ((limbs (Int.natAbs a)).length) (lm (limbs (Int.natAbs a)))])) (h2 : Runs Try.ir 133 [.bool false, .sl (limbs (Int.natAbs a)).length (lm (limbs (Int.natAbs a)))] (.agg [.bool (decide (r < 0)), .sl ((limbs (Int.natAbs r)).length) (lm (limbs (Int.natAbs r)))])) (hal : List.length (lm (limbs (Int.natAbs a))) = (limbs (Int.natAbs a)).length * 1) (han : (limbs (Int.natAbs a)).length ≤ 1048576) : Runs Try.ir 111 [.agg [.bool neg, .sl xs.length (lm xs)]] (.agg [.bool (decide (r < 0)), .sl ((limbs (Int.natAbs r)).length) (lm (limbs (Int.natAbs r)))]) :=
  Runs.script (ps := [Runs Try.ir 122 [.agg [.bool neg, .sl xs.length (lm xs)]] (.tup [.bool (decide (a < 0)), .sl ((limbs (Int.natAbs a)).length) (lm (limbs (Int.natAbs a)))]), List.length (lm (limbs (Int.natAbs a))) = ((limbs (Int.natAbs a)).length) * 1, ((limbs (Int.natAbs a)).length) ≤ 1048576, Runs Try.ir 133 [.bool false, .sl ((limbs (Int.natAbs a)).length) (lm (limbs (Int.natAbs a)))] (.agg [.bool (decide (r < 0)), .sl ((limbs (Int.natAbs r)).length) (lm (limbs (Int.natAbs r)))])]) TQ0_holds rfl 300 rfl [.r (.tup [.bool (decide (a < 0)), .sl ((limbs (Int.natAbs a)).length) (lm (limbs (Int.natAbs a)))]), .r (.agg [.bool (decide (r < 0)), .sl ((limbs (Int.natAbs r)).length) (lm (limbs (Int.natAbs r)))])] (by kernel_rfl) ⟨h1, hal, han, h2, trivial⟩

theorem lim_al (xs : List Int) : List.length (lm xs) = xs.length * 1 := by rw [lim_length, Nat.mul_one]
theorem rv_pos (n : Int) : rv false (limbs n.natAbs) = ((n.natAbs : Nat) : Int) := by unfold rv; rw [if_neg (by decide), limbs_val]
theorem rv_not (n : Int) : rv (!decide (n < 0)) (limbs n.natAbs) = -n := by
  unfold rv
  rw [limbs_val]
  by_cases h : n < 0 <;> simp [h] <;> omega

theorem wtrim_run {neg : Bool} {xs : List Int} (hu : U32 xs) (hN : xs.length ≤ 1048576) : Runs Try.ir 132 [.agg [.bool neg, .sl xs.length (lm xs)]] (bigAV (rv neg xs)) := by
  have hl : (limbs (rv neg xs).natAbs).length ≤ 1048576 := Nat.le_trans (rv_len hu) hN
  have h2 := made_run (neg := decide (rv neg xs < 0)) (big_u32 (rv neg xs).natAbs) hl
  rw [rv_big] at h2
  exact Try.run132 neg xs (rv neg xs) (rv neg xs) (limbs_run hu hN) h2 (lim_al _) hl

theorem wneg_run {neg : Bool} {xs : List Int} (hu : U32 xs) (hN : xs.length ≤ 1048576) : Runs Try.ir 112 [.agg [.bool neg, .sl xs.length (lm xs)]] (bigAV (-(rv neg xs))) := by
  have hl : (limbs (rv neg xs).natAbs).length ≤ 1048576 := Nat.le_trans (rv_len hu) hN
  have h2 := made_run (neg := !decide (rv neg xs < 0)) (big_u32 (rv neg xs).natAbs) hl
  rw [rv_not] at h2
  exact Try.run112 neg xs (rv neg xs) (-(rv neg xs)) (limbs_run hu hN) h2 (lim_al _) hl

def Try.sh73 (a : Int) : AV :=
  match (((limbs (Int.natAbs a)).length : Nat) : Int) == 0 with
  | true => (.int .i64 0)
  | false => (match decide (a < 0) with
  | true => (.int .i64 (-1))
  | false => (.int .i64 1))
theorem Try.run73 (neg : Bool) (xs : List Int) (a : Int) (h1 : Runs Try.ir 122 [.agg [.bool neg, .sl xs.length (lm xs)]] (.tup [.bool (decide (a < 0)), .sl ((limbs (Int.natAbs a)).length) (lm (limbs (Int.natAbs a)))])) : Runs Try.ir 73 [.agg [.bool neg, .sl xs.length (lm xs)]] (Try.sh73 a) := by
  unfold Try.sh73
  cases c1 : ((((limbs (Int.natAbs a)).length : Nat) : Int) == 0)
  · cases c2 : (decide (a < 0))
    · exact Runs.script (r := .int .i64 1) (ps := [Runs Try.ir 122 [.agg [.bool neg, .sl xs.length (lm xs)]] (.tup [.bool (decide (a < 0)), .sl ((limbs (Int.natAbs a)).length) (lm (limbs (Int.natAbs a)))]), ((((limbs (Int.natAbs a)).length : Nat) : Int) == 0) = false, (decide (a < 0)) = false]) TQ0_holds rfl 300 rfl [.r (.tup [.bool (decide (a < 0)), .sl ((limbs (Int.natAbs a)).length) (lm (limbs (Int.natAbs a)))]), .b false, .b false] (by kernel_rfl) ⟨h1, c1, c2, trivial⟩
    · exact Runs.script (r := .int .i64 (-1)) (ps := [Runs Try.ir 122 [.agg [.bool neg, .sl xs.length (lm xs)]] (.tup [.bool (decide (a < 0)), .sl ((limbs (Int.natAbs a)).length) (lm (limbs (Int.natAbs a)))]), ((((limbs (Int.natAbs a)).length : Nat) : Int) == 0) = false, (decide (a < 0)) = true]) TQ0_holds rfl 300 rfl [.r (.tup [.bool (decide (a < 0)), .sl ((limbs (Int.natAbs a)).length) (lm (limbs (Int.natAbs a)))]), .b false, .b true] (by kernel_rfl) ⟨h1, c1, c2, trivial⟩
  · exact Runs.script (r := .int .i64 0) (ps := [Runs Try.ir 122 [.agg [.bool neg, .sl xs.length (lm xs)]] (.tup [.bool (decide (a < 0)), .sl ((limbs (Int.natAbs a)).length) (lm (limbs (Int.natAbs a)))]), ((((limbs (Int.natAbs a)).length : Nat) : Int) == 0) = true]) TQ0_holds rfl 300 rfl [.r (.tup [.bool (decide (a < 0)), .sl ((limbs (Int.natAbs a)).length) (lm (limbs (Int.natAbs a)))]), .b true] (by kernel_rfl) ⟨h1, c1, trivial⟩
theorem wsign_run {neg : Bool} {xs : List Int} (hu : U32 xs) (hN : xs.length ≤ 1048576) : Runs Try.ir 73 [.agg [.bool neg, .sl xs.length (lm xs)]] (.int .i64 (sgnI (rv neg xs))) := by
  have h := Try.run73 neg xs (rv neg xs) (limbs_run hu hN)
  have e : Try.sh73 (rv neg xs) = .int .i64 (sgnI (rv neg xs)) := by
    unfold Try.sh73 sgnI
    have hz := limbs_zero_len (rv neg xs).natAbs
    by_cases h0 : rv neg xs = 0
    · rw [h0]; rfl
    · have e1 : ((((limbs (rv neg xs).natAbs).length : Nat) : Int) == 0) = false := by rw [beq_eq_false_iff_ne]; omega
      rw [e1]
      by_cases h1 : rv neg xs < 0
      · simp [h1]
      · have h2 : 0 < rv neg xs := by omega
        simp [h1, h2]
  rw [← e]; exact h
theorem wsign_big {n : Int} (hN : (limbs n.natAbs).length ≤ 1048576) : Runs Try.ir 73 [bigAV n] (.int .i64 (sgnI n)) := by
  have := wsign_run (neg := decide (n < 0)) (big_u32 n.natAbs) hN
  rwa [rv_big] at this

def TWA : Table := TQ0
theorem TWA_holds : THolds Try.ir TWA := TQ0_holds
end Go.Proofs.Ythnnfemologhfaa
