/- pinballref01: magnitudes, canonical integers, comparison: what the functions return. -/
import Derived.Test.YthnnfemologhfaaIr
import Derived.Test.YthnnfemologhfaaLimbs
import Derived.Test.YthnnfemologhfaaWords
import Derived.KernelRfl
namespace Go.Proofs.Ythnnfemologhfaa
open Go.Ai
set_option maxRecDepth 100000

def TB0 : Table := []
theorem TB0_holds : THolds Try.ir TB0 := THolds.nil _

def Try.c125 : ICode := .seq (.seq (.region false [oM 6 3,
   o1 7 (.bin .gtr (.t 6) (.c (.int .i64 0))),
   oM 8 7,
   oG 9 (.mov (.t 0)) 8 true,
   oG 10 (.mov (.t 3)) 8 true,
   oG 11 (.bin .sub (.t 10) (.c (.int .i64 1))) 8 true,
   oG 12 (.ixa 9 (.t 11) 1) 8 true,
   oG 13 (.ld 12 12 1 true) 8 true,
   oG 14 (.bin .eql (.t 13) (.c (.int .u32 0))) 8 true,
   o1 15 (.pick (.t 8) (.t 14) (.c (.bool false)))])
  (.cond (.t 15) (.skip)
  (.exit 0)))
  (.block 1 (.region false [oM 16 3,
   o1 17 (.bin .sub (.t 16) (.c (.int .i64 1))),
   oM 3 17]))
def Try.s125 (N : Nat) (cs : List AV) (n : Int) : State := (.val (.sl N cs) :: (dds 1 (.own 1 0 [] :: (.val (.int .i64 n) :: (dds 18 [])))))
theorem Try.k125_1 (N : Nat) (cs : List AV) (n x : Int) (c1 : (decide (n > 0)) = true) (c2 : (x == 0) = true) (n1 : 0 ≤ (IntKind.i64.wrap (n - 1)) ∧ (IntKind.i64.wrap (n - 1)) < ((N : Nat) : Int)) (n2 : takeA (List.drop (Int.toNat (IntKind.i64.wrap (n - 1)) * 1) cs) 0 1 true = some (.int .u32 x)) : RunsW Try.ir Try.c125 (Try.s125 N cs n) .norm (Try.s125 N cs (IntKind.i64.wrap (n - 1))) :=
  RunsW.script (ps := [(decide (n > 0)) = true, 0 ≤ (IntKind.i64.wrap (n - 1)) ∧ (IntKind.i64.wrap (n - 1)) < ((N : Nat) : Int), takeA (List.drop (Int.toNat (IntKind.i64.wrap (n - 1)) * 1) cs) 0 1 true = some (.int .u32 x), (x == 0) = true]) TB0_holds 300 [.b true, .v (.int .u32 x), .b true] [0, 2, 3] (by kernel_rfl) ⟨c1, n1, n2, c2, trivial⟩
theorem Try.k125_2 (N : Nat) (cs : List AV) (n x : Int) (c1 : (decide (n > 0)) = true) (c2 : (x == 0) = false) (n1 : 0 ≤ (IntKind.i64.wrap (n - 1)) ∧ (IntKind.i64.wrap (n - 1)) < ((N : Nat) : Int)) (n2 : takeA (List.drop (Int.toNat (IntKind.i64.wrap (n - 1)) * 1) cs) 0 1 true = some (.int .u32 x)) : RunsW Try.ir Try.c125 (Try.s125 N cs n) (.exit 0) (Try.s125 N cs n) :=
  RunsW.script (ps := [(decide (n > 0)) = true, 0 ≤ (IntKind.i64.wrap (n - 1)) ∧ (IntKind.i64.wrap (n - 1)) < ((N : Nat) : Int), takeA (List.drop (Int.toNat (IntKind.i64.wrap (n - 1)) * 1) cs) 0 1 true = some (.int .u32 x), (x == 0) = false]) TB0_holds 300 [.b true, .v (.int .u32 x), .b false] [0, 2, 3] (by kernel_rfl) ⟨c1, n1, n2, c2, trivial⟩
theorem Try.k125_3 (N : Nat) (cs : List AV) (n : Int) (c1 : (decide (n > 0)) = false) : RunsW Try.ir Try.c125 (Try.s125 N cs n) (.exit 0) (Try.s125 N cs n) :=
  RunsW.script (ps := [(decide (n > 0)) = false, false = false]) TB0_holds 300 [.b false, .b false] [0, 2, 3] (by kernel_rfl) ⟨c1, rfl, trivial⟩

theorem Try.loop125 (xs : List Int) (hN : xs.length ≤ 1048576) : ∀ m, m ≤ xs.length → RunsW Try.ir (.loop Try.c125) (Try.s125 xs.length (lm xs) ((m : Nat) : Int)) (.exit 0) (Try.s125 xs.length (lm xs) ((topN xs m : Nat) : Int)) := by
  intro m
  induction m with
  | zero =>
    intro _
    exact RunsW.loop_out (Try.k125_3 xs.length (lm xs) ((0 : Nat) : Int) (by simp)) (by intro e; cases e)
  | succ m ih =>
    intro hm
    have e1 : IntKind.i64.wrap (((m + 1 : Nat) : Int) - 1) = ((m : Nat) : Int) := by rw [w64 (by omega) (by omega)]; omega
    have hx := take_lim (xs := xs) (i := m) (by omega)
    simp only [topN]
    by_cases h0 : xs.getD m 0 = 0
    · rw [if_pos h0]
      have h1 := Try.k125_1 xs.length (lm xs) ((m + 1 : Nat) : Int) (xs.getD m 0) (by simp) (by rw [h0]; rfl) (by rw [e1]; omega) (by rw [e1, Int.toNat_natCast]; exact hx)
      rw [e1] at h1
      exact RunsW.loop h1 (ih (by omega))
    · rw [if_neg h0]
      exact RunsW.loop_out (Try.k125_2 xs.length (lm xs) ((m + 1 : Nat) : Int) (xs.getD m 0) (by simp) (by simpa using h0) (by rw [e1]; omega) (by rw [e1, Int.toNat_natCast]; exact hx)) (by intro e; cases e)

theorem mag_run {xs : List Int} (hN : xs.length ≤ 1048576) : Runs Try.ir 125 [.sl xs.length (lm xs)] (.fresh 1 (trimL xs).length (lm (trimL xs))) := by
  have hle := topN_le xs xs.length
  have hlen : (trimL xs).length = topN xs xs.length := by simp [trimL]; omega
  have hl := Try.loop125 xs hN xs.length (Nat.le_refl _)
  have hsc : 0 ≤ (Int.toNat ((topN xs xs.length : Nat) : Int)) ∧ (Int.toNat ((topN xs xs.length : Nat) : Int)) ≤ xs.length ∧ xs.length ≤ xs.length ∧ (false = true → true = true) := by rw [Int.toNat_natCast]; exact ⟨by omega, hle, Nat.le_refl _, fun h => by cases h⟩
  have htk : List.take ((Int.toNat ((topN xs xs.length : Nat) : Int) - 0) * 1) (List.drop (0 * 1) (lm xs)) = lm (trimL xs) := by
    rw [Int.toNat_natCast]; simp [lm, trimL, List.map_take]
  have hal : List.length (List.take ((Int.toNat ((topN xs xs.length : Nat) : Int) - 0) * 1) (List.drop (0 * 1) (lm xs))) = (Int.toNat ((topN xs xs.length : Nat) : Int) - 0) * 1 := by
    rw [htk, lim_length, hlen, Int.toNat_natCast]; omega
  have han : (Int.toNat ((topN xs xs.length : Nat) : Int) - 0) ≤ 1048576 := by rw [Int.toNat_natCast]; omega
  have := Runs.of_bodyW (prog := Try.ir) (f := 125) (args := [.sl xs.length (lm xs)]) (r := .fresh 1 (Int.toNat ((topN xs xs.length : Nat) : Int) - 0) (List.take ((Int.toNat ((topN xs xs.length : Nat) : Int) - 0) * 1) (List.drop (0 * 1) (lm xs)))) (fn := Try.i125) (s := (.val (.sl xs.length (lm xs)) :: (dds 1 (.own 1 ((Int.toNat ((topN xs xs.length : Nat) : Int)) - 0) (List.take (((Int.toNat ((topN xs xs.length : Nat) : Int)) - 0) * 1) (List.drop (0 * 1) (lm xs))) :: (.val (.int .i64 ((topN xs xs.length : Nat) : Int)) :: (dds 14 (.val (.sl xs.length (lm xs)) :: (.val (.int .i64 ((topN xs xs.length : Nat) : Int)) :: (.val (.sl ((Int.toNat ((topN xs xs.length : Nat) : Int)) - 0) (List.take (((Int.toNat ((topN xs xs.length : Nat) : Int)) - 0) * 1) (List.drop (0 * 1) (lm xs)))) :: (dds 1 [])))))))))) (ex := .ret) rfl rfl
    (RunsW.seq (RunsW.script (t := (.val (.sl xs.length (lm xs)) :: (dds 1 (.own 1 0 [] :: (dds 19 []))))) (ex := .norm) (ps := []) TB0_holds 300 [] [0, 2] (by kernel_rfl) trivial)
    (RunsW.seq (RunsW.script (t := (.val (.sl xs.length (lm xs)) :: (dds 1 (.own 1 0 [] :: (.val (.int .i64 ((xs.length : Nat) : Int)) :: (dds 18 [])))))) (ex := .norm) (ps := []) TB0_holds 300 [] [0, 2, 3] (by kernel_rfl) trivial)
    (RunsW.seq (RunsW.block hl)
    (RunsW.script (t := (.val (.sl xs.length (lm xs)) :: (dds 1 (.own 1 ((Int.toNat ((topN xs xs.length : Nat) : Int)) - 0) (List.take (((Int.toNat ((topN xs xs.length : Nat) : Int)) - 0) * 1) (List.drop (0 * 1) (lm xs))) :: (.val (.int .i64 ((topN xs xs.length : Nat) : Int)) :: (dds 14 (.val (.sl xs.length (lm xs)) :: (.val (.int .i64 ((topN xs xs.length : Nat) : Int)) :: (.val (.sl ((Int.toNat ((topN xs xs.length : Nat) : Int)) - 0) (List.take (((Int.toNat ((topN xs xs.length : Nat) : Int)) - 0) * 1) (List.drop (0 * 1) (lm xs)))) :: (dds 1 [])))))))))) (ex := .ret) (ps := [0 ≤ ((topN xs xs.length : Nat) : Int), 0 ≤ (Int.toNat ((topN xs xs.length : Nat) : Int)) ∧ (Int.toNat ((topN xs xs.length : Nat) : Int)) ≤ xs.length ∧ xs.length ≤ xs.length ∧ (false = true → true = true), List.length (List.take (((Int.toNat ((topN xs xs.length : Nat) : Int)) - 0) * 1) (List.drop (0 * 1) (lm xs))) = ((Int.toNat ((topN xs xs.length : Nat) : Int)) - 0) * 1, ((Int.toNat ((topN xs xs.length : Nat) : Int)) - 0) ≤ 1048576]) TB0_holds 300 [] [0, 2, 3, 18, 19, 20] (by kernel_rfl) ⟨(Int.natCast_nonneg _), hsc, hal, han, trivial⟩)))) (by intro i e; cases e) rfl
  rw [htk, Int.toNat_natCast, Nat.sub_zero, ← hlen] at this
  exact this

def Try.sh106 (neg : Bool) (xs : List Int) : AV :=
  match neg with
  | true => (.agg [.bool (decide ((((trimL xs).length : Nat) : Int) > 0)), .sl ((trimL xs).length) (lm (trimL xs))])
  | false => (.agg [.bool false, .sl ((trimL xs).length) (lm (trimL xs))])
theorem Try.run106 (neg : Bool) (xs : List Int) (hN : xs.length ≤ 1048576) : Runs Try.ir 106 [.bool neg, .sl xs.length (lm xs)] (Try.sh106 neg xs) := by
  unfold Try.sh106
  cases neg
  · exact Runs.script (r := .agg [.bool false, .sl ((trimL xs).length) (lm (trimL xs))]) (ps := [Runs Try.ir 125 [.sl xs.length (lm xs)] (.fresh 1 ((trimL xs).length) (lm (trimL xs))), false = false]) TB0_holds rfl 300 rfl [.r (.fresh 1 ((trimL xs).length) (lm (trimL xs))), .b false] (by kernel_rfl) ⟨(mag_run hN), rfl, trivial⟩
  · exact Runs.script (r := .agg [.bool (decide ((((trimL xs).length : Nat) : Int) > 0)), .sl ((trimL xs).length) (lm (trimL xs))]) (ps := [Runs Try.ir 125 [.sl xs.length (lm xs)] (.fresh 1 ((trimL xs).length) (lm (trimL xs))), true = true]) TB0_holds rfl 300 rfl [.r (.fresh 1 ((trimL xs).length) (lm (trimL xs))), .b true] (by kernel_rfl) ⟨(mag_run hN), rfl, trivial⟩
theorem make1_run {neg : Bool} {xs : List Int} (hu : U32 xs) (hN : xs.length ≤ 1048576) : Runs Try.ir 106 [.bool neg, .sl xs.length (lm xs)] (bigAV (if neg then -valL xs else valL xs)) := by
  have h := Try.run106 neg xs hN
  have e : Try.sh106 neg xs = bigAV (if neg then -valL xs else valL xs) := by
    have hv := valL_nonneg hu
    have ht := trimL_eq hu
    have hp : (trimL xs).length = 0 ↔ valL xs = 0 := by
      rw [ht, List.length_eq_zero_iff, limbs_nil]; omega
    cases neg with
    | false =>
      have e1 : (valL xs).natAbs = (valL xs).toNat := by omega
      have e2 : decide (valL xs < 0) = false := by simp; omega
      simp only [Try.sh106, bigAV, Bool.false_eq_true, if_false, e1, e2, ht]
    | true =>
      have e1 : (-valL xs).natAbs = (valL xs).toNat := by omega
      have e2 : decide ((((trimL xs).length : Nat) : Int) > 0) = decide (-valL xs < 0) := by
        rw [decide_eq_decide]; omega
      simp only [Try.sh106, bigAV, if_true, e1, e2, ← ht]
  rw [← e]; exact h

theorem of_limbs {u : Int} (h : 0 ≤ u ∧ u < 18446744073709551616) : U32 [IntKind.u32.wrap u, IntKind.u32.wrap (Int.fdiv u (2 ^ (min (Int.toNat 32) (IntKind.bits .u64))))] ∧ valL [IntKind.u32.wrap u, IntKind.u32.wrap (Int.fdiv u (2 ^ (min (Int.toNat 32) (IntKind.bits .u64))))] = u := by
  have e : Int.fdiv u (2 ^ (min (Int.toNat 32) (IntKind.bits .u64))) = u / 4294967296 := by
    show Int.fdiv u 4294967296 = _
    rw [Int.fdiv_eq_ediv_of_nonneg _ (by omega)]
  rw [e, wu32, wu32]
  refine ⟨fun x hx => ?_, ?_⟩
  · simp only [List.mem_cons, List.not_mem_nil, or_false] at hx
    rcases hx with rfl | rfl <;> omega
  · simp only [valL]; omega

theorem Try.run56_n (n : Int) (c1 : decide (n < 0) = true) (hcall : Runs Try.ir 106 [.bool (decide (n < 0)), .sl 2 [.int .u32 (IntKind.u32.wrap (IntKind.u64.wrap (0 - (IntKind.u64.wrap n)))), .int .u32 (IntKind.u32.wrap (Int.fdiv (IntKind.u64.wrap (0 - (IntKind.u64.wrap n))) (2 ^ (min (Int.toNat 32) (IntKind.bits .u64)))))]] (.agg [.bool (decide (n < 0)), .sl ((limbs (Int.natAbs n)).length) (lm (limbs (Int.natAbs n)))])) : Runs Try.ir 56 [.int .i64 n] (.agg [.bool (decide (n < 0)), .sl ((limbs (Int.natAbs n)).length) (lm (limbs (Int.natAbs n)))]) :=
  Runs.script (ps := [(decide (n < 0)) = true, ¬ (32 : Int) < 0, Runs Try.ir 106 [.bool (decide (n < 0)), .sl 2 [.int .u32 (IntKind.u32.wrap (IntKind.u64.wrap (0 - (IntKind.u64.wrap n)))), .int .u32 (IntKind.u32.wrap (Int.fdiv (IntKind.u64.wrap (0 - (IntKind.u64.wrap n))) (2 ^ (min (Int.toNat 32) (IntKind.bits .u64)))))]] (.agg [.bool (decide (n < 0)), .sl ((limbs (Int.natAbs n)).length) (lm (limbs (Int.natAbs n)))])]) TB0_holds rfl 300 rfl [.b true, .r (.agg [.bool (decide (n < 0)), .sl ((limbs (Int.natAbs n)).length) (lm (limbs (Int.natAbs n)))])] (by kernel_rfl) ⟨c1, (by decide), hcall, trivial⟩

theorem Try.run56_p (n : Int) (c1 : decide (n < 0) = false) (hcall : Runs Try.ir 106 [.bool (decide (n < 0)), .sl 2 [.int .u32 (IntKind.u32.wrap (IntKind.u64.wrap n)), .int .u32 (IntKind.u32.wrap (Int.fdiv (IntKind.u64.wrap n) (2 ^ (min (Int.toNat 32) (IntKind.bits .u64)))))]] (.agg [.bool (decide (n < 0)), .sl ((limbs (Int.natAbs n)).length) (lm (limbs (Int.natAbs n)))])) : Runs Try.ir 56 [.int .i64 n] (.agg [.bool (decide (n < 0)), .sl ((limbs (Int.natAbs n)).length) (lm (limbs (Int.natAbs n)))]) :=
  Runs.script (ps := [(decide (n < 0)) = false, ¬ (32 : Int) < 0, Runs Try.ir 106 [.bool (decide (n < 0)), .sl 2 [.int .u32 (IntKind.u32.wrap (IntKind.u64.wrap n)), .int .u32 (IntKind.u32.wrap (Int.fdiv (IntKind.u64.wrap n) (2 ^ (min (Int.toNat 32) (IntKind.bits .u64)))))]] (.agg [.bool (decide (n < 0)), .sl ((limbs (Int.natAbs n)).length) (lm (limbs (Int.natAbs n)))])]) TB0_holds rfl 300 rfl [.b false, .r (.agg [.bool (decide (n < 0)), .sl ((limbs (Int.natAbs n)).length) (lm (limbs (Int.natAbs n)))])] (by kernel_rfl) ⟨c1, (by decide), hcall, trivial⟩

theorem of_run {n : Int} (hn : -9223372036854775808 ≤ n ∧ n ≤ 9223372036854775807) : Runs Try.ir 56 [.int .i64 n] (bigAV n) := by
  cases c1 : decide (n < 0) with
  | true =>
    have h0 : n < 0 := by simpa using c1
    have eu : IntKind.u64.wrap (0 - IntKind.u64.wrap n) = -n := by rw [wu64m, wu64m]; omega
    obtain ⟨k1, k2⟩ := of_limbs (u := IntKind.u64.wrap (0 - IntKind.u64.wrap n)) (by rw [eu]; omega)
    refine Try.run56_n n c1 ?_
    have := make1_run (neg := true) k1 (by simp)
    have e : (if true = true then -valL [IntKind.u32.wrap (IntKind.u64.wrap (0 - IntKind.u64.wrap n)), IntKind.u32.wrap (Int.fdiv (IntKind.u64.wrap (0 - IntKind.u64.wrap n)) (2 ^ (min (Int.toNat 32) (IntKind.bits .u64))))] else valL [IntKind.u32.wrap (IntKind.u64.wrap (0 - IntKind.u64.wrap n)), IntKind.u32.wrap (Int.fdiv (IntKind.u64.wrap (0 - IntKind.u64.wrap n)) (2 ^ (min (Int.toNat 32) (IntKind.bits .u64))))]) = n := by
      rw [k2, if_pos rfl, eu]; omega
    rw [e, bigAV, c1] at this
    rw [c1]
    exact this
  | false =>
    have h0 : ¬ n < 0 := by simpa using c1
    have eu : IntKind.u64.wrap n = n := by rw [wu64m]; omega
    obtain ⟨k1, k2⟩ := of_limbs (u := IntKind.u64.wrap n) (by rw [eu]; omega)
    refine Try.run56_p n c1 ?_
    have := make1_run (neg := false) k1 (by simp)
    have e : (if false = true then -valL [IntKind.u32.wrap (IntKind.u64.wrap n), IntKind.u32.wrap (Int.fdiv (IntKind.u64.wrap n) (2 ^ (min (Int.toNat 32) (IntKind.bits .u64))))] else valL [IntKind.u32.wrap (IntKind.u64.wrap n), IntKind.u32.wrap (Int.fdiv (IntKind.u64.wrap n) (2 ^ (min (Int.toNat 32) (IntKind.bits .u64))))]) = n := by
      rw [if_neg (by decide), k2, eu]
    rw [e, bigAV, c1] at this
    rw [c1]
    exact this

def TBA : Table := TB0
theorem TBA_holds : THolds Try.ir TBA := TB0_holds
end Go.Proofs.Ythnnfemologhfaa
