/- pinballref01: shifts to the left. -/
import Derived.Test.YthnnfemologhfaaBigD
import Derived.Test.YthnnfemologhfaaBitw
namespace Go.Proofs.Ythnnfemologhfaa
open Go.Ai
set_option maxRecDepth 100000

def Try.c126 : ICode := .seq (.seq (.region false [oM 20 9,
   oM 21 8,
   o1 22 (.len (.t 21)),
   oB 23 .lss 20 22])
  (.cond (.t 23) (.skip)
  (.exit 0)))
  (.seq (.block 1 (.seq (.region false [oM 26 8,
   oM 27 9,
   o1 28 (.ixa 26 (.t 27) 1),
   o1 29 (.ld 28 28 1 true),
   o1 30 (.cv .u64 (.t 29)),
   oM 31 7,
   oB 32 .shl 30 31,
   oM 33 6,
   o1 34 (.cv .u64 (.t 33)),
   oB 35 .or 32 34,
   oM 10 35])
  (.seq (.region false [o1 36 (.tra 5),
   oM 37 10,
   o1 38 (.cv .u32 (.t 37)),
   o1 39 (.bls 1 [.int .u32 0] [(0, 1, .t 38)]),
   o1 40 (.apd true (.t 36) (.t 39) 1),
   o1 5 (.tra 40)])
  (.region false [oM 41 10,
   o1 42 (.bin .shr (.t 41) (.c (.int .u64 32))),
   o1 43 (.cv .u32 (.t 42)),
   oM 6 43]))))
  (.region false [oM 24 9,
   o1 25 (.bin .add (.t 24) (.c (.int .i64 1))),
   oM 9 25]))
def Try.s126 (neg : Bool) (xs : List Int) (n : Nat) (cs : List AV) (c : Int) (s : Int) (ms : List Int) (i : Int) : State := (dds 2 (.box [.bool neg, .sl xs.length (lm xs)] :: (dds 1 (.box [.bool false, .sl 0 []] :: (.own 1 n cs :: (.val (.int .u32 c) :: (.val (.int .u64 s) :: (.val (.sl ms.length (lm ms)) :: (.val (.int .i64 i) :: (dds 41 []))))))))))
theorem Try.k126_1 (neg : Bool) (xs : List Int) (n : Nat) (cs : List AV) (c : Int) (s : Int) (ms : List Int) (i : Int)  (c1 : (decide (i < ((ms.length : Nat) : Int))) = true)
    (n1 : 0 ≤ i ∧ i < ((ms.length : Nat) : Int))
    (n2 : ¬ s < 0)
    (n3 : n + 1 ≤ 1048576) : RunsW Try.ir Try.c126 (Try.s126 neg xs n cs c s ms i) .norm (Try.s126 neg xs (n + 1) (cs ++ ([.int .u32 (IntKind.u32.wrap (IntKind.u64.wrap ((BitVec.ofInt (IntKind.bits .u64) (IntKind.u64.wrap ((IntKind.u64.wrap (ms.getD (Int.toNat i) 0)) * 2 ^ (min (Int.toNat s) (IntKind.bits .u64)))) ||| BitVec.ofInt (IntKind.bits .u64) (IntKind.u64.wrap c)).toNat)))] : List AV)) (IntKind.u32.wrap (Int.fdiv (IntKind.u64.wrap ((BitVec.ofInt (IntKind.bits .u64) (IntKind.u64.wrap ((IntKind.u64.wrap (ms.getD (Int.toNat i) 0)) * 2 ^ (min (Int.toNat s) (IntKind.bits .u64)))) ||| BitVec.ofInt (IntKind.bits .u64) (IntKind.u64.wrap c)).toNat)) (2 ^ (min (Int.toNat 32) (IntKind.bits .u64))))) s ms (IntKind.i64.wrap (i + 1))) :=
  (RunsW.script (t := (dds 2 (.box [.bool neg, .sl xs.length (lm xs)] :: (dds 1 (.box [.bool false, .sl 0 []] :: (.own 1 (n + 1) (cs ++ ([.int .u32 (IntKind.u32.wrap (IntKind.u64.wrap ((BitVec.ofInt (IntKind.bits .u64) (IntKind.u64.wrap ((IntKind.u64.wrap (ms.getD (Int.toNat i) 0)) * 2 ^ (min (Int.toNat s) (IntKind.bits .u64)))) ||| BitVec.ofInt (IntKind.bits .u64) (IntKind.u64.wrap c)).toNat)))] : List AV)) :: (.val (.int .u32 (IntKind.u32.wrap (Int.fdiv (IntKind.u64.wrap ((BitVec.ofInt (IntKind.bits .u64) (IntKind.u64.wrap ((IntKind.u64.wrap (ms.getD (Int.toNat i) 0)) * 2 ^ (min (Int.toNat s) (IntKind.bits .u64)))) ||| BitVec.ofInt (IntKind.bits .u64) (IntKind.u64.wrap c)).toNat)) (2 ^ (min (Int.toNat 32) (IntKind.bits .u64)))))) :: (.val (.int .u64 s) :: (.val (.sl ms.length (lm ms)) :: (.val (.int .i64 (IntKind.i64.wrap (i + 1))) :: (dds 41 []))))))))))) (ex := .norm) (ps := [(decide (i < ((ms.length : Nat) : Int))) = true, 0 ≤ i ∧ i < ((ms.length : Nat) : Int), takeA (List.drop (Int.toNat i * 1) (lm ms)) 0 1 true = some (.int .u32 (ms.getD (Int.toNat i) 0)), ¬ s < 0, List.length ([.int .u32 (IntKind.u32.wrap (IntKind.u64.wrap ((BitVec.ofInt (IntKind.bits .u64) (IntKind.u64.wrap ((IntKind.u64.wrap (ms.getD (Int.toNat i) 0)) * 2 ^ (min (Int.toNat s) (IntKind.bits .u64)))) ||| BitVec.ofInt (IntKind.bits .u64) (IntKind.u64.wrap c)).toNat)))] : List AV) = 1 * 1, n + 1 ≤ 1048576, ¬ (32 : Int) < 0]) TBD_holds 400 [.b true, .v (.int .u32 (ms.getD (Int.toNat i) 0))] [2, 4, 5, 6, 7, 8, 9] (by kernel_rfl) ⟨c1, n1, (take_limI n1), n2, rfl, n3, (by decide), trivial⟩)

theorem Try.k126_2 (neg : Bool) (xs : List Int) (n : Nat) (cs : List AV) (c : Int) (s : Int) (ms : List Int) (i : Int)  (c1 : (decide (i < ((ms.length : Nat) : Int))) = false) : RunsW Try.ir Try.c126 (Try.s126 neg xs n cs c s ms i) (.exit 0) (Try.s126 neg xs n cs c s ms i) :=
  (RunsW.script (t := (dds 2 (.box [.bool neg, .sl xs.length (lm xs)] :: (dds 1 (.box [.bool false, .sl 0 []] :: (.own 1 n cs :: (.val (.int .u32 c) :: (.val (.int .u64 s) :: (.val (.sl ms.length (lm ms)) :: (.val (.int .i64 i) :: (dds 41 []))))))))))) (ex := (.exit 0)) (ps := [(decide (i < ((ms.length : Nat) : Int))) = false]) TBD_holds 400 [.b false] [2, 4, 5, 6, 7, 8, 9] (by kernel_rfl) ⟨c1, trivial⟩)

theorem Try.run126 (neg : Bool) (xs : List Int) (sh : Int) (n : Nat) (cs : List AV) (c i v : Int) (n1 : 0 ≤ (IntKind.i64.wrap (Int.tdiv sh 32)) ∧ (IntKind.i64.wrap (Int.tdiv sh 32)) ≤ 1048576)
    (n2 : Runs Try.ir 125 [.sl xs.length (lm xs)] (.fresh 1 ((trimL xs).length) (lm (trimL xs))))
    (hl3 : RunsW Try.ir (.loop Try.c126) (Try.s126 neg xs (Int.toNat (IntKind.i64.wrap (Int.tdiv sh 32))) (replA [.int .u32 0] (Int.toNat (IntKind.i64.wrap (Int.tdiv sh 32)))) 0 (IntKind.u64.wrap (Int.tmod sh 32)) (trimL xs) 0) (.exit 0) (Try.s126 neg xs n cs c (IntKind.u64.wrap (Int.tmod sh 32)) (trimL xs) i))
    (n4 : n + 1 ≤ 1048576)
    (n5 : Runs Try.ir 106 [.bool neg, .sl (n + 1) (cs ++ ([.int .u32 c] : List AV))] (.agg [.bool (decide (v < 0)), .sl ((limbs (Int.natAbs v)).length) (lm (limbs (Int.natAbs v)))])) : Runs Try.ir 126 [.agg [.bool neg, .sl xs.length (lm xs)], .int .i64 sh] (.agg [.bool (decide (v < 0)), .sl ((limbs (Int.natAbs v)).length) (lm (limbs (Int.natAbs v)))]) :=
  Runs.of_bodyW (fn := Try.i126) (s := (dds 2 (.box [.bool neg, .sl xs.length (lm xs)] :: (dds 1 (.box [.bool (decide (v < 0)), .sl ((limbs (Int.natAbs v)).length) (lm (limbs (Int.natAbs v)))] :: (dds 1 (.val (.int .u32 c) :: (.val (.int .u64 (IntKind.u64.wrap (Int.tmod sh 32))) :: (.val (.sl ((trimL xs).length) (lm (trimL xs))) :: (.val (.int .i64 i) :: (dds 34 (.ptr 2 0 :: (.val (.bool neg) :: (dds 1 (.val (.int .u32 c) :: (.val (.sl 1 [.int .u32 c]) :: (.val (.sl (n + 1) (cs ++ ([.int .u32 c] : List AV))) :: (.val (.agg [.bool (decide (v < 0)), .sl ((limbs (Int.natAbs v)).length) (lm (limbs (Int.natAbs v)))]) :: [])))))))))))))))))) (ex := .ret) rfl rfl
    (RunsW.seq (RunsW.script (t := (.val (.agg [.bool neg, .sl xs.length (lm xs)]) :: (.val (.int .i64 sh) :: (.box [.bool neg, .sl xs.length (lm xs)] :: (dds 1 (.box [.bool false, .sl 0 []] :: (dds 46 []))))))) (ex := .norm) (ps := []) TBD_holds 400 [] [0, 1, 2, 4] (by kernel_rfl) trivial)
    (RunsW.seq (RunsW.script (t := (.val (.agg [.bool neg, .sl xs.length (lm xs)]) :: (.val (.int .i64 sh) :: (.box [.bool neg, .sl xs.length (lm xs)] :: (dds 1 (.box [.bool false, .sl 0 []] :: (.own 1 (Int.toNat (IntKind.i64.wrap (Int.tdiv sh 32))) (replA [.int .u32 0] (Int.toNat (IntKind.i64.wrap (Int.tdiv sh 32)))) :: (dds 5 (.val (.int .i64 sh) :: (.val (.int .i64 (IntKind.i64.wrap (Int.tdiv sh 32))) :: (dds 38 []))))))))))) (ex := .norm) (ps := [¬ (32 : Int) = 0, 0 ≤ (IntKind.i64.wrap (Int.tdiv sh 32)) ∧ (IntKind.i64.wrap (Int.tdiv sh 32)) ≤ 1048576]) TBD_holds 400 [] [0, 1, 2, 4, 5, 11, 12] (by kernel_rfl) ⟨(by decide), n1, trivial⟩)
    (RunsW.seq (RunsW.script (t := (.val (.agg [.bool neg, .sl xs.length (lm xs)]) :: (.val (.int .i64 sh) :: (.box [.bool neg, .sl xs.length (lm xs)] :: (dds 1 (.box [.bool false, .sl 0 []] :: (.own 1 (Int.toNat (IntKind.i64.wrap (Int.tdiv sh 32))) (replA [.int .u32 0] (Int.toNat (IntKind.i64.wrap (Int.tdiv sh 32)))) :: (.val (.int .u32 0) :: (dds 4 (.val (.int .i64 sh) :: (.val (.int .i64 (IntKind.i64.wrap (Int.tdiv sh 32))) :: (dds 38 [])))))))))))) (ex := .norm) (ps := []) TBD_holds 400 [] [0, 1, 2, 4, 5, 6, 11, 12] (by kernel_rfl) trivial)
    (RunsW.seq (RunsW.script (t := (.val (.agg [.bool neg, .sl xs.length (lm xs)]) :: (.val (.int .i64 sh) :: (.box [.bool neg, .sl xs.length (lm xs)] :: (dds 1 (.box [.bool false, .sl 0 []] :: (.own 1 (Int.toNat (IntKind.i64.wrap (Int.tdiv sh 32))) (replA [.int .u32 0] (Int.toNat (IntKind.i64.wrap (Int.tdiv sh 32)))) :: (.val (.int .u32 0) :: (.val (.int .u64 (IntKind.u64.wrap (Int.tmod sh 32))) :: (dds 3 (.val (.int .i64 sh) :: (.val (.int .i64 (IntKind.i64.wrap (Int.tdiv sh 32))) :: (dds 1 (.val (.int .i64 sh) :: (.val (.int .i64 (Int.tmod sh 32)) :: (.val (.int .u64 (IntKind.u64.wrap (Int.tmod sh 32))) :: (dds 34 []))))))))))))))))) (ex := .norm) (ps := [¬ (32 : Int) = 0]) TBD_holds 400 [] [0, 1, 2, 4, 5, 6, 7, 11, 12, 14, 15, 16] (by kernel_rfl) ⟨(by decide), trivial⟩)
    (RunsW.seq (RunsW.script (t := (.val (.agg [.bool neg, .sl xs.length (lm xs)]) :: (.val (.int .i64 sh) :: (.box [.bool neg, .sl xs.length (lm xs)] :: (dds 1 (.box [.bool false, .sl 0 []] :: (.own 1 (Int.toNat (IntKind.i64.wrap (Int.tdiv sh 32))) (replA [.int .u32 0] (Int.toNat (IntKind.i64.wrap (Int.tdiv sh 32)))) :: (.val (.int .u32 0) :: (.val (.int .u64 (IntKind.u64.wrap (Int.tmod sh 32))) :: (.val (.sl ((trimL xs).length) (lm (trimL xs))) :: (dds 2 (.val (.int .i64 sh) :: (.val (.int .i64 (IntKind.i64.wrap (Int.tdiv sh 32))) :: (dds 1 (.val (.int .i64 sh) :: (.val (.int .i64 (Int.tmod sh 32)) :: (.val (.int .u64 (IntKind.u64.wrap (Int.tmod sh 32))) :: (.ptr 2 1 :: (.val (.sl xs.length (lm xs)) :: (.val (.sl ((trimL xs).length) (lm (trimL xs))) :: (dds 31 []))))))))))))))))))))) (ex := .norm) (ps := [Runs Try.ir 125 [.sl xs.length (lm xs)] (.fresh 1 ((trimL xs).length) (lm (trimL xs)))]) TBD_holds 400 [.r (.fresh 1 ((trimL xs).length) (lm (trimL xs)))] [0, 1, 2, 4, 5, 6, 7, 8, 11, 12, 14, 15, 16, 17, 18, 19] (by kernel_rfl) ⟨n2, trivial⟩)
    (RunsW.seq (RunsW.seq (RunsW.script (t := (dds 2 (.box [.bool neg, .sl xs.length (lm xs)] :: (dds 1 (.box [.bool false, .sl 0 []] :: (.own 1 (Int.toNat (IntKind.i64.wrap (Int.tdiv sh 32))) (replA [.int .u32 0] (Int.toNat (IntKind.i64.wrap (Int.tdiv sh 32)))) :: (.val (.int .u32 0) :: (.val (.int .u64 (IntKind.u64.wrap (Int.tmod sh 32))) :: (.val (.sl ((trimL xs).length) (lm (trimL xs))) :: (.val (.int .i64 0) :: (dds 41 []))))))))))) (ex := .norm) (ps := []) TBD_holds 400 [] [2, 4, 5, 6, 7, 8, 9] (by kernel_rfl) trivial)
    (RunsW.block hl3))
    (RunsW.script (t := (dds 2 (.box [.bool neg, .sl xs.length (lm xs)] :: (dds 1 (.box [.bool (decide (v < 0)), .sl ((limbs (Int.natAbs v)).length) (lm (limbs (Int.natAbs v)))] :: (dds 1 (.val (.int .u32 c) :: (.val (.int .u64 (IntKind.u64.wrap (Int.tmod sh 32))) :: (.val (.sl ((trimL xs).length) (lm (trimL xs))) :: (.val (.int .i64 i) :: (dds 34 (.ptr 2 0 :: (.val (.bool neg) :: (dds 1 (.val (.int .u32 c) :: (.val (.sl 1 [.int .u32 c]) :: (.val (.sl (n + 1) (cs ++ ([.int .u32 c] : List AV))) :: (.val (.agg [.bool (decide (v < 0)), .sl ((limbs (Int.natAbs v)).length) (lm (limbs (Int.natAbs v)))]) :: [])))))))))))))))))) (ex := .ret) (ps := [List.length ([.int .u32 c] : List AV) = 1 * 1, n + 1 ≤ 1048576, Runs Try.ir 106 [.bool neg, .sl (n + 1) (cs ++ ([.int .u32 c] : List AV))] (.agg [.bool (decide (v < 0)), .sl ((limbs (Int.natAbs v)).length) (lm (limbs (Int.natAbs v)))])]) TBD_holds 400 [.r (.agg [.bool (decide (v < 0)), .sl ((limbs (Int.natAbs v)).length) (lm (limbs (Int.natAbs v)))])] [2, 4, 6, 7, 8, 9, 44, 45, 47, 48, 49, 50] (by kernel_rfl) ⟨rfl, n4, n5, trivial⟩))))))) (by intro i e; cases e) rfl


theorem shift_step {x c : Int} {s : Nat} (hx : 0 ≤ x ∧ x < 4294967296) (hs : s < 32) (hc : 0 ≤ c ∧ c < 2 ^ s) :
    IntKind.u64.wrap ((BitVec.ofInt (IntKind.bits .u64) (IntKind.u64.wrap ((IntKind.u64.wrap x) * 2 ^ (min (Int.toNat ((s : Nat) : Int)) (IntKind.bits .u64)))) ||| BitVec.ofInt (IntKind.bits .u64) (IntKind.u64.wrap c)).toNat) = x * 2 ^ s + c
    ∧ 0 ≤ (x * 2 ^ s + c) / 4294967296 ∧ (x * 2 ^ s + c) / 4294967296 < 2 ^ s ∧ (2 : Int) ^ s ≤ 2147483648 := by
  have hp := pow2_pos s
  have hp2 : (2 : Int) ^ s ≤ 2147483648 := pow2_le (show s ≤ 31 by omega)
  have hm : x * 2 ^ s ≤ 4294967295 * 2 ^ s := Int.mul_le_mul_of_nonneg_right (by omega) (by omega)
  have hm0 : 0 ≤ x * 2 ^ s := Int.mul_nonneg hx.1 (by omega)
  have hmin : min (Int.toNat ((s : Nat) : Int)) (IntKind.bits .u64) = s := by
    rw [Int.toNat_natCast]
    show min s 64 = s
    omega
  have w1 : IntKind.u64.wrap x = x := by rw [wu64m]; omega
  have w2 : IntKind.u64.wrap (x * 2 ^ s) = x * 2 ^ s := by rw [wu64m]; omega
  have w3 : IntKind.u64.wrap c = c := by rw [wu64m]; omega
  refine ⟨?_, by omega, by omega, hp2⟩
  rw [hmin, w1, w2, w3]
  exact or64 hx.1 (by omega) (by omega) hc
theorem Try.loop126 {neg : Bool} {xs ms pre : List Int} (hu : U32 ms) {s : Nat} (hs : s < 32) (hN : pre.length + ms.length ≤ 1048576) : ∀ (r i : Nat) (acc : List Int) (c : Int), i + r = ms.length → acc.length = i → U32 acc → 0 ≤ c ∧ c < 2 ^ s →
    ∃ (zs : List Int) (c' : Int), U32 zs ∧ zs.length = ms.length ∧ (0 ≤ c' ∧ c' < 2 ^ s) ∧ valL zs + 4294967296 ^ ms.length * c' = valL acc + 4294967296 ^ i * (c + 2 ^ s * valL (ms.drop i)) ∧
      RunsW Try.ir (.loop Try.c126) (Try.s126 neg xs (pre.length + i) (lm (pre ++ acc)) c (s : Nat) ms (i : Nat)) (.exit 0) (Try.s126 neg xs (pre.length + ms.length) (lm (pre ++ zs)) c' (s : Nat) ms (ms.length : Nat)) := by
  intro r
  induction r with
  | zero =>
    intro i acc c hi hl hacc hc
    have e1 : valL (ms.drop i) = 0 := drop_end (by omega)
    have hi' : i = ms.length := by omega
    refine ⟨acc, c, hacc, by omega, hc, by rw [e1, hi']; simp, ?_⟩
    rw [hi']
    exact RunsW.loop_out (Try.k126_2 neg xs _ _ c (s : Nat) ms (ms.length : Nat) (by simp)) (by intro e; cases e)
  | succ r ih =>
    intro i acc c hi hl hacc hc
    have bm := getD_u32 hu i
    obtain ⟨w1, w2, w3, w4⟩ := shift_step bm hs hc
    have ei : IntKind.i64.wrap (((i : Nat) : Int) + 1) = ((i + 1 : Nat) : Int) := by rw [w64 (by omega) (by omega)]; omega
    have k := Try.k126_1 neg xs (pre.length + i) (lm (pre ++ acc)) c (s : Nat) ms (i : Nat) (by simp; omega) (by omega) (by omega) (by omega)
    have wd : IntKind.u32.wrap ((ms.getD i 0 * 2 ^ s + c) / 4294967296) = (ms.getD i 0 * 2 ^ s + c) / 4294967296 := by rw [wu32]; omega
    simp only [Int.toNat_natCast i, w1, sr32, wd, wu32 (ms.getD i 0 * 2 ^ s + c), ei, lm_snoc, List.append_assoc] at k
    obtain ⟨zs, c', q1, q2, q3, q4, q5⟩ := ih (i + 1) (acc ++ [(ms.getD i 0 * 2 ^ s + c) % 4294967296]) ((ms.getD i 0 * 2 ^ s + c) / 4294967296) (by omega) (by simp [hl]) (u32_snoc hacc (by omega)) ⟨w2, w3⟩
    refine ⟨zs, c', q1, q2, q3, ?_, RunsW.loop k q5⟩
    rw [q4, valL_snoc, hl, drop_val ms i, Int.pow_succ]
    have hd := Int.emod_add_mul_ediv (ms.getD i 0 * 2 ^ s + c) 4294967296
    generalize (ms.getD i 0 * 2 ^ s + c) % 4294967296 = m at *
    generalize (ms.getD i 0 * 2 ^ s + c) / 4294967296 = d at *
    generalize (4294967296 : Int) ^ i = p at *
    generalize valL (ms.drop (i + 1)) = X at *
    generalize (2 : Int) ^ s = T at *
    generalize ms.getD i 0 = y at *
    have : c + T * (y + 4294967296 * X) = m + 4294967296 * (d + T * X) := by
      have : c + T * (y + 4294967296 * X) = (y * T + c) + 4294967296 * (T * X) := by grind
      omega
    rw [this]
    grind
theorem rv_scale {neg : Bool} {xs ys : List Int} {t : Int} (h : valL ys = t * valL xs) : rv neg ys = rv neg xs * t := by
  unfold rv
  rw [h]
  generalize valL xs = X
  cases neg <;> simp <;> grind
theorem rup_run {neg : Bool} {xs : List Int} (hu : U32 xs) (n : Nat) (hN : n / 32 + xs.length + 1 ≤ 1048576) : Runs Try.ir 126 [.agg [.bool neg, .sl xs.length (lm xs)], .int .i64 (n : Nat)] (bigAV (rv neg xs * 2 ^ n)) := by
  have t1 := trim_len xs
  have e1 : IntKind.i64.wrap (Int.tdiv ((n : Nat) : Int) 32) = ((n / 32 : Nat) : Int) := by
    rw [Int.tdiv_eq_ediv_of_nonneg (by omega), w64 (by omega) (by omega)]; omega
  have e2 : IntKind.u64.wrap (Int.tmod ((n : Nat) : Int) 32) = ((n % 32 : Nat) : Int) := by
    rw [Int.tmod_eq_emod_of_nonneg (by omega), wu64m]; omega
  obtain ⟨zs, c', q1, q2, q3, q4, q5⟩ := Try.loop126 (neg := neg) (xs := xs) (pre := List.replicate (n / 32) 0) (trim_u32 hu) (s := n % 32) (by omega) (by simp; omega) (trimL xs).length 0 [] 0 (by omega) rfl (fun x hx => by cases hx) ⟨by omega, pow2_pos _⟩
  have w4 : (2 : Int) ^ (n % 32) ≤ 2147483648 := pow2_le (show n % 32 ≤ 31 by omega)
  simp only [List.length_replicate, List.append_nil, Nat.add_zero, valL, Int.pow_zero, List.drop_zero, Int.one_mul, Int.zero_add] at q4 q5
  have huz : U32 (List.replicate (n / 32) 0 ++ zs ++ [c']) := by
    refine u32_snoc ?_ (by omega)
    intro x hx
    rcases List.mem_append.1 hx with g | g
    · exact u32_zeros _ x g
    · exact q1 x g
  have hlen : (List.replicate (n / 32) 0 ++ zs ++ [c']).length = n / 32 + (trimL xs).length + 1 := by simp [q2]; omega
  have hk := mk1_run (neg := neg) huz (by omega)
  have hval : valL (List.replicate (n / 32) 0 ++ zs ++ [c']) = 2 ^ n * valL xs := by
    rw [valL_snoc, valL_append, valL_zeros, pow2_split n, List.length_append, List.length_replicate, Int.pow_add, q2]
    rw [trimL_val] at q4
    generalize (4294967296 : Int) ^ (n / 32) = p at *
    generalize (4294967296 : Int) ^ (trimL xs).length = q at *
    generalize (2 : Int) ^ (n % 32) = T at *
    generalize valL xs = X at *
    generalize valL zs = Z at *
    grind
  rw [rv_scale hval, hlen] at hk
  refine Try.run126 neg xs (n : Nat) (n / 32 + (trimL xs).length) (lm (List.replicate (n / 32) 0 ++ zs)) c' ((trimL xs).length : Nat) _ (by rw [e1]; omega) (mag_run (by omega)) (by rw [e1, e2, Int.toNat_natCast, repl_lim]; exact q5) (by omega) (by rw [lm_snoc]; exact hk)

def TBE : Table := TBD
theorem TBE_holds : THolds Try.ir TBE := TBD_holds
end Go.Proofs.Ythnnfemologhfaa
