/- pinballref01: signs, sums, differences of any limbs. -/
import Derived.Test.YthnnfemologhfaaBigC
import Derived.Test.YthnnfemologhfaaPolyz
namespace Go.Proofs.Ythnnfemologhfaa
open Go.Ai
set_option maxRecDepth 100000

theorem Try.run81r_1 (neg : Bool) (xs : List Int) (c1 : ((((trimL xs).length : Nat) : Int) == 0) = true)
    (n1 : Runs Try.ir 125 [.sl xs.length (lm xs)] (.fresh 1 ((trimL xs).length) (lm (trimL xs)))) : Runs Try.ir 81 [.agg [.bool neg, .sl xs.length (lm xs)]] (.int .i64 0) :=
  Runs.script (r := .int .i64 0) (ps := [Runs Try.ir 125 [.sl xs.length (lm xs)] (.fresh 1 ((trimL xs).length) (lm (trimL xs))), ((((trimL xs).length : Nat) : Int) == 0) = true]) TBC_holds rfl 400 rfl [.r (.fresh 1 ((trimL xs).length) (lm (trimL xs))), .b true] (by kernel_rfl) ⟨n1, c1, trivial⟩

theorem Try.run81r_2 (neg : Bool) (xs : List Int) (c1 : ((((trimL xs).length : Nat) : Int) == 0) = false)
    (c2 : (neg) = true)
    (n1 : Runs Try.ir 125 [.sl xs.length (lm xs)] (.fresh 1 ((trimL xs).length) (lm (trimL xs)))) : Runs Try.ir 81 [.agg [.bool neg, .sl xs.length (lm xs)]] (.int .i64 (-1)) :=
  Runs.script (r := .int .i64 (-1)) (ps := [Runs Try.ir 125 [.sl xs.length (lm xs)] (.fresh 1 ((trimL xs).length) (lm (trimL xs))), ((((trimL xs).length : Nat) : Int) == 0) = false, neg = true]) TBC_holds rfl 400 rfl [.r (.fresh 1 ((trimL xs).length) (lm (trimL xs))), .b false, .b true] (by kernel_rfl) ⟨n1, c1, c2, trivial⟩

theorem Try.run81r_3 (neg : Bool) (xs : List Int) (c1 : ((((trimL xs).length : Nat) : Int) == 0) = false)
    (c2 : (neg) = false)
    (n1 : Runs Try.ir 125 [.sl xs.length (lm xs)] (.fresh 1 ((trimL xs).length) (lm (trimL xs)))) : Runs Try.ir 81 [.agg [.bool neg, .sl xs.length (lm xs)]] (.int .i64 1) :=
  Runs.script (r := .int .i64 1) (ps := [Runs Try.ir 125 [.sl xs.length (lm xs)] (.fresh 1 ((trimL xs).length) (lm (trimL xs))), ((((trimL xs).length : Nat) : Int) == 0) = false, neg = false]) TBC_holds rfl 400 rfl [.r (.fresh 1 ((trimL xs).length) (lm (trimL xs))), .b false, .b false] (by kernel_rfl) ⟨n1, c1, c2, trivial⟩

theorem Try.run117 (neg : Bool) (xs : List Int) (v : Int) (n1 : Runs Try.ir 106 [.bool (!neg), .sl xs.length (lm xs)] (.agg [.bool (decide (v < 0)), .sl ((limbs (Int.natAbs v)).length) (lm (limbs (Int.natAbs v)))])) : Runs Try.ir 117 [.agg [.bool neg, .sl xs.length (lm xs)]] (.agg [.bool (decide (v < 0)), .sl ((limbs (Int.natAbs v)).length) (lm (limbs (Int.natAbs v)))]) :=
  Runs.script (r := .agg [.bool (decide (v < 0)), .sl ((limbs (Int.natAbs v)).length) (lm (limbs (Int.natAbs v)))]) (ps := [Runs Try.ir 106 [.bool (!neg), .sl xs.length (lm xs)] (.agg [.bool (decide (v < 0)), .sl ((limbs (Int.natAbs v)).length) (lm (limbs (Int.natAbs v)))])]) TBC_holds rfl 400 rfl [.r (.agg [.bool (decide (v < 0)), .sl ((limbs (Int.natAbs v)).length) (lm (limbs (Int.natAbs v)))])] (by kernel_rfl) ⟨n1, trivial⟩

theorem Try.run93 (neg : Bool) (xs : List Int) (v : Int) (n1 : Runs Try.ir 106 [.bool neg, .sl xs.length (lm xs)] (.agg [.bool (decide (v < 0)), .sl ((limbs (Int.natAbs v)).length) (lm (limbs (Int.natAbs v)))])) : Runs Try.ir 93 [.agg [.bool neg, .sl xs.length (lm xs)]] (.agg [.bool (decide (v < 0)), .sl ((limbs (Int.natAbs v)).length) (lm (limbs (Int.natAbs v)))]) :=
  Runs.script (r := .agg [.bool (decide (v < 0)), .sl ((limbs (Int.natAbs v)).length) (lm (limbs (Int.natAbs v)))]) (ps := [Runs Try.ir 106 [.bool neg, .sl xs.length (lm xs)] (.agg [.bool (decide (v < 0)), .sl ((limbs (Int.natAbs v)).length) (lm (limbs (Int.natAbs v)))])]) TBC_holds rfl 400 rfl [.r (.agg [.bool (decide (v < 0)), .sl ((limbs (Int.natAbs v)).length) (lm (limbs (Int.natAbs v)))])] (by kernel_rfl) ⟨n1, trivial⟩

def Try.c138 : ICode := .seq (.seq (.region false [oM 8 7,
   oM 9 0,
   o1 10 (.len (.t 9)),
   oB 11 .lss 8 10,
   oM 12 11,
   oG 13 (.mov (.t 7)) 12 false,
   oG 14 (.mov (.t 1)) 12 false,
   oG 15 (.len (.t 14)) 12 false,
   oG 16 (.bin .lss (.t 13) (.t 15)) 12 false,
   o1 17 (.pick (.t 12) (.c (.bool true)) (.t 16)),
   oM 18 17,
   oG 19 (.mov (.t 6)) 18 false,
   oG 20 (.bin .gtr (.t 19) (.c (.int .u64 0))) 18 false,
   o1 21 (.pick (.t 18) (.c (.bool true)) (.t 20))])
  (.cond (.t 21) (.skip)
  (.exit 0)))
  (.seq (.block 1 (.seq (.seq (.region false [oM 24 7,
   oM 25 0,
   o1 26 (.len (.t 25)),
   oB 27 .lss 24 26])
  (.cond (.t 27) (.region false [oM 28 6,
   oM 29 0,
   oM 30 7,
   o1 31 (.ixa 29 (.t 30) 1),
   o1 32 (.ld 31 31 1 true),
   o1 33 (.cv .u64 (.t 32)),
   oB 34 .add 28 33,
   oM 6 34])
  (.skip)))
  (.seq (.seq (.region false [oM 35 7,
   oM 36 1,
   o1 37 (.len (.t 36)),
   oB 38 .lss 35 37])
  (.cond (.t 38) (.region false [oM 39 6,
   oM 40 1,
   oM 41 7,
   o1 42 (.ixa 40 (.t 41) 1),
   o1 43 (.ld 42 42 1 true),
   o1 44 (.cv .u64 (.t 43)),
   oB 45 .add 39 44,
   oM 6 45])
  (.skip)))
  (.seq (.region false [o1 46 (.tra 5),
   oM 47 6,
   o1 48 (.cv .u32 (.t 47)),
   o1 49 (.bls 1 [.int .u32 0] [(0, 1, .t 48)]),
   o1 50 (.apd true (.t 46) (.t 49) 1),
   o1 5 (.tra 50)])
  (.region false [oM 51 6,
   o1 52 (.bin .shr (.t 51) (.c (.int .u64 32))),
   oM 6 52])))))
  (.region false [oM 22 7,
   o1 23 (.bin .add (.t 22) (.c (.int .i64 1))),
   oM 7 23]))
def Try.s138 (xs : List Int) (ys : List Int) (n : Nat) (cs : List AV) (c : Int) (i : Int) : State := (.val (.sl xs.length (lm xs)) :: (.val (.sl ys.length (lm ys)) :: (dds 3 (.own 1 n cs :: (.val (.int .u64 c) :: (.val (.int .i64 i) :: (dds 46 [])))))))
theorem Try.k138_1 (xs : List Int) (ys : List Int) (n : Nat) (cs : List AV) (c : Int) (i : Int)  (c1 : (decide (i < ((xs.length : Nat) : Int))) = true)
    (c2 : (decide (i < ((ys.length : Nat) : Int))) = true)
    (n1 : 0 ≤ i ∧ i < ((xs.length : Nat) : Int))
    (n2 : 0 ≤ i ∧ i < ((ys.length : Nat) : Int))
    (n3 : n + 1 ≤ 1048576) : RunsW Try.ir Try.c138 (Try.s138 xs ys n cs c i) .norm (Try.s138 xs ys (n + 1) (cs ++ ([.int .u32 (IntKind.u32.wrap (IntKind.u64.wrap ((IntKind.u64.wrap (c + (IntKind.u64.wrap (xs.getD (Int.toNat i) 0)))) + (IntKind.u64.wrap (ys.getD (Int.toNat i) 0)))))] : List AV)) (Int.fdiv (IntKind.u64.wrap ((IntKind.u64.wrap (c + (IntKind.u64.wrap (xs.getD (Int.toNat i) 0)))) + (IntKind.u64.wrap (ys.getD (Int.toNat i) 0)))) (2 ^ (min (Int.toNat 32) (IntKind.bits .u64)))) (IntKind.i64.wrap (i + 1))) :=
  (RunsW.script (t := (.val (.sl xs.length (lm xs)) :: (.val (.sl ys.length (lm ys)) :: (dds 3 (.own 1 (n + 1) (cs ++ ([.int .u32 (IntKind.u32.wrap (IntKind.u64.wrap ((IntKind.u64.wrap (c + (IntKind.u64.wrap (xs.getD (Int.toNat i) 0)))) + (IntKind.u64.wrap (ys.getD (Int.toNat i) 0)))))] : List AV)) :: (.val (.int .u64 (Int.fdiv (IntKind.u64.wrap ((IntKind.u64.wrap (c + (IntKind.u64.wrap (xs.getD (Int.toNat i) 0)))) + (IntKind.u64.wrap (ys.getD (Int.toNat i) 0)))) (2 ^ (min (Int.toNat 32) (IntKind.bits .u64))))) :: (.val (.int .i64 (IntKind.i64.wrap (i + 1))) :: (dds 46 [])))))))) (ex := .norm) (ps := [(decide (i < ((xs.length : Nat) : Int))) = true, true = true, true = true, (decide (i < ((xs.length : Nat) : Int))) = true, 0 ≤ i ∧ i < ((xs.length : Nat) : Int), takeA (List.drop (Int.toNat i * 1) (lm xs)) 0 1 true = some (.int .u32 (xs.getD (Int.toNat i) 0)), (decide (i < ((ys.length : Nat) : Int))) = true, 0 ≤ i ∧ i < ((ys.length : Nat) : Int), takeA (List.drop (Int.toNat i * 1) (lm ys)) 0 1 true = some (.int .u32 (ys.getD (Int.toNat i) 0)), List.length ([.int .u32 (IntKind.u32.wrap (IntKind.u64.wrap ((IntKind.u64.wrap (c + (IntKind.u64.wrap (xs.getD (Int.toNat i) 0)))) + (IntKind.u64.wrap (ys.getD (Int.toNat i) 0)))))] : List AV) = 1 * 1, n + 1 ≤ 1048576, ¬ (32 : Int) < 0]) TBC_holds 400 [.b true, .b true, .b true, .b true, .v (.int .u32 (xs.getD (Int.toNat i) 0)), .b true, .v (.int .u32 (ys.getD (Int.toNat i) 0))] [0, 1, 5, 6, 7] (by kernel_rfl) ⟨c1, rfl, rfl, c1, n1, (take_limI n1), c2, n2, (take_limI n2), rfl, n3, (by decide), trivial⟩)

theorem Try.k138_2 (xs : List Int) (ys : List Int) (n : Nat) (cs : List AV) (c : Int) (i : Int)  (c1 : (decide (i < ((xs.length : Nat) : Int))) = true)
    (c2 : (decide (i < ((ys.length : Nat) : Int))) = false)
    (n1 : 0 ≤ i ∧ i < ((xs.length : Nat) : Int))
    (n2 : n + 1 ≤ 1048576) : RunsW Try.ir Try.c138 (Try.s138 xs ys n cs c i) .norm (Try.s138 xs ys (n + 1) (cs ++ ([.int .u32 (IntKind.u32.wrap (IntKind.u64.wrap (c + (IntKind.u64.wrap (xs.getD (Int.toNat i) 0)))))] : List AV)) (Int.fdiv (IntKind.u64.wrap (c + (IntKind.u64.wrap (xs.getD (Int.toNat i) 0)))) (2 ^ (min (Int.toNat 32) (IntKind.bits .u64)))) (IntKind.i64.wrap (i + 1))) :=
  (RunsW.script (t := (.val (.sl xs.length (lm xs)) :: (.val (.sl ys.length (lm ys)) :: (dds 3 (.own 1 (n + 1) (cs ++ ([.int .u32 (IntKind.u32.wrap (IntKind.u64.wrap (c + (IntKind.u64.wrap (xs.getD (Int.toNat i) 0)))))] : List AV)) :: (.val (.int .u64 (Int.fdiv (IntKind.u64.wrap (c + (IntKind.u64.wrap (xs.getD (Int.toNat i) 0)))) (2 ^ (min (Int.toNat 32) (IntKind.bits .u64))))) :: (.val (.int .i64 (IntKind.i64.wrap (i + 1))) :: (dds 46 [])))))))) (ex := .norm) (ps := [(decide (i < ((xs.length : Nat) : Int))) = true, true = true, true = true, (decide (i < ((xs.length : Nat) : Int))) = true, 0 ≤ i ∧ i < ((xs.length : Nat) : Int), takeA (List.drop (Int.toNat i * 1) (lm xs)) 0 1 true = some (.int .u32 (xs.getD (Int.toNat i) 0)), (decide (i < ((ys.length : Nat) : Int))) = false, List.length ([.int .u32 (IntKind.u32.wrap (IntKind.u64.wrap (c + (IntKind.u64.wrap (xs.getD (Int.toNat i) 0)))))] : List AV) = 1 * 1, n + 1 ≤ 1048576, ¬ (32 : Int) < 0]) TBC_holds 400 [.b true, .b true, .b true, .b true, .v (.int .u32 (xs.getD (Int.toNat i) 0)), .b false] [0, 1, 5, 6, 7] (by kernel_rfl) ⟨c1, rfl, rfl, c1, n1, (take_limI n1), c2, rfl, n2, (by decide), trivial⟩)

theorem Try.k138_3 (xs : List Int) (ys : List Int) (n : Nat) (cs : List AV) (c : Int) (i : Int)  (c1 : (decide (i < ((xs.length : Nat) : Int))) = false)
    (c2 : (decide (i < ((ys.length : Nat) : Int))) = true)
    (n1 : 0 ≤ i ∧ i < ((ys.length : Nat) : Int))
    (n2 : n + 1 ≤ 1048576) : RunsW Try.ir Try.c138 (Try.s138 xs ys n cs c i) .norm (Try.s138 xs ys (n + 1) (cs ++ ([.int .u32 (IntKind.u32.wrap (IntKind.u64.wrap (c + (IntKind.u64.wrap (ys.getD (Int.toNat i) 0)))))] : List AV)) (Int.fdiv (IntKind.u64.wrap (c + (IntKind.u64.wrap (ys.getD (Int.toNat i) 0)))) (2 ^ (min (Int.toNat 32) (IntKind.bits .u64)))) (IntKind.i64.wrap (i + 1))) :=
  (RunsW.script (t := (.val (.sl xs.length (lm xs)) :: (.val (.sl ys.length (lm ys)) :: (dds 3 (.own 1 (n + 1) (cs ++ ([.int .u32 (IntKind.u32.wrap (IntKind.u64.wrap (c + (IntKind.u64.wrap (ys.getD (Int.toNat i) 0)))))] : List AV)) :: (.val (.int .u64 (Int.fdiv (IntKind.u64.wrap (c + (IntKind.u64.wrap (ys.getD (Int.toNat i) 0)))) (2 ^ (min (Int.toNat 32) (IntKind.bits .u64))))) :: (.val (.int .i64 (IntKind.i64.wrap (i + 1))) :: (dds 46 [])))))))) (ex := .norm) (ps := [(decide (i < ((xs.length : Nat) : Int))) = false, (decide (i < ((ys.length : Nat) : Int))) = true, true = true, (decide (i < ((xs.length : Nat) : Int))) = false, (decide (i < ((ys.length : Nat) : Int))) = true, 0 ≤ i ∧ i < ((ys.length : Nat) : Int), takeA (List.drop (Int.toNat i * 1) (lm ys)) 0 1 true = some (.int .u32 (ys.getD (Int.toNat i) 0)), List.length ([.int .u32 (IntKind.u32.wrap (IntKind.u64.wrap (c + (IntKind.u64.wrap (ys.getD (Int.toNat i) 0)))))] : List AV) = 1 * 1, n + 1 ≤ 1048576, ¬ (32 : Int) < 0]) TBC_holds 400 [.b false, .b true, .b true, .b false, .b true, .v (.int .u32 (ys.getD (Int.toNat i) 0))] [0, 1, 5, 6, 7] (by kernel_rfl) ⟨c1, c2, rfl, c1, c2, n1, (take_limI n1), rfl, n2, (by decide), trivial⟩)

theorem Try.k138_4 (xs : List Int) (ys : List Int) (n : Nat) (cs : List AV) (c : Int) (i : Int)  (c1 : (decide (i < ((xs.length : Nat) : Int))) = false)
    (c2 : (decide (i < ((ys.length : Nat) : Int))) = false)
    (c3 : (decide (c > 0)) = true)
    (n1 : n + 1 ≤ 1048576) : RunsW Try.ir Try.c138 (Try.s138 xs ys n cs c i) .norm (Try.s138 xs ys (n + 1) (cs ++ ([.int .u32 (IntKind.u32.wrap c)] : List AV)) (Int.fdiv c (2 ^ (min (Int.toNat 32) (IntKind.bits .u64)))) (IntKind.i64.wrap (i + 1))) :=
  (RunsW.script (t := (.val (.sl xs.length (lm xs)) :: (.val (.sl ys.length (lm ys)) :: (dds 3 (.own 1 (n + 1) (cs ++ ([.int .u32 (IntKind.u32.wrap c)] : List AV)) :: (.val (.int .u64 (Int.fdiv c (2 ^ (min (Int.toNat 32) (IntKind.bits .u64))))) :: (.val (.int .i64 (IntKind.i64.wrap (i + 1))) :: (dds 46 [])))))))) (ex := .norm) (ps := [(decide (i < ((xs.length : Nat) : Int))) = false, (decide (i < ((ys.length : Nat) : Int))) = false, (decide (c > 0)) = true, (decide (i < ((xs.length : Nat) : Int))) = false, (decide (i < ((ys.length : Nat) : Int))) = false, List.length ([.int .u32 (IntKind.u32.wrap c)] : List AV) = 1 * 1, n + 1 ≤ 1048576, ¬ (32 : Int) < 0]) TBC_holds 400 [.b false, .b false, .b true, .b false, .b false] [0, 1, 5, 6, 7] (by kernel_rfl) ⟨c1, c2, c3, c1, c2, rfl, n1, (by decide), trivial⟩)

theorem Try.k138_5 (xs : List Int) (ys : List Int) (n : Nat) (cs : List AV) (c : Int) (i : Int)  (c1 : (decide (i < ((xs.length : Nat) : Int))) = false)
    (c2 : (decide (i < ((ys.length : Nat) : Int))) = false)
    (c3 : (decide (c > 0)) = false) : RunsW Try.ir Try.c138 (Try.s138 xs ys n cs c i) (.exit 0) (Try.s138 xs ys n cs c i) :=
  (RunsW.script (t := (.val (.sl xs.length (lm xs)) :: (.val (.sl ys.length (lm ys)) :: (dds 3 (.own 1 n cs :: (.val (.int .u64 c) :: (.val (.int .i64 i) :: (dds 46 [])))))))) (ex := (.exit 0)) (ps := [(decide (i < ((xs.length : Nat) : Int))) = false, (decide (i < ((ys.length : Nat) : Int))) = false, (decide (c > 0)) = false]) TBC_holds 400 [.b false, .b false, .b false] [0, 1, 5, 6, 7] (by kernel_rfl) ⟨c1, c2, c3, trivial⟩)

theorem Try.run138 (xs ys : List Int) (n : Nat) (cs : List AV) (c i : Int) (hl1 : RunsW Try.ir (.loop Try.c138) (Try.s138 xs ys 0 [] 0 0) (.exit 0) (Try.s138 xs ys n cs c i)) : Runs Try.ir 138 [.sl xs.length (lm xs), .sl ys.length (lm ys)] (.fresh 1 n cs) :=
  Runs.of_bodyW (fn := Try.i138) (s := (.val (.sl xs.length (lm xs)) :: (.val (.sl ys.length (lm ys)) :: (dds 2 (.own 1 n cs :: (dds 1 (.val (.int .u64 c) :: (.val (.int .i64 i) :: (dds 46 []))))))))) (ex := .ret) rfl rfl
    (RunsW.seq (RunsW.script (t := (.val (.sl xs.length (lm xs)) :: (.val (.sl ys.length (lm ys)) :: (dds 2 (.own 1 0 [] :: (dds 49 [])))))) (ex := .norm) (ps := []) TBC_holds 400 [] [0, 1, 4] (by kernel_rfl) trivial)
    (RunsW.seq (RunsW.script (t := (.val (.sl xs.length (lm xs)) :: (.val (.sl ys.length (lm ys)) :: (dds 2 (.own 1 0 [] :: (.own 1 0 [] :: (dds 48 []))))))) (ex := .norm) (ps := []) TBC_holds 400 [] [0, 1, 4, 5] (by kernel_rfl) trivial)
    (RunsW.seq (RunsW.script (t := (.val (.sl xs.length (lm xs)) :: (.val (.sl ys.length (lm ys)) :: (dds 2 (.own 1 0 [] :: (.own 1 0 [] :: (.val (.int .u64 0) :: (dds 47 [])))))))) (ex := .norm) (ps := []) TBC_holds 400 [] [0, 1, 4, 5, 6] (by kernel_rfl) trivial)
    (RunsW.seq (RunsW.seq (RunsW.script (t := (.val (.sl xs.length (lm xs)) :: (.val (.sl ys.length (lm ys)) :: (dds 3 (.own 1 0 [] :: (.val (.int .u64 0) :: (.val (.int .i64 0) :: (dds 46 [])))))))) (ex := .norm) (ps := []) TBC_holds 400 [] [0, 1, 5, 6, 7] (by kernel_rfl) trivial)
    (RunsW.block hl1))
    (RunsW.script (t := (.val (.sl xs.length (lm xs)) :: (.val (.sl ys.length (lm ys)) :: (dds 2 (.own 1 n cs :: (dds 1 (.val (.int .u64 c) :: (.val (.int .i64 i) :: (dds 46 []))))))))) (ex := .ret) (ps := []) TBC_holds 400 [] [0, 1, 4, 6, 7] (by kernel_rfl) trivial))))) (by intro i e; cases e) rfl

def Try.c140 : ICode := .seq (.seq (.region false [oM 10 7,
   oM 11 0,
   o1 12 (.len (.t 11)),
   oB 13 .lss 10 12])
  (.cond (.t 13) (.skip)
  (.exit 0)))
  (.seq (.block 1 (.seq (.region false [o1 8 (.mov (.c (.int .u64 0)))])
  (.seq (.seq (.region false [oM 16 7,
   oM 17 1,
   o1 18 (.len (.t 17)),
   oB 19 .lss 16 18])
  (.cond (.t 19) (.region false [oM 20 1,
   oM 21 7,
   o1 22 (.ixa 20 (.t 21) 1),
   o1 23 (.ld 22 22 1 true),
   o1 24 (.cv .u64 (.t 23)),
   oM 8 24])
  (.skip)))
  (.seq (.region false [oM 25 0,
   oM 26 7,
   o1 27 (.ixa 25 (.t 26) 1),
   o1 28 (.ld 27 27 1 true),
   o1 29 (.cv .u64 (.t 28)),
   oM 30 8,
   oB 31 .sub 29 30,
   oM 32 6,
   oB 33 .sub 31 32,
   oM 9 33])
  (.seq (.region false [o1 34 (.tra 5),
   oM 35 9,
   o1 36 (.cv .u32 (.t 35)),
   o1 37 (.bls 1 [.int .u32 0] [(0, 1, .t 36)]),
   o1 38 (.apd true (.t 34) (.t 37) 1),
   o1 5 (.tra 38)])
  (.region false [oM 39 9,
   o1 40 (.bin .shr (.t 39) (.c (.int .u64 63))),
   oM 6 40]))))))
  (.region false [oM 14 7,
   o1 15 (.bin .add (.t 14) (.c (.int .i64 1))),
   oM 7 15]))
def Try.s140 (xs : List Int) (ys : List Int) (n : Nat) (cs : List AV) (c : Int) (i : Int) : State := (.val (.sl xs.length (lm xs)) :: (.val (.sl ys.length (lm ys)) :: (dds 3 (.own 1 n cs :: (.val (.int .u64 c) :: (.val (.int .i64 i) :: (dds 34 [])))))))
theorem Try.k140_1 (xs : List Int) (ys : List Int) (n : Nat) (cs : List AV) (c : Int) (i : Int)  (c1 : (decide (i < ((xs.length : Nat) : Int))) = true)
    (c2 : (decide (i < ((ys.length : Nat) : Int))) = true)
    (n1 : 0 ≤ i ∧ i < ((ys.length : Nat) : Int))
    (n2 : 0 ≤ i ∧ i < ((xs.length : Nat) : Int))
    (n3 : n + 1 ≤ 1048576) : RunsW Try.ir Try.c140 (Try.s140 xs ys n cs c i) .norm (Try.s140 xs ys (n + 1) (cs ++ ([.int .u32 (IntKind.u32.wrap (IntKind.u64.wrap ((IntKind.u64.wrap ((IntKind.u64.wrap (xs.getD (Int.toNat i) 0)) - (IntKind.u64.wrap (ys.getD (Int.toNat i) 0)))) - c)))] : List AV)) (Int.fdiv (IntKind.u64.wrap ((IntKind.u64.wrap ((IntKind.u64.wrap (xs.getD (Int.toNat i) 0)) - (IntKind.u64.wrap (ys.getD (Int.toNat i) 0)))) - c)) (2 ^ (min (Int.toNat 63) (IntKind.bits .u64)))) (IntKind.i64.wrap (i + 1))) :=
  (RunsW.script (t := (.val (.sl xs.length (lm xs)) :: (.val (.sl ys.length (lm ys)) :: (dds 3 (.own 1 (n + 1) (cs ++ ([.int .u32 (IntKind.u32.wrap (IntKind.u64.wrap ((IntKind.u64.wrap ((IntKind.u64.wrap (xs.getD (Int.toNat i) 0)) - (IntKind.u64.wrap (ys.getD (Int.toNat i) 0)))) - c)))] : List AV)) :: (.val (.int .u64 (Int.fdiv (IntKind.u64.wrap ((IntKind.u64.wrap ((IntKind.u64.wrap (xs.getD (Int.toNat i) 0)) - (IntKind.u64.wrap (ys.getD (Int.toNat i) 0)))) - c)) (2 ^ (min (Int.toNat 63) (IntKind.bits .u64))))) :: (.val (.int .i64 (IntKind.i64.wrap (i + 1))) :: (dds 34 [])))))))) (ex := .norm) (ps := [(decide (i < ((xs.length : Nat) : Int))) = true, (decide (i < ((ys.length : Nat) : Int))) = true, 0 ≤ i ∧ i < ((ys.length : Nat) : Int), takeA (List.drop (Int.toNat i * 1) (lm ys)) 0 1 true = some (.int .u32 (ys.getD (Int.toNat i) 0)), 0 ≤ i ∧ i < ((xs.length : Nat) : Int), takeA (List.drop (Int.toNat i * 1) (lm xs)) 0 1 true = some (.int .u32 (xs.getD (Int.toNat i) 0)), List.length ([.int .u32 (IntKind.u32.wrap (IntKind.u64.wrap ((IntKind.u64.wrap ((IntKind.u64.wrap (xs.getD (Int.toNat i) 0)) - (IntKind.u64.wrap (ys.getD (Int.toNat i) 0)))) - c)))] : List AV) = 1 * 1, n + 1 ≤ 1048576, ¬ (63 : Int) < 0]) TBC_holds 400 [.b true, .b true, .v (.int .u32 (ys.getD (Int.toNat i) 0)), .v (.int .u32 (xs.getD (Int.toNat i) 0))] [0, 1, 5, 6, 7] (by kernel_rfl) ⟨c1, c2, n1, (take_limI n1), n2, (take_limI n2), rfl, n3, (by decide), trivial⟩)

theorem Try.k140_2 (xs : List Int) (ys : List Int) (n : Nat) (cs : List AV) (c : Int) (i : Int)  (c1 : (decide (i < ((xs.length : Nat) : Int))) = true)
    (c2 : (decide (i < ((ys.length : Nat) : Int))) = false)
    (n1 : 0 ≤ i ∧ i < ((xs.length : Nat) : Int))
    (n2 : n + 1 ≤ 1048576) : RunsW Try.ir Try.c140 (Try.s140 xs ys n cs c i) .norm (Try.s140 xs ys (n + 1) (cs ++ ([.int .u32 (IntKind.u32.wrap (IntKind.u64.wrap ((IntKind.u64.wrap ((IntKind.u64.wrap (xs.getD (Int.toNat i) 0)) - 0)) - c)))] : List AV)) (Int.fdiv (IntKind.u64.wrap ((IntKind.u64.wrap ((IntKind.u64.wrap (xs.getD (Int.toNat i) 0)) - 0)) - c)) (2 ^ (min (Int.toNat 63) (IntKind.bits .u64)))) (IntKind.i64.wrap (i + 1))) :=
  (RunsW.script (t := (.val (.sl xs.length (lm xs)) :: (.val (.sl ys.length (lm ys)) :: (dds 3 (.own 1 (n + 1) (cs ++ ([.int .u32 (IntKind.u32.wrap (IntKind.u64.wrap ((IntKind.u64.wrap ((IntKind.u64.wrap (xs.getD (Int.toNat i) 0)) - 0)) - c)))] : List AV)) :: (.val (.int .u64 (Int.fdiv (IntKind.u64.wrap ((IntKind.u64.wrap ((IntKind.u64.wrap (xs.getD (Int.toNat i) 0)) - 0)) - c)) (2 ^ (min (Int.toNat 63) (IntKind.bits .u64))))) :: (.val (.int .i64 (IntKind.i64.wrap (i + 1))) :: (dds 34 [])))))))) (ex := .norm) (ps := [(decide (i < ((xs.length : Nat) : Int))) = true, (decide (i < ((ys.length : Nat) : Int))) = false, 0 ≤ i ∧ i < ((xs.length : Nat) : Int), takeA (List.drop (Int.toNat i * 1) (lm xs)) 0 1 true = some (.int .u32 (xs.getD (Int.toNat i) 0)), List.length ([.int .u32 (IntKind.u32.wrap (IntKind.u64.wrap ((IntKind.u64.wrap ((IntKind.u64.wrap (xs.getD (Int.toNat i) 0)) - 0)) - c)))] : List AV) = 1 * 1, n + 1 ≤ 1048576, ¬ (63 : Int) < 0]) TBC_holds 400 [.b true, .b false, .v (.int .u32 (xs.getD (Int.toNat i) 0))] [0, 1, 5, 6, 7] (by kernel_rfl) ⟨c1, c2, n1, (take_limI n1), rfl, n2, (by decide), trivial⟩)

theorem Try.k140_3 (xs : List Int) (ys : List Int) (n : Nat) (cs : List AV) (c : Int) (i : Int)  (c1 : (decide (i < ((xs.length : Nat) : Int))) = false) : RunsW Try.ir Try.c140 (Try.s140 xs ys n cs c i) (.exit 0) (Try.s140 xs ys n cs c i) :=
  (RunsW.script (t := (.val (.sl xs.length (lm xs)) :: (.val (.sl ys.length (lm ys)) :: (dds 3 (.own 1 n cs :: (.val (.int .u64 c) :: (.val (.int .i64 i) :: (dds 34 [])))))))) (ex := (.exit 0)) (ps := [(decide (i < ((xs.length : Nat) : Int))) = false]) TBC_holds 400 [.b false] [0, 1, 5, 6, 7] (by kernel_rfl) ⟨c1, trivial⟩)

theorem Try.run140 (xs ys : List Int) (n : Nat) (cs : List AV) (c i : Int) (hl1 : RunsW Try.ir (.loop Try.c140) (Try.s140 xs ys 0 [] 0 0) (.exit 0) (Try.s140 xs ys n cs c i)) : Runs Try.ir 140 [.sl xs.length (lm xs), .sl ys.length (lm ys)] (.fresh 1 n cs) :=
  Runs.of_bodyW (fn := Try.i140) (s := (.val (.sl xs.length (lm xs)) :: (.val (.sl ys.length (lm ys)) :: (dds 2 (.own 1 n cs :: (dds 1 (.val (.int .u64 c) :: (.val (.int .i64 i) :: (dds 34 []))))))))) (ex := .ret) rfl rfl
    (RunsW.seq (RunsW.script (t := (.val (.sl xs.length (lm xs)) :: (.val (.sl ys.length (lm ys)) :: (dds 2 (.own 1 0 [] :: (dds 37 [])))))) (ex := .norm) (ps := []) TBC_holds 400 [] [0, 1, 4] (by kernel_rfl) trivial)
    (RunsW.seq (RunsW.script (t := (.val (.sl xs.length (lm xs)) :: (.val (.sl ys.length (lm ys)) :: (dds 2 (.own 1 0 [] :: (.own 1 0 [] :: (dds 36 []))))))) (ex := .norm) (ps := []) TBC_holds 400 [] [0, 1, 4, 5] (by kernel_rfl) trivial)
    (RunsW.seq (RunsW.script (t := (.val (.sl xs.length (lm xs)) :: (.val (.sl ys.length (lm ys)) :: (dds 2 (.own 1 0 [] :: (.own 1 0 [] :: (.val (.int .u64 0) :: (dds 35 [])))))))) (ex := .norm) (ps := []) TBC_holds 400 [] [0, 1, 4, 5, 6] (by kernel_rfl) trivial)
    (RunsW.seq (RunsW.seq (RunsW.script (t := (.val (.sl xs.length (lm xs)) :: (.val (.sl ys.length (lm ys)) :: (dds 3 (.own 1 0 [] :: (.val (.int .u64 0) :: (.val (.int .i64 0) :: (dds 34 [])))))))) (ex := .norm) (ps := []) TBC_holds 400 [] [0, 1, 5, 6, 7] (by kernel_rfl) trivial)
    (RunsW.block hl1))
    (RunsW.script (t := (.val (.sl xs.length (lm xs)) :: (.val (.sl ys.length (lm ys)) :: (dds 2 (.own 1 n cs :: (dds 1 (.val (.int .u64 c) :: (.val (.int .i64 i) :: (dds 34 []))))))))) (ex := .ret) (ps := []) TBC_holds 400 [] [0, 1, 4, 6, 7] (by kernel_rfl) trivial))))) (by intro i e; cases e) rfl


theorem lm_snoc (xs : List Int) (v : Int) : lm xs ++ ([.int .u32 v] : List AV) = lm (xs ++ [v]) := by simp [lm]
theorem u32_snoc {xs : List Int} (h : U32 xs) {v : Int} (hv : 0 ≤ v ∧ v < 4294967296) : U32 (xs ++ [v]) := by
  intro x hx
  rcases List.mem_append.1 hx with g | g
  · exact h x g
  · rw [List.mem_singleton.1 g]; exact hv
theorem valL_snoc (xs : List Int) (v : Int) : valL (xs ++ [v]) = valL xs + 4294967296 ^ xs.length * v := by rw [valL_append]; simp [valL]
theorem sr32 {s : Int} : Int.fdiv s (2 ^ (min (Int.toNat 32) (IntKind.bits .u64))) = s / 4294967296 := by
  show Int.fdiv s 4294967296 = _
  rw [Int.fdiv_eq_ediv_of_nonneg _ (by omega)]
theorem sr63 {s : Int} : Int.fdiv s (2 ^ (min (Int.toNat 63) (IntKind.bits .u64))) = s / 9223372036854775808 := by
  show Int.fdiv s 9223372036854775808 = _
  rw [Int.fdiv_eq_ediv_of_nonneg _ (by omega)]
theorem Try.loop138 {xs ys : List Int} (hx : U32 xs) (hy : U32 ys) (h1 : xs.length < 1048576) (h2 : ys.length < 1048576) : ∀ (r i : Nat) (acc : List Int) (c : Int), i + r = max xs.length ys.length → acc.length = i → U32 acc → 0 ≤ c ∧ c ≤ 1 →
    ∃ (zs : List Int) (c' i' : Int), U32 zs ∧ zs.length ≤ max xs.length ys.length + 1 ∧ valL zs = valL acc + 4294967296 ^ i * (c + valL (xs.drop i) + valL (ys.drop i)) ∧
      RunsW Try.ir (.loop Try.c138) (Try.s138 xs ys i (lm acc) c (i : Nat)) (.exit 0) (Try.s138 xs ys zs.length (lm zs) c' i') := by
  intro r
  induction r with
  | zero =>
    intro i acc c hi hl hu hc
    have e1 : valL (xs.drop i) = 0 := drop_end (by omega)
    have e2 : valL (ys.drop i) = 0 := drop_end (by omega)
    have g1 : decide (((i : Nat) : Int) < ((xs.length : Nat) : Int)) = false := by simp; omega
    have g2 : decide (((i : Nat) : Int) < ((ys.length : Nat) : Int)) = false := by simp; omega
    by_cases hc0 : c = 0
    · refine ⟨acc, c, i, hu, by omega, by rw [e1, e2, hc0]; simp, ?_⟩
      rw [hl]
      exact RunsW.loop_out (Try.k138_5 xs ys i (lm acc) c (i : Nat) g1 g2 (by simp; omega)) (by intro e; cases e)
    · have hc1 : c = 1 := by omega
      subst hc1
      refine ⟨acc ++ [1], 0, IntKind.i64.wrap (((i : Nat) : Int) + 1), u32_snoc hu (by omega), by simp; omega, by rw [valL_snoc, e1, e2, hl]; simp, ?_⟩
      have k := Try.k138_4 xs ys i (lm acc) 1 (i : Nat) g1 g2 (by simp) (by omega)
      rw [sr32, wu32, show (1 : Int) % 4294967296 = 1 by decide, show (1 : Int) / 4294967296 = 0 by decide, lm_snoc] at k
      have ei : IntKind.i64.wrap (((i : Nat) : Int) + 1) = ((i + 1 : Nat) : Int) := by rw [w64 (by omega) (by omega)]; omega
      rw [ei] at k ⊢
      have k2 := Try.k138_5 xs ys (i + 1) (lm (acc ++ [1])) 0 ((i + 1 : Nat) : Int) (by simp; omega) (by simp; omega) (by simp)
      have hll : (acc ++ [1]).length = i + 1 := by simp [hl]
      rw [hll]
      exact RunsW.loop k (RunsW.loop_out k2 (by intro e; cases e))
  | succ r ih =>
    intro i acc c hi hl hu hc
    have bx := getD_u32 hx i
    have byy := getD_u32 hy i
    have ei : IntKind.i64.wrap (((i : Nat) : Int) + 1) = ((i + 1 : Nat) : Int) := by rw [w64 (by omega) (by omega)]; omega
    have step : RunsW Try.ir Try.c138 (Try.s138 xs ys i (lm acc) c (i : Nat)) .norm (Try.s138 xs ys (i + 1) (lm (acc ++ [(c + xs.getD i 0 + ys.getD i 0) % 4294967296])) ((c + xs.getD i 0 + ys.getD i 0) / 4294967296) ((i + 1 : Nat) : Int)) := by
      have wx : IntKind.u64.wrap (xs.getD i 0) = xs.getD i 0 := by rw [wu64m]; omega
      have wy : IntKind.u64.wrap (ys.getD i 0) = ys.getD i 0 := by rw [wu64m]; omega
      by_cases g1 : i < xs.length <;> by_cases g2 : i < ys.length
      · have k := Try.k138_1 xs ys i (lm acc) c (i : Nat) (by simp; omega) (by simp; omega) (by omega) (by omega) (by omega)
        have w1 : IntKind.u64.wrap (IntKind.u64.wrap (c + xs.getD i 0) + ys.getD i 0) = c + xs.getD i 0 + ys.getD i 0 := by rw [wu64m, wu64m]; omega
        simp only [Int.toNat_natCast, wx, wy, w1, sr32, wu32, ei, lm_snoc] at k
        exact k
      · have k := Try.k138_2 xs ys i (lm acc) c (i : Nat) (by simp; omega) (by simp; omega) (by omega) (by omega)
        have hz : ys.getD i 0 = 0 := getD_end (by omega)
        have w1 : IntKind.u64.wrap (c + xs.getD i 0) = c + xs.getD i 0 + ys.getD i 0 := by rw [wu64m, hz]; omega
        simp only [Int.toNat_natCast, wx, w1, sr32, wu32, ei, lm_snoc] at k
        exact k
      · have k := Try.k138_3 xs ys i (lm acc) c (i : Nat) (by simp; omega) (by simp; omega) (by omega) (by omega)
        have hz : xs.getD i 0 = 0 := getD_end (by omega)
        have w1 : IntKind.u64.wrap (c + ys.getD i 0) = c + xs.getD i 0 + ys.getD i 0 := by rw [wu64m, hz]; omega
        simp only [Int.toNat_natCast, wy, w1, sr32, wu32, ei, lm_snoc] at k
        exact k
      · omega
    obtain ⟨zs, c', i', q1, q2, q3, q4⟩ := ih (i + 1) (acc ++ [(c + xs.getD i 0 + ys.getD i 0) % 4294967296]) ((c + xs.getD i 0 + ys.getD i 0) / 4294967296) (by omega) (by simp [hl]) (u32_snoc hu (by omega)) (by omega)
    refine ⟨zs, c', i', q1, q2, ?_, RunsW.loop step q4⟩
    rw [q3, valL_snoc, hl, drop_val xs i, drop_val ys i, Int.pow_succ]
    have hd := Int.emod_add_mul_ediv (c + xs.getD i 0 + ys.getD i 0) 4294967296
    generalize (c + xs.getD i 0 + ys.getD i 0) % 4294967296 = m at *
    generalize (c + xs.getD i 0 + ys.getD i 0) / 4294967296 = d at *
    generalize (4294967296 : Int) ^ i = p at *
    generalize valL (xs.drop (i + 1)) = X at *
    generalize valL (ys.drop (i + 1)) = Y at *
    have : c + (xs.getD i 0 + 4294967296 * X) + (ys.getD i 0 + 4294967296 * Y) = m + 4294967296 * (d + X + Y) := by omega
    rw [this]
    grind
theorem addMag_run {xs ys : List Int} (hx : U32 xs) (hy : U32 ys) (h1 : xs.length < 1048576) (h2 : ys.length < 1048576) : ∃ zs, U32 zs ∧ valL zs = valL xs + valL ys ∧ zs.length ≤ max xs.length ys.length + 1 ∧ Runs Try.ir 138 [.sl xs.length (lm xs), .sl ys.length (lm ys)] (.fresh 1 zs.length (lm zs)) := by
  obtain ⟨zs, c', i', q1, q2, q3, q4⟩ := Try.loop138 hx hy h1 h2 (max xs.length ys.length) 0 [] 0 (by omega) rfl (fun x hx => by cases hx) (by omega)
  refine ⟨zs, q1, by rw [q3]; simp [valL], q2, ?_⟩
  exact Try.run138 xs ys _ _ _ _ q4
theorem Try.loop140 {xs ys : List Int} (hx : U32 xs) (hy : U32 ys) (hl2 : ys.length ≤ xs.length) (h1 : xs.length ≤ 1048576) : ∀ (r i : Nat) (acc : List Int) (c : Int), i + r = xs.length → acc.length = i → U32 acc → 0 ≤ c ∧ c ≤ 1 →
    ∃ (zs : List Int) (c' i' : Int), U32 zs ∧ zs.length = xs.length ∧ 0 ≤ c' ∧ valL zs - 4294967296 ^ xs.length * c' = valL acc + 4294967296 ^ i * (valL (xs.drop i) - valL (ys.drop i) - c) ∧
      RunsW Try.ir (.loop Try.c140) (Try.s140 xs ys i (lm acc) c (i : Nat)) (.exit 0) (Try.s140 xs ys zs.length (lm zs) c' i') := by
  intro r
  induction r with
  | zero =>
    intro i acc c hi hl hu hc
    have e1 : valL (xs.drop i) = 0 := drop_end (by omega)
    have e2 : valL (ys.drop i) = 0 := drop_end (by omega)
    have hii : xs.length = i := by omega
    refine ⟨acc, c, i, hu, by omega, hc.1, by rw [e1, e2, hii]; grind, ?_⟩
    rw [hl]
    exact RunsW.loop_out (Try.k140_3 xs ys i (lm acc) c (i : Nat) (by simp; omega)) (by intro e; cases e)
  | succ r ih =>
    intro i acc c hi hl hu hc
    have bx := getD_u32 hx i
    have byy := getD_u32 hy i
    have ei : IntKind.i64.wrap (((i : Nat) : Int) + 1) = ((i + 1 : Nat) : Int) := by rw [w64 (by omega) (by omega)]; omega
    have step : RunsW Try.ir Try.c140 (Try.s140 xs ys i (lm acc) c (i : Nat)) .norm (Try.s140 xs ys (i + 1) (lm (acc ++ [(xs.getD i 0 - ys.getD i 0 - c) % 4294967296])) (-((xs.getD i 0 - ys.getD i 0 - c) / 4294967296)) ((i + 1 : Nat) : Int)) := by
      have wx : IntKind.u64.wrap (xs.getD i 0) = xs.getD i 0 := by rw [wu64m]; omega
      have wy : IntKind.u64.wrap (ys.getD i 0) = ys.getD i 0 := by rw [wu64m]; omega
      by_cases g2 : i < ys.length
      · have k := Try.k140_1 xs ys i (lm acc) c (i : Nat) (by simp; omega) (by simp; omega) (by omega) (by omega) (by omega)
        have w1 : IntKind.u64.wrap (IntKind.u64.wrap (xs.getD i 0 - ys.getD i 0) - c) % 4294967296 = (xs.getD i 0 - ys.getD i 0 - c) % 4294967296 := by rw [wu64m, wu64m]; omega
        have w2 : IntKind.u64.wrap (IntKind.u64.wrap (xs.getD i 0 - ys.getD i 0) - c) / 9223372036854775808 = -((xs.getD i 0 - ys.getD i 0 - c) / 4294967296) := by rw [wu64m, wu64m]; omega
        simp only [Int.toNat_natCast, wx, wy, sr63, wu32, w1, w2, ei, lm_snoc] at k
        exact k
      · have k := Try.k140_2 xs ys i (lm acc) c (i : Nat) (by simp; omega) (by simp; omega) (by omega) (by omega)
        have hz : ys.getD i 0 = 0 := getD_end (by omega)
        have w1 : IntKind.u64.wrap (IntKind.u64.wrap (xs.getD i 0 - 0) - c) % 4294967296 = (xs.getD i 0 - ys.getD i 0 - c) % 4294967296 := by rw [wu64m, wu64m, hz]; omega
        have w2 : IntKind.u64.wrap (IntKind.u64.wrap (xs.getD i 0 - 0) - c) / 9223372036854775808 = -((xs.getD i 0 - ys.getD i 0 - c) / 4294967296) := by rw [wu64m, wu64m, hz]; omega
        simp only [Int.toNat_natCast, wx, sr63, wu32, w1, w2, ei, lm_snoc] at k
        exact k
    obtain ⟨zs, c', i', q1, q2, q0, q3, q4⟩ := ih (i + 1) (acc ++ [(xs.getD i 0 - ys.getD i 0 - c) % 4294967296]) (-((xs.getD i 0 - ys.getD i 0 - c) / 4294967296)) (by omega) (by simp [hl]) (u32_snoc hu (by omega)) (by omega)
    refine ⟨zs, c', i', q1, q2, q0, ?_, RunsW.loop step q4⟩
    rw [q3, valL_snoc, hl, drop_val xs i, drop_val ys i, Int.pow_succ]
    have hd := Int.emod_add_mul_ediv (xs.getD i 0 - ys.getD i 0 - c) 4294967296
    generalize (xs.getD i 0 - ys.getD i 0 - c) % 4294967296 = m at *
    generalize (xs.getD i 0 - ys.getD i 0 - c) / 4294967296 = d at *
    generalize (4294967296 : Int) ^ i = p at *
    generalize valL (xs.drop (i + 1)) = X at *
    generalize valL (ys.drop (i + 1)) = Y at *
    have : xs.getD i 0 + 4294967296 * X - (ys.getD i 0 + 4294967296 * Y) - c = m + 4294967296 * (d + X - Y) := by omega
    rw [this]
    grind
theorem subMag_run {xs ys : List Int} (hx : U32 xs) (hy : U32 ys) (hl : ys.length ≤ xs.length) (hv : valL ys ≤ valL xs) (h1 : xs.length ≤ 1048576) : ∃ zs, U32 zs ∧ valL zs = valL xs - valL ys ∧ zs.length = xs.length ∧ Runs Try.ir 140 [.sl xs.length (lm xs), .sl ys.length (lm ys)] (.fresh 1 zs.length (lm zs)) := by
  obtain ⟨zs, c', i', q1, q2, q0, q3, q4⟩ := Try.loop140 hx hy hl h1 xs.length 0 [] 0 (by omega) rfl (fun x hx => by cases hx) (by omega)
  simp only [valL, Int.pow_zero, List.drop_zero, Int.one_mul, Int.zero_add, Int.sub_zero] at q3
  have hlt := valL_lt q1
  rw [q2] at hlt
  have hp := pow32_pos xs.length
  have hc : c' = 0 := by
    generalize (4294967296 : Int) ^ xs.length = p at *
    rcases Int.lt_or_le 0 c' with g | g
    · have : p * 1 ≤ p * c' := Int.mul_le_mul_of_nonneg_left (by omega) (by omega)
      omega
    · omega
  subst hc
  refine ⟨zs, q1, by simpa using q3, q2, ?_⟩
  exact Try.run140 xs ys _ _ _ _ q4


theorem mk1_run {neg : Bool} {xs : List Int} (hu : U32 xs) (hN : xs.length ≤ 1048576) : Runs Try.ir 106 [.bool neg, .sl xs.length (lm xs)] (bigAV (rv neg xs)) := make1_run hu hN
theorem rsign_run {neg : Bool} {xs : List Int} (hu : U32 xs) (hN : xs.length ≤ 1048576) : Runs Try.ir 81 [.agg [.bool neg, .sl xs.length (lm xs)]] (.int .i64 (sgnI (rv neg xs))) := by
  have hm := mag_run hN
  have hz : (trimL xs).length = 0 ↔ valL xs = 0 := by
    have := valL_nonneg hu
    rw [trimL_eq hu, limbs_zero_len]; omega
  have hv := valL_nonneg hu
  by_cases h0 : valL xs = 0
  · have h := Try.run81r_1 neg xs (by rw [beq_iff_eq]; omega) hm
    have e : sgnI (rv neg xs) = 0 := by unfold rv; rw [h0]; cases neg <;> rfl
    rw [e]; exact h
  · cases neg with
    | true =>
      have h := Try.run81r_2 true xs (by rw [beq_eq_false_iff_ne]; omega) rfl hm
      have e : sgnI (rv true xs) = -1 := by simp only [rv, if_true, sgnI]; (repeat' split) <;> omega
      rw [e]; exact h
    | false =>
      have h := Try.run81r_3 false xs (by rw [beq_eq_false_iff_ne]; omega) rfl hm
      have e : sgnI (rv false xs) = 1 := by simp only [rv, Bool.false_eq_true, if_false, sgnI]; (repeat' split) <;> omega
      rw [e]; exact h
theorem rv_flip (neg : Bool) (xs : List Int) : rv (!neg) xs = -(rv neg xs) := by unfold rv; cases neg <;> simp

theorem rneg_run {neg : Bool} {xs : List Int} (hu : U32 xs) (hN : xs.length ≤ 1048576) : Runs Try.ir 117 [.agg [.bool neg, .sl xs.length (lm xs)]] (bigAV (-(rv neg xs))) := by
  have h := mk1_run (neg := !neg) hu hN
  rw [rv_flip] at h
  exact Try.run117 neg xs _ h

theorem rtrim_run {neg : Bool} {xs : List Int} (hu : U32 xs) (hN : xs.length ≤ 1048576) : Runs Try.ir 93 [.agg [.bool neg, .sl xs.length (lm xs)]] (bigAV (rv neg xs)) := Try.run93 neg xs _ (mk1_run hu hN)

theorem Try.run105r (na nb : Bool) (xs ys zs : List Int) (v : Int) (n1 : Runs Try.ir 125 [.sl xs.length (lm xs)] (.fresh 1 ((trimL xs).length) (lm (trimL xs))))
    (n2 : Runs Try.ir 125 [.sl ys.length (lm ys)] (.fresh 1 ((trimL ys).length) (lm (trimL ys))))
    (n3 : Runs Try.ir 141 [.sl ((trimL xs).length) (lm (trimL xs)), .sl ((trimL ys).length) (lm (trimL ys))] (.fresh 1 zs.length (lm zs)))
    (n4 : Runs Try.ir 106 [.bool (!(na == nb)), .sl zs.length (lm zs)] (.agg [.bool (decide (v < 0)), .sl ((limbs (Int.natAbs v)).length) (lm (limbs (Int.natAbs v)))])) : Runs Try.ir 105 [.agg [.bool na, .sl xs.length (lm xs)], .agg [.bool nb, .sl ys.length (lm ys)]] (.agg [.bool (decide (v < 0)), .sl ((limbs (Int.natAbs v)).length) (lm (limbs (Int.natAbs v)))]) :=
  Runs.script (r := .agg [.bool (decide (v < 0)), .sl ((limbs (Int.natAbs v)).length) (lm (limbs (Int.natAbs v)))]) (ps := [Runs Try.ir 125 [.sl xs.length (lm xs)] (.fresh 1 ((trimL xs).length) (lm (trimL xs))), Runs Try.ir 125 [.sl ys.length (lm ys)] (.fresh 1 ((trimL ys).length) (lm (trimL ys))), Runs Try.ir 141 [.sl ((trimL xs).length) (lm (trimL xs)), .sl ((trimL ys).length) (lm (trimL ys))] (.fresh 1 zs.length (lm zs)), Runs Try.ir 106 [.bool (!(na == nb)), .sl zs.length (lm zs)] (.agg [.bool (decide (v < 0)), .sl ((limbs (Int.natAbs v)).length) (lm (limbs (Int.natAbs v)))])]) TBC_holds rfl 400 rfl [.r (.fresh 1 ((trimL xs).length) (lm (trimL xs))), .r (.fresh 1 ((trimL ys).length) (lm (trimL ys))), .r (.fresh 1 zs.length (lm zs)), .r (.agg [.bool (decide (v < 0)), .sl ((limbs (Int.natAbs v)).length) (lm (limbs (Int.natAbs v)))])] (by kernel_rfl) ⟨n1, n2, n3, n4, trivial⟩

theorem Try.run104_1 (na nb : Bool) (xs ys zs : List Int) (v : Int) (c1 : (na == nb) = true)
    (n1 : Runs Try.ir 125 [.sl xs.length (lm xs)] (.fresh 1 ((trimL xs).length) (lm (trimL xs))))
    (n2 : Runs Try.ir 125 [.sl ys.length (lm ys)] (.fresh 1 ((trimL ys).length) (lm (trimL ys))))
    (n3 : Runs Try.ir 138 [.sl ((trimL xs).length) (lm (trimL xs)), .sl ((trimL ys).length) (lm (trimL ys))] (.fresh 1 zs.length (lm zs)))
    (n4 : Runs Try.ir 106 [.bool na, .sl zs.length (lm zs)] (.agg [.bool (decide (v < 0)), .sl ((limbs (Int.natAbs v)).length) (lm (limbs (Int.natAbs v)))])) : Runs Try.ir 104 [.agg [.bool na, .sl xs.length (lm xs)], .agg [.bool nb, .sl ys.length (lm ys)]] (.agg [.bool (decide (v < 0)), .sl ((limbs (Int.natAbs v)).length) (lm (limbs (Int.natAbs v)))]) :=
  Runs.script (r := .agg [.bool (decide (v < 0)), .sl ((limbs (Int.natAbs v)).length) (lm (limbs (Int.natAbs v)))]) (ps := [Runs Try.ir 125 [.sl xs.length (lm xs)] (.fresh 1 ((trimL xs).length) (lm (trimL xs))), Runs Try.ir 125 [.sl ys.length (lm ys)] (.fresh 1 ((trimL ys).length) (lm (trimL ys))), (na == nb) = true, Runs Try.ir 138 [.sl ((trimL xs).length) (lm (trimL xs)), .sl ((trimL ys).length) (lm (trimL ys))] (.fresh 1 zs.length (lm zs)), Runs Try.ir 106 [.bool na, .sl zs.length (lm zs)] (.agg [.bool (decide (v < 0)), .sl ((limbs (Int.natAbs v)).length) (lm (limbs (Int.natAbs v)))])]) TBC_holds rfl 400 rfl [.r (.fresh 1 ((trimL xs).length) (lm (trimL xs))), .r (.fresh 1 ((trimL ys).length) (lm (trimL ys))), .b true, .r (.fresh 1 zs.length (lm zs)), .r (.agg [.bool (decide (v < 0)), .sl ((limbs (Int.natAbs v)).length) (lm (limbs (Int.natAbs v)))])] (by kernel_rfl) ⟨n1, n2, c1, n3, n4, trivial⟩

theorem Try.run104_2 (na nb : Bool) (xs ys zs : List Int) (v c : Int) (c1 : (na == nb) = false)
    (c2 : (decide (c ≥ 0)) = true)
    (n1 : Runs Try.ir 125 [.sl xs.length (lm xs)] (.fresh 1 ((trimL xs).length) (lm (trimL xs))))
    (n2 : Runs Try.ir 125 [.sl ys.length (lm ys)] (.fresh 1 ((trimL ys).length) (lm (trimL ys))))
    (n3 : Runs Try.ir 139 [.sl ((trimL xs).length) (lm (trimL xs)), .sl ((trimL ys).length) (lm (trimL ys))] (.int .i64 c))
    (n4 : Runs Try.ir 140 [.sl ((trimL xs).length) (lm (trimL xs)), .sl ((trimL ys).length) (lm (trimL ys))] (.fresh 1 zs.length (lm zs)))
    (n5 : Runs Try.ir 106 [.bool na, .sl zs.length (lm zs)] (.agg [.bool (decide (v < 0)), .sl ((limbs (Int.natAbs v)).length) (lm (limbs (Int.natAbs v)))])) : Runs Try.ir 104 [.agg [.bool na, .sl xs.length (lm xs)], .agg [.bool nb, .sl ys.length (lm ys)]] (.agg [.bool (decide (v < 0)), .sl ((limbs (Int.natAbs v)).length) (lm (limbs (Int.natAbs v)))]) :=
  Runs.script (r := .agg [.bool (decide (v < 0)), .sl ((limbs (Int.natAbs v)).length) (lm (limbs (Int.natAbs v)))]) (ps := [Runs Try.ir 125 [.sl xs.length (lm xs)] (.fresh 1 ((trimL xs).length) (lm (trimL xs))), Runs Try.ir 125 [.sl ys.length (lm ys)] (.fresh 1 ((trimL ys).length) (lm (trimL ys))), (na == nb) = false, Runs Try.ir 139 [.sl ((trimL xs).length) (lm (trimL xs)), .sl ((trimL ys).length) (lm (trimL ys))] (.int .i64 c), (decide (c ≥ 0)) = true, Runs Try.ir 140 [.sl ((trimL xs).length) (lm (trimL xs)), .sl ((trimL ys).length) (lm (trimL ys))] (.fresh 1 zs.length (lm zs)), Runs Try.ir 106 [.bool na, .sl zs.length (lm zs)] (.agg [.bool (decide (v < 0)), .sl ((limbs (Int.natAbs v)).length) (lm (limbs (Int.natAbs v)))])]) TBC_holds rfl 400 rfl [.r (.fresh 1 ((trimL xs).length) (lm (trimL xs))), .r (.fresh 1 ((trimL ys).length) (lm (trimL ys))), .b false, .r (.int .i64 c), .b true, .r (.fresh 1 zs.length (lm zs)), .r (.agg [.bool (decide (v < 0)), .sl ((limbs (Int.natAbs v)).length) (lm (limbs (Int.natAbs v)))])] (by kernel_rfl) ⟨n1, n2, c1, n3, c2, n4, n5, trivial⟩

theorem Try.run104_3 (na nb : Bool) (xs ys zs : List Int) (v c : Int) (c1 : (na == nb) = false)
    (c2 : (decide (c ≥ 0)) = false)
    (n1 : Runs Try.ir 125 [.sl xs.length (lm xs)] (.fresh 1 ((trimL xs).length) (lm (trimL xs))))
    (n2 : Runs Try.ir 125 [.sl ys.length (lm ys)] (.fresh 1 ((trimL ys).length) (lm (trimL ys))))
    (n3 : Runs Try.ir 139 [.sl ((trimL xs).length) (lm (trimL xs)), .sl ((trimL ys).length) (lm (trimL ys))] (.int .i64 c))
    (n4 : Runs Try.ir 140 [.sl ((trimL ys).length) (lm (trimL ys)), .sl ((trimL xs).length) (lm (trimL xs))] (.fresh 1 zs.length (lm zs)))
    (n5 : Runs Try.ir 106 [.bool nb, .sl zs.length (lm zs)] (.agg [.bool (decide (v < 0)), .sl ((limbs (Int.natAbs v)).length) (lm (limbs (Int.natAbs v)))])) : Runs Try.ir 104 [.agg [.bool na, .sl xs.length (lm xs)], .agg [.bool nb, .sl ys.length (lm ys)]] (.agg [.bool (decide (v < 0)), .sl ((limbs (Int.natAbs v)).length) (lm (limbs (Int.natAbs v)))]) :=
  Runs.script (r := .agg [.bool (decide (v < 0)), .sl ((limbs (Int.natAbs v)).length) (lm (limbs (Int.natAbs v)))]) (ps := [Runs Try.ir 125 [.sl xs.length (lm xs)] (.fresh 1 ((trimL xs).length) (lm (trimL xs))), Runs Try.ir 125 [.sl ys.length (lm ys)] (.fresh 1 ((trimL ys).length) (lm (trimL ys))), (na == nb) = false, Runs Try.ir 139 [.sl ((trimL xs).length) (lm (trimL xs)), .sl ((trimL ys).length) (lm (trimL ys))] (.int .i64 c), (decide (c ≥ 0)) = false, Runs Try.ir 140 [.sl ((trimL ys).length) (lm (trimL ys)), .sl ((trimL xs).length) (lm (trimL xs))] (.fresh 1 zs.length (lm zs)), Runs Try.ir 106 [.bool nb, .sl zs.length (lm zs)] (.agg [.bool (decide (v < 0)), .sl ((limbs (Int.natAbs v)).length) (lm (limbs (Int.natAbs v)))])]) TBC_holds rfl 400 rfl [.r (.fresh 1 ((trimL xs).length) (lm (trimL xs))), .r (.fresh 1 ((trimL ys).length) (lm (trimL ys))), .b false, .r (.int .i64 c), .b false, .r (.fresh 1 zs.length (lm zs)), .r (.agg [.bool (decide (v < 0)), .sl ((limbs (Int.natAbs v)).length) (lm (limbs (Int.natAbs v)))])] (by kernel_rfl) ⟨n1, n2, c1, n3, c2, n4, n5, trivial⟩

theorem Try.run118 (na nb : Bool) (xs ys : List Int) (v w : Int) (n1 : Runs Try.ir 117 [.agg [.bool nb, .sl ys.length (lm ys)]] (.agg [.bool (decide (w < 0)), .sl ((limbs (Int.natAbs w)).length) (lm (limbs (Int.natAbs w)))]))
    (n2 : Runs Try.ir 104 [.agg [.bool na, .sl xs.length (lm xs)], .agg [.bool (decide (w < 0)), .sl ((limbs (Int.natAbs w)).length) (lm (limbs (Int.natAbs w)))]] (.agg [.bool (decide (v < 0)), .sl ((limbs (Int.natAbs v)).length) (lm (limbs (Int.natAbs v)))])) : Runs Try.ir 118 [.agg [.bool na, .sl xs.length (lm xs)], .agg [.bool nb, .sl ys.length (lm ys)]] (.agg [.bool (decide (v < 0)), .sl ((limbs (Int.natAbs v)).length) (lm (limbs (Int.natAbs v)))]) :=
  Runs.script (r := .agg [.bool (decide (v < 0)), .sl ((limbs (Int.natAbs v)).length) (lm (limbs (Int.natAbs v)))]) (ps := [Runs Try.ir 117 [.agg [.bool nb, .sl ys.length (lm ys)]] (.agg [.bool (decide (w < 0)), .sl ((limbs (Int.natAbs w)).length) (lm (limbs (Int.natAbs w)))]), Runs Try.ir 104 [.agg [.bool na, .sl xs.length (lm xs)], .agg [.bool (decide (w < 0)), .sl ((limbs (Int.natAbs w)).length) (lm (limbs (Int.natAbs w)))]] (.agg [.bool (decide (v < 0)), .sl ((limbs (Int.natAbs v)).length) (lm (limbs (Int.natAbs v)))])]) TBC_holds rfl 400 rfl [.r (.agg [.bool (decide (w < 0)), .sl ((limbs (Int.natAbs w)).length) (lm (limbs (Int.natAbs w)))]), .r (.agg [.bool (decide (v < 0)), .sl ((limbs (Int.natAbs v)).length) (lm (limbs (Int.natAbs v)))])] (by kernel_rfl) ⟨n1, n2, trivial⟩

theorem Try.run79 (neg : Bool) (xs : List Int) (n1 : Runs Try.ir 125 [.sl xs.length (lm xs)] (.fresh 1 ((trimL xs).length) (lm (trimL xs)))) : Runs Try.ir 79 [.agg [.bool neg, .sl xs.length (lm xs)]] (.bool (decide ((((trimL xs).length : Nat) : Int) > 256))) :=
  Runs.script (r := .bool (decide ((((trimL xs).length : Nat) : Int) > 256))) (ps := [Runs Try.ir 125 [.sl xs.length (lm xs)] (.fresh 1 ((trimL xs).length) (lm (trimL xs)))]) TBC_holds rfl 400 rfl [.r (.fresh 1 ((trimL xs).length) (lm (trimL xs)))] (by kernel_rfl) ⟨n1, trivial⟩


theorem trim_rv (neg : Bool) (xs : List Int) : rv neg (trimL xs) = rv neg xs := by unfold rv; rw [trimL_val]
theorem trim_u32 {xs : List Int} (h : U32 xs) : U32 (trimL xs) := (trimL_canon h).1
theorem rv_mul (na nb : Bool) (xs ys zs : List Int) (h : valL zs = valL xs * valL ys) : rv (!(na == nb)) zs = rv na xs * rv nb ys := by
  unfold rv
  rw [h]
  generalize valL xs = X
  generalize valL ys = Y
  cases na <;> cases nb <;> simp <;> grind
theorem rtimes_run {na nb : Bool} {xs ys : List Int} (hx : U32 xs) (hy : U32 ys) (hN : xs.length + ys.length ≤ 1048576) : Runs Try.ir 105 [.agg [.bool na, .sl xs.length (lm xs)], .agg [.bool nb, .sl ys.length (lm ys)]] (bigAV (rv na xs * rv nb ys)) := by
  have t1 := trim_len xs
  have t2 := trim_len ys
  obtain ⟨zs, z1, z2, z3, z4⟩ := mulMag_run (trim_u32 hx) (trim_u32 hy) (by omega)
  have hk := mk1_run (neg := !(na == nb)) z2 (by omega)
  rw [rv_mul na nb (trimL xs) (trimL ys) zs z3, trim_rv, trim_rv] at hk
  exact Try.run105r na nb xs ys zs _ (mag_run (by omega)) (mag_run (by omega)) z4 hk


theorem rplus_run {na nb : Bool} {xs ys : List Int} (hx : U32 xs) (hy : U32 ys) (h1 : xs.length < 1048576) (h2 : ys.length < 1048576) : Runs Try.ir 104 [.agg [.bool na, .sl xs.length (lm xs)], .agg [.bool nb, .sl ys.length (lm ys)]] (bigAV (rv na xs + rv nb ys)) := by
  have t1 := trim_len xs
  have t2 := trim_len ys
  have c1 := trimL_canon hx
  have c2 := trimL_canon hy
  have m1 := mag_run (xs := xs) (by omega)
  have m2 := mag_run (xs := ys) (by omega)
  have hcmp := cmpMag_run c1 c2 (by omega)
  by_cases hn : na = nb
  · subst hn
    obtain ⟨zs, z1, z2, z3, z4⟩ := addMag_run c1.1 c2.1 (by omega) (by omega)
    have hk := mk1_run (neg := na) z1 (by omega)
    have e : rv na zs = rv na xs + rv na ys := by
      unfold rv; rw [z2, trimL_val, trimL_val]; cases na <;> simp; omega
    rw [e] at hk
    exact Try.run104_1 na na xs ys zs _ (by simp) m1 m2 z4 hk
  · have hb : nb = !na := by cases na <;> cases nb <;> simp at hn ⊢
    by_cases hc : cmpI (valL (trimL xs)) (valL (trimL ys)) ≥ 0
    · have hle : valL (trimL ys) ≤ valL (trimL xs) := by unfold cmpI at hc; split at hc <;> (try split at hc) <;> omega
      have hlen : (trimL ys).length ≤ (trimL xs).length := canon_len c2 (Int.lt_of_le_of_lt hle (valL_lt c1.1))
      obtain ⟨zs, z1, z2, z3, z4⟩ := subMag_run c1.1 c2.1 hlen hle (by omega)
      have hk := mk1_run (neg := na) z1 (by omega)
      have e : rv na zs = rv na xs + rv nb ys := by
        unfold rv; rw [z2, trimL_val, trimL_val, hb]; cases na <;> simp <;> omega
      rw [e] at hk
      exact Try.run104_2 na nb xs ys zs _ _ (by rw [hb]; cases na <;> rfl) (by simpa using hc) m1 m2 hcmp z4 hk
    · have hle : valL (trimL xs) ≤ valL (trimL ys) := by unfold cmpI at hc; split at hc <;> (try split at hc) <;> omega
      have hlen : (trimL xs).length ≤ (trimL ys).length := canon_len c1 (Int.lt_of_le_of_lt hle (valL_lt c2.1))
      obtain ⟨zs, z1, z2, z3, z4⟩ := subMag_run c2.1 c1.1 hlen hle (by omega)
      have hk := mk1_run (neg := nb) z1 (by omega)
      have e : rv nb zs = rv na xs + rv nb ys := by
        unfold rv; rw [z2, trimL_val, trimL_val, hb]; cases na <;> simp <;> omega
      rw [e] at hk
      exact Try.run104_3 na nb xs ys zs _ _ (by rw [hb]; cases na <;> rfl) (by simpa using hc) m1 m2 hcmp z4 hk

theorem rminus_run {na nb : Bool} {xs ys : List Int} (hx : U32 xs) (hy : U32 ys) (h1 : xs.length < 1048576) (h2 : ys.length < 1048576) : Runs Try.ir 118 [.agg [.bool na, .sl xs.length (lm xs)], .agg [.bool nb, .sl ys.length (lm ys)]] (bigAV (rv na xs - rv nb ys)) := by
  have hn := rneg_run (neg := nb) hy (by omega)
  have hl : (limbs (-(rv nb ys)).natAbs).length < 1048576 := by rw [Int.natAbs_neg]; exact Nat.lt_of_le_of_lt (rv_len hy) h2
  have h := rplus_run (na := na) (nb := decide (-(rv nb ys) < 0)) hx (big_u32 (-(rv nb ys)).natAbs) h1 hl
  rw [rv_big] at h
  exact Try.run118 na nb xs ys _ _ hn h

theorem rlarge_run {neg : Bool} {xs : List Int} (hN : xs.length ≤ 1048576) : Runs Try.ir 79 [.agg [.bool neg, .sl xs.length (lm xs)]] (.bool (decide (256 < (trimL xs).length))) := by
  have h := Try.run79 neg xs (mag_run hN)
  have e : decide ((((trimL xs).length : Nat) : Int) > 256) = decide (256 < (trimL xs).length) := by rw [decide_eq_decide]; omega
  rw [e] at h
  exact h

def TBD : Table := TBC
theorem TBD_holds : THolds Try.ir TBD := TBC_holds
end Go.Proofs.Ythnnfemologhfaa
