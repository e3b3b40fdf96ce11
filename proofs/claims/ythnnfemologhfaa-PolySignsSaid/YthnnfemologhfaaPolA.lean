/- pinballref02: canonical forms, values. -/
import Derived.Test.YthnnfemologhfaaBigE
namespace Go.Proofs.Ythnnfemologhfaa
open Go.Ai
set_option maxRecDepth 100000

def Try.c43a : ICode := .seq (.seq (.region false [oM 8 3,
   o1 9 (.bin .gtr (.t 8) (.c (.int .i64 0))),
   oM 10 9,
   oG 11 (.mov (.t 0)) 10 true,
   oG 12 (.mov (.t 3)) 10 true,
   oG 13 (.bin .sub (.t 12) (.c (.int .i64 1))) 10 true,
   oG 14 (.ixa 11 (.t 13) 2) 10 true,
   oG 15 (.ld 14 14 2 false) 10 true,
   oG 16 (.call 81 [.t 15]) 10 true,
   oG 17 (.bin .eql (.t 16) (.c (.int .i64 0))) 10 true,
   o1 18 (.pick (.t 10) (.t 17) (.c (.bool false)))])
  (.cond (.t 18) (.skip)
  (.exit 0)))
  (.block 1 (.region false [oM 19 3,
   o1 20 (.bin .sub (.t 19) (.c (.int .i64 1))),
   oM 3 20]))
def Try.s43a (rs : List Rn) (n : Int) : State := (.val (.sl rs.length (pc rs)) :: (dds 2 (.val (.int .i64 n) :: (dds 31 []))))
theorem Try.k43a_1 (rs : List Rn) (n : Int)  (c1 : (decide (n > 0)) = true)
    (c2 : ((sgnI (rval (rs.getD (Int.toNat (IntKind.i64.wrap (n - 1))) z0))) == 0) = true)
    (n1 : 0 ≤ (IntKind.i64.wrap (n - 1)) ∧ (IntKind.i64.wrap (n - 1)) < ((rs.length : Nat) : Int))
    (n2 : Runs Try.ir 81 [.agg [.bool ((rs.getD (Int.toNat (IntKind.i64.wrap (n - 1))) z0).1), .sl ((rs.getD (Int.toNat (IntKind.i64.wrap (n - 1))) z0).2.length) (lm (rs.getD (Int.toNat (IntKind.i64.wrap (n - 1))) z0).2)]] (.int .i64 (sgnI (rval (rs.getD (Int.toNat (IntKind.i64.wrap (n - 1))) z0))))) : RunsW Try.ir Try.c43a (Try.s43a rs n) .norm (Try.s43a rs (IntKind.i64.wrap (n - 1))) :=
  (RunsW.script (t := (.val (.sl rs.length (pc rs)) :: (dds 2 (.val (.int .i64 (IntKind.i64.wrap (n - 1))) :: (dds 31 []))))) (ex := .norm) (ps := [(decide (n > 0)) = true, 0 ≤ (IntKind.i64.wrap (n - 1)) ∧ (IntKind.i64.wrap (n - 1)) < ((rs.length : Nat) : Int), takeA (List.drop (Int.toNat (IntKind.i64.wrap (n - 1)) * 2) (pc rs)) 0 2 false = some (.agg [.bool ((rs.getD (Int.toNat (IntKind.i64.wrap (n - 1))) z0).1), .sl ((rs.getD (Int.toNat (IntKind.i64.wrap (n - 1))) z0).2.length) (lm (rs.getD (Int.toNat (IntKind.i64.wrap (n - 1))) z0).2)]), Runs Try.ir 81 [.agg [.bool ((rs.getD (Int.toNat (IntKind.i64.wrap (n - 1))) z0).1), .sl ((rs.getD (Int.toNat (IntKind.i64.wrap (n - 1))) z0).2.length) (lm (rs.getD (Int.toNat (IntKind.i64.wrap (n - 1))) z0).2)]] (.int .i64 (sgnI (rval (rs.getD (Int.toNat (IntKind.i64.wrap (n - 1))) z0)))), ((sgnI (rval (rs.getD (Int.toNat (IntKind.i64.wrap (n - 1))) z0))) == 0) = true]) TBE_holds 400 [.b true, .v (.agg [.bool ((rs.getD (Int.toNat (IntKind.i64.wrap (n - 1))) z0).1), .sl ((rs.getD (Int.toNat (IntKind.i64.wrap (n - 1))) z0).2.length) (lm (rs.getD (Int.toNat (IntKind.i64.wrap (n - 1))) z0).2)]), .r (.int .i64 (sgnI (rval (rs.getD (Int.toNat (IntKind.i64.wrap (n - 1))) z0)))), .b true] [0, 3] (by kernel_rfl) ⟨c1, n1, (take_pcI n1), n2, c2, trivial⟩)

theorem Try.k43a_2 (rs : List Rn) (n : Int)  (c1 : (decide (n > 0)) = true)
    (c2 : ((sgnI (rval (rs.getD (Int.toNat (IntKind.i64.wrap (n - 1))) z0))) == 0) = false)
    (n1 : 0 ≤ (IntKind.i64.wrap (n - 1)) ∧ (IntKind.i64.wrap (n - 1)) < ((rs.length : Nat) : Int))
    (n2 : Runs Try.ir 81 [.agg [.bool ((rs.getD (Int.toNat (IntKind.i64.wrap (n - 1))) z0).1), .sl ((rs.getD (Int.toNat (IntKind.i64.wrap (n - 1))) z0).2.length) (lm (rs.getD (Int.toNat (IntKind.i64.wrap (n - 1))) z0).2)]] (.int .i64 (sgnI (rval (rs.getD (Int.toNat (IntKind.i64.wrap (n - 1))) z0))))) : RunsW Try.ir Try.c43a (Try.s43a rs n) (.exit 0) (Try.s43a rs n) :=
  (RunsW.script (t := (.val (.sl rs.length (pc rs)) :: (dds 2 (.val (.int .i64 n) :: (dds 31 []))))) (ex := (.exit 0)) (ps := [(decide (n > 0)) = true, 0 ≤ (IntKind.i64.wrap (n - 1)) ∧ (IntKind.i64.wrap (n - 1)) < ((rs.length : Nat) : Int), takeA (List.drop (Int.toNat (IntKind.i64.wrap (n - 1)) * 2) (pc rs)) 0 2 false = some (.agg [.bool ((rs.getD (Int.toNat (IntKind.i64.wrap (n - 1))) z0).1), .sl ((rs.getD (Int.toNat (IntKind.i64.wrap (n - 1))) z0).2.length) (lm (rs.getD (Int.toNat (IntKind.i64.wrap (n - 1))) z0).2)]), Runs Try.ir 81 [.agg [.bool ((rs.getD (Int.toNat (IntKind.i64.wrap (n - 1))) z0).1), .sl ((rs.getD (Int.toNat (IntKind.i64.wrap (n - 1))) z0).2.length) (lm (rs.getD (Int.toNat (IntKind.i64.wrap (n - 1))) z0).2)]] (.int .i64 (sgnI (rval (rs.getD (Int.toNat (IntKind.i64.wrap (n - 1))) z0)))), ((sgnI (rval (rs.getD (Int.toNat (IntKind.i64.wrap (n - 1))) z0))) == 0) = false]) TBE_holds 400 [.b true, .v (.agg [.bool ((rs.getD (Int.toNat (IntKind.i64.wrap (n - 1))) z0).1), .sl ((rs.getD (Int.toNat (IntKind.i64.wrap (n - 1))) z0).2.length) (lm (rs.getD (Int.toNat (IntKind.i64.wrap (n - 1))) z0).2)]), .r (.int .i64 (sgnI (rval (rs.getD (Int.toNat (IntKind.i64.wrap (n - 1))) z0)))), .b false] [0, 3] (by kernel_rfl) ⟨c1, n1, (take_pcI n1), n2, c2, trivial⟩)

theorem Try.k43a_3 (rs : List Rn) (n : Int)  (c1 : (decide (n > 0)) = false) : RunsW Try.ir Try.c43a (Try.s43a rs n) (.exit 0) (Try.s43a rs n) :=
  (RunsW.script (t := (.val (.sl rs.length (pc rs)) :: (dds 2 (.val (.int .i64 n) :: (dds 31 []))))) (ex := (.exit 0)) (ps := [(decide (n > 0)) = false, false = false]) TBE_holds 400 [.b false, .b false] [0, 3] (by kernel_rfl) ⟨c1, rfl, trivial⟩)

def Try.c43b : ICode := .seq (.seq (.region false [oM 21 5,
   oM 22 3,
   oB 23 .lss 21 22])
  (.cond (.t 23) (.skip)
  (.exit 2)))
  (.seq (.block 3 (.region false [o1 26 (.tra 4),
   oM 27 0,
   oM 28 5,
   o1 29 (.ixa 27 (.t 28) 2),
   o1 30 (.ld 29 29 2 false),
   oC 31 93 [30],
   o1 32 (.bls 1 [.bool false, .sl 0 []] [(0, 2, .t 31)]),
   o1 33 (.apd true (.t 26) (.t 32) 2),
   o1 4 (.tra 33)]))
  (.region false [oM 24 5,
   o1 25 (.bin .add (.t 24) (.c (.int .i64 1))),
   oM 5 25]))
def Try.s43b (rs : List Rn) (n : Int) (k : Nat) (cs : List AV) (i : Int) : State := (.val (.sl rs.length (pc rs)) :: (dds 2 (.val (.int .i64 n) :: (.own 2 k cs :: (.val (.int .i64 i) :: (dds 29 []))))))
theorem Try.k43b_1 (rs : List Rn) (n : Int) (k : Nat) (cs : List AV) (i : Int)  (c1 : (decide (i < n)) = true)
    (n1 : 0 ≤ i ∧ i < ((rs.length : Nat) : Int))
    (n2 : k + 1 ≤ 1048576)
    (n3 : Runs Try.ir 93 [.agg [.bool ((rs.getD (Int.toNat i) z0).1), .sl ((rs.getD (Int.toNat i) z0).2.length) (lm (rs.getD (Int.toNat i) z0).2)]] (.agg [.bool (decide ((rval (rs.getD (Int.toNat i) z0)) < 0)), .sl ((limbs (Int.natAbs (rval (rs.getD (Int.toNat i) z0)))).length) (lm (limbs (Int.natAbs (rval (rs.getD (Int.toNat i) z0)))))])) : RunsW Try.ir Try.c43b (Try.s43b rs n k cs i) .norm (Try.s43b rs n (k + 1) (cs ++ ([.bool (decide ((rval (rs.getD (Int.toNat i) z0)) < 0)), .sl ((limbs (Int.natAbs (rval (rs.getD (Int.toNat i) z0)))).length) (lm (limbs (Int.natAbs (rval (rs.getD (Int.toNat i) z0)))))] : List AV)) (IntKind.i64.wrap (i + 1))) :=
  (RunsW.script (t := (.val (.sl rs.length (pc rs)) :: (dds 2 (.val (.int .i64 n) :: (.own 2 (k + 1) (cs ++ ([.bool (decide ((rval (rs.getD (Int.toNat i) z0)) < 0)), .sl ((limbs (Int.natAbs (rval (rs.getD (Int.toNat i) z0)))).length) (lm (limbs (Int.natAbs (rval (rs.getD (Int.toNat i) z0)))))] : List AV)) :: (.val (.int .i64 (IntKind.i64.wrap (i + 1))) :: (dds 29 []))))))) (ex := .norm) (ps := [(decide (i < n)) = true, 0 ≤ i ∧ i < ((rs.length : Nat) : Int), takeA (List.drop (Int.toNat i * 2) (pc rs)) 0 2 false = some (.agg [.bool ((rs.getD (Int.toNat i) z0).1), .sl ((rs.getD (Int.toNat i) z0).2.length) (lm (rs.getD (Int.toNat i) z0).2)]), Runs Try.ir 93 [.agg [.bool ((rs.getD (Int.toNat i) z0).1), .sl ((rs.getD (Int.toNat i) z0).2.length) (lm (rs.getD (Int.toNat i) z0).2)]] (.agg [.bool (decide ((rval (rs.getD (Int.toNat i) z0)) < 0)), .sl ((limbs (Int.natAbs (rval (rs.getD (Int.toNat i) z0)))).length) (lm (limbs (Int.natAbs (rval (rs.getD (Int.toNat i) z0)))))]), List.length ([.bool (decide ((rval (rs.getD (Int.toNat i) z0)) < 0)), .sl ((limbs (Int.natAbs (rval (rs.getD (Int.toNat i) z0)))).length) (lm (limbs (Int.natAbs (rval (rs.getD (Int.toNat i) z0)))))] : List AV) = 1 * 2, k + 1 ≤ 1048576]) TBE_holds 400 [.b true, .v (.agg [.bool ((rs.getD (Int.toNat i) z0).1), .sl ((rs.getD (Int.toNat i) z0).2.length) (lm (rs.getD (Int.toNat i) z0).2)]), .r (.agg [.bool (decide ((rval (rs.getD (Int.toNat i) z0)) < 0)), .sl ((limbs (Int.natAbs (rval (rs.getD (Int.toNat i) z0)))).length) (lm (limbs (Int.natAbs (rval (rs.getD (Int.toNat i) z0)))))])] [0, 3, 4, 5] (by kernel_rfl) ⟨c1, n1, (take_pcI n1), n3, rfl, n2, trivial⟩)

theorem Try.k43b_2 (rs : List Rn) (n : Int) (k : Nat) (cs : List AV) (i : Int)  (c1 : (decide (i < n)) = false) : RunsW Try.ir Try.c43b (Try.s43b rs n k cs i) (.exit 2) (Try.s43b rs n k cs i) :=
  (RunsW.script (t := (.val (.sl rs.length (pc rs)) :: (dds 2 (.val (.int .i64 n) :: (.own 2 k cs :: (.val (.int .i64 i) :: (dds 29 []))))))) (ex := (.exit 2)) (ps := [(decide (i < n)) = false]) TBE_holds 400 [.b false] [0, 3, 4, 5] (by kernel_rfl) ⟨c1, trivial⟩)

theorem Try.run43 (rs : List Rn) (n i : Int) (k : Nat) (cs : List AV) (hl1 : RunsW Try.ir (.loop Try.c43a) (Try.s43a rs ((rs.length : Nat) : Int)) (.exit 0) (Try.s43a rs n))
    (hl2 : RunsW Try.ir (.loop Try.c43b) (Try.s43b rs n 0 [] 0) (.exit 2) (Try.s43b rs n k cs i)) : Runs Try.ir 43 [.sl rs.length (pc rs)] (.fresh 2 k cs) :=
  Runs.of_bodyW (fn := Try.i43) (s := (.val (.sl rs.length (pc rs)) :: (dds 1 (.own 2 k cs :: (.val (.int .i64 n) :: (dds 1 (.val (.int .i64 i) :: (dds 29 [])))))))) (ex := .ret) rfl rfl
    (RunsW.seq (RunsW.script (t := (.val (.sl rs.length (pc rs)) :: (dds 1 (.own 2 0 [] :: (dds 32 []))))) (ex := .norm) (ps := []) TBE_holds 400 [] [0, 2] (by kernel_rfl) trivial)
    (RunsW.seq (RunsW.script (t := (.val (.sl rs.length (pc rs)) :: (dds 2 (.val (.int .i64 ((rs.length : Nat) : Int)) :: (dds 31 []))))) (ex := .norm) (ps := []) TBE_holds 400 [] [0, 3] (by kernel_rfl) trivial)
    (RunsW.seq (RunsW.block hl1)
    (RunsW.seq (RunsW.script (t := (.val (.sl rs.length (pc rs)) :: (dds 2 (.val (.int .i64 n) :: (.own 2 0 [] :: (dds 30 [])))))) (ex := .norm) (ps := []) TBE_holds 400 [] [0, 3, 4] (by kernel_rfl) trivial)
    (RunsW.seq (RunsW.seq (RunsW.script (t := (.val (.sl rs.length (pc rs)) :: (dds 2 (.val (.int .i64 n) :: (.own 2 0 [] :: (.val (.int .i64 0) :: (dds 29 []))))))) (ex := .norm) (ps := []) TBE_holds 400 [] [0, 3, 4, 5] (by kernel_rfl) trivial)
    (RunsW.block hl2))
    (RunsW.script (t := (.val (.sl rs.length (pc rs)) :: (dds 1 (.own 2 k cs :: (.val (.int .i64 n) :: (dds 1 (.val (.int .i64 i) :: (dds 29 [])))))))) (ex := .ret) (ps := []) TBE_holds 400 [] [0, 2, 3, 5] (by kernel_rfl) trivial)))))) (by intro i e; cases e) rfl

def Try.c82 : ICode := .seq (.seq (.region false [oM 16 9,
   o1 17 (.bin .geq (.t 16) (.c (.int .i64 0)))])
  (.cond (.t 17) (.skip)
  (.exit 0)))
  (.seq (.block 1 (.region true [o1 20 (.ld 8 8 2 false),
   o1 21 (.ld 4 4 2 false),
   oC 22 105 [20, 21],
   oM 23 7,
   oM 24 9,
   o1 25 (.ixa 23 (.t 24) 2),
   o1 26 (.ld 25 25 2 false),
   oM 27 2,
   oM 28 7,
   o1 29 (.len (.t 28)),
   o1 30 (.bin .sub (.t 29) (.c (.int .i64 1))),
   oM 31 9,
   oB 32 .sub 30 31,
   oB 33 .mul 27 32,
   oC 34 126 [26, 33],
   oC 35 104 [22, 34],
   oN (.st 8 8 2 (.t 35))]))
  (.region false [oM 18 9,
   o1 19 (.bin .sub (.t 18) (.c (.int .i64 1))),
   oM 9 19]))
def Try.s82 (ts : List Rn) (r : Rn) (e : Int) (w : Rn) (i : Int) : State := (dds 2 (.val (.int .i64 e) :: (dds 1 (.box [.bool r.1, .sl r.2.length (lm r.2)] :: (dds 1 (.box [.bool false, .sl 0 []] :: (.val (.sl ts.length (pc ts)) :: (.box [.bool w.1, .sl w.2.length (lm w.2)] :: (.val (.int .i64 i) :: (dds 27 []))))))))))
theorem Try.k82_1 (ts : List Rn) (r : Rn) (e : Int) (w : Rn) (i : Int) (u : Int) (c1 : (decide (i ≥ 0)) = true)
    (n1 : 0 ≤ i ∧ i < ((ts.length : Nat) : Int))
    (n2 : Runs Try.ir 105 [.agg [.bool w.1, .sl w.2.length (lm w.2)], .agg [.bool r.1, .sl r.2.length (lm r.2)]] (.agg [.bool (decide (((rval w) * (rval r)) < 0)), .sl ((limbs (Int.natAbs ((rval w) * (rval r)))).length) (lm (limbs (Int.natAbs ((rval w) * (rval r)))))]))
    (n3 : Runs Try.ir 126 [.agg [.bool ((ts.getD (Int.toNat i) z0).1), .sl ((ts.getD (Int.toNat i) z0).2.length) (lm (ts.getD (Int.toNat i) z0).2)], .int .i64 (IntKind.i64.wrap (e * (IntKind.i64.wrap ((IntKind.i64.wrap (((ts.length : Nat) : Int) - 1)) - i))))] (.agg [.bool (decide (u < 0)), .sl ((limbs (Int.natAbs u)).length) (lm (limbs (Int.natAbs u)))]))
    (n4 : Runs Try.ir 104 [.agg [.bool (decide (((rval w) * (rval r)) < 0)), .sl ((limbs (Int.natAbs ((rval w) * (rval r)))).length) (lm (limbs (Int.natAbs ((rval w) * (rval r)))))], .agg [.bool (decide (u < 0)), .sl ((limbs (Int.natAbs u)).length) (lm (limbs (Int.natAbs u)))]] (.agg [.bool (decide ((((rval w) * (rval r)) + u) < 0)), .sl ((limbs (Int.natAbs (((rval w) * (rval r)) + u))).length) (lm (limbs (Int.natAbs (((rval w) * (rval r)) + u))))])) : RunsW Try.ir Try.c82 (Try.s82 ts r e w i) .norm (Try.s82 ts r e (cn (((rval w) * (rval r)) + u)) (IntKind.i64.wrap (i - 1))) :=
  (RunsW.script (t := (dds 2 (.val (.int .i64 e) :: (dds 1 (.box [.bool r.1, .sl r.2.length (lm r.2)] :: (dds 1 (.box [.bool false, .sl 0 []] :: (.val (.sl ts.length (pc ts)) :: (.box [.bool (decide ((((rval w) * (rval r)) + u) < 0)), .sl ((limbs (Int.natAbs (((rval w) * (rval r)) + u))).length) (lm (limbs (Int.natAbs (((rval w) * (rval r)) + u))))] :: (.val (.int .i64 (IntKind.i64.wrap (i - 1))) :: (dds 27 []))))))))))) (ex := .norm) (ps := [(decide (i ≥ 0)) = true, Runs Try.ir 105 [.agg [.bool w.1, .sl w.2.length (lm w.2)], .agg [.bool r.1, .sl r.2.length (lm r.2)]] (.agg [.bool (decide (((rval w) * (rval r)) < 0)), .sl ((limbs (Int.natAbs ((rval w) * (rval r)))).length) (lm (limbs (Int.natAbs ((rval w) * (rval r)))))]), 0 ≤ i ∧ i < ((ts.length : Nat) : Int), takeA (List.drop (Int.toNat i * 2) (pc ts)) 0 2 false = some (.agg [.bool ((ts.getD (Int.toNat i) z0).1), .sl ((ts.getD (Int.toNat i) z0).2.length) (lm (ts.getD (Int.toNat i) z0).2)]), Runs Try.ir 126 [.agg [.bool ((ts.getD (Int.toNat i) z0).1), .sl ((ts.getD (Int.toNat i) z0).2.length) (lm (ts.getD (Int.toNat i) z0).2)], .int .i64 (IntKind.i64.wrap (e * (IntKind.i64.wrap ((IntKind.i64.wrap (((ts.length : Nat) : Int) - 1)) - i))))] (.agg [.bool (decide (u < 0)), .sl ((limbs (Int.natAbs u)).length) (lm (limbs (Int.natAbs u)))]), Runs Try.ir 104 [.agg [.bool (decide (((rval w) * (rval r)) < 0)), .sl ((limbs (Int.natAbs ((rval w) * (rval r)))).length) (lm (limbs (Int.natAbs ((rval w) * (rval r)))))], .agg [.bool (decide (u < 0)), .sl ((limbs (Int.natAbs u)).length) (lm (limbs (Int.natAbs u)))]] (.agg [.bool (decide ((((rval w) * (rval r)) + u) < 0)), .sl ((limbs (Int.natAbs (((rval w) * (rval r)) + u))).length) (lm (limbs (Int.natAbs (((rval w) * (rval r)) + u))))])]) TBE_holds 400 [.b true, .r (.agg [.bool (decide (((rval w) * (rval r)) < 0)), .sl ((limbs (Int.natAbs ((rval w) * (rval r)))).length) (lm (limbs (Int.natAbs ((rval w) * (rval r)))))]), .v (.agg [.bool ((ts.getD (Int.toNat i) z0).1), .sl ((ts.getD (Int.toNat i) z0).2.length) (lm (ts.getD (Int.toNat i) z0).2)]), .r (.agg [.bool (decide (u < 0)), .sl ((limbs (Int.natAbs u)).length) (lm (limbs (Int.natAbs u)))]), .r (.agg [.bool (decide ((((rval w) * (rval r)) + u) < 0)), .sl ((limbs (Int.natAbs (((rval w) * (rval r)) + u))).length) (lm (limbs (Int.natAbs (((rval w) * (rval r)) + u))))])] [2, 4, 6, 7, 8, 9] (by kernel_rfl) ⟨c1, n2, n1, (take_pcI n1), n3, n4, trivial⟩)

theorem Try.k82_2 (ts : List Rn) (r : Rn) (e : Int) (w : Rn) (i : Int)  (c1 : (decide (i ≥ 0)) = false) : RunsW Try.ir Try.c82 (Try.s82 ts r e w i) (.exit 0) (Try.s82 ts r e w i) :=
  (RunsW.script (t := (dds 2 (.val (.int .i64 e) :: (dds 1 (.box [.bool r.1, .sl r.2.length (lm r.2)] :: (dds 1 (.box [.bool false, .sl 0 []] :: (.val (.sl ts.length (pc ts)) :: (.box [.bool w.1, .sl w.2.length (lm w.2)] :: (.val (.int .i64 i) :: (dds 27 []))))))))))) (ex := (.exit 0)) (ps := [(decide (i ≥ 0)) = false]) TBE_holds 400 [.b false] [2, 4, 6, 7, 8, 9] (by kernel_rfl) ⟨c1, trivial⟩)

theorem Try.run82 (rs ts : List Rn) (r w : Rn) (e i : Int) (n1 : Runs Try.ir 43 [.sl rs.length (pc rs)] (.fresh 2 ts.length (pc ts)))
    (hl2 : RunsW Try.ir (.loop Try.c82) (Try.s82 ts r e (false, []) (IntKind.i64.wrap (((ts.length : Nat) : Int) - 1))) (.exit 0) (Try.s82 ts r e w i)) : Runs Try.ir 82 [.sl rs.length (pc rs), .agg [.bool r.1, .sl r.2.length (lm r.2)], .int .i64 e] (.agg [.bool w.1, .sl w.2.length (lm w.2)]) :=
  Runs.of_bodyW (fn := Try.i82) (s := (dds 2 (.val (.int .i64 e) :: (dds 1 (.box [.bool r.1, .sl r.2.length (lm r.2)] :: (dds 1 (.box [.bool w.1, .sl w.2.length (lm w.2)] :: (.val (.sl ts.length (pc ts)) :: (.box [.bool w.1, .sl w.2.length (lm w.2)] :: (.val (.int .i64 i) :: (dds 26 (.val (.agg [.bool w.1, .sl w.2.length (lm w.2)]) :: [])))))))))))) (ex := .ret) rfl rfl
    (RunsW.seq (RunsW.script (t := (.val (.sl rs.length (pc rs)) :: (.val (.agg [.bool r.1, .sl r.2.length (lm r.2)]) :: (.val (.int .i64 e) :: (dds 1 (.box [.bool r.1, .sl r.2.length (lm r.2)] :: (dds 1 (.box [.bool false, .sl 0 []] :: (dds 30 []))))))))) (ex := .norm) (ps := []) TBE_holds 400 [] [0, 1, 2, 4, 6] (by kernel_rfl) trivial)
    (RunsW.seq (RunsW.script (t := (.val (.sl rs.length (pc rs)) :: (.val (.agg [.bool r.1, .sl r.2.length (lm r.2)]) :: (.val (.int .i64 e) :: (dds 1 (.box [.bool r.1, .sl r.2.length (lm r.2)] :: (dds 1 (.box [.bool false, .sl 0 []] :: (.val (.sl ts.length (pc ts)) :: (dds 2 (.val (.sl rs.length (pc rs)) :: (.val (.sl ts.length (pc ts)) :: (dds 25 []))))))))))))) (ex := .norm) (ps := [Runs Try.ir 43 [.sl rs.length (pc rs)] (.fresh 2 ts.length (pc ts))]) TBE_holds 400 [.r (.fresh 2 ts.length (pc ts))] [0, 1, 2, 4, 6, 7, 10, 11] (by kernel_rfl) ⟨n1, trivial⟩)
    (RunsW.seq (RunsW.script (t := (.val (.sl rs.length (pc rs)) :: (.val (.agg [.bool r.1, .sl r.2.length (lm r.2)]) :: (.val (.int .i64 e) :: (dds 1 (.box [.bool r.1, .sl r.2.length (lm r.2)] :: (dds 1 (.box [.bool false, .sl 0 []] :: (.val (.sl ts.length (pc ts)) :: (.box [.bool false, .sl 0 []] :: (dds 1 (.val (.sl rs.length (pc rs)) :: (.val (.sl ts.length (pc ts)) :: (.val (.agg [.bool false, .sl 0 []]) :: (dds 24 []))))))))))))))) (ex := .norm) (ps := []) TBE_holds 400 [] [0, 1, 2, 4, 6, 7, 8, 10, 11, 12] (by kernel_rfl) trivial)
    (RunsW.seq (RunsW.seq (RunsW.script (t := (dds 2 (.val (.int .i64 e) :: (dds 1 (.box [.bool r.1, .sl r.2.length (lm r.2)] :: (dds 1 (.box [.bool false, .sl 0 []] :: (.val (.sl ts.length (pc ts)) :: (.box [.bool false, .sl 0 []] :: (.val (.int .i64 (IntKind.i64.wrap (((ts.length : Nat) : Int) - 1))) :: (dds 27 []))))))))))) (ex := .norm) (ps := []) TBE_holds 400 [] [2, 4, 6, 7, 8, 9] (by kernel_rfl) trivial)
    (RunsW.block hl2))
    (RunsW.script (t := (dds 2 (.val (.int .i64 e) :: (dds 1 (.box [.bool r.1, .sl r.2.length (lm r.2)] :: (dds 1 (.box [.bool w.1, .sl w.2.length (lm w.2)] :: (.val (.sl ts.length (pc ts)) :: (.box [.bool w.1, .sl w.2.length (lm w.2)] :: (.val (.int .i64 i) :: (dds 26 (.val (.agg [.bool w.1, .sl w.2.length (lm w.2)]) :: [])))))))))))) (ex := .ret) (ps := []) TBE_holds 400 [] [2, 4, 6, 7, 8, 9, 36] (by kernel_rfl) trivial))))) (by intro i e; cases e) rfl


theorem pc_snoc (rs : List Rn) (r : Rn) : pc rs ++ ([.bool r.1, .sl r.2.length (lm r.2)] : List AV) = pc (rs ++ [r]) := by rw [pc_append]; rfl
theorem map_range_succ (g : Nat → Rn) (i : Nat) : (List.range (i + 1)).map g = (List.range i).map g ++ [g i] := by rw [List.range_succ, List.map_append]; rfl
theorem Try.loop43a {rs : List Rn} (hg : ∀ r ∈ rs, Good 1048576 r) (hN : rs.length ≤ 1048576) : ∀ m, m ≤ rs.length → RunsW Try.ir (.loop Try.c43a) (Try.s43a rs (m : Nat)) (.exit 0) (Try.s43a rs (topN (vals rs) m : Nat)) := by
  intro m
  induction m with
  | zero => intro _; exact RunsW.loop_out (Try.k43a_3 rs ((0 : Nat) : Int) (by simp)) (by intro e; cases e)
  | succ m ih =>
    intro hm
    have e1 : IntKind.i64.wrap (((m + 1 : Nat) : Int) - 1) = ((m : Nat) : Int) := by rw [w64 (by omega) (by omega)]; omega
    obtain ⟨g1, g2⟩ := good_getD hg m
    have hs := rsign_run (neg := (rs.getD m z0).1) g1 g2
    simp only [topN]
    rw [vals_getD]
    by_cases h0 : rval (rs.getD m z0) = 0
    · rw [if_pos h0]
      have k := Try.k43a_1 rs ((m + 1 : Nat) : Int) (by simp) (by rw [e1, Int.toNat_natCast, h0]; rfl) (by rw [e1]; omega) (by simp only [e1, Int.toNat_natCast]; exact hs)
      rw [e1] at k
      exact RunsW.loop k (ih (by omega))
    · rw [if_neg h0]
      exact RunsW.loop_out (Try.k43a_2 rs ((m + 1 : Nat) : Int) (by simp) (by rw [e1, Int.toNat_natCast, beq_eq_false_iff_ne]; unfold sgnI; (repeat' split) <;> omega) (by rw [e1]; omega) (by simp only [e1, Int.toNat_natCast]; exact hs)) (by intro e; cases e)
theorem Try.loop43b {rs : List Rn} (hg : ∀ r ∈ rs, Good 1048576 r) (hN : rs.length ≤ 1048576) (n : Nat) (hn : n ≤ rs.length) :
    RunsW Try.ir (.loop Try.c43b) (Try.s43b rs (n : Nat) 0 [] 0) (.exit 2) (Try.s43b rs (n : Nat) n (pc ((List.range n).map fun j => cn (rval (rs.getD j z0)))) (n : Nat)) := by
  refine RunsW.up (fun i => Try.s43b rs (n : Nat) i (pc ((List.range i).map fun j => cn (rval (rs.getD j z0)))) (i : Nat)) n (by intro e; cases e) ?_ ?_ 0 (Nat.zero_le _)
  · intro i hi
    have ei : IntKind.i64.wrap (((i : Nat) : Int) + 1) = ((i + 1 : Nat) : Int) := by rw [w64 (by omega) (by omega)]; omega
    obtain ⟨g1, g2⟩ := good_getD hg i
    have k := Try.k43b_1 rs (n : Nat) i (pc ((List.range i).map fun j => cn (rval (rs.getD j z0)))) (i : Nat) (by simp; omega) (by omega) (by omega) (by simp only [Int.toNat_natCast]; exact rtrim_run g1 g2)
    refine k.to rfl ?_
    simp only [Int.toNat_natCast, ei]
    rw [map_range_succ, ← pc_snoc]
    rfl
  · exact Try.k43b_2 rs (n : Nat) n _ (n : Nat) (by simp)
theorem qtrim_run {rs : List Rn} (hg : ∀ r ∈ rs, Good 1048576 r) (hN : rs.length ≤ 1048576) : Runs Try.ir 43 [.sl rs.length (pc rs)] (.fresh 2 (trimL (vals rs)).length (pk (trimL (vals rs)))) := by
  have hle := topN_le (vals rs) rs.length
  have hlen : (trimL (vals rs)).length = topN (vals rs) rs.length := by rw [trim_length, vals_length]
  have h := Try.run43 rs _ _ _ _ (Try.loop43a hg hN rs.length (Nat.le_refl _)) (Try.loop43b hg hN _ hle)
  have e3 : (List.range (topN (vals rs) rs.length)).map (fun j => cn (rval (rs.getD j z0))) = (trimL (vals rs)).map cn := by
    rw [← range_cn, hlen]
    apply List.map_congr_left
    intro i _
    rw [getD_trim, vals_getD]
  rw [e3, ← hlen] at h
  exact h


theorem hfits_pow (e : Nat) : Fits (e / 32 + 1) ((2 : Int) ^ e) := by
  unfold Fits
  have h1 : ((2 : Int) ^ e).natAbs = 2 ^ e := by rw [Int.natAbs_pow]; rfl
  have h2 : (4294967296 : Nat) ^ (e / 32 + 1) = 2 ^ (32 * (e / 32 + 1)) := by rw [Nat.pow_mul]
  rw [h1, h2]
  exact Nat.pow_lt_pow_right (by decide) (by omega)
theorem hv_fits {K X : Nat} {x : Int} (hx : Fits X x) (e : Nat) : ∀ {ts : List Int}, (∀ t ∈ ts, Fits K t) → Fits (K + 1 + ts.length * (X + (e / 32 + 1) + 1)) (hv ts x (2 ^ e))
  | [], _ => fits_zero _
  | t :: ts, h => by
    have ih := hv_fits (K := K) hx e (ts := ts) fun y hy => h y (List.mem_cons_of_mem _ hy)
    have h1 : Fits (K + (e * ts.length / 32 + 1)) (t * ((2 : Int) ^ e) ^ ts.length) := by
      rw [← Int.pow_mul]
      exact (h t List.mem_cons_self).mul (hfits_pow _)
    have h2 := hx.mul ih
    have hb : e * ts.length / 32 ≤ ts.length * (e / 32 + 1) := by
      have : e * ts.length ≤ 32 * (ts.length * (e / 32 + 1)) := by
        have h3 : e ≤ 32 * (e / 32 + 1) := by omega
        calc e * ts.length ≤ (32 * (e / 32 + 1)) * ts.length := Nat.mul_le_mul_right _ h3
          _ = 32 * (ts.length * (e / 32 + 1)) := by rw [Nat.mul_assoc, Nat.mul_comm (e / 32 + 1)]
      omega
    have hb2 : ts.length * (e / 32 + 1) ≤ ts.length * (X + (e / 32 + 1) + 1) := Nat.mul_le_mul_left _ (by omega)
    have h3 := (h1.mono (k := K + 1 + ts.length * (X + (e / 32 + 1) + 1) + X + (e / 32 + 1)) (by omega)).add (h2.mono (by omega))
    simp only [hv, List.length_cons, Nat.add_mul, Nat.one_mul]
    exact h3.mono (by omega)
theorem Try.loop82 {K X : Nat} {ts : List Rn} {r : Rn} (ht : ∀ t ∈ ts, Good K t) (hr : Good X r) (e : Nat) (hS : K + 2 + (ts.length + 1) * (X + (e / 32 + 1) + 1) ≤ 1048576) (he : e ≤ 1073741824) :
    ∀ n (w : Rn), n ≤ ts.length → rval w = hv ((vals ts).drop n) (rval r) (2 ^ e) → Good (K + 1 + (ts.length - n) * (X + (e / 32 + 1) + 1)) w → 
    ∃ w', rval w' = hv (vals ts) (rval r) (2 ^ e) ∧ (w' = w ∧ n = 0 ∨ w' = cn (hv (vals ts) (rval r) (2 ^ e))) ∧ RunsW Try.ir (.loop Try.c82) (Try.s82 ts r (e : Nat) w (((n : Nat) : Int) - 1)) (.exit 0) (Try.s82 ts r (e : Nat) w' (-1)) := by
  intro n
  induction n with
  | zero =>
    intro w _ hw _
    refine ⟨w, by simpa using hw, .inl ⟨rfl, rfl⟩, ?_⟩
    exact RunsW.loop_out (Try.k82_2 ts r (e : Nat) w (((0 : Nat) : Int) - 1) (by simp)) (by intro e; cases e)
  | succ n ih =>
    intro w hn hw gw
    obtain ⟨t1, t2⟩ := good_getD ht n
    have e0 : ((n + 1 : Nat) : Int) - 1 = ((n : Nat) : Int) := by omega
    have hK1 : (ts.length - (n + 1)) * (X + (e / 32 + 1) + 1) + (X + (e / 32 + 1) + 1) = (ts.length - n) * (X + (e / 32 + 1) + 1) := by
      rw [show ts.length - n = ts.length - (n + 1) + 1 by omega, Nat.add_mul, Nat.one_mul]
    have hK2 : (ts.length - n) * (X + (e / 32 + 1) + 1) ≤ (ts.length + 1) * (X + (e / 32 + 1) + 1) := Nat.mul_le_mul_right _ (by omega)
    have hsh : e * (ts.length - 1 - n) / 32 ≤ (ts.length - (n + 1)) * (X + (e / 32 + 1) + 1) := by
      have h3 : e ≤ 32 * (e / 32 + 1) := by omega
      have h4 : e * (ts.length - 1 - n) ≤ 32 * ((ts.length - (n + 1)) * (e / 32 + 1)) := by
        calc e * (ts.length - 1 - n) ≤ (32 * (e / 32 + 1)) * (ts.length - 1 - n) := Nat.mul_le_mul_right _ h3
          _ = 32 * ((ts.length - (n + 1)) * (e / 32 + 1)) := by rw [Nat.mul_assoc, Nat.mul_comm (e / 32 + 1), show ts.length - 1 - n = ts.length - (n + 1) by omega]
      have h5 : (ts.length - (n + 1)) * (e / 32 + 1) ≤ (ts.length - (n + 1)) * (X + (e / 32 + 1) + 1) := Nat.mul_le_mul_left _ (by omega)
      omega
    have w1 : IntKind.i64.wrap (((e : Nat) : Int) * IntKind.i64.wrap (IntKind.i64.wrap (((ts.length : Nat) : Int) - 1) - ((n : Nat) : Int))) = ((e * (ts.length - 1 - n) : Nat) : Int) := by
      have hle : ts.length ≤ 1048576 := by
        have : ts.length * 1 ≤ (ts.length + 1) * (X + (e / 32 + 1) + 1) := Nat.mul_le_mul (by omega) (by omega)
        omega
      rw [w64 (n := ((ts.length : Nat) : Int) - 1) (by omega) (by omega), w64 (n := ((ts.length : Nat) : Int) - 1 - ((n : Nat) : Int)) (by omega) (by omega)]
      have e3 : ((ts.length : Nat) : Int) - 1 - ((n : Nat) : Int) = ((ts.length - 1 - n : Nat) : Int) := by omega
      rw [e3, ← Int.natCast_mul]
      have : e * (ts.length - 1 - n) ≤ 1073741824 * 1048576 := Nat.mul_le_mul he (by omega)
      exact w64 (by omega) (by omega)
    have w2 : IntKind.i64.wrap (((n : Nat) : Int) - 1) = ((n : Nat) : Int) - 1 := by
      have hle : ts.length ≤ 1048576 := by
        have : ts.length * 1 ≤ (ts.length + 1) * (X + (e / 32 + 1) + 1) := Nat.mul_le_mul (by omega) (by omega)
        omega
      exact w64 (by omega) (by omega)
    have hst : hv ((vals ts).drop n) (rval r) (2 ^ e) = rval w * rval r + rval (ts.getD n z0) * 2 ^ (e * (ts.length - 1 - n)) := by
      have h1 : (vals ts).drop n = (vals ts).getD n 0 :: (vals ts).drop (n + 1) := by
        rw [List.drop_eq_getElem_cons (by rw [vals_length]; omega)]
        congr 1
        rw [List.getD_eq_getElem?_getD, List.getElem?_eq_getElem (by rw [vals_length]; omega)]; rfl
      rw [h1, hv, vals_getD, List.length_drop, vals_length, ← hw, ← Int.pow_mul, show ts.length - (n + 1) = ts.length - 1 - n by omega]
      generalize rval (ts.getD n z0) * 2 ^ (e * (ts.length - 1 - n)) = A
      grind
    have fw := gw.fits
    have fp := (fw.mul hr.fits)
    have ft : Fits (K + (e * (ts.length - 1 - n) / 32 + 1)) (rval (ts.getD n z0) * 2 ^ (e * (ts.length - 1 - n))) := (good_getD ht n).fits.mul (hfits_pow _)
    have hgood : Good (K + 1 + (ts.length - n) * (X + (e / 32 + 1) + 1)) (cn (rval w * rval r + rval (ts.getD n z0) * 2 ^ (e * (ts.length - 1 - n)))) := by
      refine (good_cn ((fp.mono (k := K + 1 + (ts.length - (n + 1)) * (X + (e / 32 + 1) + 1) + X + (e / 32 + 1)) (by omega)).add (ft.mono (by omega)))).mono (by omega)
    obtain ⟨w', q1, q2, q3⟩ := ih (cn (rval w * rval r + rval (ts.getD n z0) * 2 ^ (e * (ts.length - 1 - n)))) (by omega) (by rw [rval_cn, hst]) hgood
    refine ⟨w', q1, .inr ?_, ?_⟩
    · rcases q2 with ⟨g1, g2⟩ | g
      · rw [g1]
        rw [g1, rval_cn] at q1
        rw [q1]
      · exact g
    · rw [e0]
      have l1 := fp.len
      have l2 := ft.len
      obtain ⟨gw1, gw2⟩ := gw
      have k := Try.k82_1 ts r (e : Nat) w (n : Nat) (rval (ts.getD n z0) * 2 ^ (e * (ts.length - 1 - n))) (by simp) (by omega)
        (rtimes_run gw1 hr.1 (by have := hr.2; omega))
        (by rw [w1, Int.toNat_natCast]; exact rup_run t1 _ (by omega))
        (by
          have := rplus_run (na := decide (rval w * rval r < 0)) (nb := decide (rval (ts.getD n z0) * 2 ^ (e * (ts.length - 1 - n)) < 0)) (big_u32 (rval w * rval r).natAbs) (big_u32 (rval (ts.getD n z0) * 2 ^ (e * (ts.length - 1 - n))).natAbs) (by omega) (by omega)
          rw [rv_big, rv_big] at this
          exact this)
      rw [w2] at k
      exact RunsW.loop k q3
theorem qvalue_run {K X : Nat} {rs : List Rn} {r : Rn} (ht : ∀ t ∈ rs, Good K t) (hr : Good X r) (e : Nat) (hS : K + 2 + (rs.length + 1) * (X + (e / 32 + 1) + 1) ≤ 1048576) (he : e ≤ 1073741824) :
    Runs Try.ir 82 [.sl rs.length (pc rs), .agg [.bool r.1, .sl r.2.length (lm r.2)], .int .i64 (e : Nat)] (bigAV (hv (trimL (vals rs)) (rval r) (2 ^ e))) := by
  have hle : rs.length ≤ 1048576 := by
    have : rs.length * 1 ≤ (rs.length + 1) * (X + (e / 32 + 1) + 1) := Nat.mul_le_mul (by omega) (by omega)
    omega
  have hK : K ≤ 1048576 := by omega
  have htr := qtrim_run (fun r h => (ht r h).mono hK) hle
  have hl := trim_len (vals rs)
  rw [vals_length] at hl
  have gts : ∀ t ∈ (trimL (vals rs)).map cn, Good K t := good_cns (fits_mem_trim (fits_vals ht))
  have hS2 : K + 2 + (((trimL (vals rs)).map cn).length + 1) * (X + (e / 32 + 1) + 1) ≤ 1048576 := by
    have : (((trimL (vals rs)).map cn).length + 1) * (X + (e / 32 + 1) + 1) ≤ (rs.length + 1) * (X + (e / 32 + 1) + 1) := Nat.mul_le_mul_right _ (by simp; omega)
    omega
  obtain ⟨w', q1, q2, q3⟩ := Try.loop82 gts hr e hS2 he ((trimL (vals rs)).map cn).length z0 (Nat.le_refl _) (by
    rw [vals_cn, List.length_map, List.drop_length]; rfl) (good_z0 _)
  rw [vals_cn] at q1 q2
  have e1 : IntKind.i64.wrap (((((trimL (vals rs)).map cn).length : Nat) : Int) - 1) = ((((trimL (vals rs)).map cn).length : Nat) : Int) - 1 := w64 (by omega) (by rw [List.length_map]; omega)
  have hcn : w' = cn (hv (trimL (vals rs)) (rval r) (2 ^ e)) := by
    rcases q2 with ⟨g1, g2⟩ | g
    · rw [List.length_map] at g2
      rw [g1, List.eq_nil_of_length_eq_zero g2]
      rfl
    · exact g
  rw [← List.length_map (f := cn)] at htr
  have h := Try.run82 rs ((trimL (vals rs)).map cn) r w' (e : Nat) (-1) htr (by rw [e1]; exact q3)
  rw [hcn] at h
  exact h

def TPA : Table := TBE
theorem TPA_holds : THolds Try.ir TPA := TBE_holds
end Go.Proofs.Ythnnfemologhfaa
