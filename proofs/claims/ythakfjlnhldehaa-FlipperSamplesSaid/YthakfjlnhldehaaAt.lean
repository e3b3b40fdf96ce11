/- Whether conjunctions hold at a sixteenth: what the statements' function returns. -/
import Derived.Test.YthakfjlnhldehaaPolA
import Derived.Test.YthakfjlnhldehaaDisc
namespace Go.Proofs.Ythakfjlnhldehaa
open Go.Ai
set_option maxRecDepth 100000

def Try.c40i : ICode := .seq (.seq (.region false [oM 15 7,
   oM 16 0,
   oM 17 5,
   o1 18 (.ixa 16 (.t 17) 1),
   o1 19 (.ld 18 18 1 true),
   o1 20 (.len (.t 19)),
   oB 21 .lss 15 20])
  (.cond (.t 21) (.skip)
  (.exit 2)))
  (.seq (.block 3 (.seq (.region false [oM 24 0,
   oM 25 5,
   o1 26 (.ixa 24 (.t 25) 1),
   o1 27 (.ld 26 26 1 true),
   oM 28 7,
   o1 29 (.ixa 27 (.t 28) 1),
   o1 30 (.ld 29 29 1 true),
   oC 31 69 [30],
   oM 8 31])
  (.region false [oM 32 6,
   oM 33 32,
   oG 34 (.mov (.t 8)) 33 true,
   oG 35 (.mov (.t 1)) 33 true,
   oG 36 (.call 72 [.t 35]) 33 true,
   oG 37 (.call 71 [.t 34, .t 36, .c (.int .i64 4)]) 33 true,
   oG 38 (.call 70 [.t 37]) 33 true,
   oG 39 (.bin .gtr (.t 38) (.c (.int .i64 0))) 33 true,
   o1 40 (.pick (.t 33) (.t 39) (.c (.bool false))),
   oM 6 40])))
  (.region false [oM 22 7,
   o1 23 (.bin .add (.t 22) (.c (.int .i64 1))),
   oM 7 23]))
def Try.s40i (l : PPP) (j : Int) (i : Int) (o : Bool) (b : Bool) (k : Int) : State := (.val (.sl l.length (ppp l)) :: (.val (.int .i64 j) :: (dds 2 (.val (.bool o) :: (.val (.int .i64 i) :: (.val (.bool b) :: (.val (.int .i64 k) :: (dds 34 []))))))))
theorem Try.k40i_1 (l : PPP) (j : Int) (i : Int) (o : Bool) (b : Bool) (k : Int) (ts : List Rn) (v : Int) (c1 : (decide (k < (((l.getD (Int.toNat i) []).length : Nat) : Int))) = true)
    (c2 : (b) = true)
    (n1 : 0 ≤ i ∧ i < ((l.length : Nat) : Int))
    (n2 : 0 ≤ k ∧ k < (((l.getD (Int.toNat i) []).length : Nat) : Int))
    (n3 : Runs Try.ir 69 [.sl (((l.getD (Int.toNat i) []).getD (Int.toNat k) []).length) (pc ((l.getD (Int.toNat i) []).getD (Int.toNat k) []))] (.fresh 2 ts.length (pc ts)))
    (n4 : Runs Try.ir 72 [.int .i64 j] (.agg [.bool (decide (j < 0)), .sl ((limbs (Int.natAbs j)).length) (lm (limbs (Int.natAbs j)))]))
    (n5 : Runs Try.ir 71 [.sl ts.length (pc ts), .agg [.bool (decide (j < 0)), .sl ((limbs (Int.natAbs j)).length) (lm (limbs (Int.natAbs j)))], .int .i64 4] (.agg [.bool (decide (v < 0)), .sl ((limbs (Int.natAbs v)).length) (lm (limbs (Int.natAbs v)))]))
    (n6 : Runs Try.ir 70 [.agg [.bool (decide (v < 0)), .sl ((limbs (Int.natAbs v)).length) (lm (limbs (Int.natAbs v)))]] (.int .i64 (sgnI v))) : RunsW Try.ir Try.c40i (Try.s40i l j i o b k) .norm (Try.s40i l j i o (decide ((sgnI v) > 0)) (IntKind.i64.wrap (k + 1))) :=
  (RunsW.script (t := (.val (.sl l.length (ppp l)) :: (.val (.int .i64 j) :: (dds 2 (.val (.bool o) :: (.val (.int .i64 i) :: (.val (.bool (decide ((sgnI v) > 0))) :: (.val (.int .i64 (IntKind.i64.wrap (k + 1))) :: (dds 34 []))))))))) (ex := .norm) (ps := [0 ≤ i ∧ i < ((l.length : Nat) : Int), takeA (List.drop (Int.toNat i * 1) (ppp l)) 0 1 true = some (.sl ((l.getD (Int.toNat i) []).length) (pp (l.getD (Int.toNat i) []))), (decide (k < (((l.getD (Int.toNat i) []).length : Nat) : Int))) = true, 0 ≤ i ∧ i < ((l.length : Nat) : Int), takeA (List.drop (Int.toNat i * 1) (ppp l)) 0 1 true = some (.sl ((l.getD (Int.toNat i) []).length) (pp (l.getD (Int.toNat i) []))), 0 ≤ k ∧ k < (((l.getD (Int.toNat i) []).length : Nat) : Int), takeA (List.drop (Int.toNat k * 1) (pp (l.getD (Int.toNat i) []))) 0 1 true = some (.sl (((l.getD (Int.toNat i) []).getD (Int.toNat k) []).length) (pc ((l.getD (Int.toNat i) []).getD (Int.toNat k) []))), Runs Try.ir 69 [.sl (((l.getD (Int.toNat i) []).getD (Int.toNat k) []).length) (pc ((l.getD (Int.toNat i) []).getD (Int.toNat k) []))] (.fresh 2 ts.length (pc ts)), b = true, Runs Try.ir 72 [.int .i64 j] (.agg [.bool (decide (j < 0)), .sl ((limbs (Int.natAbs j)).length) (lm (limbs (Int.natAbs j)))]), Runs Try.ir 71 [.sl ts.length (pc ts), .agg [.bool (decide (j < 0)), .sl ((limbs (Int.natAbs j)).length) (lm (limbs (Int.natAbs j)))], .int .i64 4] (.agg [.bool (decide (v < 0)), .sl ((limbs (Int.natAbs v)).length) (lm (limbs (Int.natAbs v)))]), Runs Try.ir 70 [.agg [.bool (decide (v < 0)), .sl ((limbs (Int.natAbs v)).length) (lm (limbs (Int.natAbs v)))]] (.int .i64 (sgnI v))]) TPA_holds 400 [.v (.sl ((l.getD (Int.toNat i) []).length) (pp (l.getD (Int.toNat i) []))), .b true, .v (.sl ((l.getD (Int.toNat i) []).length) (pp (l.getD (Int.toNat i) []))), .v (.sl (((l.getD (Int.toNat i) []).getD (Int.toNat k) []).length) (pc ((l.getD (Int.toNat i) []).getD (Int.toNat k) []))), .r (.fresh 2 ts.length (pc ts)), .b true, .r (.agg [.bool (decide (j < 0)), .sl ((limbs (Int.natAbs j)).length) (lm (limbs (Int.natAbs j)))]), .r (.agg [.bool (decide (v < 0)), .sl ((limbs (Int.natAbs v)).length) (lm (limbs (Int.natAbs v)))]), .r (.int .i64 (sgnI v))] [0, 1, 4, 5, 6, 7] (by kernel_rfl) ⟨n1, (take_pppI n1), c1, n1, (take_pppI n1), n2, (take_ppI n2), n3, c2, n4, n5, n6, trivial⟩)

theorem Try.k40i_2 (l : PPP) (j : Int) (i : Int) (o : Bool) (b : Bool) (k : Int) (ts : List Rn) (c1 : (decide (k < (((l.getD (Int.toNat i) []).length : Nat) : Int))) = true)
    (c2 : (b) = false)
    (n1 : 0 ≤ i ∧ i < ((l.length : Nat) : Int))
    (n2 : 0 ≤ k ∧ k < (((l.getD (Int.toNat i) []).length : Nat) : Int))
    (n3 : Runs Try.ir 69 [.sl (((l.getD (Int.toNat i) []).getD (Int.toNat k) []).length) (pc ((l.getD (Int.toNat i) []).getD (Int.toNat k) []))] (.fresh 2 ts.length (pc ts))) : RunsW Try.ir Try.c40i (Try.s40i l j i o b k) .norm (Try.s40i l j i o false (IntKind.i64.wrap (k + 1))) :=
  (RunsW.script (t := (.val (.sl l.length (ppp l)) :: (.val (.int .i64 j) :: (dds 2 (.val (.bool o) :: (.val (.int .i64 i) :: (.val (.bool false) :: (.val (.int .i64 (IntKind.i64.wrap (k + 1))) :: (dds 34 []))))))))) (ex := .norm) (ps := [0 ≤ i ∧ i < ((l.length : Nat) : Int), takeA (List.drop (Int.toNat i * 1) (ppp l)) 0 1 true = some (.sl ((l.getD (Int.toNat i) []).length) (pp (l.getD (Int.toNat i) []))), (decide (k < (((l.getD (Int.toNat i) []).length : Nat) : Int))) = true, 0 ≤ i ∧ i < ((l.length : Nat) : Int), takeA (List.drop (Int.toNat i * 1) (ppp l)) 0 1 true = some (.sl ((l.getD (Int.toNat i) []).length) (pp (l.getD (Int.toNat i) []))), 0 ≤ k ∧ k < (((l.getD (Int.toNat i) []).length : Nat) : Int), takeA (List.drop (Int.toNat k * 1) (pp (l.getD (Int.toNat i) []))) 0 1 true = some (.sl (((l.getD (Int.toNat i) []).getD (Int.toNat k) []).length) (pc ((l.getD (Int.toNat i) []).getD (Int.toNat k) []))), Runs Try.ir 69 [.sl (((l.getD (Int.toNat i) []).getD (Int.toNat k) []).length) (pc ((l.getD (Int.toNat i) []).getD (Int.toNat k) []))] (.fresh 2 ts.length (pc ts)), b = false]) TPA_holds 400 [.v (.sl ((l.getD (Int.toNat i) []).length) (pp (l.getD (Int.toNat i) []))), .b true, .v (.sl ((l.getD (Int.toNat i) []).length) (pp (l.getD (Int.toNat i) []))), .v (.sl (((l.getD (Int.toNat i) []).getD (Int.toNat k) []).length) (pc ((l.getD (Int.toNat i) []).getD (Int.toNat k) []))), .r (.fresh 2 ts.length (pc ts)), .b false] [0, 1, 4, 5, 6, 7] (by kernel_rfl) ⟨n1, (take_pppI n1), c1, n1, (take_pppI n1), n2, (take_ppI n2), n3, c2, trivial⟩)

theorem Try.k40i_3 (l : PPP) (j : Int) (i : Int) (o : Bool) (b : Bool) (k : Int)  (c1 : (decide (k < (((l.getD (Int.toNat i) []).length : Nat) : Int))) = false)
    (n1 : 0 ≤ i ∧ i < ((l.length : Nat) : Int)) : RunsW Try.ir Try.c40i (Try.s40i l j i o b k) (.exit 2) (Try.s40i l j i o b k) :=
  (RunsW.script (t := (.val (.sl l.length (ppp l)) :: (.val (.int .i64 j) :: (dds 2 (.val (.bool o) :: (.val (.int .i64 i) :: (.val (.bool b) :: (.val (.int .i64 k) :: (dds 34 []))))))))) (ex := (.exit 2)) (ps := [0 ≤ i ∧ i < ((l.length : Nat) : Int), takeA (List.drop (Int.toNat i * 1) (ppp l)) 0 1 true = some (.sl ((l.getD (Int.toNat i) []).length) (pp (l.getD (Int.toNat i) []))), (decide (k < (((l.getD (Int.toNat i) []).length : Nat) : Int))) = false]) TPA_holds 400 [.v (.sl ((l.getD (Int.toNat i) []).length) (pp (l.getD (Int.toNat i) []))), .b false] [0, 1, 4, 5, 6, 7] (by kernel_rfl) ⟨n1, (take_pppI n1), c1, trivial⟩)

def Try.c40 : ICode := .seq (.seq (.region false [oM 9 5,
   oM 10 0,
   o1 11 (.len (.t 10)),
   oB 12 .lss 9 11])
  (.cond (.t 12) (.skip)
  (.exit 0)))
  (.seq (.block 1 (.seq (.region false [o1 6 (.mov (.c (.bool true)))])
  (.seq (.seq (.region false [o1 7 (.mov (.c (.int .i64 0)))])
  (.block 2 (.loop (.seq (.seq (.region false [oM 15 7,
   oM 16 0,
   oM 17 5,
   o1 18 (.ixa 16 (.t 17) 1),
   o1 19 (.ld 18 18 1 true),
   o1 20 (.len (.t 19)),
   oB 21 .lss 15 20])
  (.cond (.t 21) (.skip)
  (.exit 2)))
  (.seq (.block 3 (.seq (.region false [oM 24 0,
   oM 25 5,
   o1 26 (.ixa 24 (.t 25) 1),
   o1 27 (.ld 26 26 1 true),
   oM 28 7,
   o1 29 (.ixa 27 (.t 28) 1),
   o1 30 (.ld 29 29 1 true),
   oC 31 69 [30],
   oM 8 31])
  (.region false [oM 32 6,
   oM 33 32,
   oG 34 (.mov (.t 8)) 33 true,
   oG 35 (.mov (.t 1)) 33 true,
   oG 36 (.call 72 [.t 35]) 33 true,
   oG 37 (.call 71 [.t 34, .t 36, .c (.int .i64 4)]) 33 true,
   oG 38 (.call 70 [.t 37]) 33 true,
   oG 39 (.bin .gtr (.t 38) (.c (.int .i64 0))) 33 true,
   o1 40 (.pick (.t 33) (.t 39) (.c (.bool false))),
   oM 6 40])))
  (.region false [oM 22 7,
   o1 23 (.bin .add (.t 22) (.c (.int .i64 1))),
   oM 7 23]))))))
  (.seq (.region false [oM 41 6])
  (.cond (.t 41) (.seq (.region false [o1 4 (.mov (.c (.bool true)))])
  (.ret))
  (.skip))))))
  (.region false [oM 13 5,
   o1 14 (.bin .add (.t 13) (.c (.int .i64 1))),
   oM 5 14]))
def Try.s40 (l : PPP) (j : Int) (i : Int) (o : Bool) : State := (.val (.sl l.length (ppp l)) :: (.val (.int .i64 j) :: (dds 2 (.val (.bool o) :: (.val (.int .i64 i) :: (dds 36 []))))))
theorem Try.k40_1 (l : PPP) (j : Int) (i : Int) (o : Bool) (b : Bool) (k : Int) (c1 : (decide (i < ((l.length : Nat) : Int))) = true)
    (c2 : (b) = true)
    (hl1 : RunsW Try.ir (.loop Try.c40i) (Try.s40i l j i o true 0) (.exit 2) (Try.s40i l j i o b k)) : RunsW Try.ir Try.c40 (Try.s40 l j i o) .ret (Try.s40 l j i true) :=
  (RunsW.seq (RunsW.script (t := (.val (.sl l.length (ppp l)) :: (.val (.int .i64 j) :: (dds 2 (.val (.bool o) :: (.val (.int .i64 i) :: (dds 3 (.val (.int .i64 i) :: (.val (.sl l.length (ppp l)) :: (.val (.int .i64 ((l.length : Nat) : Int)) :: (.val (.bool (decide (i < ((l.length : Nat) : Int)))) :: (dds 29 [])))))))))))) (ex := .norm) (ps := [(decide (i < ((l.length : Nat) : Int))) = true]) TPA_holds 400 [.b true] [0, 1, 4, 5, 9, 10, 11, 12] (by kernel_rfl) ⟨c1, trivial⟩)
    (RunsW.seq_out (RunsW.block_ret (RunsW.seq (RunsW.script (t := (.val (.sl l.length (ppp l)) :: (.val (.int .i64 j) :: (dds 2 (.val (.bool o) :: (.val (.int .i64 i) :: (.val (.bool true) :: (dds 2 (.val (.int .i64 i) :: (.val (.sl l.length (ppp l)) :: (.val (.int .i64 ((l.length : Nat) : Int)) :: (.val (.bool (decide (i < ((l.length : Nat) : Int)))) :: (dds 29 []))))))))))))) (ex := .norm) (ps := []) TPA_holds 400 [] [0, 1, 4, 5, 6, 9, 10, 11, 12] (by kernel_rfl) trivial)
    (RunsW.seq (RunsW.seq (RunsW.script (t := (.val (.sl l.length (ppp l)) :: (.val (.int .i64 j) :: (dds 2 (.val (.bool o) :: (.val (.int .i64 i) :: (.val (.bool true) :: (.val (.int .i64 0) :: (dds 34 []))))))))) (ex := .norm) (ps := []) TPA_holds 400 [] [0, 1, 4, 5, 6, 7] (by kernel_rfl) trivial)
    (RunsW.block hl1))
    (RunsW.script (t := (.val (.sl l.length (ppp l)) :: (.val (.int .i64 j) :: (dds 2 (.val (.bool true) :: (.val (.int .i64 i) :: (dds 36 []))))))) (ex := .ret) (ps := [b = true]) TPA_holds 400 [.b true] [0, 1, 4, 5] (by kernel_rfl) ⟨c2, trivial⟩)))) (by intro e; cases e)))

theorem Try.k40_2 (l : PPP) (j : Int) (i : Int) (o : Bool) (b : Bool) (k : Int) (c1 : (decide (i < ((l.length : Nat) : Int))) = true)
    (c2 : (b) = false)
    (hl1 : RunsW Try.ir (.loop Try.c40i) (Try.s40i l j i o true 0) (.exit 2) (Try.s40i l j i o b k)) : RunsW Try.ir Try.c40 (Try.s40 l j i o) .norm (Try.s40 l j (IntKind.i64.wrap (i + 1)) o) :=
  (RunsW.seq (RunsW.script (t := (.val (.sl l.length (ppp l)) :: (.val (.int .i64 j) :: (dds 2 (.val (.bool o) :: (.val (.int .i64 i) :: (dds 3 (.val (.int .i64 i) :: (.val (.sl l.length (ppp l)) :: (.val (.int .i64 ((l.length : Nat) : Int)) :: (.val (.bool (decide (i < ((l.length : Nat) : Int)))) :: (dds 29 [])))))))))))) (ex := .norm) (ps := [(decide (i < ((l.length : Nat) : Int))) = true]) TPA_holds 400 [.b true] [0, 1, 4, 5, 9, 10, 11, 12] (by kernel_rfl) ⟨c1, trivial⟩)
    (RunsW.seq (RunsW.block_norm (RunsW.seq (RunsW.script (t := (.val (.sl l.length (ppp l)) :: (.val (.int .i64 j) :: (dds 2 (.val (.bool o) :: (.val (.int .i64 i) :: (.val (.bool true) :: (dds 2 (.val (.int .i64 i) :: (.val (.sl l.length (ppp l)) :: (.val (.int .i64 ((l.length : Nat) : Int)) :: (.val (.bool (decide (i < ((l.length : Nat) : Int)))) :: (dds 29 []))))))))))))) (ex := .norm) (ps := []) TPA_holds 400 [] [0, 1, 4, 5, 6, 9, 10, 11, 12] (by kernel_rfl) trivial)
    (RunsW.seq (RunsW.seq (RunsW.script (t := (.val (.sl l.length (ppp l)) :: (.val (.int .i64 j) :: (dds 2 (.val (.bool o) :: (.val (.int .i64 i) :: (.val (.bool true) :: (.val (.int .i64 0) :: (dds 34 []))))))))) (ex := .norm) (ps := []) TPA_holds 400 [] [0, 1, 4, 5, 6, 7] (by kernel_rfl) trivial)
    (RunsW.block hl1))
    (RunsW.script (t := (.val (.sl l.length (ppp l)) :: (.val (.int .i64 j) :: (dds 2 (.val (.bool o) :: (.val (.int .i64 i) :: (.val (.bool b) :: (.val (.int .i64 k) :: (dds 33 (.val (.bool b) :: [])))))))))) (ex := .norm) (ps := [b = false]) TPA_holds 400 [.b false] [0, 1, 4, 5, 6, 7, 41] (by kernel_rfl) ⟨c2, trivial⟩))))
    (RunsW.script (t := (.val (.sl l.length (ppp l)) :: (.val (.int .i64 j) :: (dds 2 (.val (.bool o) :: (.val (.int .i64 (IntKind.i64.wrap (i + 1))) :: (dds 36 []))))))) (ex := .norm) (ps := []) TPA_holds 400 [] [0, 1, 4, 5] (by kernel_rfl) trivial)))

theorem Try.k40_3 (l : PPP) (j : Int) (i : Int) (o : Bool)  (c1 : (decide (i < ((l.length : Nat) : Int))) = false) : RunsW Try.ir Try.c40 (Try.s40 l j i o) (.exit 0) (Try.s40 l j i o) :=
  (RunsW.seq_out (RunsW.script (t := (.val (.sl l.length (ppp l)) :: (.val (.int .i64 j) :: (dds 2 (.val (.bool o) :: (.val (.int .i64 i) :: (dds 36 []))))))) (ex := (.exit 0)) (ps := [(decide (i < ((l.length : Nat) : Int))) = false]) TPA_holds 400 [.b false] [0, 1, 4, 5] (by kernel_rfl) ⟨c1, trivial⟩) (by intro e; cases e))

theorem Try.run40_n (l : PPP) (j i : Int) (hl1 : RunsW Try.ir (.loop Try.c40) (Try.s40 l j 0 false) (.exit 0) (Try.s40 l j i false)) : Runs Try.ir 40 [.sl l.length (ppp l), .int .i64 j] (.bool false) :=
  Runs.of_bodyW (fn := Try.i40) (s := (.val (.sl l.length (ppp l)) :: (.val (.int .i64 j) :: (dds 2 (.val (.bool false) :: (.val (.int .i64 i) :: (dds 36 []))))))) (ex := .ret) rfl rfl
    (RunsW.seq (RunsW.script (t := (.val (.sl l.length (ppp l)) :: (.val (.int .i64 j) :: (dds 2 (.val (.bool false) :: (dds 37 [])))))) (ex := .norm) (ps := []) TPA_holds 400 [] [0, 1, 4] (by kernel_rfl) trivial)
    (RunsW.seq (RunsW.seq (RunsW.script (t := (.val (.sl l.length (ppp l)) :: (.val (.int .i64 j) :: (dds 2 (.val (.bool false) :: (.val (.int .i64 0) :: (dds 36 []))))))) (ex := .norm) (ps := []) TPA_holds 400 [] [0, 1, 4, 5] (by kernel_rfl) trivial)
    (RunsW.block hl1))
    (RunsW.script (t := (.val (.sl l.length (ppp l)) :: (.val (.int .i64 j) :: (dds 2 (.val (.bool false) :: (.val (.int .i64 i) :: (dds 36 []))))))) (ex := .ret) (ps := []) TPA_holds 400 [] [0, 1, 4, 5] (by kernel_rfl) trivial))) (by intro i e; cases e) rfl

theorem Try.run40_y (l : PPP) (j i : Int) (hl1 : RunsW Try.ir (.loop Try.c40) (Try.s40 l j 0 false) .ret (Try.s40 l j i true)) : Runs Try.ir 40 [.sl l.length (ppp l), .int .i64 j] (.bool true) :=
  Runs.of_bodyW (fn := Try.i40) (s := (.val (.sl l.length (ppp l)) :: (.val (.int .i64 j) :: (dds 2 (.val (.bool true) :: (.val (.int .i64 i) :: (dds 36 []))))))) (ex := .ret) rfl rfl
    (RunsW.seq (RunsW.script (t := (.val (.sl l.length (ppp l)) :: (.val (.int .i64 j) :: (dds 2 (.val (.bool false) :: (dds 37 [])))))) (ex := .norm) (ps := []) TPA_holds 400 [] [0, 1, 4] (by kernel_rfl) trivial)
    (RunsW.seq_out (RunsW.seq (RunsW.script (t := (.val (.sl l.length (ppp l)) :: (.val (.int .i64 j) :: (dds 2 (.val (.bool false) :: (.val (.int .i64 0) :: (dds 36 []))))))) (ex := .norm) (ps := []) TPA_holds 400 [] [0, 1, 4, 5] (by kernel_rfl) trivial)
    (RunsW.block_ret hl1)) (by intro e; cases e))) (by intro i e; cases e) rfl


/-- A polynomial is above zero at j / 16. -/
def posAt (j : Int) (p : List Rn) : Bool := decide (0 < hv (trimL (vals p)) j 16)
def atB (l : PPP) (j : Int) : Bool := l.any fun ps => ps.all (posAt j)
def Mild (p : List Rn) : Prop := p.length ≤ 1000 ∧ ∀ r ∈ p, Good 1000 r
def Try.trimRun (p ts : List Rn) : Prop := Runs Try.ir 69 [.sl p.length (pc p)] (.fresh 2 ts.length (pc ts))
theorem posAt_runs {p : List Rn} (hp : Mild p) {j : Int} (hj : -9223372036854775808 ≤ j ∧ j ≤ 9223372036854775807) :
    ∃ ts : List Rn, Try.trimRun p ts ∧ Runs Try.ir 71 [.sl ts.length (pc ts), bigAV j, .int .i64 4] (bigAV (hv (trimL (vals p)) j 16)) ∧ Runs Try.ir 70 [bigAV (hv (trimL (vals p)) j 16)] (.int .i64 (sgnI (hv (trimL (vals p)) j 16))) := by
  have h1 := qtrim_run (fun r h => (hp.2 r h).mono (by omega)) (by have := hp.1; omega)
  have hf : ∀ x ∈ trimL (vals p), Fits 1000 x := fits_mem_trim (fits_vals hp.2)
  have hl := trim_len (vals p)
  rw [vals_length] at hl
  have hp1 := hp.1
  have h2 := qvalue_run (rs := (trimL (vals p)).map cn) (good_cns hf) (good_cn (fits_i64 hj)) 4 (by
    have : (((trimL (vals p)).map cn).length + 1) * (2 + (4 / 32 + 1) + 1) ≤ 1001 * 4 := Nat.mul_le_mul (by simp; omega) (by decide)
    omega) (by omega)
  rw [vals_cn, trim_trim, rval_cn] at h2
  refine ⟨(trimL (vals p)).map cn, ?_, h2, ?_⟩
  · unfold Try.trimRun
    rw [List.length_map]; exact h1
  · have hb := hv_fits (fits_i64 hj) 4 hf
    have hb2 := hb.len
    have : (trimL (vals p)).length * (2 + (4 / 32 + 1) + 1) ≤ 1000 * 4 := Nat.mul_le_mul (by omega) (by decide)
    exact sign_run (by
      have e : (2 : Int) ^ 4 = 16 := by decide
      rw [e] at hb2
      omega)
theorem sgnI_pos (v : Int) : decide (sgnI v > 0) = decide (0 < v) := by
  rw [decide_eq_decide]; unfold sgnI; (repeat' split) <;> omega
theorem Try.loop40i {l : PPP} {j : Int} (hj : -9223372036854775808 ≤ j ∧ j ≤ 9223372036854775807) {i : Nat} (hi : i < l.length) (hg : ∀ p ∈ l.getD i [], Mild p) (hn : (l.getD i []).length ≤ 1048576) (o : Bool) :
    RunsW Try.ir (.loop Try.c40i) (Try.s40i l j (i : Nat) o true 0) (.exit 2) (Try.s40i l j (i : Nat) o ((l.getD i []).all (posAt j)) ((l.getD i []).length : Nat)) := by
  have key := RunsW.up (prog := Try.ir) (c := Try.c40i) (ex := .exit 2) (fin := Try.s40i l j (i : Nat) o ((l.getD i []).all (posAt j)) ((l.getD i []).length : Nat))
    (fun k => Try.s40i l j (i : Nat) o (((l.getD i []).take k).all (posAt j)) (k : Nat)) (l.getD i []).length (by intro e; cases e) ?_ ?_ 0 (Nat.zero_le _)
  · exact key
  · intro k hk
    have ek : IntKind.i64.wrap (((k : Nat) : Int) + 1) = ((k + 1 : Nat) : Int) := by rw [w64 (by omega) (by omega)]; omega
    have hm : (l.getD i []).getD k [] ∈ l.getD i [] := by
      rw [List.getD_eq_getElem?_getD (l := l.getD i []), List.getElem?_eq_getElem hk]
      exact List.getElem_mem _
    obtain ⟨ts, t1, t2, t3⟩ := posAt_runs (hg _ hm) hj
    have hall : ((l.getD i []).take (k + 1)).all (posAt j) = (((l.getD i []).take k).all (posAt j) && posAt j ((l.getD i []).getD k [])) := by
      rw [List.take_succ_eq_append_getElem hk, List.all_append, List.getD_eq_getElem?_getD (l := l.getD i []), List.getElem?_eq_getElem hk]
      simp
    simp only [hall]
    cases hb : ((l.getD i []).take k).all (posAt j) with
    | true =>
      have kk := Try.k40i_1 l j (i : Nat) o true (k : Nat) ts _ (by simp only [Int.toNat_natCast, decide_eq_true_eq]; omega) rfl (by omega) (by simp only [Int.toNat_natCast]; omega) (by simp only [Int.toNat_natCast]; exact t1) (of_run hj) t2 t3
      rw [ek, sgnI_pos] at kk
      exact kk
    | false =>
      have kk := Try.k40i_2 l j (i : Nat) o false (k : Nat) ts (by simp only [Int.toNat_natCast, decide_eq_true_eq]; omega) rfl (by omega) (by simp only [Int.toNat_natCast]; omega) (by simp only [Int.toNat_natCast]; exact t1)
      rw [ek] at kk
      exact kk
  · have kk := Try.k40i_3 l j (i : Nat) o ((l.getD i []).all (posAt j)) ((l.getD i []).length : Nat) (by simp only [Int.toNat_natCast]; simp) (by omega)
    simp only [List.take_length]
    exact kk
theorem at_run {l : PPP} {j : Int} (hj : -9223372036854775808 ≤ j ∧ j ≤ 9223372036854775807) (hg : ∀ ps ∈ l, ps.length ≤ 1048576 ∧ ∀ p ∈ ps, Mild p) (hn : l.length ≤ 1048576) :
    Runs Try.ir 40 [.sl l.length (ppp l), .int .i64 j] (.bool (atB l j)) := by
  have key : ∀ r i, i + r = l.length → (l.drop i).any (fun ps => ps.all (posAt j)) = true → ∃ i' : Int, RunsW Try.ir (.loop Try.c40) (Try.s40 l j (i : Nat) false) .ret (Try.s40 l j i' true) := by
    intro r
    induction r with
    | zero => intro i hi h; rw [List.drop_eq_nil_of_le (by omega)] at h; simp at h
    | succ r ih =>
      intro i hi h
      have hil : i < l.length := by omega
      have hd : l.drop i = l.getD i [] :: l.drop (i + 1) := by
        rw [List.drop_eq_getElem_cons hil, List.getD_eq_getElem?_getD, List.getElem?_eq_getElem hil]; rfl
      have hm : l.getD i [] ∈ l := by rw [List.getD_eq_getElem?_getD, List.getElem?_eq_getElem hil]; exact List.getElem_mem _
      have hin := Try.loop40i hj hil (hg _ hm).2 (hg _ hm).1 false
      rw [hd, List.any_cons] at h
      cases hb : (l.getD i []).all (posAt j) with
      | true =>
        rw [hb] at hin
        exact ⟨_, RunsW.loop_out (Try.k40_1 l j (i : Nat) false true _ (by simp; omega) rfl hin) (by intro e; cases e)⟩
      | false =>
        rw [hb] at h hin
        obtain ⟨i', q⟩ := ih (i + 1) (by omega) (by simpa using h)
        have kk := Try.k40_2 l j (i : Nat) false false _ (by simp; omega) rfl hin
        rw [show IntKind.i64.wrap (((i : Nat) : Int) + 1) = ((i + 1 : Nat) : Int) by rw [w64 (by omega) (by omega)]; omega] at kk
        exact ⟨i', RunsW.loop kk q⟩
  have key2 : ∀ r i, i + r = l.length → (l.drop i).any (fun ps => ps.all (posAt j)) = false → RunsW Try.ir (.loop Try.c40) (Try.s40 l j (i : Nat) false) (.exit 0) (Try.s40 l j (l.length : Nat) false) := by
    intro r
    induction r with
    | zero =>
      intro i hi _
      have : i = l.length := by omega
      subst this
      exact RunsW.loop_out (Try.k40_3 l j (l.length : Nat) false (by simp)) (by intro e; cases e)
    | succ r ih =>
      intro i hi h
      have hil : i < l.length := by omega
      have hd : l.drop i = l.getD i [] :: l.drop (i + 1) := by
        rw [List.drop_eq_getElem_cons hil, List.getD_eq_getElem?_getD, List.getElem?_eq_getElem hil]; rfl
      have hm : l.getD i [] ∈ l := by rw [List.getD_eq_getElem?_getD, List.getElem?_eq_getElem hil]; exact List.getElem_mem _
      have hin := Try.loop40i hj hil (hg _ hm).2 (hg _ hm).1 false
      rw [hd, List.any_cons, Bool.or_eq_false_iff] at h
      rw [h.1] at hin
      have kk := Try.k40_2 l j (i : Nat) false false _ (by simp; omega) rfl hin
      rw [show IntKind.i64.wrap (((i : Nat) : Int) + 1) = ((i + 1 : Nat) : Int) by rw [w64 (by omega) (by omega)]; omega] at kk
      exact RunsW.loop kk (ih (i + 1) (by omega) h.2)
  cases h : atB l j with
  | true =>
    obtain ⟨i', q⟩ := key l.length 0 (by omega) h
    exact Try.run40_y l j i' q
  | false => exact Try.run40_n l j _ (key2 l.length 0 (by omega) h)

theorem posAt_P {ts : List Rn} {f : Int → Int} {n K : Nat} (h : IsP ts f n K) (x : Int) : posAt (16 * x) ts = decide (0 < f x) := by
  unfold posAt
  rw [decide_eq_decide]
  have h1 := hv_scale (trimL (vals ts)) x 16
  rw [peval_trim, h.ev] at h1
  have hp : (0 : Int) < 16 ^ (trimL (vals ts)).length := Int.pow_pos (by decide)
  generalize (16 : Int) ^ (trimL (vals ts)).length = p at *
  generalize hv (trimL (vals ts)) (16 * x) 16 = H at *
  constructor
  · intro g
    rcases Int.lt_or_le 0 (f x) with k | k
    · exact k
    · have := Int.mul_nonneg (show 0 ≤ p by omega) (show 0 ≤ -(f x) by omega)
      rw [Int.mul_neg] at this
      omega
  · intro g
    have := Int.mul_pos hp g
    omega
theorem IsP.mild {ts : List Rn} {f : Int → Int} {n K : Nat} (h : IsP ts f n K) (hn : n ≤ 1000) (hK : K ≤ 1000) : Mild ts := ⟨Nat.le_trans h.len hn, fun r g => (h.good r g).mono hK⟩

def TAt : Table := TPA
theorem TAt_holds : THolds Try.ir TAt := TPA_holds
end Go.Proofs.Ythakfjlnhldehaa
