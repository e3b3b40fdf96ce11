/- Sizes and signs of polynomials, the walk. -/
import Derived.Test.YthnnfemologhfaaShlB
import Derived.Test.YthnnfemologhfaaAlgA
namespace Go.Proofs.Ythnnfemologhfaa
open Go.Ai
set_option maxRecDepth 100000

def Try.c61i : ICode := .seq (.seq (.region false [oM 17 6,
   oM 18 5,
   oB 19 .leq 17 18])
  (.cond (.t 19) (.skip)
  (.exit 2)))
  (.seq (.block 3 (.seq (.region false [oM 22 4,
   oM 23 6,
   o1 24 (.ixa 22 (.t 23) 2),
   o1 25 (.ld 24 24 2 false),
   oC 26 76 [25],
   o1 27 (.bin .gtr (.t 26) (.c (.int .i64 256)))])
  (.cond (.t 27) (.seq (.region false [o1 2 (.mov (.c (.bool true)))])
  (.ret))
  (.skip))))
  (.region false [oM 20 6,
   o1 21 (.bin .add (.t 20) (.c (.int .i64 1))),
   oM 6 21]))
def Try.s61i (o : Bool) (ps : List (List Rn)) (n : Int) (k : Int) (rs : List Rn) (d : Int) (i : Int) : State := (dds 2 (.val (.bool o) :: (dds 1 (.val (.sl rs.length (pc rs)) :: (.val (.int .i64 d) :: (.val (.int .i64 i) :: (.val (.sl ps.length (pp ps)) :: (.val (.int .i64 n) :: (.val (.int .i64 k) :: (dds 19 []))))))))))
theorem Try.k61i_1 (o : Bool) (ps : List (List Rn)) (n : Int) (k : Int) (rs : List Rn) (d : Int) (i : Int) (z : Int) (c1 : (decide (i ≤ d)) = true)
    (c2 : (decide (z > 256)) = true)
    (n1 : 0 ≤ i ∧ i < ((rs.length : Nat) : Int))
    (n2 : Runs Try.ir 76 [.agg [.bool ((rs.getD (Int.toNat i) z0).1), .sl ((rs.getD (Int.toNat i) z0).2.length) (lm (rs.getD (Int.toNat i) z0).2)]] (.int .i64 z)) : RunsW Try.ir Try.c61i (Try.s61i o ps n k rs d i) .ret (Try.s61i true ps n k rs d i) :=
  (RunsW.script (t := (dds 2 (.val (.bool true) :: (dds 1 (.val (.sl rs.length (pc rs)) :: (.val (.int .i64 d) :: (.val (.int .i64 i) :: (.val (.sl ps.length (pp ps)) :: (.val (.int .i64 n) :: (.val (.int .i64 k) :: (dds 19 []))))))))))) (ex := .ret) (ps := [(decide (i ≤ d)) = true, 0 ≤ i ∧ i < ((rs.length : Nat) : Int), takeA (List.drop (Int.toNat i * 2) (pc rs)) 0 2 false = some (.agg [.bool ((rs.getD (Int.toNat i) z0).1), .sl ((rs.getD (Int.toNat i) z0).2.length) (lm (rs.getD (Int.toNat i) z0).2)]), Runs Try.ir 76 [.agg [.bool ((rs.getD (Int.toNat i) z0).1), .sl ((rs.getD (Int.toNat i) z0).2.length) (lm (rs.getD (Int.toNat i) z0).2)]] (.int .i64 z), (decide (z > 256)) = true]) TSB_holds 400 [.b true, .v (.agg [.bool ((rs.getD (Int.toNat i) z0).1), .sl ((rs.getD (Int.toNat i) z0).2.length) (lm (rs.getD (Int.toNat i) z0).2)]), .r (.int .i64 z), .b true] [2, 4, 5, 6, 7, 8, 9] (by kernel_rfl) ⟨c1, n1, (take_pcI n1), n2, c2, trivial⟩)

theorem Try.k61i_2 (o : Bool) (ps : List (List Rn)) (n : Int) (k : Int) (rs : List Rn) (d : Int) (i : Int) (z : Int) (c1 : (decide (i ≤ d)) = true)
    (c2 : (decide (z > 256)) = false)
    (n1 : 0 ≤ i ∧ i < ((rs.length : Nat) : Int))
    (n2 : Runs Try.ir 76 [.agg [.bool ((rs.getD (Int.toNat i) z0).1), .sl ((rs.getD (Int.toNat i) z0).2.length) (lm (rs.getD (Int.toNat i) z0).2)]] (.int .i64 z)) : RunsW Try.ir Try.c61i (Try.s61i o ps n k rs d i) .norm (Try.s61i o ps n k rs d (IntKind.i64.wrap (i + 1))) :=
  (RunsW.script (t := (dds 2 (.val (.bool o) :: (dds 1 (.val (.sl rs.length (pc rs)) :: (.val (.int .i64 d) :: (.val (.int .i64 (IntKind.i64.wrap (i + 1))) :: (.val (.sl ps.length (pp ps)) :: (.val (.int .i64 n) :: (.val (.int .i64 k) :: (dds 19 []))))))))))) (ex := .norm) (ps := [(decide (i ≤ d)) = true, 0 ≤ i ∧ i < ((rs.length : Nat) : Int), takeA (List.drop (Int.toNat i * 2) (pc rs)) 0 2 false = some (.agg [.bool ((rs.getD (Int.toNat i) z0).1), .sl ((rs.getD (Int.toNat i) z0).2.length) (lm (rs.getD (Int.toNat i) z0).2)]), Runs Try.ir 76 [.agg [.bool ((rs.getD (Int.toNat i) z0).1), .sl ((rs.getD (Int.toNat i) z0).2.length) (lm (rs.getD (Int.toNat i) z0).2)]] (.int .i64 z), (decide (z > 256)) = false]) TSB_holds 400 [.b true, .v (.agg [.bool ((rs.getD (Int.toNat i) z0).1), .sl ((rs.getD (Int.toNat i) z0).2.length) (lm (rs.getD (Int.toNat i) z0).2)]), .r (.int .i64 z), .b false] [2, 4, 5, 6, 7, 8, 9] (by kernel_rfl) ⟨c1, n1, (take_pcI n1), n2, c2, trivial⟩)

theorem Try.k61i_3 (o : Bool) (ps : List (List Rn)) (n : Int) (k : Int) (rs : List Rn) (d : Int) (i : Int)  (c1 : (decide (i ≤ d)) = false) : RunsW Try.ir Try.c61i (Try.s61i o ps n k rs d i) (.exit 2) (Try.s61i o ps n k rs d i) :=
  (RunsW.script (t := (dds 2 (.val (.bool o) :: (dds 1 (.val (.sl rs.length (pc rs)) :: (.val (.int .i64 d) :: (.val (.int .i64 i) :: (.val (.sl ps.length (pp ps)) :: (.val (.int .i64 n) :: (.val (.int .i64 k) :: (dds 19 []))))))))))) (ex := (.exit 2)) (ps := [(decide (i ≤ d)) = false]) TSB_holds 400 [.b false] [2, 4, 5, 6, 7, 8, 9] (by kernel_rfl) ⟨c1, trivial⟩)

def Try.c61 : ICode := .seq (.region false [oB 10 .lss 9 8])
  (.seq (.cond (.t 10) (.skip)
  (.exit 0))
  (.seq (.block 1 (.seq (.region false [o1 11 (.ixa 7 (.t 9) 1),
   o1 12 (.ld 11 11 1 true),
   oM 4 12])
  (.seq (.region false [oM 13 4,
   oC 14 62 [13],
   oM 5 14])
  (.seq (.seq (.region false [oM 15 5,
   o1 16 (.bin .gtr (.t 15) (.c (.int .i64 16)))])
  (.cond (.t 16) (.seq (.region false [o1 2 (.mov (.c (.bool true)))])
  (.ret))
  (.skip)))
  (.seq (.region false [o1 6 (.mov (.c (.int .i64 0)))])
  (.block 2 (.loop (.seq (.seq (.region false [oM 17 6,
   oM 18 5,
   oB 19 .leq 17 18])
  (.cond (.t 19) (.skip)
  (.exit 2)))
  (.seq (.block 3 (.seq (.region false [oM 22 4,
   oM 23 6,
   o1 24 (.ixa 22 (.t 23) 2),
   o1 25 (.ld 24 24 2 false),
   oC 26 76 [25],
   o1 27 (.bin .gtr (.t 26) (.c (.int .i64 256)))])
  (.cond (.t 27) (.seq (.region false [o1 2 (.mov (.c (.bool true)))])
  (.ret))
  (.skip))))
  (.region false [oM 20 6,
   o1 21 (.bin .add (.t 20) (.c (.int .i64 1))),
   oM 6 21]))))))))))
  (.region false [o1 28 (.bin .add (.t 9) (.c (.int .i64 1))),
   oM 9 28])))
def Try.s61 (o : Bool) (ps : List (List Rn)) (n : Int) (k : Int) : State := (dds 2 (.val (.bool o) :: (dds 4 (.val (.sl ps.length (pp ps)) :: (.val (.int .i64 n) :: (.val (.int .i64 k) :: (dds 19 [])))))))
theorem Try.k61_1 (o : Bool) (ps : List (List Rn)) (n : Int) (k : Int) (d : Int) (c1 : (decide (k < n)) = true)
    (c2 : (decide (d > 16)) = true)
    (n1 : 0 ≤ k ∧ k < ((ps.length : Nat) : Int))
    (n2 : Runs Try.ir 62 [.sl ((ps.getD (Int.toNat k) []).length) (pc (ps.getD (Int.toNat k) []))] (.int .i64 d)) : RunsW Try.ir Try.c61 (Try.s61 o ps n k) .ret (Try.s61 true ps n k) :=
  (RunsW.seq (RunsW.script (t := (dds 2 (.val (.bool o) :: (dds 4 (.val (.sl ps.length (pp ps)) :: (.val (.int .i64 n) :: (.val (.int .i64 k) :: (.val (.bool (decide (k < n))) :: (dds 18 []))))))))) (ex := .norm) (ps := []) TSB_holds 400 [] [2, 7, 8, 9, 10] (by kernel_rfl) trivial)
    (RunsW.seq (RunsW.script (t := (dds 2 (.val (.bool o) :: (dds 4 (.val (.sl ps.length (pp ps)) :: (.val (.int .i64 n) :: (.val (.int .i64 k) :: (.val (.bool (decide (k < n))) :: (dds 18 []))))))))) (ex := .norm) (ps := [(decide (k < n)) = true]) TSB_holds 400 [.b true] [2, 7, 8, 9, 10] (by kernel_rfl) ⟨c1, trivial⟩)
    (RunsW.seq_out (RunsW.block_ret (RunsW.seq (RunsW.script (t := (dds 2 (.val (.bool o) :: (dds 1 (.val (.sl ((ps.getD (Int.toNat k) []).length) (pc (ps.getD (Int.toNat k) []))) :: (dds 2 (.val (.sl ps.length (pp ps)) :: (.val (.int .i64 n) :: (.val (.int .i64 k) :: (.val (.bool (decide (k < n))) :: (.mem (List.drop (Int.toNat k * 1) (pp ps)) :: (.val (.sl ((ps.getD (Int.toNat k) []).length) (pc (ps.getD (Int.toNat k) []))) :: (dds 16 []))))))))))))) (ex := .norm) (ps := [0 ≤ k ∧ k < ((ps.length : Nat) : Int), takeA (List.drop (Int.toNat k * 1) (pp ps)) 0 1 true = some (.sl ((ps.getD (Int.toNat k) []).length) (pc (ps.getD (Int.toNat k) [])))]) TSB_holds 400 [.v (.sl ((ps.getD (Int.toNat k) []).length) (pc (ps.getD (Int.toNat k) [])))] [2, 4, 7, 8, 9, 10, 11, 12] (by kernel_rfl) ⟨n1, (take_ppI n1), trivial⟩)
    (RunsW.seq (RunsW.script (t := (dds 2 (.val (.bool o) :: (dds 1 (.val (.sl ((ps.getD (Int.toNat k) []).length) (pc (ps.getD (Int.toNat k) []))) :: (.val (.int .i64 d) :: (dds 1 (.val (.sl ps.length (pp ps)) :: (.val (.int .i64 n) :: (.val (.int .i64 k) :: (.val (.bool (decide (k < n))) :: (.mem (List.drop (Int.toNat k * 1) (pp ps)) :: (.val (.sl ((ps.getD (Int.toNat k) []).length) (pc (ps.getD (Int.toNat k) []))) :: (.val (.sl ((ps.getD (Int.toNat k) []).length) (pc (ps.getD (Int.toNat k) []))) :: (.val (.int .i64 d) :: (dds 14 [])))))))))))))))) (ex := .norm) (ps := [Runs Try.ir 62 [.sl ((ps.getD (Int.toNat k) []).length) (pc (ps.getD (Int.toNat k) []))] (.int .i64 d)]) TSB_holds 400 [.r (.int .i64 d)] [2, 4, 5, 7, 8, 9, 10, 11, 12, 13, 14] (by kernel_rfl) ⟨n2, trivial⟩)
    (RunsW.seq_out (RunsW.script (t := (dds 2 (.val (.bool true) :: (dds 4 (.val (.sl ps.length (pp ps)) :: (.val (.int .i64 n) :: (.val (.int .i64 k) :: (dds 19 [])))))))) (ex := .ret) (ps := [(decide (d > 16)) = true]) TSB_holds 400 [.b true] [2, 7, 8, 9] (by kernel_rfl) ⟨c2, trivial⟩) (by intro e; cases e))))) (by intro e; cases e))))

theorem Try.k61_2 (o : Bool) (ps : List (List Rn)) (n : Int) (k : Int) (d i : Int) (c1 : (decide (k < n)) = true)
    (c2 : (decide (d > 16)) = false)
    (n1 : 0 ≤ k ∧ k < ((ps.length : Nat) : Int))
    (n2 : Runs Try.ir 62 [.sl ((ps.getD (Int.toNat k) []).length) (pc (ps.getD (Int.toNat k) []))] (.int .i64 d))
    (hl3 : RunsW Try.ir (.loop Try.c61i) (Try.s61i o ps n k (ps.getD (Int.toNat k) []) d 0) (.exit 2) (Try.s61i o ps n k (ps.getD (Int.toNat k) []) d i)) : RunsW Try.ir Try.c61 (Try.s61 o ps n k) .norm (Try.s61 o ps n (IntKind.i64.wrap (k + 1))) :=
  (RunsW.seq (RunsW.script (t := (dds 2 (.val (.bool o) :: (dds 4 (.val (.sl ps.length (pp ps)) :: (.val (.int .i64 n) :: (.val (.int .i64 k) :: (.val (.bool (decide (k < n))) :: (dds 18 []))))))))) (ex := .norm) (ps := []) TSB_holds 400 [] [2, 7, 8, 9, 10] (by kernel_rfl) trivial)
    (RunsW.seq (RunsW.script (t := (dds 2 (.val (.bool o) :: (dds 4 (.val (.sl ps.length (pp ps)) :: (.val (.int .i64 n) :: (.val (.int .i64 k) :: (.val (.bool (decide (k < n))) :: (dds 18 []))))))))) (ex := .norm) (ps := [(decide (k < n)) = true]) TSB_holds 400 [.b true] [2, 7, 8, 9, 10] (by kernel_rfl) ⟨c1, trivial⟩)
    (RunsW.seq (RunsW.block_norm (RunsW.seq (RunsW.script (t := (dds 2 (.val (.bool o) :: (dds 1 (.val (.sl ((ps.getD (Int.toNat k) []).length) (pc (ps.getD (Int.toNat k) []))) :: (dds 2 (.val (.sl ps.length (pp ps)) :: (.val (.int .i64 n) :: (.val (.int .i64 k) :: (.val (.bool (decide (k < n))) :: (.mem (List.drop (Int.toNat k * 1) (pp ps)) :: (.val (.sl ((ps.getD (Int.toNat k) []).length) (pc (ps.getD (Int.toNat k) []))) :: (dds 16 []))))))))))))) (ex := .norm) (ps := [0 ≤ k ∧ k < ((ps.length : Nat) : Int), takeA (List.drop (Int.toNat k * 1) (pp ps)) 0 1 true = some (.sl ((ps.getD (Int.toNat k) []).length) (pc (ps.getD (Int.toNat k) [])))]) TSB_holds 400 [.v (.sl ((ps.getD (Int.toNat k) []).length) (pc (ps.getD (Int.toNat k) [])))] [2, 4, 7, 8, 9, 10, 11, 12] (by kernel_rfl) ⟨n1, (take_ppI n1), trivial⟩)
    (RunsW.seq (RunsW.script (t := (dds 2 (.val (.bool o) :: (dds 1 (.val (.sl ((ps.getD (Int.toNat k) []).length) (pc (ps.getD (Int.toNat k) []))) :: (.val (.int .i64 d) :: (dds 1 (.val (.sl ps.length (pp ps)) :: (.val (.int .i64 n) :: (.val (.int .i64 k) :: (.val (.bool (decide (k < n))) :: (.mem (List.drop (Int.toNat k * 1) (pp ps)) :: (.val (.sl ((ps.getD (Int.toNat k) []).length) (pc (ps.getD (Int.toNat k) []))) :: (.val (.sl ((ps.getD (Int.toNat k) []).length) (pc (ps.getD (Int.toNat k) []))) :: (.val (.int .i64 d) :: (dds 14 [])))))))))))))))) (ex := .norm) (ps := [Runs Try.ir 62 [.sl ((ps.getD (Int.toNat k) []).length) (pc (ps.getD (Int.toNat k) []))] (.int .i64 d)]) TSB_holds 400 [.r (.int .i64 d)] [2, 4, 5, 7, 8, 9, 10, 11, 12, 13, 14] (by kernel_rfl) ⟨n2, trivial⟩)
    (RunsW.seq (RunsW.script (t := (dds 2 (.val (.bool o) :: (dds 1 (.val (.sl ((ps.getD (Int.toNat k) []).length) (pc (ps.getD (Int.toNat k) []))) :: (.val (.int .i64 d) :: (dds 1 (.val (.sl ps.length (pp ps)) :: (.val (.int .i64 n) :: (.val (.int .i64 k) :: (.val (.bool (decide (k < n))) :: (.mem (List.drop (Int.toNat k * 1) (pp ps)) :: (.val (.sl ((ps.getD (Int.toNat k) []).length) (pc (ps.getD (Int.toNat k) []))) :: (.val (.sl ((ps.getD (Int.toNat k) []).length) (pc (ps.getD (Int.toNat k) []))) :: (.val (.int .i64 d) :: (.val (.int .i64 d) :: (.val (.bool (decide (d > 16))) :: (dds 12 [])))))))))))))))))) (ex := .norm) (ps := [(decide (d > 16)) = false]) TSB_holds 400 [.b false] [2, 4, 5, 7, 8, 9, 10, 11, 12, 13, 14, 15, 16] (by kernel_rfl) ⟨c2, trivial⟩)
    (RunsW.seq (RunsW.script (t := (dds 2 (.val (.bool o) :: (dds 1 (.val (.sl ((ps.getD (Int.toNat k) []).length) (pc (ps.getD (Int.toNat k) []))) :: (.val (.int .i64 d) :: (.val (.int .i64 0) :: (.val (.sl ps.length (pp ps)) :: (.val (.int .i64 n) :: (.val (.int .i64 k) :: (dds 19 []))))))))))) (ex := .norm) (ps := []) TSB_holds 400 [] [2, 4, 5, 6, 7, 8, 9] (by kernel_rfl) trivial)
    (RunsW.block hl3))))))
    (RunsW.script (t := (dds 2 (.val (.bool o) :: (dds 4 (.val (.sl ps.length (pp ps)) :: (.val (.int .i64 n) :: (.val (.int .i64 (IntKind.i64.wrap (k + 1))) :: (dds 19 [])))))))) (ex := .norm) (ps := []) TSB_holds 400 [] [2, 7, 8, 9] (by kernel_rfl) trivial))))

theorem Try.k61_3 (o : Bool) (ps : List (List Rn)) (n : Int) (k : Int)  (c1 : (decide (k < n)) = false) : RunsW Try.ir Try.c61 (Try.s61 o ps n k) (.exit 0) (Try.s61 o ps n k) :=
  (RunsW.seq (RunsW.script (t := (dds 2 (.val (.bool o) :: (dds 4 (.val (.sl ps.length (pp ps)) :: (.val (.int .i64 n) :: (.val (.int .i64 k) :: (.val (.bool (decide (k < n))) :: (dds 18 []))))))))) (ex := .norm) (ps := []) TSB_holds 400 [] [2, 7, 8, 9, 10] (by kernel_rfl) trivial)
    (RunsW.seq_out (RunsW.script (t := (dds 2 (.val (.bool o) :: (dds 4 (.val (.sl ps.length (pp ps)) :: (.val (.int .i64 n) :: (.val (.int .i64 k) :: (dds 19 [])))))))) (ex := (.exit 0)) (ps := [(decide (k < n)) = false]) TSB_holds 400 [.b false] [2, 7, 8, 9] (by kernel_rfl) ⟨c1, trivial⟩) (by intro e; cases e)))

def Try.c61y : ICode := .seq (.region false [oB 10 .lss 9 8])
  (.seq (.cond (.t 10) (.skip)
  (.exit 0))
  (.seq (.block 1 (.seq (.region false [o1 11 (.ixa 7 (.t 9) 1),
   o1 12 (.ld 11 11 1 true),
   oM 4 12])
  (.seq (.region false [oM 13 4,
   oC 14 62 [13],
   oM 5 14])
  (.seq (.seq (.region false [oM 15 5,
   o1 16 (.bin .gtr (.t 15) (.c (.int .i64 16)))])
  (.cond (.t 16) (.seq (.region false [o1 2 (.mov (.c (.bool true)))])
  (.ret))
  (.skip)))
  (.seq (.region false [o1 6 (.mov (.c (.int .i64 0)))])
  (.block 2 (.loop (.seq (.seq (.region false [oM 17 6,
   oM 18 5,
   oB 19 .leq 17 18])
  (.cond (.t 19) (.skip)
  (.exit 2)))
  (.seq (.block 3 (.seq (.region false [oM 22 4,
   oM 23 6,
   o1 24 (.ixa 22 (.t 23) 2),
   o1 25 (.ld 24 24 2 false),
   oC 26 76 [25],
   o1 27 (.bin .gtr (.t 26) (.c (.int .i64 256)))])
  (.cond (.t 27) (.seq (.region false [o1 2 (.mov (.c (.bool true)))])
  (.ret))
  (.skip))))
  (.region false [oM 20 6,
   o1 21 (.bin .add (.t 20) (.c (.int .i64 1))),
   oM 6 21]))))))))))
  (.region false [o1 28 (.bin .add (.t 9) (.c (.int .i64 1))),
   oM 9 28])))
def Try.s61y (o : Bool) (ps : List (List Rn)) (n : Int) (k : Int) : State := (dds 2 (.val (.bool o) :: (dds 4 (.val (.sl ps.length (pp ps)) :: (.val (.int .i64 n) :: (.val (.int .i64 k) :: (dds 19 [])))))))
theorem Try.k61y_1 (o : Bool) (ps : List (List Rn)) (n : Int) (k : Int) (d : Int) (c1 : (decide (k < n)) = true)
    (c2 : (decide (d > 16)) = true)
    (n1 : 0 ≤ k ∧ k < ((ps.length : Nat) : Int))
    (n2 : Runs Try.ir 62 [.sl ((ps.getD (Int.toNat k) []).length) (pc (ps.getD (Int.toNat k) []))] (.int .i64 d)) : RunsW Try.ir Try.c61y (Try.s61y o ps n k) .ret (Try.s61y true ps n k) :=
  (RunsW.seq (RunsW.script (t := (dds 2 (.val (.bool o) :: (dds 4 (.val (.sl ps.length (pp ps)) :: (.val (.int .i64 n) :: (.val (.int .i64 k) :: (.val (.bool (decide (k < n))) :: (dds 18 []))))))))) (ex := .norm) (ps := []) TSB_holds 400 [] [2, 7, 8, 9, 10] (by kernel_rfl) trivial)
    (RunsW.seq (RunsW.script (t := (dds 2 (.val (.bool o) :: (dds 4 (.val (.sl ps.length (pp ps)) :: (.val (.int .i64 n) :: (.val (.int .i64 k) :: (.val (.bool (decide (k < n))) :: (dds 18 []))))))))) (ex := .norm) (ps := [(decide (k < n)) = true]) TSB_holds 400 [.b true] [2, 7, 8, 9, 10] (by kernel_rfl) ⟨c1, trivial⟩)
    (RunsW.seq_out (RunsW.block_ret (RunsW.seq (RunsW.script (t := (dds 2 (.val (.bool o) :: (dds 1 (.val (.sl ((ps.getD (Int.toNat k) []).length) (pc (ps.getD (Int.toNat k) []))) :: (dds 2 (.val (.sl ps.length (pp ps)) :: (.val (.int .i64 n) :: (.val (.int .i64 k) :: (.val (.bool (decide (k < n))) :: (.mem (List.drop (Int.toNat k * 1) (pp ps)) :: (.val (.sl ((ps.getD (Int.toNat k) []).length) (pc (ps.getD (Int.toNat k) []))) :: (dds 16 []))))))))))))) (ex := .norm) (ps := [0 ≤ k ∧ k < ((ps.length : Nat) : Int), takeA (List.drop (Int.toNat k * 1) (pp ps)) 0 1 true = some (.sl ((ps.getD (Int.toNat k) []).length) (pc (ps.getD (Int.toNat k) [])))]) TSB_holds 400 [.v (.sl ((ps.getD (Int.toNat k) []).length) (pc (ps.getD (Int.toNat k) [])))] [2, 4, 7, 8, 9, 10, 11, 12] (by kernel_rfl) ⟨n1, (take_ppI n1), trivial⟩)
    (RunsW.seq (RunsW.script (t := (dds 2 (.val (.bool o) :: (dds 1 (.val (.sl ((ps.getD (Int.toNat k) []).length) (pc (ps.getD (Int.toNat k) []))) :: (.val (.int .i64 d) :: (dds 1 (.val (.sl ps.length (pp ps)) :: (.val (.int .i64 n) :: (.val (.int .i64 k) :: (.val (.bool (decide (k < n))) :: (.mem (List.drop (Int.toNat k * 1) (pp ps)) :: (.val (.sl ((ps.getD (Int.toNat k) []).length) (pc (ps.getD (Int.toNat k) []))) :: (.val (.sl ((ps.getD (Int.toNat k) []).length) (pc (ps.getD (Int.toNat k) []))) :: (.val (.int .i64 d) :: (dds 14 [])))))))))))))))) (ex := .norm) (ps := [Runs Try.ir 62 [.sl ((ps.getD (Int.toNat k) []).length) (pc (ps.getD (Int.toNat k) []))] (.int .i64 d)]) TSB_holds 400 [.r (.int .i64 d)] [2, 4, 5, 7, 8, 9, 10, 11, 12, 13, 14] (by kernel_rfl) ⟨n2, trivial⟩)
    (RunsW.seq_out (RunsW.script (t := (dds 2 (.val (.bool true) :: (dds 4 (.val (.sl ps.length (pp ps)) :: (.val (.int .i64 n) :: (.val (.int .i64 k) :: (dds 19 [])))))))) (ex := .ret) (ps := [(decide (d > 16)) = true]) TSB_holds 400 [.b true] [2, 7, 8, 9] (by kernel_rfl) ⟨c2, trivial⟩) (by intro e; cases e))))) (by intro e; cases e))))

theorem Try.k61y_2 (o : Bool) (ps : List (List Rn)) (n : Int) (k : Int) (d i : Int) (c1 : (decide (k < n)) = true)
    (c2 : (decide (d > 16)) = false)
    (n1 : 0 ≤ k ∧ k < ((ps.length : Nat) : Int))
    (n2 : Runs Try.ir 62 [.sl ((ps.getD (Int.toNat k) []).length) (pc (ps.getD (Int.toNat k) []))] (.int .i64 d))
    (hl3 : RunsW Try.ir (.loop Try.c61i) (Try.s61i o ps n k (ps.getD (Int.toNat k) []) d 0) .ret (Try.s61i true ps n k (ps.getD (Int.toNat k) []) d i)) : RunsW Try.ir Try.c61y (Try.s61y o ps n k) .ret (Try.s61y true ps n k) :=
  (RunsW.seq (RunsW.script (t := (dds 2 (.val (.bool o) :: (dds 4 (.val (.sl ps.length (pp ps)) :: (.val (.int .i64 n) :: (.val (.int .i64 k) :: (.val (.bool (decide (k < n))) :: (dds 18 []))))))))) (ex := .norm) (ps := []) TSB_holds 400 [] [2, 7, 8, 9, 10] (by kernel_rfl) trivial)
    (RunsW.seq (RunsW.script (t := (dds 2 (.val (.bool o) :: (dds 4 (.val (.sl ps.length (pp ps)) :: (.val (.int .i64 n) :: (.val (.int .i64 k) :: (.val (.bool (decide (k < n))) :: (dds 18 []))))))))) (ex := .norm) (ps := [(decide (k < n)) = true]) TSB_holds 400 [.b true] [2, 7, 8, 9, 10] (by kernel_rfl) ⟨c1, trivial⟩)
    (RunsW.seq_out (RunsW.block_ret (RunsW.seq (RunsW.script (t := (dds 2 (.val (.bool o) :: (dds 1 (.val (.sl ((ps.getD (Int.toNat k) []).length) (pc (ps.getD (Int.toNat k) []))) :: (dds 2 (.val (.sl ps.length (pp ps)) :: (.val (.int .i64 n) :: (.val (.int .i64 k) :: (.val (.bool (decide (k < n))) :: (.mem (List.drop (Int.toNat k * 1) (pp ps)) :: (.val (.sl ((ps.getD (Int.toNat k) []).length) (pc (ps.getD (Int.toNat k) []))) :: (dds 16 []))))))))))))) (ex := .norm) (ps := [0 ≤ k ∧ k < ((ps.length : Nat) : Int), takeA (List.drop (Int.toNat k * 1) (pp ps)) 0 1 true = some (.sl ((ps.getD (Int.toNat k) []).length) (pc (ps.getD (Int.toNat k) [])))]) TSB_holds 400 [.v (.sl ((ps.getD (Int.toNat k) []).length) (pc (ps.getD (Int.toNat k) [])))] [2, 4, 7, 8, 9, 10, 11, 12] (by kernel_rfl) ⟨n1, (take_ppI n1), trivial⟩)
    (RunsW.seq (RunsW.script (t := (dds 2 (.val (.bool o) :: (dds 1 (.val (.sl ((ps.getD (Int.toNat k) []).length) (pc (ps.getD (Int.toNat k) []))) :: (.val (.int .i64 d) :: (dds 1 (.val (.sl ps.length (pp ps)) :: (.val (.int .i64 n) :: (.val (.int .i64 k) :: (.val (.bool (decide (k < n))) :: (.mem (List.drop (Int.toNat k * 1) (pp ps)) :: (.val (.sl ((ps.getD (Int.toNat k) []).length) (pc (ps.getD (Int.toNat k) []))) :: (.val (.sl ((ps.getD (Int.toNat k) []).length) (pc (ps.getD (Int.toNat k) []))) :: (.val (.int .i64 d) :: (dds 14 [])))))))))))))))) (ex := .norm) (ps := [Runs Try.ir 62 [.sl ((ps.getD (Int.toNat k) []).length) (pc (ps.getD (Int.toNat k) []))] (.int .i64 d)]) TSB_holds 400 [.r (.int .i64 d)] [2, 4, 5, 7, 8, 9, 10, 11, 12, 13, 14] (by kernel_rfl) ⟨n2, trivial⟩)
    (RunsW.seq (RunsW.script (t := (dds 2 (.val (.bool o) :: (dds 1 (.val (.sl ((ps.getD (Int.toNat k) []).length) (pc (ps.getD (Int.toNat k) []))) :: (.val (.int .i64 d) :: (dds 1 (.val (.sl ps.length (pp ps)) :: (.val (.int .i64 n) :: (.val (.int .i64 k) :: (.val (.bool (decide (k < n))) :: (.mem (List.drop (Int.toNat k * 1) (pp ps)) :: (.val (.sl ((ps.getD (Int.toNat k) []).length) (pc (ps.getD (Int.toNat k) []))) :: (.val (.sl ((ps.getD (Int.toNat k) []).length) (pc (ps.getD (Int.toNat k) []))) :: (.val (.int .i64 d) :: (.val (.int .i64 d) :: (.val (.bool (decide (d > 16))) :: (dds 12 [])))))))))))))))))) (ex := .norm) (ps := [(decide (d > 16)) = false]) TSB_holds 400 [.b false] [2, 4, 5, 7, 8, 9, 10, 11, 12, 13, 14, 15, 16] (by kernel_rfl) ⟨c2, trivial⟩)
    (RunsW.seq (RunsW.script (t := (dds 2 (.val (.bool o) :: (dds 1 (.val (.sl ((ps.getD (Int.toNat k) []).length) (pc (ps.getD (Int.toNat k) []))) :: (.val (.int .i64 d) :: (.val (.int .i64 0) :: (.val (.sl ps.length (pp ps)) :: (.val (.int .i64 n) :: (.val (.int .i64 k) :: (dds 19 []))))))))))) (ex := .norm) (ps := []) TSB_holds 400 [] [2, 4, 5, 6, 7, 8, 9] (by kernel_rfl) trivial)
    (RunsW.block_ret (RunsW.keep (t' := (dds 2 (.val (.bool true) :: (dds 4 (.val (.sl ps.length (pp ps)) :: (.val (.int .i64 n) :: (.val (.int .i64 k) :: (dds 19 [])))))))) [2, 7, 8, 9] hl3 (by kernel_rfl)))))))) (by intro e; cases e))))

theorem Try.k61y_3 (o : Bool) (ps : List (List Rn)) (n : Int) (k : Int)  (c1 : (decide (k < n)) = false) : RunsW Try.ir Try.c61y (Try.s61y o ps n k) (.exit 0) (Try.s61y o ps n k) :=
  (RunsW.seq (RunsW.script (t := (dds 2 (.val (.bool o) :: (dds 4 (.val (.sl ps.length (pp ps)) :: (.val (.int .i64 n) :: (.val (.int .i64 k) :: (.val (.bool (decide (k < n))) :: (dds 18 []))))))))) (ex := .norm) (ps := []) TSB_holds 400 [] [2, 7, 8, 9, 10] (by kernel_rfl) trivial)
    (RunsW.seq_out (RunsW.script (t := (dds 2 (.val (.bool o) :: (dds 4 (.val (.sl ps.length (pp ps)) :: (.val (.int .i64 n) :: (.val (.int .i64 k) :: (dds 19 [])))))))) (ex := (.exit 0)) (ps := [(decide (k < n)) = false]) TSB_holds 400 [.b false] [2, 7, 8, 9] (by kernel_rfl) ⟨c1, trivial⟩) (by intro e; cases e)))

theorem Try.run61_n (ps : List (List Rn)) (n k : Int) (hl1 : RunsW Try.ir (.loop Try.c61) (Try.s61 false ps ((ps.length : Nat) : Int) 0) (.exit 0) (Try.s61 false ps n k)) : Runs Try.ir 61 [.sl ps.length (pp ps)] (.bool false) :=
  Runs.of_bodyW (fn := Try.i61) (s := (dds 2 (.val (.bool false) :: (dds 4 (.val (.sl ps.length (pp ps)) :: (.val (.int .i64 n) :: (.val (.int .i64 k) :: (dds 19 [])))))))) (ex := .ret) rfl rfl
    (RunsW.seq (RunsW.script (t := (.val (.sl ps.length (pp ps)) :: (dds 1 (.val (.bool false) :: (dds 26 []))))) (ex := .norm) (ps := []) TSB_holds 400 [] [0, 2] (by kernel_rfl) trivial)
    (RunsW.seq (RunsW.seq (RunsW.script (t := (dds 2 (.val (.bool false) :: (dds 4 (.val (.sl ps.length (pp ps)) :: (.val (.int .i64 ((ps.length : Nat) : Int)) :: (.val (.int .i64 0) :: (dds 19 [])))))))) (ex := .norm) (ps := []) TSB_holds 400 [] [2, 7, 8, 9] (by kernel_rfl) trivial)
    (RunsW.block hl1))
    (RunsW.script (t := (dds 2 (.val (.bool false) :: (dds 4 (.val (.sl ps.length (pp ps)) :: (.val (.int .i64 n) :: (.val (.int .i64 k) :: (dds 19 [])))))))) (ex := .ret) (ps := []) TSB_holds 400 [] [2, 7, 8, 9] (by kernel_rfl) trivial))) (by intro i e; cases e) rfl

theorem Try.run61_y (ps : List (List Rn)) (n k : Int) (hl1 : RunsW Try.ir (.loop Try.c61) (Try.s61 false ps ((ps.length : Nat) : Int) 0) .ret (Try.s61 true ps n k)) : Runs Try.ir 61 [.sl ps.length (pp ps)] (.bool true) :=
  Runs.of_bodyW (fn := Try.i61) (s := (dds 2 (.val (.bool true) :: (dds 4 (.val (.sl ps.length (pp ps)) :: (.val (.int .i64 n) :: (.val (.int .i64 k) :: (dds 19 [])))))))) (ex := .ret) rfl rfl
    (RunsW.seq (RunsW.script (t := (.val (.sl ps.length (pp ps)) :: (dds 1 (.val (.bool false) :: (dds 26 []))))) (ex := .norm) (ps := []) TSB_holds 400 [] [0, 2] (by kernel_rfl) trivial)
    (RunsW.seq_out (RunsW.seq (RunsW.script (t := (dds 2 (.val (.bool false) :: (dds 4 (.val (.sl ps.length (pp ps)) :: (.val (.int .i64 ((ps.length : Nat) : Int)) :: (.val (.int .i64 0) :: (dds 19 [])))))))) (ex := .norm) (ps := []) TSB_holds 400 [] [2, 7, 8, 9] (by kernel_rfl) trivial)
    (RunsW.block_ret hl1)) (by intro e; cases e))) (by intro i e; cases e) rfl

def Try.c67 : ICode := .seq (.seq (.region false [oM 11 4,
   oM 12 3,
   o1 13 (.len (.t 12)),
   oB 14 .lss 11 13])
  (.cond (.t 14) (.skip)
  (.exit 0)))
  (.seq (.block 1 (.seq (.region false [oM 17 3,
   oM 18 4,
   o1 19 (.ixa 17 (.t 18) 2),
   o1 20 (.ld 19 19 2 false),
   oC 21 79 [20]])
  (.cond (.t 21) (.seq (.region false [o1 2 (.mov (.c (.bool true)))])
  (.ret))
  (.skip))))
  (.region false [oM 15 4,
   o1 16 (.bin .add (.t 15) (.c (.int .i64 1))),
   oM 4 16]))
def Try.s67 (o : Bool) (ts : List Rn) (i : Int) : State := (dds 2 (.val (.bool o) :: (.val (.sl ts.length (pc ts)) :: (.val (.int .i64 i) :: (dds 17 [])))))
theorem Try.k67_1 (o : Bool) (ts : List Rn) (i : Int) (z : Bool) (c1 : (decide (i < ((ts.length : Nat) : Int))) = true)
    (c2 : (z) = true)
    (n1 : 0 ≤ i ∧ i < ((ts.length : Nat) : Int))
    (n2 : Runs Try.ir 79 [.agg [.bool ((ts.getD (Int.toNat i) z0).1), .sl ((ts.getD (Int.toNat i) z0).2.length) (lm (ts.getD (Int.toNat i) z0).2)]] (.bool z)) : RunsW Try.ir Try.c67 (Try.s67 o ts i) .ret (Try.s67 true ts i) :=
  (RunsW.script (t := (dds 2 (.val (.bool true) :: (.val (.sl ts.length (pc ts)) :: (.val (.int .i64 i) :: (dds 17 [])))))) (ex := .ret) (ps := [(decide (i < ((ts.length : Nat) : Int))) = true, 0 ≤ i ∧ i < ((ts.length : Nat) : Int), takeA (List.drop (Int.toNat i * 2) (pc ts)) 0 2 false = some (.agg [.bool ((ts.getD (Int.toNat i) z0).1), .sl ((ts.getD (Int.toNat i) z0).2.length) (lm (ts.getD (Int.toNat i) z0).2)]), Runs Try.ir 79 [.agg [.bool ((ts.getD (Int.toNat i) z0).1), .sl ((ts.getD (Int.toNat i) z0).2.length) (lm (ts.getD (Int.toNat i) z0).2)]] (.bool z), z = true]) TSB_holds 400 [.b true, .v (.agg [.bool ((ts.getD (Int.toNat i) z0).1), .sl ((ts.getD (Int.toNat i) z0).2.length) (lm (ts.getD (Int.toNat i) z0).2)]), .r (.bool z), .b true] [2, 3, 4] (by kernel_rfl) ⟨c1, n1, (take_pcI n1), n2, c2, trivial⟩)

theorem Try.k67_2 (o : Bool) (ts : List Rn) (i : Int) (z : Bool) (c1 : (decide (i < ((ts.length : Nat) : Int))) = true)
    (c2 : (z) = false)
    (n1 : 0 ≤ i ∧ i < ((ts.length : Nat) : Int))
    (n2 : Runs Try.ir 79 [.agg [.bool ((ts.getD (Int.toNat i) z0).1), .sl ((ts.getD (Int.toNat i) z0).2.length) (lm (ts.getD (Int.toNat i) z0).2)]] (.bool z)) : RunsW Try.ir Try.c67 (Try.s67 o ts i) .norm (Try.s67 o ts (IntKind.i64.wrap (i + 1))) :=
  (RunsW.script (t := (dds 2 (.val (.bool o) :: (.val (.sl ts.length (pc ts)) :: (.val (.int .i64 (IntKind.i64.wrap (i + 1))) :: (dds 17 [])))))) (ex := .norm) (ps := [(decide (i < ((ts.length : Nat) : Int))) = true, 0 ≤ i ∧ i < ((ts.length : Nat) : Int), takeA (List.drop (Int.toNat i * 2) (pc ts)) 0 2 false = some (.agg [.bool ((ts.getD (Int.toNat i) z0).1), .sl ((ts.getD (Int.toNat i) z0).2.length) (lm (ts.getD (Int.toNat i) z0).2)]), Runs Try.ir 79 [.agg [.bool ((ts.getD (Int.toNat i) z0).1), .sl ((ts.getD (Int.toNat i) z0).2.length) (lm (ts.getD (Int.toNat i) z0).2)]] (.bool z), z = false]) TSB_holds 400 [.b true, .v (.agg [.bool ((ts.getD (Int.toNat i) z0).1), .sl ((ts.getD (Int.toNat i) z0).2.length) (lm (ts.getD (Int.toNat i) z0).2)]), .r (.bool z), .b false] [2, 3, 4] (by kernel_rfl) ⟨c1, n1, (take_pcI n1), n2, c2, trivial⟩)

theorem Try.k67_3 (o : Bool) (ts : List Rn) (i : Int)  (c1 : (decide (i < ((ts.length : Nat) : Int))) = false) : RunsW Try.ir Try.c67 (Try.s67 o ts i) (.exit 0) (Try.s67 o ts i) :=
  (RunsW.script (t := (dds 2 (.val (.bool o) :: (.val (.sl ts.length (pc ts)) :: (.val (.int .i64 i) :: (dds 17 [])))))) (ex := (.exit 0)) (ps := [(decide (i < ((ts.length : Nat) : Int))) = false]) TSB_holds 400 [.b false] [2, 3, 4] (by kernel_rfl) ⟨c1, trivial⟩)

theorem Try.run67_n_1 (rs ts : List Rn) (c1 : (decide ((IntKind.i64.wrap (((ts.length : Nat) : Int) - 1)) > 16)) = true)
    (n1 : Runs Try.ir 43 [.sl rs.length (pc rs)] (.fresh 2 ts.length (pc ts))) : Runs Try.ir 67 [.sl rs.length (pc rs)] (.bool true) :=
  Runs.of_bodyW (fn := Try.i67) (s := (.val (.sl rs.length (pc rs)) :: (dds 1 (.val (.bool true) :: (.val (.sl ts.length (pc ts)) :: (dds 1 (.val (.sl rs.length (pc rs)) :: (.val (.sl ts.length (pc ts)) :: (.val (.sl ts.length (pc ts)) :: (.val (.int .i64 ((ts.length : Nat) : Int)) :: (.val (.int .i64 (IntKind.i64.wrap (((ts.length : Nat) : Int) - 1))) :: (.val (.bool (decide ((IntKind.i64.wrap (((ts.length : Nat) : Int) - 1)) > 16))) :: (dds 11 []))))))))))))) (ex := .ret) rfl rfl
    (RunsW.seq (RunsW.script (t := (.val (.sl rs.length (pc rs)) :: (dds 1 (.val (.bool false) :: (dds 19 []))))) (ex := .norm) (ps := []) TSB_holds 400 [] [0, 2] (by kernel_rfl) trivial)
    (RunsW.seq (RunsW.script (t := (.val (.sl rs.length (pc rs)) :: (dds 1 (.val (.bool false) :: (.val (.sl ts.length (pc ts)) :: (dds 1 (.val (.sl rs.length (pc rs)) :: (.val (.sl ts.length (pc ts)) :: (dds 15 []))))))))) (ex := .norm) (ps := [Runs Try.ir 43 [.sl rs.length (pc rs)] (.fresh 2 ts.length (pc ts))]) TSB_holds 400 [.r (.fresh 2 ts.length (pc ts))] [0, 2, 3, 5, 6] (by kernel_rfl) ⟨n1, trivial⟩)
    (RunsW.seq_out (RunsW.script (t := (.val (.sl rs.length (pc rs)) :: (dds 1 (.val (.bool true) :: (.val (.sl ts.length (pc ts)) :: (dds 1 (.val (.sl rs.length (pc rs)) :: (.val (.sl ts.length (pc ts)) :: (.val (.sl ts.length (pc ts)) :: (.val (.int .i64 ((ts.length : Nat) : Int)) :: (.val (.int .i64 (IntKind.i64.wrap (((ts.length : Nat) : Int) - 1))) :: (.val (.bool (decide ((IntKind.i64.wrap (((ts.length : Nat) : Int) - 1)) > 16))) :: (dds 11 []))))))))))))) (ex := .ret) (ps := [(decide ((IntKind.i64.wrap (((ts.length : Nat) : Int) - 1)) > 16)) = true]) TSB_holds 400 [.b true] [0, 2, 3, 5, 6, 7, 8, 9, 10] (by kernel_rfl) ⟨c1, trivial⟩) (by intro e; cases e)))) (by intro i e; cases e) rfl

theorem Try.run67_n_2 (rs ts : List Rn) (i : Int) (c1 : (decide ((IntKind.i64.wrap (((ts.length : Nat) : Int) - 1)) > 16)) = false)
    (n1 : Runs Try.ir 43 [.sl rs.length (pc rs)] (.fresh 2 ts.length (pc ts)))
    (hl2 : RunsW Try.ir (.loop Try.c67) (Try.s67 false ts 0) (.exit 0) (Try.s67 false ts i)) : Runs Try.ir 67 [.sl rs.length (pc rs)] (.bool false) :=
  Runs.of_bodyW (fn := Try.i67) (s := (dds 2 (.val (.bool false) :: (.val (.sl ts.length (pc ts)) :: (.val (.int .i64 i) :: (dds 17 [])))))) (ex := .ret) rfl rfl
    (RunsW.seq (RunsW.script (t := (.val (.sl rs.length (pc rs)) :: (dds 1 (.val (.bool false) :: (dds 19 []))))) (ex := .norm) (ps := []) TSB_holds 400 [] [0, 2] (by kernel_rfl) trivial)
    (RunsW.seq (RunsW.script (t := (.val (.sl rs.length (pc rs)) :: (dds 1 (.val (.bool false) :: (.val (.sl ts.length (pc ts)) :: (dds 1 (.val (.sl rs.length (pc rs)) :: (.val (.sl ts.length (pc ts)) :: (dds 15 []))))))))) (ex := .norm) (ps := [Runs Try.ir 43 [.sl rs.length (pc rs)] (.fresh 2 ts.length (pc ts))]) TSB_holds 400 [.r (.fresh 2 ts.length (pc ts))] [0, 2, 3, 5, 6] (by kernel_rfl) ⟨n1, trivial⟩)
    (RunsW.seq (RunsW.script (t := (.val (.sl rs.length (pc rs)) :: (dds 1 (.val (.bool false) :: (.val (.sl ts.length (pc ts)) :: (dds 1 (.val (.sl rs.length (pc rs)) :: (.val (.sl ts.length (pc ts)) :: (.val (.sl ts.length (pc ts)) :: (.val (.int .i64 ((ts.length : Nat) : Int)) :: (.val (.int .i64 (IntKind.i64.wrap (((ts.length : Nat) : Int) - 1))) :: (.val (.bool (decide ((IntKind.i64.wrap (((ts.length : Nat) : Int) - 1)) > 16))) :: (dds 11 []))))))))))))) (ex := .norm) (ps := [(decide ((IntKind.i64.wrap (((ts.length : Nat) : Int) - 1)) > 16)) = false]) TSB_holds 400 [.b false] [0, 2, 3, 5, 6, 7, 8, 9, 10] (by kernel_rfl) ⟨c1, trivial⟩)
    (RunsW.seq (RunsW.seq (RunsW.script (t := (dds 2 (.val (.bool false) :: (.val (.sl ts.length (pc ts)) :: (.val (.int .i64 0) :: (dds 17 [])))))) (ex := .norm) (ps := []) TSB_holds 400 [] [2, 3, 4] (by kernel_rfl) trivial)
    (RunsW.block hl2))
    (RunsW.script (t := (dds 2 (.val (.bool false) :: (.val (.sl ts.length (pc ts)) :: (.val (.int .i64 i) :: (dds 17 [])))))) (ex := .ret) (ps := []) TSB_holds 400 [] [2, 3, 4] (by kernel_rfl) trivial))))) (by intro i e; cases e) rfl

theorem Try.run67_y_1 (rs ts : List Rn) (c1 : (decide ((IntKind.i64.wrap (((ts.length : Nat) : Int) - 1)) > 16)) = true)
    (n1 : Runs Try.ir 43 [.sl rs.length (pc rs)] (.fresh 2 ts.length (pc ts))) : Runs Try.ir 67 [.sl rs.length (pc rs)] (.bool true) :=
  Runs.of_bodyW (fn := Try.i67) (s := (.val (.sl rs.length (pc rs)) :: (dds 1 (.val (.bool true) :: (.val (.sl ts.length (pc ts)) :: (dds 1 (.val (.sl rs.length (pc rs)) :: (.val (.sl ts.length (pc ts)) :: (.val (.sl ts.length (pc ts)) :: (.val (.int .i64 ((ts.length : Nat) : Int)) :: (.val (.int .i64 (IntKind.i64.wrap (((ts.length : Nat) : Int) - 1))) :: (.val (.bool (decide ((IntKind.i64.wrap (((ts.length : Nat) : Int) - 1)) > 16))) :: (dds 11 []))))))))))))) (ex := .ret) rfl rfl
    (RunsW.seq (RunsW.script (t := (.val (.sl rs.length (pc rs)) :: (dds 1 (.val (.bool false) :: (dds 19 []))))) (ex := .norm) (ps := []) TSB_holds 400 [] [0, 2] (by kernel_rfl) trivial)
    (RunsW.seq (RunsW.script (t := (.val (.sl rs.length (pc rs)) :: (dds 1 (.val (.bool false) :: (.val (.sl ts.length (pc ts)) :: (dds 1 (.val (.sl rs.length (pc rs)) :: (.val (.sl ts.length (pc ts)) :: (dds 15 []))))))))) (ex := .norm) (ps := [Runs Try.ir 43 [.sl rs.length (pc rs)] (.fresh 2 ts.length (pc ts))]) TSB_holds 400 [.r (.fresh 2 ts.length (pc ts))] [0, 2, 3, 5, 6] (by kernel_rfl) ⟨n1, trivial⟩)
    (RunsW.seq_out (RunsW.script (t := (.val (.sl rs.length (pc rs)) :: (dds 1 (.val (.bool true) :: (.val (.sl ts.length (pc ts)) :: (dds 1 (.val (.sl rs.length (pc rs)) :: (.val (.sl ts.length (pc ts)) :: (.val (.sl ts.length (pc ts)) :: (.val (.int .i64 ((ts.length : Nat) : Int)) :: (.val (.int .i64 (IntKind.i64.wrap (((ts.length : Nat) : Int) - 1))) :: (.val (.bool (decide ((IntKind.i64.wrap (((ts.length : Nat) : Int) - 1)) > 16))) :: (dds 11 []))))))))))))) (ex := .ret) (ps := [(decide ((IntKind.i64.wrap (((ts.length : Nat) : Int) - 1)) > 16)) = true]) TSB_holds 400 [.b true] [0, 2, 3, 5, 6, 7, 8, 9, 10] (by kernel_rfl) ⟨c1, trivial⟩) (by intro e; cases e)))) (by intro i e; cases e) rfl

theorem Try.run67_y_2 (rs ts : List Rn) (i : Int) (c1 : (decide ((IntKind.i64.wrap (((ts.length : Nat) : Int) - 1)) > 16)) = false)
    (n1 : Runs Try.ir 43 [.sl rs.length (pc rs)] (.fresh 2 ts.length (pc ts)))
    (hl2 : RunsW Try.ir (.loop Try.c67) (Try.s67 false ts 0) .ret (Try.s67 true ts i)) : Runs Try.ir 67 [.sl rs.length (pc rs)] (.bool true) :=
  Runs.of_bodyW (fn := Try.i67) (s := (dds 2 (.val (.bool true) :: (.val (.sl ts.length (pc ts)) :: (.val (.int .i64 i) :: (dds 17 [])))))) (ex := .ret) rfl rfl
    (RunsW.seq (RunsW.script (t := (.val (.sl rs.length (pc rs)) :: (dds 1 (.val (.bool false) :: (dds 19 []))))) (ex := .norm) (ps := []) TSB_holds 400 [] [0, 2] (by kernel_rfl) trivial)
    (RunsW.seq (RunsW.script (t := (.val (.sl rs.length (pc rs)) :: (dds 1 (.val (.bool false) :: (.val (.sl ts.length (pc ts)) :: (dds 1 (.val (.sl rs.length (pc rs)) :: (.val (.sl ts.length (pc ts)) :: (dds 15 []))))))))) (ex := .norm) (ps := [Runs Try.ir 43 [.sl rs.length (pc rs)] (.fresh 2 ts.length (pc ts))]) TSB_holds 400 [.r (.fresh 2 ts.length (pc ts))] [0, 2, 3, 5, 6] (by kernel_rfl) ⟨n1, trivial⟩)
    (RunsW.seq (RunsW.script (t := (.val (.sl rs.length (pc rs)) :: (dds 1 (.val (.bool false) :: (.val (.sl ts.length (pc ts)) :: (dds 1 (.val (.sl rs.length (pc rs)) :: (.val (.sl ts.length (pc ts)) :: (.val (.sl ts.length (pc ts)) :: (.val (.int .i64 ((ts.length : Nat) : Int)) :: (.val (.int .i64 (IntKind.i64.wrap (((ts.length : Nat) : Int) - 1))) :: (.val (.bool (decide ((IntKind.i64.wrap (((ts.length : Nat) : Int) - 1)) > 16))) :: (dds 11 []))))))))))))) (ex := .norm) (ps := [(decide ((IntKind.i64.wrap (((ts.length : Nat) : Int) - 1)) > 16)) = false]) TSB_holds 400 [.b false] [0, 2, 3, 5, 6, 7, 8, 9, 10] (by kernel_rfl) ⟨c1, trivial⟩)
    (RunsW.seq_out (RunsW.seq (RunsW.script (t := (dds 2 (.val (.bool false) :: (.val (.sl ts.length (pc ts)) :: (.val (.int .i64 0) :: (dds 17 [])))))) (ex := .norm) (ps := []) TSB_holds 400 [] [2, 3, 4] (by kernel_rfl) trivial)
    (RunsW.block_ret hl2)) (by intro e; cases e))))) (by intro i e; cases e) rfl

theorem Try.run44 (rs ts : List Rn) (n1 : Runs Try.ir 43 [.sl rs.length (pc rs)] (.fresh 2 ts.length (pc ts))) : Runs Try.ir 44 [.sl rs.length (pc rs)] (.int .i64 (IntKind.i64.wrap (((ts.length : Nat) : Int) - 1))) :=
  Runs.script (r := .int .i64 (IntKind.i64.wrap (((ts.length : Nat) : Int) - 1))) (ps := [Runs Try.ir 43 [.sl rs.length (pc rs)] (.fresh 2 ts.length (pc ts))]) TSB_holds rfl 400 rfl [.r (.fresh 2 ts.length (pc ts))] (by kernel_rfl) ⟨n1, trivial⟩

theorem Try.run29_1 (rs : List Rn) (r : Rn) (e d : Int) (lg : Bool) (c1 : (lg) = true)
    (n1 : Runs Try.ir 62 [.sl rs.length (pc rs)] (.int .i64 d))
    (n2 : Runs Try.ir 61 [.sl 1 [.sl rs.length (pc rs)]] (.bool lg)) : Runs Try.ir 29 [.sl rs.length (pc rs), .agg [.bool r.1, .sl r.2.length (lm r.2), .int .i64 e]] (.tup [.int .i64 0, .int .i64 2]) :=
  Runs.script (r := .tup [.int .i64 0, .int .i64 2]) (ps := [Runs Try.ir 62 [.sl rs.length (pc rs)] (.int .i64 d), Runs Try.ir 61 [.sl 1 [.sl rs.length (pc rs)]] (.bool lg), lg = true, true = true]) TSB_holds rfl 400 rfl [.r (.int .i64 d), .r (.bool lg), .b true, .b true] (by kernel_rfl) ⟨n1, n2, c1, rfl, trivial⟩

theorem Try.run29_2 (rs : List Rn) (r : Rn) (e d z : Int) (lg : Bool) (c1 : (lg) = false)
    (c2 : (decide (z > 256)) = true)
    (n1 : Runs Try.ir 62 [.sl rs.length (pc rs)] (.int .i64 d))
    (n2 : Runs Try.ir 61 [.sl 1 [.sl rs.length (pc rs)]] (.bool lg))
    (n3 : Runs Try.ir 76 [.agg [.bool r.1, .sl r.2.length (lm r.2)]] (.int .i64 z)) : Runs Try.ir 29 [.sl rs.length (pc rs), .agg [.bool r.1, .sl r.2.length (lm r.2), .int .i64 e]] (.tup [.int .i64 0, .int .i64 2]) :=
  Runs.script (r := .tup [.int .i64 0, .int .i64 2]) (ps := [Runs Try.ir 62 [.sl rs.length (pc rs)] (.int .i64 d), Runs Try.ir 61 [.sl 1 [.sl rs.length (pc rs)]] (.bool lg), lg = false, Runs Try.ir 76 [.agg [.bool r.1, .sl r.2.length (lm r.2)]] (.int .i64 z), (decide (z > 256)) = true]) TSB_holds rfl 400 rfl [.r (.int .i64 d), .r (.bool lg), .b false, .r (.int .i64 z), .b true] (by kernel_rfl) ⟨n1, n2, c1, n3, c2, trivial⟩

theorem Try.run29_3 (rs : List Rn) (r : Rn) (e d z : Int) (lg : Bool) (c1 : (lg) = false)
    (c2 : (decide (z > 256)) = false)
    (c3 : (decide (e < 0)) = true)
    (n1 : Runs Try.ir 62 [.sl rs.length (pc rs)] (.int .i64 d))
    (n2 : Runs Try.ir 61 [.sl 1 [.sl rs.length (pc rs)]] (.bool lg))
    (n3 : Runs Try.ir 76 [.agg [.bool r.1, .sl r.2.length (lm r.2)]] (.int .i64 z)) : Runs Try.ir 29 [.sl rs.length (pc rs), .agg [.bool r.1, .sl r.2.length (lm r.2), .int .i64 e]] (.tup [.int .i64 0, .int .i64 1]) :=
  Runs.script (r := .tup [.int .i64 0, .int .i64 1]) (ps := [Runs Try.ir 62 [.sl rs.length (pc rs)] (.int .i64 d), Runs Try.ir 61 [.sl 1 [.sl rs.length (pc rs)]] (.bool lg), lg = false, Runs Try.ir 76 [.agg [.bool r.1, .sl r.2.length (lm r.2)]] (.int .i64 z), (decide (z > 256)) = false, (decide (e < 0)) = true, true = true]) TSB_holds rfl 400 rfl [.r (.int .i64 d), .r (.bool lg), .b false, .r (.int .i64 z), .b false, .b true, .b true] (by kernel_rfl) ⟨n1, n2, c1, n3, c2, c3, rfl, trivial⟩

theorem Try.run29_4 (rs : List Rn) (r : Rn) (e d z : Int) (lg : Bool) (c1 : (lg) = false)
    (c2 : (decide (z > 256)) = false)
    (c3 : (decide (e < 0)) = false)
    (c4 : (decide (e > 4096)) = true)
    (n1 : Runs Try.ir 62 [.sl rs.length (pc rs)] (.int .i64 d))
    (n2 : Runs Try.ir 61 [.sl 1 [.sl rs.length (pc rs)]] (.bool lg))
    (n3 : Runs Try.ir 76 [.agg [.bool r.1, .sl r.2.length (lm r.2)]] (.int .i64 z)) : Runs Try.ir 29 [.sl rs.length (pc rs), .agg [.bool r.1, .sl r.2.length (lm r.2), .int .i64 e]] (.tup [.int .i64 0, .int .i64 1]) :=
  Runs.script (r := .tup [.int .i64 0, .int .i64 1]) (ps := [Runs Try.ir 62 [.sl rs.length (pc rs)] (.int .i64 d), Runs Try.ir 61 [.sl 1 [.sl rs.length (pc rs)]] (.bool lg), lg = false, Runs Try.ir 76 [.agg [.bool r.1, .sl r.2.length (lm r.2)]] (.int .i64 z), (decide (z > 256)) = false, (decide (e < 0)) = false, (decide (e > 4096)) = true]) TSB_holds rfl 400 rfl [.r (.int .i64 d), .r (.bool lg), .b false, .r (.int .i64 z), .b false, .b false, .b true] (by kernel_rfl) ⟨n1, n2, c1, n3, c2, c3, c4, trivial⟩

theorem Try.run29_5 (rs : List Rn) (r : Rn) (e d z bt : Int) (lg : Bool) (c1 : (lg) = false)
    (c2 : (decide (z > 256)) = false)
    (c3 : (decide (e < 0)) = false)
    (c4 : (decide (e > 4096)) = false)
    (c5 : (decide (d > 0)) = true)
    (c6 : (decide ((IntKind.i64.wrap ((IntKind.i64.wrap (bt + e)) * d)) > 8192)) = true)
    (n1 : Runs Try.ir 62 [.sl rs.length (pc rs)] (.int .i64 d))
    (n2 : Runs Try.ir 61 [.sl 1 [.sl rs.length (pc rs)]] (.bool lg))
    (n3 : Runs Try.ir 76 [.agg [.bool r.1, .sl r.2.length (lm r.2)]] (.int .i64 z))
    (n4 : Runs Try.ir 77 [.agg [.bool r.1, .sl r.2.length (lm r.2)]] (.int .i64 bt)) : Runs Try.ir 29 [.sl rs.length (pc rs), .agg [.bool r.1, .sl r.2.length (lm r.2), .int .i64 e]] (.tup [.int .i64 0, .int .i64 2]) :=
  Runs.script (r := .tup [.int .i64 0, .int .i64 2]) (ps := [Runs Try.ir 62 [.sl rs.length (pc rs)] (.int .i64 d), Runs Try.ir 61 [.sl 1 [.sl rs.length (pc rs)]] (.bool lg), lg = false, Runs Try.ir 76 [.agg [.bool r.1, .sl r.2.length (lm r.2)]] (.int .i64 z), (decide (z > 256)) = false, (decide (e < 0)) = false, (decide (e > 4096)) = false, (decide (d > 0)) = true, Runs Try.ir 77 [.agg [.bool r.1, .sl r.2.length (lm r.2)]] (.int .i64 bt), (decide ((IntKind.i64.wrap ((IntKind.i64.wrap (bt + e)) * d)) > 8192)) = true]) TSB_holds rfl 400 rfl [.r (.int .i64 d), .r (.bool lg), .b false, .r (.int .i64 z), .b false, .b false, .b false, .b true, .r (.int .i64 bt), .b true] (by kernel_rfl) ⟨n1, n2, c1, n3, c2, c3, c4, c5, n4, c6, trivial⟩

theorem Try.run29_6 (rs : List Rn) (r : Rn) (e d z bt sg : Int) (lg : Bool) (c1 : (lg) = false)
    (c2 : (decide (z > 256)) = false)
    (c3 : (decide (e < 0)) = false)
    (c4 : (decide (e > 4096)) = false)
    (c5 : (decide (d > 0)) = true)
    (c6 : (decide ((IntKind.i64.wrap ((IntKind.i64.wrap (bt + e)) * d)) > 8192)) = false)
    (n1 : 0 ≤ (IntKind.i64.wrap (d + 1)))
    (n2 : 0 ≤ (Int.toNat (IntKind.i64.wrap (d + 1))) ∧ (Int.toNat (IntKind.i64.wrap (d + 1))) ≤ rs.length ∧ rs.length ≤ rs.length ∧ (false = true → true = true))
    (n3 : Runs Try.ir 62 [.sl rs.length (pc rs)] (.int .i64 d))
    (n4 : Runs Try.ir 61 [.sl 1 [.sl rs.length (pc rs)]] (.bool lg))
    (n5 : Runs Try.ir 76 [.agg [.bool r.1, .sl r.2.length (lm r.2)]] (.int .i64 z))
    (n6 : Runs Try.ir 77 [.agg [.bool r.1, .sl r.2.length (lm r.2)]] (.int .i64 bt))
    (n7 : Runs Try.ir 78 [.sl ((Int.toNat (IntKind.i64.wrap (d + 1))) - 0) (List.take (((Int.toNat (IntKind.i64.wrap (d + 1))) - 0) * 2) (List.drop (0 * 2) (pc rs))), .agg [.bool r.1, .sl r.2.length (lm r.2), .int .i64 e]] (.int .i64 sg)) : Runs Try.ir 29 [.sl rs.length (pc rs), .agg [.bool r.1, .sl r.2.length (lm r.2), .int .i64 e]] (.tup [.int .i64 sg, .int .i64 0]) :=
  Runs.script (r := .tup [.int .i64 sg, .int .i64 0]) (ps := [Runs Try.ir 62 [.sl rs.length (pc rs)] (.int .i64 d), Runs Try.ir 61 [.sl 1 [.sl rs.length (pc rs)]] (.bool lg), lg = false, Runs Try.ir 76 [.agg [.bool r.1, .sl r.2.length (lm r.2)]] (.int .i64 z), (decide (z > 256)) = false, (decide (e < 0)) = false, (decide (e > 4096)) = false, (decide (d > 0)) = true, Runs Try.ir 77 [.agg [.bool r.1, .sl r.2.length (lm r.2)]] (.int .i64 bt), (decide ((IntKind.i64.wrap ((IntKind.i64.wrap (bt + e)) * d)) > 8192)) = false, 0 ≤ (IntKind.i64.wrap (d + 1)), 0 ≤ (Int.toNat (IntKind.i64.wrap (d + 1))) ∧ (Int.toNat (IntKind.i64.wrap (d + 1))) ≤ rs.length ∧ rs.length ≤ rs.length ∧ (false = true → true = true), Runs Try.ir 78 [.sl ((Int.toNat (IntKind.i64.wrap (d + 1))) - 0) (List.take (((Int.toNat (IntKind.i64.wrap (d + 1))) - 0) * 2) (List.drop (0 * 2) (pc rs))), .agg [.bool r.1, .sl r.2.length (lm r.2), .int .i64 e]] (.int .i64 sg)]) TSB_holds rfl 400 rfl [.r (.int .i64 d), .r (.bool lg), .b false, .r (.int .i64 z), .b false, .b false, .b false, .b true, .r (.int .i64 bt), .b false, .r (.int .i64 sg)] (by kernel_rfl) ⟨n3, n4, c1, n5, c2, c3, c4, c5, n6, c6, n1, n2, n7, trivial⟩

theorem Try.run29_7 (rs : List Rn) (r : Rn) (e d z sg : Int) (lg : Bool) (c1 : (lg) = false)
    (c2 : (decide (z > 256)) = false)
    (c3 : (decide (e < 0)) = false)
    (c4 : (decide (e > 4096)) = false)
    (c5 : (decide (d > 0)) = false)
    (n1 : 0 ≤ (IntKind.i64.wrap (d + 1)))
    (n2 : 0 ≤ (Int.toNat (IntKind.i64.wrap (d + 1))) ∧ (Int.toNat (IntKind.i64.wrap (d + 1))) ≤ rs.length ∧ rs.length ≤ rs.length ∧ (false = true → true = true))
    (n3 : Runs Try.ir 62 [.sl rs.length (pc rs)] (.int .i64 d))
    (n4 : Runs Try.ir 61 [.sl 1 [.sl rs.length (pc rs)]] (.bool lg))
    (n5 : Runs Try.ir 76 [.agg [.bool r.1, .sl r.2.length (lm r.2)]] (.int .i64 z))
    (n6 : Runs Try.ir 78 [.sl ((Int.toNat (IntKind.i64.wrap (d + 1))) - 0) (List.take (((Int.toNat (IntKind.i64.wrap (d + 1))) - 0) * 2) (List.drop (0 * 2) (pc rs))), .agg [.bool r.1, .sl r.2.length (lm r.2), .int .i64 e]] (.int .i64 sg)) : Runs Try.ir 29 [.sl rs.length (pc rs), .agg [.bool r.1, .sl r.2.length (lm r.2), .int .i64 e]] (.tup [.int .i64 sg, .int .i64 0]) :=
  Runs.script (r := .tup [.int .i64 sg, .int .i64 0]) (ps := [Runs Try.ir 62 [.sl rs.length (pc rs)] (.int .i64 d), Runs Try.ir 61 [.sl 1 [.sl rs.length (pc rs)]] (.bool lg), lg = false, Runs Try.ir 76 [.agg [.bool r.1, .sl r.2.length (lm r.2)]] (.int .i64 z), (decide (z > 256)) = false, (decide (e < 0)) = false, (decide (e > 4096)) = false, (decide (d > 0)) = false, false = false, 0 ≤ (IntKind.i64.wrap (d + 1)), 0 ≤ (Int.toNat (IntKind.i64.wrap (d + 1))) ∧ (Int.toNat (IntKind.i64.wrap (d + 1))) ≤ rs.length ∧ rs.length ≤ rs.length ∧ (false = true → true = true), Runs Try.ir 78 [.sl ((Int.toNat (IntKind.i64.wrap (d + 1))) - 0) (List.take (((Int.toNat (IntKind.i64.wrap (d + 1))) - 0) * 2) (List.drop (0 * 2) (pc rs))), .agg [.bool r.1, .sl r.2.length (lm r.2), .int .i64 e]] (.int .i64 sg)]) TSB_holds rfl 400 rfl [.r (.int .i64 d), .r (.bool lg), .b false, .r (.int .i64 z), .b false, .b false, .b false, .b false, .b false, .r (.int .i64 sg)] (by kernel_rfl) ⟨n3, n4, c1, n5, c2, c3, c4, c5, rfl, n1, n2, n6, trivial⟩

theorem Try.run30_1 (rs : List Rn) (r : Rn) (e : Int) (lg : Bool) (c1 : (lg) = true)
    (n1 : Runs Try.ir 67 [.sl rs.length (pc rs)] (.bool lg)) : Runs Try.ir 30 [.sl rs.length (pc rs), .agg [.bool r.1, .sl r.2.length (lm r.2), .int .i64 e]] (.tup [.int .i64 0, .int .i64 2]) :=
  Runs.script (r := .tup [.int .i64 0, .int .i64 2]) (ps := [Runs Try.ir 67 [.sl rs.length (pc rs)] (.bool lg), lg = true, true = true]) TSB_holds rfl 400 rfl [.r (.bool lg), .b true, .b true] (by kernel_rfl) ⟨n1, c1, rfl, trivial⟩

theorem Try.run30_2 (rs : List Rn) (r : Rn) (e : Int) (lg z : Bool) (c1 : (lg) = false)
    (c2 : (z) = true)
    (n1 : Runs Try.ir 67 [.sl rs.length (pc rs)] (.bool lg))
    (n2 : Runs Try.ir 79 [.agg [.bool r.1, .sl r.2.length (lm r.2)]] (.bool z)) : Runs Try.ir 30 [.sl rs.length (pc rs), .agg [.bool r.1, .sl r.2.length (lm r.2), .int .i64 e]] (.tup [.int .i64 0, .int .i64 2]) :=
  Runs.script (r := .tup [.int .i64 0, .int .i64 2]) (ps := [Runs Try.ir 67 [.sl rs.length (pc rs)] (.bool lg), lg = false, Runs Try.ir 79 [.agg [.bool r.1, .sl r.2.length (lm r.2)]] (.bool z), z = true]) TSB_holds rfl 400 rfl [.r (.bool lg), .b false, .r (.bool z), .b true] (by kernel_rfl) ⟨n1, c1, n2, c2, trivial⟩

theorem Try.run30_3 (rs : List Rn) (r : Rn) (e : Int) (lg z : Bool) (c1 : (lg) = false)
    (c2 : (z) = false)
    (c3 : (decide (e < 0)) = true)
    (n1 : Runs Try.ir 67 [.sl rs.length (pc rs)] (.bool lg))
    (n2 : Runs Try.ir 79 [.agg [.bool r.1, .sl r.2.length (lm r.2)]] (.bool z)) : Runs Try.ir 30 [.sl rs.length (pc rs), .agg [.bool r.1, .sl r.2.length (lm r.2), .int .i64 e]] (.tup [.int .i64 0, .int .i64 1]) :=
  Runs.script (r := .tup [.int .i64 0, .int .i64 1]) (ps := [Runs Try.ir 67 [.sl rs.length (pc rs)] (.bool lg), lg = false, Runs Try.ir 79 [.agg [.bool r.1, .sl r.2.length (lm r.2)]] (.bool z), z = false, (decide (e < 0)) = true, true = true]) TSB_holds rfl 400 rfl [.r (.bool lg), .b false, .r (.bool z), .b false, .b true, .b true] (by kernel_rfl) ⟨n1, c1, n2, c2, c3, rfl, trivial⟩

theorem Try.run30_4 (rs : List Rn) (r : Rn) (e : Int) (lg z : Bool) (c1 : (lg) = false)
    (c2 : (z) = false)
    (c3 : (decide (e < 0)) = false)
    (c4 : (decide (e > 4096)) = true)
    (n1 : Runs Try.ir 67 [.sl rs.length (pc rs)] (.bool lg))
    (n2 : Runs Try.ir 79 [.agg [.bool r.1, .sl r.2.length (lm r.2)]] (.bool z)) : Runs Try.ir 30 [.sl rs.length (pc rs), .agg [.bool r.1, .sl r.2.length (lm r.2), .int .i64 e]] (.tup [.int .i64 0, .int .i64 1]) :=
  Runs.script (r := .tup [.int .i64 0, .int .i64 1]) (ps := [Runs Try.ir 67 [.sl rs.length (pc rs)] (.bool lg), lg = false, Runs Try.ir 79 [.agg [.bool r.1, .sl r.2.length (lm r.2)]] (.bool z), z = false, (decide (e < 0)) = false, (decide (e > 4096)) = true]) TSB_holds rfl 400 rfl [.r (.bool lg), .b false, .r (.bool z), .b false, .b false, .b true] (by kernel_rfl) ⟨n1, c1, n2, c2, c3, c4, trivial⟩

theorem Try.run30_5 (rs : List Rn) (r : Rn) (e d bt : Int) (lg z : Bool) (c1 : (lg) = false)
    (c2 : (z) = false)
    (c3 : (decide (e < 0)) = false)
    (c4 : (decide (e > 4096)) = false)
    (c5 : (decide (d > 0)) = true)
    (c6 : (decide ((IntKind.i64.wrap ((IntKind.i64.wrap (bt + e)) * d)) > 8192)) = true)
    (n1 : Runs Try.ir 67 [.sl rs.length (pc rs)] (.bool lg))
    (n2 : Runs Try.ir 79 [.agg [.bool r.1, .sl r.2.length (lm r.2)]] (.bool z))
    (n3 : Runs Try.ir 44 [.sl rs.length (pc rs)] (.int .i64 d))
    (n4 : Runs Try.ir 80 [.agg [.bool r.1, .sl r.2.length (lm r.2)]] (.int .i64 bt)) : Runs Try.ir 30 [.sl rs.length (pc rs), .agg [.bool r.1, .sl r.2.length (lm r.2), .int .i64 e]] (.tup [.int .i64 0, .int .i64 2]) :=
  Runs.script (r := .tup [.int .i64 0, .int .i64 2]) (ps := [Runs Try.ir 67 [.sl rs.length (pc rs)] (.bool lg), lg = false, Runs Try.ir 79 [.agg [.bool r.1, .sl r.2.length (lm r.2)]] (.bool z), z = false, (decide (e < 0)) = false, (decide (e > 4096)) = false, Runs Try.ir 44 [.sl rs.length (pc rs)] (.int .i64 d), (decide (d > 0)) = true, Runs Try.ir 80 [.agg [.bool r.1, .sl r.2.length (lm r.2)]] (.int .i64 bt), (decide ((IntKind.i64.wrap ((IntKind.i64.wrap (bt + e)) * d)) > 8192)) = true]) TSB_holds rfl 400 rfl [.r (.bool lg), .b false, .r (.bool z), .b false, .b false, .b false, .r (.int .i64 d), .b true, .r (.int .i64 bt), .b true] (by kernel_rfl) ⟨n1, c1, n2, c2, c3, c4, n3, c5, n4, c6, trivial⟩

theorem Try.run30_6 (rs : List Rn) (r : Rn) (e d bt v sg : Int) (lg z : Bool) (c1 : (lg) = false)
    (c2 : (z) = false)
    (c3 : (decide (e < 0)) = false)
    (c4 : (decide (e > 4096)) = false)
    (c5 : (decide (d > 0)) = true)
    (c6 : (decide ((IntKind.i64.wrap ((IntKind.i64.wrap (bt + e)) * d)) > 8192)) = false)
    (n1 : Runs Try.ir 67 [.sl rs.length (pc rs)] (.bool lg))
    (n2 : Runs Try.ir 79 [.agg [.bool r.1, .sl r.2.length (lm r.2)]] (.bool z))
    (n3 : Runs Try.ir 44 [.sl rs.length (pc rs)] (.int .i64 d))
    (n4 : Runs Try.ir 80 [.agg [.bool r.1, .sl r.2.length (lm r.2)]] (.int .i64 bt))
    (n5 : Runs Try.ir 82 [.sl rs.length (pc rs), .agg [.bool r.1, .sl r.2.length (lm r.2)], .int .i64 e] (.agg [.bool (decide (v < 0)), .sl ((limbs (Int.natAbs v)).length) (lm (limbs (Int.natAbs v)))]))
    (n6 : Runs Try.ir 81 [.agg [.bool (decide (v < 0)), .sl ((limbs (Int.natAbs v)).length) (lm (limbs (Int.natAbs v)))]] (.int .i64 sg)) : Runs Try.ir 30 [.sl rs.length (pc rs), .agg [.bool r.1, .sl r.2.length (lm r.2), .int .i64 e]] (.tup [.int .i64 sg, .int .i64 0]) :=
  Runs.script (r := .tup [.int .i64 sg, .int .i64 0]) (ps := [Runs Try.ir 67 [.sl rs.length (pc rs)] (.bool lg), lg = false, Runs Try.ir 79 [.agg [.bool r.1, .sl r.2.length (lm r.2)]] (.bool z), z = false, (decide (e < 0)) = false, (decide (e > 4096)) = false, Runs Try.ir 44 [.sl rs.length (pc rs)] (.int .i64 d), (decide (d > 0)) = true, Runs Try.ir 80 [.agg [.bool r.1, .sl r.2.length (lm r.2)]] (.int .i64 bt), (decide ((IntKind.i64.wrap ((IntKind.i64.wrap (bt + e)) * d)) > 8192)) = false, Runs Try.ir 82 [.sl rs.length (pc rs), .agg [.bool r.1, .sl r.2.length (lm r.2)], .int .i64 e] (.agg [.bool (decide (v < 0)), .sl ((limbs (Int.natAbs v)).length) (lm (limbs (Int.natAbs v)))]), Runs Try.ir 81 [.agg [.bool (decide (v < 0)), .sl ((limbs (Int.natAbs v)).length) (lm (limbs (Int.natAbs v)))]] (.int .i64 sg)]) TSB_holds rfl 400 rfl [.r (.bool lg), .b false, .r (.bool z), .b false, .b false, .b false, .r (.int .i64 d), .b true, .r (.int .i64 bt), .b false, .r (.agg [.bool (decide (v < 0)), .sl ((limbs (Int.natAbs v)).length) (lm (limbs (Int.natAbs v)))]), .r (.int .i64 sg)] (by kernel_rfl) ⟨n1, c1, n2, c2, c3, c4, n3, c5, n4, c6, n5, n6, trivial⟩

theorem Try.run30_7 (rs : List Rn) (r : Rn) (e d v sg : Int) (lg z : Bool) (c1 : (lg) = false)
    (c2 : (z) = false)
    (c3 : (decide (e < 0)) = false)
    (c4 : (decide (e > 4096)) = false)
    (c5 : (decide (d > 0)) = false)
    (n1 : Runs Try.ir 67 [.sl rs.length (pc rs)] (.bool lg))
    (n2 : Runs Try.ir 79 [.agg [.bool r.1, .sl r.2.length (lm r.2)]] (.bool z))
    (n3 : Runs Try.ir 44 [.sl rs.length (pc rs)] (.int .i64 d))
    (n4 : Runs Try.ir 82 [.sl rs.length (pc rs), .agg [.bool r.1, .sl r.2.length (lm r.2)], .int .i64 e] (.agg [.bool (decide (v < 0)), .sl ((limbs (Int.natAbs v)).length) (lm (limbs (Int.natAbs v)))]))
    (n5 : Runs Try.ir 81 [.agg [.bool (decide (v < 0)), .sl ((limbs (Int.natAbs v)).length) (lm (limbs (Int.natAbs v)))]] (.int .i64 sg)) : Runs Try.ir 30 [.sl rs.length (pc rs), .agg [.bool r.1, .sl r.2.length (lm r.2), .int .i64 e]] (.tup [.int .i64 sg, .int .i64 0]) :=
  Runs.script (r := .tup [.int .i64 sg, .int .i64 0]) (ps := [Runs Try.ir 67 [.sl rs.length (pc rs)] (.bool lg), lg = false, Runs Try.ir 79 [.agg [.bool r.1, .sl r.2.length (lm r.2)]] (.bool z), z = false, (decide (e < 0)) = false, (decide (e > 4096)) = false, Runs Try.ir 44 [.sl rs.length (pc rs)] (.int .i64 d), (decide (d > 0)) = false, false = false, Runs Try.ir 82 [.sl rs.length (pc rs), .agg [.bool r.1, .sl r.2.length (lm r.2)], .int .i64 e] (.agg [.bool (decide (v < 0)), .sl ((limbs (Int.natAbs v)).length) (lm (limbs (Int.natAbs v)))]), Runs Try.ir 81 [.agg [.bool (decide (v < 0)), .sl ((limbs (Int.natAbs v)).length) (lm (limbs (Int.natAbs v)))]] (.int .i64 sg)]) TSB_holds rfl 400 rfl [.r (.bool lg), .b false, .r (.bool z), .b false, .b false, .b false, .r (.int .i64 d), .b false, .b false, .r (.agg [.bool (decide (v < 0)), .sl ((limbs (Int.natAbs v)).length) (lm (limbs (Int.natAbs v)))]), .r (.int .i64 sg)] (by kernel_rfl) ⟨n1, c1, n2, c2, c3, c4, n3, c5, rfl, n4, n5, trivial⟩

def Try.c80 : ICode := .seq (.seq (.region false [oM 22 5,
   o1 23 (.bin .gtr (.t 22) (.c (.int .u32 0)))])
  (.cond (.t 23) (.skip)
  (.exit 0)))
  (.seq (.block 1 (.region false [oM 26 4,
   o1 27 (.bin .add (.t 26) (.c (.int .i64 1))),
   oM 4 27]))
  (.region false [oM 24 5,
   o1 25 (.bin .shr (.t 24) (.c (.int .u64 1))),
   oM 5 25]))
def Try.s80 (n : Int) (x : Int) : State := (dds 4 (.val (.int .i64 n) :: (.val (.int .u32 x) :: (dds 23 []))))
theorem Try.k80_1 (n : Int) (x : Int)  (c1 : (decide (x > 0)) = true) : RunsW Try.ir Try.c80 (Try.s80 n x) .norm (Try.s80 (IntKind.i64.wrap (n + 1)) (Int.fdiv x (2 ^ (min (Int.toNat 1) (IntKind.bits .u32))))) :=
  (RunsW.script (t := (dds 4 (.val (.int .i64 (IntKind.i64.wrap (n + 1))) :: (.val (.int .u32 (Int.fdiv x (2 ^ (min (Int.toNat 1) (IntKind.bits .u32))))) :: (dds 23 []))))) (ex := .norm) (ps := [(decide (x > 0)) = true, ¬ (1 : Int) < 0]) TSB_holds 400 [.b true] [4, 5] (by kernel_rfl) ⟨c1, (by decide), trivial⟩)

theorem Try.k80_2 (n : Int) (x : Int)  (c1 : (decide (x > 0)) = false) : RunsW Try.ir Try.c80 (Try.s80 n x) (.exit 0) (Try.s80 n x) :=
  (RunsW.script (t := (dds 4 (.val (.int .i64 n) :: (.val (.int .u32 x) :: (dds 23 []))))) (ex := (.exit 0)) (ps := [(decide (x > 0)) = false]) TSB_holds 400 [.b false] [4, 5] (by kernel_rfl) ⟨c1, trivial⟩)

theorem Try.run80_1 (b : Bool) (xs ms : List Int) (c1 : (((ms.length : Nat) : Int) == 0) = true)
    (n1 : Runs Try.ir 125 [.sl xs.length (lm xs)] (.fresh 1 ms.length (lm ms))) : Runs Try.ir 80 [.agg [.bool b, .sl xs.length (lm xs)]] (.int .i64 0) :=
  Runs.of_bodyW (fn := Try.i80) (s := (.val (.agg [.bool b, .sl xs.length (lm xs)]) :: (.box [.bool b, .sl xs.length (lm xs)] :: (.val (.int .i64 0) :: (.val (.sl ms.length (lm ms)) :: (dds 2 (.ptr 1 1 :: (.val (.sl xs.length (lm xs)) :: (.val (.sl ms.length (lm ms)) :: (.val (.sl ms.length (lm ms)) :: (.val (.int .i64 ((ms.length : Nat) : Int)) :: (.val (.bool (((ms.length : Nat) : Int) == 0)) :: (dds 17 []))))))))))))) (ex := .ret) rfl rfl
    (RunsW.seq (RunsW.script (t := (.val (.agg [.bool b, .sl xs.length (lm xs)]) :: (.box [.bool b, .sl xs.length (lm xs)] :: (.val (.int .i64 0) :: (dds 26 []))))) (ex := .norm) (ps := []) TSB_holds 400 [] [0, 1, 2] (by kernel_rfl) trivial)
    (RunsW.seq (RunsW.script (t := (.val (.agg [.bool b, .sl xs.length (lm xs)]) :: (.box [.bool b, .sl xs.length (lm xs)] :: (.val (.int .i64 0) :: (.val (.sl ms.length (lm ms)) :: (dds 2 (.ptr 1 1 :: (.val (.sl xs.length (lm xs)) :: (.val (.sl ms.length (lm ms)) :: (dds 20 [])))))))))) (ex := .norm) (ps := [Runs Try.ir 125 [.sl xs.length (lm xs)] (.fresh 1 ms.length (lm ms))]) TSB_holds 400 [.r (.fresh 1 ms.length (lm ms))] [0, 1, 2, 3, 6, 7, 8] (by kernel_rfl) ⟨n1, trivial⟩)
    (RunsW.seq_out (RunsW.script (t := (.val (.agg [.bool b, .sl xs.length (lm xs)]) :: (.box [.bool b, .sl xs.length (lm xs)] :: (.val (.int .i64 0) :: (.val (.sl ms.length (lm ms)) :: (dds 2 (.ptr 1 1 :: (.val (.sl xs.length (lm xs)) :: (.val (.sl ms.length (lm ms)) :: (.val (.sl ms.length (lm ms)) :: (.val (.int .i64 ((ms.length : Nat) : Int)) :: (.val (.bool (((ms.length : Nat) : Int) == 0)) :: (dds 17 []))))))))))))) (ex := .ret) (ps := [(((ms.length : Nat) : Int) == 0) = true]) TSB_holds 400 [.b true] [0, 1, 2, 3, 6, 7, 8, 9, 10, 11] (by kernel_rfl) ⟨c1, trivial⟩) (by intro e; cases e)))) (by intro i e; cases e) rfl

theorem Try.run80_2 (b : Bool) (xs ms : List Int) (n x : Int) (c1 : (((ms.length : Nat) : Int) == 0) = false)
    (n1 : Runs Try.ir 125 [.sl xs.length (lm xs)] (.fresh 1 ms.length (lm ms)))
    (n2 : 0 ≤ (IntKind.i64.wrap (((ms.length : Nat) : Int) - 1)) ∧ (IntKind.i64.wrap (((ms.length : Nat) : Int) - 1)) < ((ms.length : Nat) : Int))
    (hl3 : RunsW Try.ir (.loop Try.c80) (Try.s80 (IntKind.i64.wrap (32 * (IntKind.i64.wrap (((ms.length : Nat) : Int) - 1)))) (ms.getD (Int.toNat (IntKind.i64.wrap (((ms.length : Nat) : Int) - 1))) 0)) (.exit 0) (Try.s80 n x)) : Runs Try.ir 80 [.agg [.bool b, .sl xs.length (lm xs)]] (.int .i64 n) :=
  Runs.of_bodyW (fn := Try.i80) (s := (dds 2 (.val (.int .i64 n) :: (dds 1 (.val (.int .i64 n) :: (.val (.int .u32 x) :: (dds 22 (.val (.int .i64 n) :: [])))))))) (ex := .ret) rfl rfl
    (RunsW.seq (RunsW.script (t := (.val (.agg [.bool b, .sl xs.length (lm xs)]) :: (.box [.bool b, .sl xs.length (lm xs)] :: (.val (.int .i64 0) :: (dds 26 []))))) (ex := .norm) (ps := []) TSB_holds 400 [] [0, 1, 2] (by kernel_rfl) trivial)
    (RunsW.seq (RunsW.script (t := (.val (.agg [.bool b, .sl xs.length (lm xs)]) :: (.box [.bool b, .sl xs.length (lm xs)] :: (.val (.int .i64 0) :: (.val (.sl ms.length (lm ms)) :: (dds 2 (.ptr 1 1 :: (.val (.sl xs.length (lm xs)) :: (.val (.sl ms.length (lm ms)) :: (dds 20 [])))))))))) (ex := .norm) (ps := [Runs Try.ir 125 [.sl xs.length (lm xs)] (.fresh 1 ms.length (lm ms))]) TSB_holds 400 [.r (.fresh 1 ms.length (lm ms))] [0, 1, 2, 3, 6, 7, 8] (by kernel_rfl) ⟨n1, trivial⟩)
    (RunsW.seq (RunsW.script (t := (.val (.agg [.bool b, .sl xs.length (lm xs)]) :: (.box [.bool b, .sl xs.length (lm xs)] :: (.val (.int .i64 0) :: (.val (.sl ms.length (lm ms)) :: (dds 2 (.ptr 1 1 :: (.val (.sl xs.length (lm xs)) :: (.val (.sl ms.length (lm ms)) :: (.val (.sl ms.length (lm ms)) :: (.val (.int .i64 ((ms.length : Nat) : Int)) :: (.val (.bool (((ms.length : Nat) : Int) == 0)) :: (dds 17 []))))))))))))) (ex := .norm) (ps := [(((ms.length : Nat) : Int) == 0) = false]) TSB_holds 400 [.b false] [0, 1, 2, 3, 6, 7, 8, 9, 10, 11] (by kernel_rfl) ⟨c1, trivial⟩)
    (RunsW.seq (RunsW.script (t := (.val (.agg [.bool b, .sl xs.length (lm xs)]) :: (.box [.bool b, .sl xs.length (lm xs)] :: (.val (.int .i64 0) :: (.val (.sl ms.length (lm ms)) :: (.val (.int .i64 (IntKind.i64.wrap (32 * (IntKind.i64.wrap (((ms.length : Nat) : Int) - 1))))) :: (dds 1 (.ptr 1 1 :: (.val (.sl xs.length (lm xs)) :: (.val (.sl ms.length (lm ms)) :: (.val (.sl ms.length (lm ms)) :: (.val (.int .i64 ((ms.length : Nat) : Int)) :: (.val (.bool (((ms.length : Nat) : Int) == 0)) :: (.val (.sl ms.length (lm ms)) :: (.val (.int .i64 ((ms.length : Nat) : Int)) :: (.val (.int .i64 (IntKind.i64.wrap (((ms.length : Nat) : Int) - 1))) :: (.val (.int .i64 (IntKind.i64.wrap (32 * (IntKind.i64.wrap (((ms.length : Nat) : Int) - 1))))) :: (dds 13 [])))))))))))))))))) (ex := .norm) (ps := []) TSB_holds 400 [] [0, 1, 2, 3, 4, 6, 7, 8, 9, 10, 11, 12, 13, 14, 15] (by kernel_rfl) trivial)
    (RunsW.seq (RunsW.seq (RunsW.script (t := (dds 4 (.val (.int .i64 (IntKind.i64.wrap (32 * (IntKind.i64.wrap (((ms.length : Nat) : Int) - 1))))) :: (.val (.int .u32 (ms.getD (Int.toNat (IntKind.i64.wrap (((ms.length : Nat) : Int) - 1))) 0)) :: (dds 23 []))))) (ex := .norm) (ps := [0 ≤ (IntKind.i64.wrap (((ms.length : Nat) : Int) - 1)) ∧ (IntKind.i64.wrap (((ms.length : Nat) : Int) - 1)) < ((ms.length : Nat) : Int), takeA (List.drop (Int.toNat (IntKind.i64.wrap (((ms.length : Nat) : Int) - 1)) * 1) (lm ms)) 0 1 true = some (.int .u32 (ms.getD (Int.toNat (IntKind.i64.wrap (((ms.length : Nat) : Int) - 1))) 0))]) TSB_holds 400 [.v (.int .u32 (ms.getD (Int.toNat (IntKind.i64.wrap (((ms.length : Nat) : Int) - 1))) 0))] [4, 5] (by kernel_rfl) ⟨n2, (take_limI n2), trivial⟩)
    (RunsW.block hl3))
    (RunsW.script (t := (dds 2 (.val (.int .i64 n) :: (dds 1 (.val (.int .i64 n) :: (.val (.int .u32 x) :: (dds 22 (.val (.int .i64 n) :: [])))))))) (ex := .ret) (ps := []) TSB_holds 400 [] [2, 4, 5, 28] (by kernel_rfl) trivial)))))) (by intro i e; cases e) rfl

def TGA : Table := TSB
theorem TGA_holds : THolds Try.ir TGA := TSB_holds
end Go.Proofs.Ythnnfemologhfaa
