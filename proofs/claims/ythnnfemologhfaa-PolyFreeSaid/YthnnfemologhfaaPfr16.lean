/- Texts of the proof of PolyFree, packed by pack.py: part 16 of 19. -/
import Derived.Test.YthnnfemologhfaaPfr15
namespace Go.Proofs.Ythnnfemologhfaa
open Go.Ai
set_option maxRecDepth 100000
theorem Try.run26 (xs : List Int) (us : List Rn) (n1 : Runs Try.ir 74 [.sl xs.length (li xs)] (.fresh 2 us.length (pc us))) : Runs Try.ir 26 [.sl xs.length (li xs)] (.fresh 2 us.length (pc us)) :=
  Runs.go (fn := Try.i26) TPW_holds rfl 400 rfl [.r (.fresh 2 us.length (pc us))] (ac n1 a0) (by kernel_rfl)
def Try.c28 : ICode := .seq (.seq (.region false [oM 11 5,
   oM 12 0,
   o1 13 (.len (.t 12)),
   oB 14 .lss 11 13])
  (.cond (.t 14) (.skip)
  (.exit 0)))
  (.seq (.block 1 (.seq (.region true [oM 17 0,
   oM 18 5,
   o1 19 (.ixa 17 (.t 18) 2),
   o1 20 (.ld 19 19 2 false),
   oM 21 1,
   oM 22 5,
   o1 23 (.ixa 21 (.t 22) 2),
   o1 24 (.ld 23 23 2 false),
   oC 25 41 [20, 24],
   o1 26 (.un .not (.t 25))])
  (.cond (.t 26) (.seq (.region false [o1 4 (.mov (.c (.bool false)))])
  (.ret))
  (.skip))))
  (.region false [oM 15 5,
   o1 16 (.bin .add (.t 15) (.c (.int .i64 1))),
   oM 5 16]))
def Try.s28 (o : Bool) (rs : List Rn) (ss : List Rn) (i : Int) : State := (.val (.sl rs.length (pc rs)) :: (.val (.sl ss.length (pc ss)) :: (dds 2 (.val (.bool o) :: (.val (.int .i64 i) :: (dds 21 []))))))
theorem Try.k28_1 (o : Bool) (rs : List Rn) (ss : List Rn) (i : Int) (b : Bool) (c1 : (decide (i < ((rs.length : Nat) : Int))) = true)
    (c2 : (b) = true)
    (n1 : 0 ≤ i ∧ i < ((rs.length : Nat) : Int))
    (n2 : 0 ≤ i ∧ i < ((ss.length : Nat) : Int))
    (n3 : Runs Try.ir 41 [rawAV (rs.getD (Int.toNat i) z0), rawAV (ss.getD (Int.toNat i) z0)] (.bool b)) : RunsW Try.ir Try.c28 (Try.s28 o rs ss i) .norm (Try.s28 o rs ss (IntKind.i64.wrap (i + 1))) :=
  (RunsW.go TPW_holds 400 [.b true, .v (rawAV (rs.getD (Int.toNat i) z0)), .v (rawAV (ss.getD (Int.toNat i) z0)), .r (.bool b), .b false] [0, 1, 4, 5] (ac c1 (ac n1 (ac (show takeA (List.drop (Int.toNat i * 2) (pc rs)) 0 2 false = some (rawAV (rs.getD (Int.toNat i) z0)) from (take_pcI n1)) (ac n2 (ac (show takeA (List.drop (Int.toNat i * 2) (pc ss)) 0 2 false = some (rawAV (ss.getD (Int.toNat i) z0)) from (take_pcI n2)) (ac n3 (ac (show (!b) = false from (by rw [c2]; rfl)) a0))))))) (by kernel_rfl))
theorem Try.k28_3 (o : Bool) (rs : List Rn) (ss : List Rn) (i : Int)  (c1 : (decide (i < ((rs.length : Nat) : Int))) = false) : RunsW Try.ir Try.c28 (Try.s28 o rs ss i) (.exit 0) (Try.s28 o rs ss i) :=
  (RunsW.go TPW_holds 400 [.b false] [0, 1, 4, 5] (ac c1 a0) (by kernel_rfl))
theorem Try.run28_2 (rs ss : List Rn) (i : Int) (c1 : (((rs.length : Nat) : Int) != ((ss.length : Nat) : Int)) = false)
    (hl1 : RunsW Try.ir (.loop Try.c28) (Try.s28 false rs ss 0) (.exit 0) (Try.s28 false rs ss i)) : Runs Try.ir 28 [.sl rs.length (pc rs), .sl ss.length (pc ss)] (.bool true) :=
  Runs.of_bodyW (fn := Try.i28) (s := (dds 4 (.val (.bool true) :: (dds 22 [])))) (ex := .ret) rfl rfl
    (RunsW.seq (RunsW.go (t := (.val (.sl rs.length (pc rs)) :: (.val (.sl ss.length (pc ss)) :: (dds 2 (.val (.bool false) :: (dds 22 [])))))) (ex := .norm) TPW_holds 400 [] [0, 1, 4] a0 (by kernel_rfl))
    (RunsW.seq (RunsW.go (t := (.val (.sl rs.length (pc rs)) :: (.val (.sl ss.length (pc ss)) :: (dds 2 (.val (.bool false) :: (dds 22 [])))))) (ex := .norm) TPW_holds 400 [.b false] [0, 1, 4] (ac c1 a0) (by kernel_rfl))
    (RunsW.seq (RunsW.seq (RunsW.go TPW_holds 400 [] [0, 1, 4, 5] a0 (by kernel_rfl))
    (RunsW.block hl1))
    (RunsW.go TPW_holds 400 [] [4] a0 (by kernel_rfl))))) (by intro i e; cases e) rfl
def Try.c41 : ICode := .seq (.seq (.region false [oM 20 5,
   o1 21 (.adr 2 2 1),
   o1 22 (.ld 21 2 1 true),
   o1 23 (.len (.t 22)),
   oB 24 .lss 20 23])
  (.cond (.t 24) (.skip)
  (.exit 0)))
  (.seq (.block 1 (.seq (.region true [o1 27 (.adr 2 2 1),
   o1 28 (.ld 27 2 1 true),
   oM 29 5,
   o1 30 (.ixa 28 (.t 29) 1),
   o1 31 (.ld 30 30 1 true),
   o1 32 (.adr 3 3 1),
   o1 33 (.ld 32 3 1 true),
   oM 34 5,
   o1 35 (.ixa 33 (.t 34) 1),
   o1 36 (.ld 35 35 1 true),
   oB 37 .neq 31 36])
  (.cond (.t 37) (.seq (.region false [o1 4 (.mov (.c (.bool false)))])
  (.ret))
  (.skip))))
  (.region false [oM 25 5,
   o1 26 (.bin .add (.t 25) (.c (.int .i64 1))),
   oM 5 26]))
def Try.s41 (o : Bool) (r : Rn) (i : Int) : State := (dds 2 (.box [.bool r.1, .sl r.2.length (lm r.2)] :: (.box [.bool r.1, .sl r.2.length (lm r.2)] :: (.val (.bool o) :: (.val (.int .i64 i) :: (dds 32 []))))))
theorem Try.k41_2 (o : Bool) (r : Rn) (i : Int)  (c1 : (decide (i < ((r.2.length : Nat) : Int))) = true)
    (c2 : ((r.2.getD (Int.toNat i) 0) != (r.2.getD (Int.toNat i) 0)) = false)
    (n1 : 0 ≤ i ∧ i < ((r.2.length : Nat) : Int)) : RunsW Try.ir Try.c41 (Try.s41 o r i) .norm (Try.s41 o r (IntKind.i64.wrap (i + 1))) :=
  (RunsW.go TPW_holds 400 [.b true, .v (.int .u32 (r.2.getD (Int.toNat i) 0)), .v (.int .u32 (r.2.getD (Int.toNat i) 0)), .b false] [2, 3, 4, 5] (ac c1 (ac n1 (ac (show takeA (List.drop (Int.toNat i * 1) (lm r.2)) 0 1 true = some (.int .u32 (r.2.getD (Int.toNat i) 0)) from (take_limI n1)) (ac n1 (ac (show takeA (List.drop (Int.toNat i * 1) (lm r.2)) 0 1 true = some (.int .u32 (r.2.getD (Int.toNat i) 0)) from (take_limI n1)) (ac c2 a0)))))) (by kernel_rfl))
theorem Try.k41_3 (o : Bool) (r : Rn) (i : Int)  (c1 : (decide (i < ((r.2.length : Nat) : Int))) = false) : RunsW Try.ir Try.c41 (Try.s41 o r i) (.exit 0) (Try.s41 o r i) :=
  (RunsW.go TPW_holds 400 [.b false] [2, 3, 4, 5] (ac c1 a0) (by kernel_rfl))
theorem Try.run41_2 (r : Rn) (i : Int) (c1 : (r.1 == r.1) = true)
    (c2 : (((r.2.length : Nat) : Int) != ((r.2.length : Nat) : Int)) = false)
    (hl1 : RunsW Try.ir (.loop Try.c41) (Try.s41 false r 0) (.exit 0) (Try.s41 false r i)) : Runs Try.ir 41 [rawAV r, rawAV r] (.bool true) :=
  Runs.of_bodyW (fn := Try.i41) (s := (dds 4 (.val (.bool true) :: (dds 33 [])))) (ex := .ret) rfl rfl
    (RunsW.seq (RunsW.go (t := (.val (rawAV r) :: (.val (rawAV r) :: (.box [.bool r.1, .sl r.2.length (lm r.2)] :: (.box [.bool r.1, .sl r.2.length (lm r.2)] :: (.val (.bool false) :: (dds 33 []))))))) (ex := .norm) TPW_holds 400 [] [0, 1, 2, 3, 4] a0 (by kernel_rfl))
    (RunsW.seq (RunsW.go (t := (.val (rawAV r) :: (.val (rawAV r) :: (.box [.bool r.1, .sl r.2.length (lm r.2)] :: (.box [.bool r.1, .sl r.2.length (lm r.2)] :: (.val (.bool false) :: (dds 33 []))))))) (ex := .norm) TPW_holds 400 [.b false, .b false] [0, 1, 2, 3, 4] (ac (show (!(r.1 == r.1)) = false from (by rw [c1]; rfl)) (ac c2 a0)) (by kernel_rfl))
    (RunsW.seq (RunsW.seq (RunsW.go TPW_holds 400 [] [2, 3, 4, 5] a0 (by kernel_rfl))
    (RunsW.block hl1))
    (RunsW.go TPW_holds 400 [] [4] a0 (by kernel_rfl))))) (by intro i e; cases e) rfl
def Try.c5 : ICode := .seq (.seq (.region false [oM 61 11,
   oM 62 1,
   oB 63 .lss 61 62])
  (.cond (.t 63) (.skip)
  (.exit 0)))
  (.seq (.block 1 (.seq (.region false [oM 67 9,
   oM 68 7,
   o1 69 (.un .neg (.t 68)),
   o1 70 (.bls 2 [.int .i64 0, .int .i64 0] [(0, 1, .t 69), (1, 1, .c (.int .i64 1))]),
   oC 71 26 [70],
   oC 72 24 [67, 71],
   oM 66 72,
   o1 73 (.ext (.t 66) 0),
   o1 74 (.ext (.t 66) 1),
   oM 9 73])
  (.region false [oM 76 9,
   oM 77 8,
   o1 78 (.un .neg (.t 77)),
   o1 79 (.bls 2 [.int .i64 0, .int .i64 0] [(0, 1, .t 78), (1, 1, .c (.int .i64 2))]),
   oC 80 26 [79],
   oC 81 24 [76, 80],
   oM 75 81,
   o1 82 (.ext (.t 75) 0),
   o1 83 (.ext (.t 75) 1),
   oM 9 82])))
  (.region false [oM 64 11,
   o1 65 (.bin .add (.t 64) (.c (.int .i64 1))),
   oM 11 65]))
def Try.s5 (n : Int) (ps : List Rn) (a : Int) (b : Int) (xs : List Rn) (w : Int) (i : Int) : State := (dds 1 (.val (.int .i64 n) :: (.val (.sl ps.length (pc ps)) :: (dds 4 (.val (.int .i64 a) :: (.val (.int .i64 b) :: (.val (.sl xs.length (pc xs)) :: (.val (.int .i64 w) :: (.val (.int .i64 i) :: (dds 142 []))))))))))
theorem Try.k5_1 (n : Int) (ps : List Rn) (a : Int) (b : Int) (xs : List Rn) (w : Int) (i : Int) (f1 f2 x1 x2 : List Rn) (c1 : (decide (i < n)) = true)
    (n1 : Runs Try.ir 26 [.sl 2 [.int .i64 (IntKind.i64.wrap (0 - a)), .int .i64 1]] (.fresh 2 f1.length (pc f1)))
    (n2 : Runs Try.ir 24 [.sl xs.length (pc xs), .sl f1.length (pc f1)] (.tup [.sl x1.length (pc x1), .int .i64 0]))
    (n3 : Runs Try.ir 26 [.sl 2 [.int .i64 (IntKind.i64.wrap (0 - b)), .int .i64 2]] (.fresh 2 f2.length (pc f2)))
    (n4 : Runs Try.ir 24 [.sl x1.length (pc x1), .sl f2.length (pc f2)] (.tup [.sl x2.length (pc x2), .int .i64 0])) : RunsW Try.ir Try.c5 (Try.s5 n ps a b xs w i) .norm (Try.s5 n ps a b x2 w (IntKind.i64.wrap (i + 1))) :=
  (RunsW.go TPW_holds 400 [.b true, .r (.fresh 2 f1.length (pc f1)), .r (.tup [.sl x1.length (pc x1), .int .i64 0]), .r (.fresh 2 f2.length (pc f2)), .r (.tup [.sl x2.length (pc x2), .int .i64 0])] [1, 2, 7, 8, 9, 10, 11] (ac c1 (ac n1 (ac n2 (ac n3 (ac n4 a0))))) (by kernel_rfl))
theorem Try.k5_2 (n : Int) (ps : List Rn) (a : Int) (b : Int) (xs : List Rn) (w : Int) (i : Int)  (c1 : (decide (i < n)) = false) : RunsW Try.ir Try.c5 (Try.s5 n ps a b xs w i) (.exit 0) (Try.s5 n ps a b xs w i) :=
  (RunsW.go TPW_holds 400 [.b false] [1, 2, 7, 8, 9, 10, 11] (ac c1 a0) (by kernel_rfl))
theorem Try.run5_1 (l : List Int) (n : Int) (ps : List Rn) (c5 : (decide (((l.length : Nat) : Int) < 2)) = true)
    (n1 : Runs Try.ir 13 [] (.bool true)) : Runs Try.ir 5 [.sl l.length (li l), .int .i64 n, .sl ps.length (pc ps)] (.bool true) :=
  Runs.of_bodyW (fn := Try.i5) (s := (dds 6 (.val (.bool true) :: (dds 147 [])))) (ex := .ret) rfl rfl
    (RunsW.seq (RunsW.go (t := (.val (.sl l.length (li l)) :: (.val (.int .i64 n) :: (.val (.sl ps.length (pc ps)) :: (dds 3 (.val (.bool false) :: (dds 147 []))))))) (ex := .norm) TPW_holds 400 [] [0, 1, 2, 6] a0 (by kernel_rfl))
    (RunsW.seq (RunsW.go (t := (.val (.sl l.length (li l)) :: (.val (.int .i64 n) :: (.val (.sl ps.length (pc ps)) :: (dds 3 (.val (.bool false) :: (dds 15 (.val (.bool true) :: (.val (.bool false) :: (dds 130 [])))))))))) (ex := .norm) TPW_holds 400 [.r (.bool true), .b false] [0, 1, 2, 6, 22, 23] (ac n1 (ac (show false = false from rfl) a0)) (by kernel_rfl))
    (RunsW.seq_out (RunsW.go TPW_holds 400 [.b true, .b true, .b true, .b true, .b true, .b true, .r (.bool true)] [6] (ac c5 (ac (show true = true from rfl) (ac (show true = true from rfl) (ac (show true = true from rfl) (ac (show true = true from rfl) (ac (show true = true from rfl) (ac n1 a0))))))) (by kernel_rfl)) (by intro e; cases e)))) (by intro i e; cases e) rfl
theorem Try.run5_2 (l : List Int) (n : Int) (ps : List Rn) (c5 : (decide (((l.length : Nat) : Int) < 2)) = false)
    (c6 : (decide (n < 0)) = true)
    (n1 : Runs Try.ir 13 [] (.bool true)) : Runs Try.ir 5 [.sl l.length (li l), .int .i64 n, .sl ps.length (pc ps)] (.bool true) :=
  Runs.of_bodyW (fn := Try.i5) (s := (dds 6 (.val (.bool true) :: (dds 147 [])))) (ex := .ret) rfl rfl
    (RunsW.seq (RunsW.go (t := (.val (.sl l.length (li l)) :: (.val (.int .i64 n) :: (.val (.sl ps.length (pc ps)) :: (dds 3 (.val (.bool false) :: (dds 147 []))))))) (ex := .norm) TPW_holds 400 [] [0, 1, 2, 6] a0 (by kernel_rfl))
    (RunsW.seq (RunsW.go (t := (.val (.sl l.length (li l)) :: (.val (.int .i64 n) :: (.val (.sl ps.length (pc ps)) :: (dds 3 (.val (.bool false) :: (dds 15 (.val (.bool true) :: (.val (.bool false) :: (dds 130 [])))))))))) (ex := .norm) TPW_holds 400 [.r (.bool true), .b false] [0, 1, 2, 6, 22, 23] (ac n1 (ac (show false = false from rfl) a0)) (by kernel_rfl))
    (RunsW.seq_out (RunsW.go TPW_holds 400 [.b false, .b true, .b true, .b true, .b true, .b true, .r (.bool true)] [6] (ac c5 (ac c6 (ac (show true = true from rfl) (ac (show true = true from rfl) (ac (show true = true from rfl) (ac (show true = true from rfl) (ac n1 a0))))))) (by kernel_rfl)) (by intro e; cases e)))) (by intro i e; cases e) rfl
theorem Try.run5_3 (l : List Int) (n : Int) (ps : List Rn) (c5 : (decide (((l.length : Nat) : Int) < 2)) = false)
    (c6 : (decide (n < 0)) = false)
    (c7 : (decide (n > 4)) = true)
    (n1 : Runs Try.ir 13 [] (.bool true)) : Runs Try.ir 5 [.sl l.length (li l), .int .i64 n, .sl ps.length (pc ps)] (.bool true) :=
  Runs.of_bodyW (fn := Try.i5) (s := (dds 6 (.val (.bool true) :: (dds 147 [])))) (ex := .ret) rfl rfl
    (RunsW.seq (RunsW.go (t := (.val (.sl l.length (li l)) :: (.val (.int .i64 n) :: (.val (.sl ps.length (pc ps)) :: (dds 3 (.val (.bool false) :: (dds 147 []))))))) (ex := .norm) TPW_holds 400 [] [0, 1, 2, 6] a0 (by kernel_rfl))
    (RunsW.seq (RunsW.go (t := (.val (.sl l.length (li l)) :: (.val (.int .i64 n) :: (.val (.sl ps.length (pc ps)) :: (dds 3 (.val (.bool false) :: (dds 15 (.val (.bool true) :: (.val (.bool false) :: (dds 130 [])))))))))) (ex := .norm) TPW_holds 400 [.r (.bool true), .b false] [0, 1, 2, 6, 22, 23] (ac n1 (ac (show false = false from rfl) a0)) (by kernel_rfl))
    (RunsW.seq_out (RunsW.go TPW_holds 400 [.b false, .b false, .b true, .b true, .b true, .b true, .r (.bool true)] [6] (ac c5 (ac c6 (ac c7 (ac (show true = true from rfl) (ac (show true = true from rfl) (ac (show true = true from rfl) (ac n1 a0))))))) (by kernel_rfl)) (by intro e; cases e)))) (by intro i e; cases e) rfl
theorem Try.run5_4 (l : List Int) (n : Int) (ps : List Rn) (c5 : (decide (((l.length : Nat) : Int) < 2)) = false)
    (c6 : (decide (n < 0)) = false)
    (c7 : (decide (n > 4)) = false)
    (c8 : (decide (((ps.length : Nat) : Int) > 6)) = true)
    (n1 : Runs Try.ir 13 [] (.bool true)) : Runs Try.ir 5 [.sl l.length (li l), .int .i64 n, .sl ps.length (pc ps)] (.bool true) :=
  Runs.of_bodyW (fn := Try.i5) (s := (dds 6 (.val (.bool true) :: (dds 147 [])))) (ex := .ret) rfl rfl
    (RunsW.seq (RunsW.go (t := (.val (.sl l.length (li l)) :: (.val (.int .i64 n) :: (.val (.sl ps.length (pc ps)) :: (dds 3 (.val (.bool false) :: (dds 147 []))))))) (ex := .norm) TPW_holds 400 [] [0, 1, 2, 6] a0 (by kernel_rfl))
    (RunsW.seq (RunsW.go (t := (.val (.sl l.length (li l)) :: (.val (.int .i64 n) :: (.val (.sl ps.length (pc ps)) :: (dds 3 (.val (.bool false) :: (dds 15 (.val (.bool true) :: (.val (.bool false) :: (dds 130 [])))))))))) (ex := .norm) TPW_holds 400 [.r (.bool true), .b false] [0, 1, 2, 6, 22, 23] (ac n1 (ac (show false = false from rfl) a0)) (by kernel_rfl))
    (RunsW.seq_out (RunsW.go TPW_holds 400 [.b false, .b false, .b false, .b true, .b true, .b true, .r (.bool true)] [6] (ac c5 (ac c6 (ac c7 (ac c8 (ac (show true = true from rfl) (ac (show true = true from rfl) (ac n1 a0))))))) (by kernel_rfl)) (by intro e; cases e)))) (by intro i e; cases e) rfl
theorem Try.run5_5 (l : List Int) (n : Int) (ps : List Rn) (sh : Bool) (d_ps : Int) (c5 : (decide (((l.length : Nat) : Int) < 2)) = false)
    (c6 : (decide (n < 0)) = false)
    (c7 : (decide (n > 4)) = false)
    (c8 : (decide (((ps.length : Nat) : Int) > 6)) = false)
    (c9 : (sh) = true)
    (c10 : (decide (d_ps < 1)) = true)
    (n1 : Runs Try.ir 13 [] (.bool true))
    (n2 : Runs Try.ir 22 [.sl ps.length (pc ps)] (.bool sh))
    (n3 : Runs Try.ir 23 [.sl ps.length (pc ps)] (.int .i64 d_ps)) : Runs Try.ir 5 [.sl l.length (li l), .int .i64 n, .sl ps.length (pc ps)] (.bool true) :=
  Runs.of_bodyW (fn := Try.i5) (s := (dds 6 (.val (.bool true) :: (dds 147 [])))) (ex := .ret) rfl rfl
    (RunsW.seq (RunsW.go (t := (.val (.sl l.length (li l)) :: (.val (.int .i64 n) :: (.val (.sl ps.length (pc ps)) :: (dds 3 (.val (.bool false) :: (dds 147 []))))))) (ex := .norm) TPW_holds 400 [] [0, 1, 2, 6] a0 (by kernel_rfl))
    (RunsW.seq (RunsW.go (t := (.val (.sl l.length (li l)) :: (.val (.int .i64 n) :: (.val (.sl ps.length (pc ps)) :: (dds 3 (.val (.bool false) :: (dds 15 (.val (.bool true) :: (.val (.bool false) :: (dds 130 [])))))))))) (ex := .norm) TPW_holds 400 [.r (.bool true), .b false] [0, 1, 2, 6, 22, 23] (ac n1 (ac (show false = false from rfl) a0)) (by kernel_rfl))
    (RunsW.seq_out (RunsW.go TPW_holds 400 [.b false, .b false, .b false, .b false, .r (.bool sh), .b false, .r (.int .i64 d_ps), .b true, .r (.bool true)] [6] (ac c5 (ac c6 (ac c7 (ac c8 (ac n2 (ac (show (!sh) = false from (by rw [c9]; rfl)) (ac n3 (ac c10 (ac n1 a0))))))))) (by kernel_rfl)) (by intro e; cases e)))) (by intro i e; cases e) rfl
theorem Try.run5_6 (l : List Int) (n : Int) (ps f0 xs fs gs hs ds cs : List Rn) (sh : Bool) (d_ps d_fs d_cs i : Int) (c1 : (0 == 0) = true)
    (c3 : (d_fs == 1) = true)
    (c5 : (decide (((l.length : Nat) : Int) < 2)) = false)
    (c6 : (decide (n < 0)) = false)
    (c7 : (decide (n > 4)) = false)
    (c8 : (decide (((ps.length : Nat) : Int) > 6)) = false)
    (c9 : (sh) = true)
    (c10 : (decide (d_ps < 1)) = false)
    (c11 : (decide (n > 0)) = true)
    (c12 : ((IntKind.i64.wrap (2 * (Int.tmod (l.getD (Int.toNat 0) 0) 1000))) == (Int.tmod (l.getD (Int.toNat 1) 0) 1000)) = true)
    (n1 : Runs Try.ir 13 [] (.bool true))
    (n2 : Runs Try.ir 22 [.sl ps.length (pc ps)] (.bool sh))
    (n3 : Runs Try.ir 23 [.sl ps.length (pc ps)] (.int .i64 d_ps))
    (n4 : 0 ≤ (0 : Int) ∧ (0 : Int) < ((l.length : Nat) : Int))
    (n5 : 0 ≤ (1 : Int) ∧ (1 : Int) < ((l.length : Nat) : Int))
    (n6 : Runs Try.ir 26 [.sl 1 [.int .i64 1]] (.fresh 2 f0.length (pc f0)))
    (hl7 : RunsW Try.ir (.loop Try.c5) (Try.s5 n ps (Int.tmod (l.getD (Int.toNat 0) 0) 1000) (Int.tmod (l.getD (Int.toNat 1) 0) 1000) f0 0 0) (.exit 0) (Try.s5 n ps (Int.tmod (l.getD (Int.toNat 0) 0) 1000) (Int.tmod (l.getD (Int.toNat 1) 0) 1000) xs 0 i))
    (n8 : Runs Try.ir 17 [.sl xs.length (pc xs)] (.tup [.sl fs.length (pc fs), .int .i64 0]))
    (n9 : Runs Try.ir 17 [.sl ps.length (pc ps)] (.tup [.sl gs.length (pc gs), .int .i64 0]))
    (n10 : Runs Try.ir 17 [.sl gs.length (pc gs)] (.tup [.sl hs.length (pc hs), .int .i64 0]))
    (n11 : Runs Try.ir 27 [.sl gs.length (pc gs)] (.tup [.sl ds.length (pc ds), .int .i64 0]))
    (n12 : Runs Try.ir 16 [.sl gs.length (pc gs), .sl ds.length (pc ds)] (.tup [.sl cs.length (pc cs), .int .i64 0]))
    (n13 : Runs Try.ir 23 [.sl fs.length (pc fs)] (.int .i64 d_fs))
    (n14 : Runs Try.ir 28 [.sl gs.length (pc gs), .sl hs.length (pc hs)] (.bool true))
    (n15 : Runs Try.ir 23 [.sl cs.length (pc cs)] (.int .i64 d_cs)) : Runs Try.ir 5 [.sl l.length (li l), .int .i64 n, .sl ps.length (pc ps)] (.bool (d_cs == 0)) :=
  Runs.of_bodyW (fn := Try.i5) (s := (dds 6 (.val (.bool (d_cs == 0)) :: (dds 147 [])))) (ex := .ret) rfl rfl
    (RunsW.seq (RunsW.go (t := (.val (.sl l.length (li l)) :: (.val (.int .i64 n) :: (.val (.sl ps.length (pc ps)) :: (dds 3 (.val (.bool false) :: (dds 147 []))))))) (ex := .norm) TPW_holds 400 [] [0, 1, 2, 6] a0 (by kernel_rfl))
    (RunsW.seq (RunsW.go (t := (.val (.sl l.length (li l)) :: (.val (.int .i64 n) :: (.val (.sl ps.length (pc ps)) :: (dds 3 (.val (.bool false) :: (dds 15 (.val (.bool true) :: (.val (.bool false) :: (dds 130 [])))))))))) (ex := .norm) TPW_holds 400 [.r (.bool true), .b false] [0, 1, 2, 6, 22, 23] (ac n1 (ac (show false = false from rfl) a0)) (by kernel_rfl))
    (RunsW.seq (RunsW.go (t := (.val (.sl l.length (li l)) :: (.val (.int .i64 n) :: (.val (.sl ps.length (pc ps)) :: (dds 3 (.val (.bool false) :: (dds 16 (.val (.bool false) :: (.val (.sl l.length (li l)) :: (dds 1 (.val (.bool (decide (((l.length : Nat) : Int) < 2))) :: (.val (.bool (decide (((l.length : Nat) : Int) < 2))) :: (.val (.int .i64 n) :: (dds 125 [])))))))))))))) (ex := .norm) TPW_holds 400 [.b false, .b false, .b false, .b false, .r (.bool sh), .b false, .r (.int .i64 d_ps), .b false] [0, 1, 2, 6, 23, 24, 26, 27, 28] (ac c5 (ac c6 (ac c7 (ac c8 (ac n2 (ac (show (!sh) = false from (by rw [c9]; rfl)) (ac n3 (ac c10 a0)))))))) (by kernel_rfl))
    (RunsW.seq (RunsW.go (t := (.val (.sl l.length (li l)) :: (.val (.int .i64 n) :: (.val (.sl ps.length (pc ps)) :: (dds 3 (.val (.bool false) :: (.val (.int .i64 (Int.tmod (l.getD (Int.toNat 0) 0) 1000)) :: (.val (.int .i64 (Int.tmod (l.getD (Int.toNat 1) 0) 1000)) :: (dds 14 (.val (.bool false) :: (.val (.sl l.length (li l)) :: (dds 1 (.val (.bool (decide (((l.length : Nat) : Int) < 2))) :: (.val (.bool (decide (((l.length : Nat) : Int) < 2))) :: (.val (.int .i64 n) :: (dds 125 [])))))))))))))))) (ex := .norm) TPW_holds 400 [.v (.int .i64 (l.getD (Int.toNat 0) 0)), .v (.int .i64 (l.getD (Int.toNat 1) 0))] [0, 1, 2, 6, 7, 8, 23, 24, 26, 27, 28] (ac n4 (ac (show takeA (List.drop (Int.toNat 0 * 1) (li l)) 0 1 true = some (.int .i64 (l.getD (Int.toNat 0) 0)) from (take_liI n4)) (ac (show ¬ (1000 : Int) = 0 from (by decide)) (ac n5 (ac (show takeA (List.drop (Int.toNat 1 * 1) (li l)) 0 1 true = some (.int .i64 (l.getD (Int.toNat 1) 0)) from (take_liI n5)) (ac (show ¬ (1000 : Int) = 0 from (by decide)) a0)))))) (by kernel_rfl))
    (RunsW.seq (RunsW.go (t := (.val (.sl l.length (li l)) :: (.val (.int .i64 n) :: (.val (.sl ps.length (pc ps)) :: (dds 3 (.val (.bool false) :: (.val (.int .i64 (Int.tmod (l.getD (Int.toNat 0) 0) 1000)) :: (.val (.int .i64 (Int.tmod (l.getD (Int.toNat 1) 0) 1000)) :: (.val (.sl f0.length (pc f0)) :: (dds 13 (.val (.bool false) :: (.val (.sl l.length (li l)) :: (dds 1 (.val (.bool (decide (((l.length : Nat) : Int) < 2))) :: (.val (.bool (decide (((l.length : Nat) : Int) < 2))) :: (.val (.int .i64 n) :: (dds 125 []))))))))))))))))) (ex := .norm) TPW_holds 400 [.r (.fresh 2 f0.length (pc f0))] [0, 1, 2, 6, 7, 8, 9, 23, 24, 26, 27, 28] (ac n6 a0) (by kernel_rfl))
    (RunsW.seq (RunsW.go (t := (.val (.sl l.length (li l)) :: (.val (.int .i64 n) :: (.val (.sl ps.length (pc ps)) :: (dds 3 (.val (.bool false) :: (.val (.int .i64 (Int.tmod (l.getD (Int.toNat 0) 0) 1000)) :: (.val (.int .i64 (Int.tmod (l.getD (Int.toNat 1) 0) 1000)) :: (.val (.sl f0.length (pc f0)) :: (.val (.int .i64 0) :: (dds 12 (.val (.bool false) :: (.val (.sl l.length (li l)) :: (dds 1 (.val (.bool (decide (((l.length : Nat) : Int) < 2))) :: (.val (.bool (decide (((l.length : Nat) : Int) < 2))) :: (.val (.int .i64 n) :: (dds 125 [])))))))))))))))))) (ex := .norm) TPW_holds 400 [] [0, 1, 2, 6, 7, 8, 9, 10, 23, 24, 26, 27, 28] a0 (by kernel_rfl))
    (RunsW.seq (RunsW.seq (RunsW.go TPW_holds 400 [] [1, 2, 7, 8, 9, 10, 11] a0 (by kernel_rfl))
    (RunsW.block hl7))
    (RunsW.go TPW_holds 400 [.b true, .b true, .b true, .r (.tup [.sl fs.length (pc fs), .int .i64 0]), .r (.tup [.sl gs.length (pc gs), .int .i64 0]), .r (.tup [.sl hs.length (pc hs), .int .i64 0]), .r (.tup [.sl ds.length (pc ds), .int .i64 0]), .r (.tup [.sl cs.length (pc cs), .int .i64 0]), .b true, .b true, .b true, .b true, .b true, .r (.int .i64 d_fs), .b true, .r (.bool true), .b true, .r (.int .i64 d_cs)] [6] (ac c11 (ac c11 (ac c12 (ac n8 (ac n9 (ac n10 (ac n11 (ac n12 (ac c1 (ac c1 (ac c1 (ac c1 (ac c1 (ac n13 (ac c3 (ac n14 (ac (show true = true from rfl) (ac n15 a0)))))))))))))))))) (by kernel_rfl))))))))) (by intro i e; cases e) rfl
theorem Try.run5_7 (l : List Int) (n : Int) (ps f0 xs fs gs hs ds cs : List Rn) (sh : Bool) (d_ps d_fs d_cs i : Int) (c1 : (0 == 0) = true)
    (c4 : (d_fs == 2) = true)
    (c5 : (decide (((l.length : Nat) : Int) < 2)) = false)
    (c6 : (decide (n < 0)) = false)
    (c7 : (decide (n > 4)) = false)
    (c8 : (decide (((ps.length : Nat) : Int) > 6)) = false)
    (c9 : (sh) = true)
    (c10 : (decide (d_ps < 1)) = false)
    (c11 : (decide (n > 0)) = true)
    (c12 : ((IntKind.i64.wrap (2 * (Int.tmod (l.getD (Int.toNat 0) 0) 1000))) == (Int.tmod (l.getD (Int.toNat 1) 0) 1000)) = false)
    (n1 : Runs Try.ir 13 [] (.bool true))
    (n2 : Runs Try.ir 22 [.sl ps.length (pc ps)] (.bool sh))
    (n3 : Runs Try.ir 23 [.sl ps.length (pc ps)] (.int .i64 d_ps))
    (n4 : 0 ≤ (0 : Int) ∧ (0 : Int) < ((l.length : Nat) : Int))
    (n5 : 0 ≤ (1 : Int) ∧ (1 : Int) < ((l.length : Nat) : Int))
    (n6 : Runs Try.ir 26 [.sl 1 [.int .i64 1]] (.fresh 2 f0.length (pc f0)))
    (hl7 : RunsW Try.ir (.loop Try.c5) (Try.s5 n ps (Int.tmod (l.getD (Int.toNat 0) 0) 1000) (Int.tmod (l.getD (Int.toNat 1) 0) 1000) f0 0 0) (.exit 0) (Try.s5 n ps (Int.tmod (l.getD (Int.toNat 0) 0) 1000) (Int.tmod (l.getD (Int.toNat 1) 0) 1000) xs 0 i))
    (n8 : Runs Try.ir 17 [.sl xs.length (pc xs)] (.tup [.sl fs.length (pc fs), .int .i64 0]))
    (n9 : Runs Try.ir 17 [.sl ps.length (pc ps)] (.tup [.sl gs.length (pc gs), .int .i64 0]))
    (n10 : Runs Try.ir 17 [.sl gs.length (pc gs)] (.tup [.sl hs.length (pc hs), .int .i64 0]))
    (n11 : Runs Try.ir 27 [.sl gs.length (pc gs)] (.tup [.sl ds.length (pc ds), .int .i64 0]))
    (n12 : Runs Try.ir 16 [.sl gs.length (pc gs), .sl ds.length (pc ds)] (.tup [.sl cs.length (pc cs), .int .i64 0]))
    (n13 : Runs Try.ir 23 [.sl fs.length (pc fs)] (.int .i64 d_fs))
    (n14 : Runs Try.ir 28 [.sl gs.length (pc gs), .sl hs.length (pc hs)] (.bool true))
    (n15 : Runs Try.ir 23 [.sl cs.length (pc cs)] (.int .i64 d_cs)) : Runs Try.ir 5 [.sl l.length (li l), .int .i64 n, .sl ps.length (pc ps)] (.bool (d_cs == 0)) :=
  Runs.of_bodyW (fn := Try.i5) (s := (dds 6 (.val (.bool (d_cs == 0)) :: (dds 147 [])))) (ex := .ret) rfl rfl
    (RunsW.seq (RunsW.go (t := (.val (.sl l.length (li l)) :: (.val (.int .i64 n) :: (.val (.sl ps.length (pc ps)) :: (dds 3 (.val (.bool false) :: (dds 147 []))))))) (ex := .norm) TPW_holds 400 [] [0, 1, 2, 6] a0 (by kernel_rfl))
    (RunsW.seq (RunsW.go (t := (.val (.sl l.length (li l)) :: (.val (.int .i64 n) :: (.val (.sl ps.length (pc ps)) :: (dds 3 (.val (.bool false) :: (dds 15 (.val (.bool true) :: (.val (.bool false) :: (dds 130 [])))))))))) (ex := .norm) TPW_holds 400 [.r (.bool true), .b false] [0, 1, 2, 6, 22, 23] (ac n1 (ac (show false = false from rfl) a0)) (by kernel_rfl))
    (RunsW.seq (RunsW.go (t := (.val (.sl l.length (li l)) :: (.val (.int .i64 n) :: (.val (.sl ps.length (pc ps)) :: (dds 3 (.val (.bool false) :: (dds 16 (.val (.bool false) :: (.val (.sl l.length (li l)) :: (dds 1 (.val (.bool (decide (((l.length : Nat) : Int) < 2))) :: (.val (.bool (decide (((l.length : Nat) : Int) < 2))) :: (.val (.int .i64 n) :: (dds 125 [])))))))))))))) (ex := .norm) TPW_holds 400 [.b false, .b false, .b false, .b false, .r (.bool sh), .b false, .r (.int .i64 d_ps), .b false] [0, 1, 2, 6, 23, 24, 26, 27, 28] (ac c5 (ac c6 (ac c7 (ac c8 (ac n2 (ac (show (!sh) = false from (by rw [c9]; rfl)) (ac n3 (ac c10 a0)))))))) (by kernel_rfl))
    (RunsW.seq (RunsW.go (t := (.val (.sl l.length (li l)) :: (.val (.int .i64 n) :: (.val (.sl ps.length (pc ps)) :: (dds 3 (.val (.bool false) :: (.val (.int .i64 (Int.tmod (l.getD (Int.toNat 0) 0) 1000)) :: (.val (.int .i64 (Int.tmod (l.getD (Int.toNat 1) 0) 1000)) :: (dds 14 (.val (.bool false) :: (.val (.sl l.length (li l)) :: (dds 1 (.val (.bool (decide (((l.length : Nat) : Int) < 2))) :: (.val (.bool (decide (((l.length : Nat) : Int) < 2))) :: (.val (.int .i64 n) :: (dds 125 [])))))))))))))))) (ex := .norm) TPW_holds 400 [.v (.int .i64 (l.getD (Int.toNat 0) 0)), .v (.int .i64 (l.getD (Int.toNat 1) 0))] [0, 1, 2, 6, 7, 8, 23, 24, 26, 27, 28] (ac n4 (ac (show takeA (List.drop (Int.toNat 0 * 1) (li l)) 0 1 true = some (.int .i64 (l.getD (Int.toNat 0) 0)) from (take_liI n4)) (ac (show ¬ (1000 : Int) = 0 from (by decide)) (ac n5 (ac (show takeA (List.drop (Int.toNat 1 * 1) (li l)) 0 1 true = some (.int .i64 (l.getD (Int.toNat 1) 0)) from (take_liI n5)) (ac (show ¬ (1000 : Int) = 0 from (by decide)) a0)))))) (by kernel_rfl))
    (RunsW.seq (RunsW.go (t := (.val (.sl l.length (li l)) :: (.val (.int .i64 n) :: (.val (.sl ps.length (pc ps)) :: (dds 3 (.val (.bool false) :: (.val (.int .i64 (Int.tmod (l.getD (Int.toNat 0) 0) 1000)) :: (.val (.int .i64 (Int.tmod (l.getD (Int.toNat 1) 0) 1000)) :: (.val (.sl f0.length (pc f0)) :: (dds 13 (.val (.bool false) :: (.val (.sl l.length (li l)) :: (dds 1 (.val (.bool (decide (((l.length : Nat) : Int) < 2))) :: (.val (.bool (decide (((l.length : Nat) : Int) < 2))) :: (.val (.int .i64 n) :: (dds 125 []))))))))))))))))) (ex := .norm) TPW_holds 400 [.r (.fresh 2 f0.length (pc f0))] [0, 1, 2, 6, 7, 8, 9, 23, 24, 26, 27, 28] (ac n6 a0) (by kernel_rfl))
    (RunsW.seq (RunsW.go (t := (.val (.sl l.length (li l)) :: (.val (.int .i64 n) :: (.val (.sl ps.length (pc ps)) :: (dds 3 (.val (.bool false) :: (.val (.int .i64 (Int.tmod (l.getD (Int.toNat 0) 0) 1000)) :: (.val (.int .i64 (Int.tmod (l.getD (Int.toNat 1) 0) 1000)) :: (.val (.sl f0.length (pc f0)) :: (.val (.int .i64 0) :: (dds 12 (.val (.bool false) :: (.val (.sl l.length (li l)) :: (dds 1 (.val (.bool (decide (((l.length : Nat) : Int) < 2))) :: (.val (.bool (decide (((l.length : Nat) : Int) < 2))) :: (.val (.int .i64 n) :: (dds 125 [])))))))))))))))))) (ex := .norm) TPW_holds 400 [] [0, 1, 2, 6, 7, 8, 9, 10, 23, 24, 26, 27, 28] a0 (by kernel_rfl))
    (RunsW.seq (RunsW.seq (RunsW.go TPW_holds 400 [] [1, 2, 7, 8, 9, 10, 11] a0 (by kernel_rfl))
    (RunsW.block hl7))
    (RunsW.go TPW_holds 400 [.b true, .b true, .b false, .r (.tup [.sl fs.length (pc fs), .int .i64 0]), .r (.tup [.sl gs.length (pc gs), .int .i64 0]), .r (.tup [.sl hs.length (pc hs), .int .i64 0]), .r (.tup [.sl ds.length (pc ds), .int .i64 0]), .r (.tup [.sl cs.length (pc cs), .int .i64 0]), .b true, .b true, .b true, .b true, .b true, .r (.int .i64 d_fs), .b true, .r (.bool true), .b true, .r (.int .i64 d_cs)] [6] (ac c11 (ac c11 (ac c12 (ac n8 (ac n9 (ac n10 (ac n11 (ac n12 (ac c1 (ac c1 (ac c1 (ac c1 (ac c1 (ac n13 (ac c4 (ac n14 (ac (show true = true from rfl) (ac n15 a0)))))))))))))))))) (by kernel_rfl))))))))) (by intro i e; cases e) rfl
theorem Try.run5_8 (l : List Int) (n : Int) (ps f0 xs fs gs hs ds cs : List Rn) (sh : Bool) (d_ps d_fs d_cs i : Int) (c1 : (0 == 0) = true)
    (c2 : (d_fs == 0) = true)
    (c5 : (decide (((l.length : Nat) : Int) < 2)) = false)
    (c6 : (decide (n < 0)) = false)
    (c7 : (decide (n > 4)) = false)
    (c8 : (decide (((ps.length : Nat) : Int) > 6)) = false)
    (c9 : (sh) = true)
    (c10 : (decide (d_ps < 1)) = false)
    (c11 : (decide (n > 0)) = false)
    (n1 : Runs Try.ir 13 [] (.bool true))
    (n2 : Runs Try.ir 22 [.sl ps.length (pc ps)] (.bool sh))
    (n3 : Runs Try.ir 23 [.sl ps.length (pc ps)] (.int .i64 d_ps))
    (n4 : 0 ≤ (0 : Int) ∧ (0 : Int) < ((l.length : Nat) : Int))
    (n5 : 0 ≤ (1 : Int) ∧ (1 : Int) < ((l.length : Nat) : Int))
    (n6 : Runs Try.ir 26 [.sl 1 [.int .i64 1]] (.fresh 2 f0.length (pc f0)))
    (hl7 : RunsW Try.ir (.loop Try.c5) (Try.s5 n ps (Int.tmod (l.getD (Int.toNat 0) 0) 1000) (Int.tmod (l.getD (Int.toNat 1) 0) 1000) f0 0 0) (.exit 0) (Try.s5 n ps (Int.tmod (l.getD (Int.toNat 0) 0) 1000) (Int.tmod (l.getD (Int.toNat 1) 0) 1000) xs 0 i))
    (n8 : Runs Try.ir 17 [.sl xs.length (pc xs)] (.tup [.sl fs.length (pc fs), .int .i64 0]))
    (n9 : Runs Try.ir 17 [.sl ps.length (pc ps)] (.tup [.sl gs.length (pc gs), .int .i64 0]))
    (n10 : Runs Try.ir 17 [.sl gs.length (pc gs)] (.tup [.sl hs.length (pc hs), .int .i64 0]))
    (n11 : Runs Try.ir 27 [.sl gs.length (pc gs)] (.tup [.sl ds.length (pc ds), .int .i64 0]))
    (n12 : Runs Try.ir 16 [.sl gs.length (pc gs), .sl ds.length (pc ds)] (.tup [.sl cs.length (pc cs), .int .i64 0]))
    (n13 : Runs Try.ir 23 [.sl fs.length (pc fs)] (.int .i64 d_fs))
    (n14 : Runs Try.ir 28 [.sl gs.length (pc gs), .sl hs.length (pc hs)] (.bool true))
    (n15 : Runs Try.ir 23 [.sl cs.length (pc cs)] (.int .i64 d_cs)) : Runs Try.ir 5 [.sl l.length (li l), .int .i64 n, .sl ps.length (pc ps)] (.bool (d_cs == 0)) :=
  Runs.of_bodyW (fn := Try.i5) (s := (dds 6 (.val (.bool (d_cs == 0)) :: (dds 147 [])))) (ex := .ret) rfl rfl
    (RunsW.seq (RunsW.go (t := (.val (.sl l.length (li l)) :: (.val (.int .i64 n) :: (.val (.sl ps.length (pc ps)) :: (dds 3 (.val (.bool false) :: (dds 147 []))))))) (ex := .norm) TPW_holds 400 [] [0, 1, 2, 6] a0 (by kernel_rfl))
    (RunsW.seq (RunsW.go (t := (.val (.sl l.length (li l)) :: (.val (.int .i64 n) :: (.val (.sl ps.length (pc ps)) :: (dds 3 (.val (.bool false) :: (dds 15 (.val (.bool true) :: (.val (.bool false) :: (dds 130 [])))))))))) (ex := .norm) TPW_holds 400 [.r (.bool true), .b false] [0, 1, 2, 6, 22, 23] (ac n1 (ac (show false = false from rfl) a0)) (by kernel_rfl))
    (RunsW.seq (RunsW.go (t := (.val (.sl l.length (li l)) :: (.val (.int .i64 n) :: (.val (.sl ps.length (pc ps)) :: (dds 3 (.val (.bool false) :: (dds 16 (.val (.bool false) :: (.val (.sl l.length (li l)) :: (dds 1 (.val (.bool (decide (((l.length : Nat) : Int) < 2))) :: (.val (.bool (decide (((l.length : Nat) : Int) < 2))) :: (.val (.int .i64 n) :: (dds 125 [])))))))))))))) (ex := .norm) TPW_holds 400 [.b false, .b false, .b false, .b false, .r (.bool sh), .b false, .r (.int .i64 d_ps), .b false] [0, 1, 2, 6, 23, 24, 26, 27, 28] (ac c5 (ac c6 (ac c7 (ac c8 (ac n2 (ac (show (!sh) = false from (by rw [c9]; rfl)) (ac n3 (ac c10 a0)))))))) (by kernel_rfl))
    (RunsW.seq (RunsW.go (t := (.val (.sl l.length (li l)) :: (.val (.int .i64 n) :: (.val (.sl ps.length (pc ps)) :: (dds 3 (.val (.bool false) :: (.val (.int .i64 (Int.tmod (l.getD (Int.toNat 0) 0) 1000)) :: (.val (.int .i64 (Int.tmod (l.getD (Int.toNat 1) 0) 1000)) :: (dds 14 (.val (.bool false) :: (.val (.sl l.length (li l)) :: (dds 1 (.val (.bool (decide (((l.length : Nat) : Int) < 2))) :: (.val (.bool (decide (((l.length : Nat) : Int) < 2))) :: (.val (.int .i64 n) :: (dds 125 [])))))))))))))))) (ex := .norm) TPW_holds 400 [.v (.int .i64 (l.getD (Int.toNat 0) 0)), .v (.int .i64 (l.getD (Int.toNat 1) 0))] [0, 1, 2, 6, 7, 8, 23, 24, 26, 27, 28] (ac n4 (ac (show takeA (List.drop (Int.toNat 0 * 1) (li l)) 0 1 true = some (.int .i64 (l.getD (Int.toNat 0) 0)) from (take_liI n4)) (ac (show ¬ (1000 : Int) = 0 from (by decide)) (ac n5 (ac (show takeA (List.drop (Int.toNat 1 * 1) (li l)) 0 1 true = some (.int .i64 (l.getD (Int.toNat 1) 0)) from (take_liI n5)) (ac (show ¬ (1000 : Int) = 0 from (by decide)) a0)))))) (by kernel_rfl))
    (RunsW.seq (RunsW.go (t := (.val (.sl l.length (li l)) :: (.val (.int .i64 n) :: (.val (.sl ps.length (pc ps)) :: (dds 3 (.val (.bool false) :: (.val (.int .i64 (Int.tmod (l.getD (Int.toNat 0) 0) 1000)) :: (.val (.int .i64 (Int.tmod (l.getD (Int.toNat 1) 0) 1000)) :: (.val (.sl f0.length (pc f0)) :: (dds 13 (.val (.bool false) :: (.val (.sl l.length (li l)) :: (dds 1 (.val (.bool (decide (((l.length : Nat) : Int) < 2))) :: (.val (.bool (decide (((l.length : Nat) : Int) < 2))) :: (.val (.int .i64 n) :: (dds 125 []))))))))))))))))) (ex := .norm) TPW_holds 400 [.r (.fresh 2 f0.length (pc f0))] [0, 1, 2, 6, 7, 8, 9, 23, 24, 26, 27, 28] (ac n6 a0) (by kernel_rfl))
    (RunsW.seq (RunsW.go (t := (.val (.sl l.length (li l)) :: (.val (.int .i64 n) :: (.val (.sl ps.length (pc ps)) :: (dds 3 (.val (.bool false) :: (.val (.int .i64 (Int.tmod (l.getD (Int.toNat 0) 0) 1000)) :: (.val (.int .i64 (Int.tmod (l.getD (Int.toNat 1) 0) 1000)) :: (.val (.sl f0.length (pc f0)) :: (.val (.int .i64 0) :: (dds 12 (.val (.bool false) :: (.val (.sl l.length (li l)) :: (dds 1 (.val (.bool (decide (((l.length : Nat) : Int) < 2))) :: (.val (.bool (decide (((l.length : Nat) : Int) < 2))) :: (.val (.int .i64 n) :: (dds 125 [])))))))))))))))))) (ex := .norm) TPW_holds 400 [] [0, 1, 2, 6, 7, 8, 9, 10, 23, 24, 26, 27, 28] a0 (by kernel_rfl))
    (RunsW.seq (RunsW.seq (RunsW.go TPW_holds 400 [] [1, 2, 7, 8, 9, 10, 11] a0 (by kernel_rfl))
    (RunsW.block hl7))
    (RunsW.go TPW_holds 400 [.b false, .b false, .b false, .r (.tup [.sl fs.length (pc fs), .int .i64 0]), .r (.tup [.sl gs.length (pc gs), .int .i64 0]), .r (.tup [.sl hs.length (pc hs), .int .i64 0]), .r (.tup [.sl ds.length (pc ds), .int .i64 0]), .r (.tup [.sl cs.length (pc cs), .int .i64 0]), .b true, .b true, .b true, .b true, .b true, .r (.int .i64 d_fs), .b true, .r (.bool true), .b true, .r (.int .i64 d_cs)] [6] (ac c11 (ac c11 (ac (show false = false from rfl) (ac n8 (ac n9 (ac n10 (ac n11 (ac n12 (ac c1 (ac c1 (ac c1 (ac c1 (ac c1 (ac n13 (ac c2 (ac n14 (ac (show true = true from rfl) (ac n15 a0)))))))))))))))))) (by kernel_rfl))))))))) (by intro i e; cases e) rfl
theorem Try.run5_9 (l : List Int) (n : Int) (ps : List Rn) (sh : Bool) (c5 : (decide (((l.length : Nat) : Int) < 2)) = false)
    (c6 : (decide (n < 0)) = false)
    (c7 : (decide (n > 4)) = false)
    (c8 : (decide (((ps.length : Nat) : Int) > 6)) = false)
    (c9 : (sh) = false)
    (n1 : Runs Try.ir 13 [] (.bool true))
    (n2 : Runs Try.ir 22 [.sl ps.length (pc ps)] (.bool sh)) : Runs Try.ir 5 [.sl l.length (li l), .int .i64 n, .sl ps.length (pc ps)] (.bool true) :=
  Runs.of_bodyW (fn := Try.i5) (s := (dds 6 (.val (.bool true) :: (dds 147 [])))) (ex := .ret) rfl rfl
    (RunsW.seq (RunsW.go (t := (.val (.sl l.length (li l)) :: (.val (.int .i64 n) :: (.val (.sl ps.length (pc ps)) :: (dds 3 (.val (.bool false) :: (dds 147 []))))))) (ex := .norm) TPW_holds 400 [] [0, 1, 2, 6] a0 (by kernel_rfl))
    (RunsW.seq (RunsW.go (t := (.val (.sl l.length (li l)) :: (.val (.int .i64 n) :: (.val (.sl ps.length (pc ps)) :: (dds 3 (.val (.bool false) :: (dds 15 (.val (.bool true) :: (.val (.bool false) :: (dds 130 [])))))))))) (ex := .norm) TPW_holds 400 [.r (.bool true), .b false] [0, 1, 2, 6, 22, 23] (ac n1 (ac (show false = false from rfl) a0)) (by kernel_rfl))
    (RunsW.seq_out (RunsW.go TPW_holds 400 [.b false, .b false, .b false, .b false, .r (.bool sh), .b true, .b true, .r (.bool true)] [6] (ac c5 (ac c6 (ac c7 (ac c8 (ac n2 (ac (show (!sh) = true from (by rw [c9]; rfl)) (ac (show true = true from rfl) (ac n1 a0)))))))) (by kernel_rfl)) (by intro e; cases e)))) (by intro i e; cases e) rfl
theorem same1_run (r : Rn) (hN : r.2.length ≤ 1048576) : Runs Try.ir 41 [.agg [.bool r.1, .sl r.2.length (lm r.2)], .agg [.bool r.1, .sl r.2.length (lm r.2)]] (.bool true) := by
  refine Try.run41_2 r (r.2.length : Nat) (by simp) (by simp) ?_
  exact RunsW.upTo (prog := Try.ir) (c := Try.c41) (ex := .exit 0) (fun t => Try.s41 false r (t : Nat)) r.2.length (by intro e; cases e) (Try.k41_3 false r _ (by simp)) 0 (Nat.zero_le _) (fun t _ h => by
    have ei : IntKind.i64.wrap (((t : Nat) : Int) + 1) = ((t + 1 : Nat) : Int) := by rw [w64 (by omega) (by omega)]; omega
    have k := Try.k41_2 false r (t : Nat) (by simp; omega) (by simp) (by omega)
    rwa [ei] at k)
theorem same2_run {rs : List Rn} (hg : ∀ r ∈ rs, Good 1048576 r) (hN : rs.length ≤ 1048576) : Runs Try.ir 28 [.sl rs.length (pc rs), .sl rs.length (pc rs)] (.bool true) := by
  refine Try.run28_2 rs rs (rs.length : Nat) (by simp) ?_
  exact RunsW.upTo (prog := Try.ir) (c := Try.c28) (ex := .exit 0) (fun t => Try.s28 false rs rs (t : Nat)) rs.length (by intro e; cases e) (Try.k28_3 false rs rs _ (by simp)) 0 (Nat.zero_le _) (fun t _ h => by
    have ei : IntKind.i64.wrap (((t : Nat) : Int) + 1) = ((t + 1 : Nat) : Int) := by rw [w64 (by omega) (by omega)]; omega
    have k := Try.k28_1 false rs rs (t : Nat) true (by simp; omega) rfl (by omega) (by omega) (by rw [Int.toNat_natCast]; exact same1_run _ (good_getD hg t).2)
    rwa [ei] at k)
theorem polyOf_run {xs : List Int} (hx : ∀ x ∈ xs, -9223372036854775808 ≤ x ∧ x ≤ 9223372036854775807) (hN : xs.length ≤ 1048576) (ht : trimL xs = xs) : RunsF 26 [.sl xs.length (li xs)] xs := by
  have h := runsF (aints_run hx hN)
  rw [ht] at h
  exact Try.run26 xs _ h
theorem lin_coef {X : List Int} {B : Nat} (u c : Int) (h : ∀ i, (X.getD i 0).natAbs ≤ B) (hu : u.natAbs + c.natAbs ≤ 1001) (i : Nat) : ((pmul X [u, c]).getD i 0).natAbs ≤ 1001 * B := by
  have hz : ∀ j, (pmul X []).getD j 0 = 0 := fun j => by
    have := peval_inj' (p := pmul X []) (q := []) (fun x => by rw [peval_pmul]; simp [peval]) j
    rw [this]; simp
  have h1 : ∀ j, (pmul X [c]).getD j 0 = c * X.getD j 0 := fun j => by
    rw [pmul_cons_right, getD_shiftP]; split
    · rw [hz]; omega
    · omega
  have hB : u.natAbs * B + c.natAbs * B ≤ 1001 * B := by rw [← Nat.add_mul]; exact Nat.mul_le_mul_right _ hu
  have a1 : (u * X.getD i 0).natAbs ≤ u.natAbs * B := by rw [Int.natAbs_mul]; exact Nat.mul_le_mul_left _ (h i)
  rw [pmul_cons_right, getD_shiftP]
  split
  · rw [h1]
    have a2 : (c * X.getD (i - 1) 0).natAbs ≤ c.natAbs * B := by rw [Int.natAbs_mul]; exact Nat.mul_le_mul_left _ (h _)
    omega
  · omega
def quadP (a b : Int) : List Int := [a * b, -(2 * a + b), 2]
theorem quad_eval (a b x : Int) : peval (quadP a b) x = peval [-a, 1] x * peval [-b, 2] x := by
  unfold quadP; simp only [peval]; grind
theorem quad_trim (a b : Int) : trimL (quadP a b) = quadP a b := lead_of (Or.inr (by unfold quadP; simp))
def xpow (a b : Int) : Nat → List Int
  | 0 => [1]
  | k + 1 => pmul (pmul (xpow a b k) [-a, 1]) [-b, 2]
theorem xpow_eval (a b : Int) : ∀ (k : Nat) (x : Int), peval (xpow a b k) x = peval (ppow (quadP a b) k) x
  | 0, _ => rfl
  | k + 1, x => by
    simp only [xpow, ppow]
    rw [peval_pmul, peval_pmul, peval_pmul, xpow_eval a b k x, quad_eval, Int.mul_assoc]
theorem xpow_lead (a b : Int) : ∀ k, Lead (xpow a b k)
  | 0 => rfl
  | _ + 1 => pmul_trim _ _
theorem xpow_length (a b : Int) (k : Nat) : (xpow a b k).length = 2 * k + 1 := by
  have h1 : trimL (xpow a b k) = trimL (ppow (quadP a b) k) := peval_inj (xpow_eval a b k)
  have h2 := (ppow_length (h := quadP a b) (by rw [quad_trim]; simp [quadP]) k).2
  rw [← h1, xpow_lead, quad_trim] at h2
  rw [h2]; simp [quadP]; omega
theorem xpow_coef {a b : Int} (ha : a.natAbs ≤ 999) (hb : b.natAbs ≤ 999) : ∀ k i, ((xpow a b k).getD i 0).natAbs ≤ 1002001 ^ k
  | 0, i => by
    simp only [xpow]
    cases i with
    | zero => simp
    | succ i => simp
  | k + 1, i => by
    have h1 := lin_coef (-a) 1 (xpow_coef ha hb k) (by omega)
    have h2 := lin_coef (-b) 2 h1 (by omega) i
    simp only [xpow]
    rw [Nat.pow_succ]
    omega
theorem xpow_kb {a b : Int} (ha : a.natAbs ≤ 999) (hb : b.natAbs ≤ 999) {k : Nat} (hk : k ≤ 4) : Kb 3 (xpow a b k) := fun i => by
  have h := xpow_coef ha hb k i
  have h2 : 1002001 ^ k ≤ 1002001 ^ 4 := Nat.pow_le_pow_right (by decide) hk
  unfold Fits
  have h3 : 1002001 ^ 4 < 4294967296 ^ 3 := by decide
  omega
theorem xpow_kb2 {a b : Int} (ha : a.natAbs ≤ 999) (hb : b.natAbs ≤ 999) {k : Nat} (hk : k < 4) : Kb 3 (pmul (xpow a b k) [-a, 1]) := fun i => by
  have h := lin_coef (-a) 1 (xpow_coef ha hb k) (by omega) i
  have h2 : 1002001 ^ k ≤ 1002001 ^ 3 := Nat.pow_le_pow_right (by decide) (by omega)
  unfold Fits
  have h3 : 1001 * 1002001 ^ 3 < 4294967296 ^ 3 := by decide
  omega
theorem xpow_one (a : Int) : ∀ (k : Nat) (x : Int), peval (xpow a (2 * a) k) x = 2 ^ k * peval (ppow [-a, 1] (2 * k)) x
  | 0, x => by simp [xpow, ppow, peval]
  | k + 1, x => by
    have e : 2 * (k + 1) = 2 * k + 1 + 1 := by omega
    rw [e]
    simp only [xpow, ppow]
    rw [peval_pmul, peval_pmul, peval_pmul, peval_pmul, xpow_one a k x, Int.pow_succ]
    simp only [peval]
    grind
theorem lin_kb {u c : Int} (hu : u.natAbs + c.natAbs ≤ 1001) : Kb 3 [u, c] := fun i => by
  have h3 : 1002 < 4294967296 ^ 3 := by decide
  unfold Fits
  match i with
  | 0 => simp only [List.getD_cons_zero]; omega
  | 1 => simp only [List.getD_cons_succ, List.getD_cons_zero]; omega
  | i + 2 => simp
theorem lin_of {u c : Int} (hu : u.natAbs + c.natAbs ≤ 1001) (hc : c ≠ 0) : RunsF 26 [.sl 2 [.int .i64 u, .int .i64 c]] [u, c] :=
  polyOf_run (xs := [u, c]) (fun x hx => by
    rcases List.mem_cons.1 hx with rfl | hx
    · omega
    · rw [List.mem_singleton.1 hx]; omega) (by simp) (lead_of (Or.inr (by simpa using hc)))
theorem free_loop {a b : Int} {ps : List Rn} (ha : a.natAbs ≤ 999) (hb : b.natAbs ≤ 999) (n : Nat) (hn : n ≤ 4) :
    RunsW Try.ir (.loop Try.c5) (Try.s5 (n : Nat) ps a b ([1].map cn) 0 0) (.exit 0) (Try.s5 (n : Nat) ps a b ((xpow a b n).map cn) 0 (n : Nat)) := by
  exact RunsW.upTo (prog := Try.ir) (c := Try.c5) (ex := .exit 0) (fun t => Try.s5 (n : Nat) ps a b ((xpow a b t).map cn) 0 (t : Nat)) n (by intro e; cases e) (Try.k5_2 _ _ _ _ _ _ _ (by simp)) 0 (Nat.zero_le _) (fun t _ h => by
    have ei : IntKind.i64.wrap (((t : Nat) : Int) + 1) = ((t + 1 : Nat) : Int) := by rw [w64 (by omega) (by omega)]; omega
    have ea : IntKind.i64.wrap (0 - a) = -a := by rw [w64 (by omega) (by omega)]; omega
    have eb : IntKind.i64.wrap (0 - b) = -b := by rw [w64 (by omega) (by omega)]; omega
    have l1 := lin_of (u := -a) (c := 1) (by omega) (by decide)
    have l2 := lin_of (u := -b) (c := 2) (by omega) (by decide)
    have hl := xpow_length a b t
    have k1 := xpow_kb ha hb (k := t) (by omega)
    have k2 := xpow_kb2 ha hb (k := t) (by omega)
    have m1 := (pmulT_run (rs := (xpow a b t).map cn) (ss := [-a, 1].map cn) (mcn_good k1) (mcn_good (lin_kb (by omega))) (by rw [List.length_map]; omega) (by simp; omega))
    rw [vals_cn, vals_cn] at m1
    obtain ⟨m1, _, m3⟩ := m1
    rw [List.length_map] at m3
    simp only [List.map_cons, List.map_nil, List.length_cons, List.length_nil] at m3
    have m2 := (pmulT_run (rs := (pmul (xpow a b t) [-a, 1]).map cn) (ss := [-b, 2].map cn) (mcn_good k2) (mcn_good (lin_kb (by omega))) (by rw [List.length_map]; omega) (by simp; omega)).1
    rw [vals_cn, vals_cn] at m2
    have k := Try.k5_1 (n : Nat) ps a b ((xpow a b t).map cn) 0 (t : Nat) ([-a, 1].map cn) ([-b, 2].map cn) _ ((xpow a b (t + 1)).map cn) (by simp; omega) (by rw [ea]; exact l1) m1 (by rw [eb]; exact l2) m2
    rwa [ei] at k)
theorem xpow_free {a b : Int} (n : Nat) : (pfree (xpow a b n)).length = if n = 0 then 1 else if 2 * a = b then 2 else 3 := by
  have hx : trimL (xpow a b n) ≠ [] := by
    rw [xpow_lead]; intro h; have := xpow_length a b n; rw [h] at this; simp at this
  cases n with
  | zero =>
    obtain ⟨_, _, _, f0, hd, _⟩ := pfree_ok hx
    obtain ⟨lf, _⟩ := pfree_ok hx
    have h1 := (hd.length hx).1
    rw [lf, xpow_lead, xpow_length] at h1
    have := List.length_pos_iff.2 f0
    rw [if_pos rfl]; omega
  | succ n =>
    rw [if_neg (by omega)]
    split
    · rename_i h
      subst h
      have h1 := pfree_pow (P := [-a, 1]) (p := xpow a (2 * a) (n + 1)) (c := 2 ^ (n + 1)) (2 * n + 1) (by
        have : (0 : Int) < 2 ^ (n + 1) := Int.pow_pos (by decide)
        omega) (by rw [show trimL [-a, 1] = [-a, 1] from lead_of (Or.inr (by simp))]; simp) (one_factor a) (fun x => xpow_one a (n + 1) x)
      rw [h1, show trimL [-a, 1] = [-a, 1] from lead_of (Or.inr (by simp))]; rfl
    · rename_i h
      have h1 := pfree_pow (P := quadP a b) (p := xpow a b (n + 1)) (c := 1) n (by decide) (by rw [quad_trim]; simp [quadP]) (two_factors a b (by omega)) (fun x => by rw [xpow_eval]; omega)
      rw [h1, quad_trim]; rfl
theorem tmod_small (x : Int) : (Int.tmod x 1000).natAbs ≤ 999 := by
  have h1 := Int.tmod_lt_of_pos x (show (0 : Int) < 1000 by decide)
  have h2 := Int.lt_tmod_of_pos x (show (0 : Int) < 1000 by decide)
  omega
theorem pfreeLaw_run {l : List Int} {n : Int} {ps : List Rn} (h3 : ∀ r ∈ ps, U32 r.2) : Runs Try.ir 5 [.sl l.length (li l), .int .i64 n, .sl ps.length (pc ps)] (.bool true) := by
  have haw := Try.run13
  by_cases l1 : l.length < 2
  · exact Try.run5_1 l n ps (by rw [decide_eq_true_eq]; omega) haw
  have c1 : decide (((l.length : Nat) : Int) < 2) = false := by rw [decide_eq_false_iff_not]; omega
  by_cases l2 : n < 0
  · exact Try.run5_2 l n ps c1 (by rw [decide_eq_true_eq]; omega) haw
  have c2 : decide (n < 0) = false := by rw [decide_eq_false_iff_not]; omega
  by_cases l3 : n > 4
  · exact Try.run5_3 l n ps c1 c2 (by rw [decide_eq_true_eq]; omega) haw
  have c3 : decide (n > 4) = false := by rw [decide_eq_false_iff_not]; omega
  by_cases l4 : ps.length > 6
  · exact Try.run5_4 l n ps c1 c2 c3 (by rw [decide_eq_true_eq]; omega) haw
  have c4 : decide (((ps.length : Nat) : Int) > 6) = false := by rw [decide_eq_false_iff_not]; omega
  have r1 := short_run (rs := ps) (by omega)
  cases s1 : shortB ps with
  | false => rw [s1] at r1; exact Try.run5_9 l n ps false c1 c2 c3 c4 rfl haw r1
  | true =>
  rw [s1] at r1
  have g1 := shortB_yes s1 h3
  have d1 := pdeg_run (rs := ps) (fun r h => (g1 r h).mono (by omega)) (by omega)
  by_cases l5 : (((trimL (vals ps)).length : Nat) - 1 : Int) < 1
  · exact Try.run5_5 l n ps true _ c1 c2 c3 c4 rfl (by rw [decide_eq_true_eq]; exact l5) haw r1 d1
  have c5 : decide ((((trimL (vals ps)).length : Nat) - 1 : Int) < 1) = false := by rw [decide_eq_false_iff_not]; exact l5
  obtain ⟨m, rfl⟩ : ∃ m : Nat, n = (m : Nat) := ⟨n.toNat, by omega⟩
  have hm : m ≤ 4 := by omega
  have ha := tmod_small (l.getD (Int.toNat 0) 0)
  have hb := tmod_small (l.getD (Int.toNat 1) 0)
  have n4 : 0 ≤ (0 : Int) ∧ (0 : Int) < ((l.length : Nat) : Int) := by omega
  have n5 : 0 ≤ (1 : Int) ∧ (1 : Int) < ((l.length : Nat) : Int) := by omega
  have lp := free_loop (ps := ps) ha hb m hm
  have one : RunsF 26 [.sl 1 [.int .i64 1]] [1] := polyOf_run (xs := [1]) (fun x hx => by rw [List.mem_singleton.1 hx]; omega) (by simp) rfl
  have nP : trimL (vals ps) ≠ [] := by intro h; rw [h] at l5; exact l5 (by decide)
  have ew : IntKind.i64.wrap (2 * (Int.tmod (l.getD (Int.toNat 0) 0) 1000)) = 2 * (Int.tmod (l.getD (Int.toNat 0) 0) 1000) := w64 (by omega) (by omega)
  generalize hA : Int.tmod (l.getD (Int.toNat 0) 0) 1000 = a at *
  generalize hB : Int.tmod (l.getD (Int.toNat 1) 0) 1000 = b at *
  -- the power
  have xl := xpow_length a b m
  have nX : trimL (xpow a b m) ≠ [] := by rw [xpow_lead]; intro h; rw [h] at xl; simp at xl
  have fx := pfreeT_run (rs := (xpow a b m).map cn) (c := 9) (mcn_good (xpow_kb ha hb hm)) (by rw [List.length_map]; omega) (by decide) (by decide) (by decide) (by rw [vals_cn]; exact nX)
  rw [vals_cn] at fx
  obtain ⟨fx1, fx2, fx3⟩ := fx
  have lX := (pfree_ok nX).1
  have dx := pdeg_run (rs := (pfree (xpow a b m)).map cn) (fun r h => (mcn_good fx2 r h).mono (by decide)) (by rw [List.length_map]; rw [xpow_lead] at fx3; omega)
  rw [vals_cn, lX, xpow_free] at dx
  -- the polynomial
  obtain ⟨g1r, g2, g3⟩ := pfreeT_run (c := 6) g1 (by omega) (by decide) (by decide) (by decide) nP
  obtain ⟨lG, _, _, nG, _, _, _, cG⟩ := pfree_ok nP
  have again := pfree_again nP
  have ht := trim_vals_len ps
  generalize pfree (vals ps) = g at *
  have h1 := (pfreeT_run (rs := g.map cn) (c := 6) (mcn_good g2) (by rw [List.length_map]; omega) (by decide) (by decide) (by decide) (by rw [vals_cn, lG]; exact nG)).1
  rw [vals_cn, again] at h1
  have h2 := pderiveT_run (rs := g.map cn) (mcn_good g2) (by decide) (by rw [List.length_map]; omega)
  rw [vals_cn] at h2
  have kd := kb_pder g2 (by omega)
  have hdl := pder_len g
  have h4 := pgcdT_run (rs := g.map cn) (ss := (pder g).map cn) (K := 8) (c := 6) (fun r h => (mcn_good g2 r h).mono (by decide)) (mcn_good kd) (by rw [List.length_map]; omega) (by rw [List.length_map]; omega) (by decide) (by decide) (by decide) (by rw [vals_cn, lG]; exact nG)
  rw [vals_cn, vals_cn] at h4
  obtain ⟨h4, h5, _⟩ := h4
  have lC := lead_pcom g (pder g)
  have dc := pdeg_run (rs := (pcom g (pder g)).map cn) (fun r h => (mcn_good h5 r h).mono (by decide)) (by rw [List.length_map]; omega)
  rw [vals_cn, lC, cG] at dc
  have sm := same2_run (rs := g.map cn) (fun r h => (mcn_good g2 r h).mono (by decide)) (by rw [List.length_map]; omega)
  by_cases z : m = 0
  · subst z
    rw [if_pos rfl] at dx
    exact Try.run5_8 l ((0 : Nat) : Int) ps ([1].map cn) _ _ (g.map cn) (g.map cn) _ _ true _ _ _ _ rfl rfl c1 c2 c3 c4 rfl c5 rfl haw r1 d1 n4 n5 one (by rw [hA, hB]; exact lp) fx1 g1r h1 h2 h4 dx sm dc
  · rw [if_neg z] at dx
    have cn0 : decide (((m : Nat) : Int) > 0) = true := by rw [decide_eq_true_eq]; omega
    by_cases e : 2 * a = b
    · rw [if_pos e] at dx
      exact Try.run5_6 l (m : Nat) ps ([1].map cn) _ _ (g.map cn) (g.map cn) _ _ true _ _ _ _ rfl rfl c1 c2 c3 c4 rfl c5 cn0 (by rw [hA, hB, ew, beq_iff_eq]; exact e) haw r1 d1 n4 n5 one (by rw [hA, hB]; exact lp) fx1 g1r h1 h2 h4 dx sm dc
    · rw [if_neg e] at dx
      exact Try.run5_7 l (m : Nat) ps ([1].map cn) _ _ (g.map cn) (g.map cn) _ _ true _ _ _ _ rfl rfl c1 c2 c3 c4 rfl c5 cn0 (by rw [hA, hB, ew, beq_eq_false_iff_ne]; exact e) haw r1 d1 n4 n5 one (by rw [hA, hB]; exact lp) fx1 g1r h1 h2 h4 dx sm dc
end Go.Proofs.Ythnnfemologhfaa
