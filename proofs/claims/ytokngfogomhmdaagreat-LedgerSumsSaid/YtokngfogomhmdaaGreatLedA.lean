/- Accounts: the walk. -/
import Derived.Test.YtokngfogomhmdaaGreatIr
import Derived.Test.YtokngfogomhmdaaGreatEnt
namespace Go.Proofs.YtokngfogomhmdaaGreat
open Go.Ai
set_option maxRecDepth 100000

theorem TLd_holds : THolds Tryz.ir [] := THolds.nil _

noncomputable def Tryz.c5 : ICode := Tryz.cp Tryz.x5 92 244
def Tryz.s5 (l : List E3) (b : Int) (a : Int) (s : Int) (i : Int) : State := (dds 2 (.box [.int .i64 0, .int .i64 0, .int .i64 0] :: (.box [.int .i64 b, .int .i64 a, .int .i64 s] :: (dds 18 (.val (.sl l.length (en l)) :: (.val (.int .i64 ((l.length : Nat) : Int)) :: (.val (.int .i64 i) :: (dds 11 []))))))))
theorem Tryz.k5_1 (l : List E3) (b : Int) (a : Int) (s : Int) (i : Int)  (c1 : (decide (i < ((l.length : Nat) : Int))) = true)
    (n1 : 0 ≤ i ∧ i < ((l.length : Nat) : Int)) : RunsW Tryz.ir Tryz.c5 (Tryz.s5 l b a s i) .norm (Tryz.s5 l b a (IntKind.i64.wrap (s + ((l.getD (Int.toNat i) z3).2.2))) (IntKind.i64.wrap (i + 1))) :=
  (RunsW.go TLd_holds 400 [.b true, .v (.agg [.int .i64 ((l.getD (Int.toNat i) z3).1), .int .i64 ((l.getD (Int.toNat i) z3).2.1), .int .i64 ((l.getD (Int.toNat i) z3).2.2)])] [2, 3, 22, 23, 24] (ac c1 (ac n1 (ac (show takeA (List.drop (Int.toNat i * 3) (en l)) 0 3 false = some (.agg [.int .i64 ((l.getD (Int.toNat i) z3).1), .int .i64 ((l.getD (Int.toNat i) z3).2.1), .int .i64 ((l.getD (Int.toNat i) z3).2.2)]) from (take_enI n1)) a0))) (by kernel_rfl))

theorem Tryz.k5_2 (l : List E3) (b : Int) (a : Int) (s : Int) (i : Int)  (c1 : (decide (i < ((l.length : Nat) : Int))) = false) : RunsW Tryz.ir Tryz.c5 (Tryz.s5 l b a s i) (.exit 0) (Tryz.s5 l b a s i) :=
  (RunsW.go TLd_holds 400 [.b false] [2, 3, 22, 23, 24] (ac c1 a0) (by kernel_rfl))

theorem Tryz.run5_1 (l : List E3) (c1 : (((l.length : Nat) : Int) == 0) = true) : Runs Tryz.ir 5 [.sl l.length (en l)] (.agg [.int .i64 0, .int .i64 0, .int .i64 0]) :=
  Runs.of_bodyW (fn := Tryz.i5) (s := (dds 2 (.box [.int .i64 0, .int .i64 0, .int .i64 0] :: (dds 33 [])))) (ex := .ret) rfl rfl
    (RunsW.asc (RunsW.asc (RunsW.csi (RunsW.seq_out (RunsW.go TLd_holds 400 [.b true] [2] (ac c1 a0) (by kernel_rfl)) (by intro e; cases e))))) (by intro i e; cases e) rfl

theorem Tryz.run5_2 (l : List E3) (s i : Int) (c1 : (((l.length : Nat) : Int) == 0) = false)
    (n1 : 0 ≤ (0 : Int) ∧ (0 : Int) < ((l.length : Nat) : Int))
    (n2 : 0 ≤ (IntKind.i64.wrap (((l.length : Nat) : Int) - 1)) ∧ (IntKind.i64.wrap (((l.length : Nat) : Int) - 1)) < ((l.length : Nat) : Int))
    (hl3 : RunsW Tryz.ir (.loop Tryz.c5) (Tryz.s5 l ((l.getD (Int.toNat 0) z3).1) ((l.getD (Int.toNat (IntKind.i64.wrap (((l.length : Nat) : Int) - 1))) z3).2.1) 0 0) (.exit 0) (Tryz.s5 l ((l.getD (Int.toNat 0) z3).1) ((l.getD (Int.toNat (IntKind.i64.wrap (((l.length : Nat) : Int) - 1))) z3).2.1) s i)) : Runs Tryz.ir 5 [.sl l.length (en l)] (.agg [.int .i64 ((l.getD (Int.toNat 0) z3).1), .int .i64 ((l.getD (Int.toNat (IntKind.i64.wrap (((l.length : Nat) : Int) - 1))) z3).2.1), .int .i64 s]) :=
  Runs.of_bodyW (fn := Tryz.i5) (s := (dds 2 (.box [.int .i64 ((l.getD (Int.toNat 0) z3).1), .int .i64 ((l.getD (Int.toNat (IntKind.i64.wrap (((l.length : Nat) : Int) - 1))) z3).2.1), .int .i64 s] :: (dds 33 [])))) (ex := .ret) rfl rfl
    (RunsW.asc (RunsW.asc (RunsW.csi (RunsW.seq (RunsW.go TLd_holds 400 [.b false, .v (.int .i64 ((l.getD (Int.toNat 0) z3).1)), .v (.int .i64 ((l.getD (Int.toNat (IntKind.i64.wrap (((l.length : Nat) : Int) - 1))) z3).2.1))] [2, 3, 22, 23, 24] (ac c1 (ac n1 (ac (show takeA (List.drop 0 (List.drop (Int.toNat 0 * 3) (en l))) 0 1 true = some (.int .i64 ((l.getD (Int.toNat 0) z3).1)) from (take_en0 n1)) (ac n2 (ac (show takeA (List.drop 1 (List.drop (Int.toNat (IntKind.i64.wrap (((l.length : Nat) : Int) - 1)) * 3) (en l))) 0 1 true = some (.int .i64 ((l.getD (Int.toNat (IntKind.i64.wrap (((l.length : Nat) : Int) - 1))) z3).2.1)) from (take_en1 n2)) a0))))) (by kernel_rfl))
    (RunsW.seq (RunsW.block hl3)
    (RunsW.go TLd_holds 400 [] [2] a0 (by kernel_rfl))))))) (by intro i e; cases e) rfl

noncomputable def Tryz.c6 : ICode := Tryz.cp Tryz.x6 92 244
def Tryz.s6 (l : List E3) (b : Int) (a : Int) (s : Int) (i : Int) : State := (.val (.sl l.length (en l)) :: (dds 1 (.box [.int .i64 0, .int .i64 0, .int .i64 0] :: (.box [.int .i64 b, .int .i64 a, .int .i64 s] :: (.val (.int .i64 i) :: (dds 32 []))))))
theorem Tryz.k6_1 (l : List E3) (b : Int) (a : Int) (s : Int) (i : Int)  (c1 : (decide (i < ((l.length : Nat) : Int))) = true)
    (n1 : 0 ≤ i ∧ i < ((l.length : Nat) : Int)) : RunsW Tryz.ir Tryz.c6 (Tryz.s6 l b a s i) .norm (Tryz.s6 l b a (IntKind.i64.wrap (s + ((l.getD (Int.toNat i) z3).2.2))) (IntKind.i64.wrap (i + 1))) :=
  (RunsW.go TLd_holds 400 [.b true, .v (.int .i64 ((l.getD (Int.toNat i) z3).2.2))] [0, 2, 3, 4] (ac c1 (ac n1 (ac (show takeA (List.drop 2 (List.drop (Int.toNat i * 3) (en l))) 0 1 true = some (.int .i64 ((l.getD (Int.toNat i) z3).2.2)) from (take_en2 n1)) a0))) (by kernel_rfl))

theorem Tryz.k6_2 (l : List E3) (b : Int) (a : Int) (s : Int) (i : Int)  (c1 : (decide (i < ((l.length : Nat) : Int))) = false) : RunsW Tryz.ir Tryz.c6 (Tryz.s6 l b a s i) (.exit 0) (Tryz.s6 l b a s i) :=
  (RunsW.go TLd_holds 400 [.b false] [0, 2, 3, 4] (ac c1 a0) (by kernel_rfl))

theorem Tryz.run6_1 (l : List E3) (c1 : (((l.length : Nat) : Int) == 0) = true) : Runs Tryz.ir 6 [.sl l.length (en l)] (.agg [.int .i64 0, .int .i64 0, .int .i64 0]) :=
  Runs.of_bodyW (fn := Tryz.i6) (s := (dds 2 (.box [.int .i64 0, .int .i64 0, .int .i64 0] :: (dds 34 [])))) (ex := .ret) rfl rfl
    (RunsW.asc (RunsW.asc (RunsW.csi (RunsW.seq_out (RunsW.go TLd_holds 400 [.b true] [2] (ac c1 a0) (by kernel_rfl)) (by intro e; cases e))))) (by intro i e; cases e) rfl

theorem Tryz.run6_2 (l : List E3) (s i : Int) (c1 : (((l.length : Nat) : Int) == 0) = false)
    (n1 : 0 ≤ (0 : Int) ∧ (0 : Int) < ((l.length : Nat) : Int))
    (n2 : 0 ≤ (IntKind.i64.wrap (((l.length : Nat) : Int) - 1)) ∧ (IntKind.i64.wrap (((l.length : Nat) : Int) - 1)) < ((l.length : Nat) : Int))
    (hl3 : RunsW Tryz.ir (.loop Tryz.c6) (Tryz.s6 l ((l.getD (Int.toNat 0) z3).1) ((l.getD (Int.toNat (IntKind.i64.wrap (((l.length : Nat) : Int) - 1))) z3).2.1) 0 0) (.exit 0) (Tryz.s6 l ((l.getD (Int.toNat 0) z3).1) ((l.getD (Int.toNat (IntKind.i64.wrap (((l.length : Nat) : Int) - 1))) z3).2.1) s i)) : Runs Tryz.ir 6 [.sl l.length (en l)] (.agg [.int .i64 ((l.getD (Int.toNat 0) z3).1), .int .i64 ((l.getD (Int.toNat (IntKind.i64.wrap (((l.length : Nat) : Int) - 1))) z3).2.1), .int .i64 s]) :=
  Runs.of_bodyW (fn := Tryz.i6) (s := (dds 2 (.box [.int .i64 ((l.getD (Int.toNat 0) z3).1), .int .i64 ((l.getD (Int.toNat (IntKind.i64.wrap (((l.length : Nat) : Int) - 1))) z3).2.1), .int .i64 s] :: (dds 34 [])))) (ex := .ret) rfl rfl
    (RunsW.asc (RunsW.asc (RunsW.csi (RunsW.seq (RunsW.go TLd_holds 400 [.b false, .v (.int .i64 ((l.getD (Int.toNat 0) z3).1)), .v (.int .i64 ((l.getD (Int.toNat (IntKind.i64.wrap (((l.length : Nat) : Int) - 1))) z3).2.1))] [0, 2, 3, 4] (ac c1 (ac n1 (ac (show takeA (List.drop 0 (List.drop (Int.toNat 0 * 3) (en l))) 0 1 true = some (.int .i64 ((l.getD (Int.toNat 0) z3).1)) from (take_en0 n1)) (ac n2 (ac (show takeA (List.drop 1 (List.drop (Int.toNat (IntKind.i64.wrap (((l.length : Nat) : Int) - 1)) * 3) (en l))) 0 1 true = some (.int .i64 ((l.getD (Int.toNat (IntKind.i64.wrap (((l.length : Nat) : Int) - 1))) z3).2.1)) from (take_en1 n2)) a0))))) (by kernel_rfl))
    (RunsW.seq (RunsW.block hl3)
    (RunsW.go TLd_holds 400 [] [2] a0 (by kernel_rfl))))))) (by intro i e; cases e) rfl

noncomputable def Tryz.c7 : ICode := Tryz.cp Tryz.x7 94 52
def Tryz.s7 (l : List E3) (i : Int) : State := (.val (.sl l.length (en l)) :: (dds 1 (.val (.bool false) :: (dds 2 (.val (.sl l.length (en l)) :: (.val (.int .i64 ((l.length : Nat) : Int)) :: (.val (.int .i64 i) :: (dds 28 []))))))))
theorem Tryz.k7_1 (l : List E3) (i : Int)  (c1 : (decide (i < ((l.length : Nat) : Int))) = true)
    (c2 : (decide ((IntKind.i64.wrap (((l.getD (Int.toNat i) z3).2.1) - ((l.getD (Int.toNat i) z3).1))) > ((l.getD (Int.toNat i) z3).2.2))) = true)
    (n1 : 0 ≤ i ∧ i < ((l.length : Nat) : Int)) : RunsW Tryz.ir Tryz.c7 (Tryz.s7 l i) .ret (Tryz.s7 l i) :=
  (RunsW.go TLd_holds 400 [.b true, .v (.agg [.int .i64 ((l.getD (Int.toNat i) z3).1), .int .i64 ((l.getD (Int.toNat i) z3).2.1), .int .i64 ((l.getD (Int.toNat i) z3).2.2)]), .b true, .b true] [0, 2, 5, 6, 7] (ac c1 (ac n1 (ac (show takeA (List.drop (Int.toNat i * 3) (en l)) 0 3 false = some (.agg [.int .i64 ((l.getD (Int.toNat i) z3).1), .int .i64 ((l.getD (Int.toNat i) z3).2.1), .int .i64 ((l.getD (Int.toNat i) z3).2.2)]) from (take_enI n1)) (ac c2 (ac (show true = true from rfl) a0))))) (by kernel_rfl))

theorem Tryz.k7_2 (l : List E3) (i : Int)  (c1 : (decide (i < ((l.length : Nat) : Int))) = true)
    (c2 : (decide ((IntKind.i64.wrap (((l.getD (Int.toNat i) z3).2.1) - ((l.getD (Int.toNat i) z3).1))) > ((l.getD (Int.toNat i) z3).2.2))) = false)
    (c3 : (decide (i > 0)) = true)
    (c4 : (((l.getD (Int.toNat i) z3).1) != ((l.getD (Int.toNat (IntKind.i64.wrap (i - 1))) z3).2.1)) = true)
    (n1 : 0 ≤ i ∧ i < ((l.length : Nat) : Int))
    (n2 : 0 ≤ (IntKind.i64.wrap (i - 1)) ∧ (IntKind.i64.wrap (i - 1)) < ((l.length : Nat) : Int)) : RunsW Tryz.ir Tryz.c7 (Tryz.s7 l i) .ret (Tryz.s7 l i) :=
  (RunsW.go TLd_holds 400 [.b true, .v (.agg [.int .i64 ((l.getD (Int.toNat i) z3).1), .int .i64 ((l.getD (Int.toNat i) z3).2.1), .int .i64 ((l.getD (Int.toNat i) z3).2.2)]), .b false, .b true, .v (.int .i64 ((l.getD (Int.toNat (IntKind.i64.wrap (i - 1))) z3).2.1)), .b false, .b true, .b true] [0, 2, 5, 6, 7] (ac c1 (ac n1 (ac (show takeA (List.drop (Int.toNat i * 3) (en l)) 0 3 false = some (.agg [.int .i64 ((l.getD (Int.toNat i) z3).1), .int .i64 ((l.getD (Int.toNat i) z3).2.1), .int .i64 ((l.getD (Int.toNat i) z3).2.2)]) from (take_enI n1)) (ac c2 (ac c3 (ac n2 (ac (show takeA (List.drop 1 (List.drop (Int.toNat (IntKind.i64.wrap (i - 1)) * 3) (en l))) 0 1 true = some (.int .i64 ((l.getD (Int.toNat (IntKind.i64.wrap (i - 1))) z3).2.1)) from (take_en1 n2)) (ac c2 (ac c3 (ac c4 a0)))))))))) (by kernel_rfl))

theorem Tryz.k7_3 (l : List E3) (i : Int)  (c1 : (decide (i < ((l.length : Nat) : Int))) = true)
    (c2 : (decide ((IntKind.i64.wrap (((l.getD (Int.toNat i) z3).2.1) - ((l.getD (Int.toNat i) z3).1))) > ((l.getD (Int.toNat i) z3).2.2))) = false)
    (c3 : (decide (i > 0)) = true)
    (c4 : (((l.getD (Int.toNat i) z3).1) != ((l.getD (Int.toNat (IntKind.i64.wrap (i - 1))) z3).2.1)) = false)
    (n1 : 0 ≤ i ∧ i < ((l.length : Nat) : Int))
    (n2 : 0 ≤ (IntKind.i64.wrap (i - 1)) ∧ (IntKind.i64.wrap (i - 1)) < ((l.length : Nat) : Int)) : RunsW Tryz.ir Tryz.c7 (Tryz.s7 l i) .norm (Tryz.s7 l (IntKind.i64.wrap (i + 1))) :=
  (RunsW.go TLd_holds 400 [.b true, .v (.agg [.int .i64 ((l.getD (Int.toNat i) z3).1), .int .i64 ((l.getD (Int.toNat i) z3).2.1), .int .i64 ((l.getD (Int.toNat i) z3).2.2)]), .b false, .b true, .v (.int .i64 ((l.getD (Int.toNat (IntKind.i64.wrap (i - 1))) z3).2.1)), .b false, .b true, .b false] [0, 2, 5, 6, 7] (ac c1 (ac n1 (ac (show takeA (List.drop (Int.toNat i * 3) (en l)) 0 3 false = some (.agg [.int .i64 ((l.getD (Int.toNat i) z3).1), .int .i64 ((l.getD (Int.toNat i) z3).2.1), .int .i64 ((l.getD (Int.toNat i) z3).2.2)]) from (take_enI n1)) (ac c2 (ac c3 (ac n2 (ac (show takeA (List.drop 1 (List.drop (Int.toNat (IntKind.i64.wrap (i - 1)) * 3) (en l))) 0 1 true = some (.int .i64 ((l.getD (Int.toNat (IntKind.i64.wrap (i - 1))) z3).2.1)) from (take_en1 n2)) (ac c2 (ac c3 (ac c4 a0)))))))))) (by kernel_rfl))

theorem Tryz.k7_4 (l : List E3) (i : Int)  (c1 : (decide (i < ((l.length : Nat) : Int))) = true)
    (c2 : (decide ((IntKind.i64.wrap (((l.getD (Int.toNat i) z3).2.1) - ((l.getD (Int.toNat i) z3).1))) > ((l.getD (Int.toNat i) z3).2.2))) = false)
    (c3 : (decide (i > 0)) = false)
    (n1 : 0 ≤ i ∧ i < ((l.length : Nat) : Int)) : RunsW Tryz.ir Tryz.c7 (Tryz.s7 l i) .norm (Tryz.s7 l (IntKind.i64.wrap (i + 1))) :=
  (RunsW.go TLd_holds 400 [.b true, .v (.agg [.int .i64 ((l.getD (Int.toNat i) z3).1), .int .i64 ((l.getD (Int.toNat i) z3).2.1), .int .i64 ((l.getD (Int.toNat i) z3).2.2)]), .b false, .b false, .b false, .b false, .b false] [0, 2, 5, 6, 7] (ac c1 (ac n1 (ac (show takeA (List.drop (Int.toNat i * 3) (en l)) 0 3 false = some (.agg [.int .i64 ((l.getD (Int.toNat i) z3).1), .int .i64 ((l.getD (Int.toNat i) z3).2.1), .int .i64 ((l.getD (Int.toNat i) z3).2.2)]) from (take_enI n1)) (ac c2 (ac c3 (ac c2 (ac c3 (ac (show false = false from rfl) a0)))))))) (by kernel_rfl))

theorem Tryz.k7_5 (l : List E3) (i : Int)  (c1 : (decide (i < ((l.length : Nat) : Int))) = false) : RunsW Tryz.ir Tryz.c7 (Tryz.s7 l i) (.exit 0) (Tryz.s7 l i) :=
  (RunsW.go TLd_holds 400 [.b false] [0, 2, 5, 6, 7] (ac c1 a0) (by kernel_rfl))

theorem Tryz.run7_y (l : List E3) (i : Int) (hl1 : RunsW Tryz.ir (.loop Tryz.c7) (Tryz.s7 l 0) (.exit 0) (Tryz.s7 l i)) : Runs Tryz.ir 7 [.sl l.length (en l)] (.bool true) :=
  Runs.of_bodyW (fn := Tryz.i7) (s := (dds 2 (.val (.bool true) :: (dds 33 [])))) (ex := .ret) rfl rfl
    (RunsW.csi (RunsW.seq (RunsW.go TLd_holds 400 [] [0, 2, 5, 6, 7] a0 (by kernel_rfl))
    (RunsW.seq (RunsW.block hl1)
    (RunsW.go TLd_holds 400 [] [2] a0 (by kernel_rfl))))) (by intro i e; cases e) rfl

theorem Tryz.run7_n (l : List E3) (i : Int) (hl1 : RunsW Tryz.ir (.loop Tryz.c7) (Tryz.s7 l 0) .ret (Tryz.s7 l i)) : Runs Tryz.ir 7 [.sl l.length (en l)] (.bool false) :=
  Runs.of_bodyW (fn := Tryz.i7) (s := (.val (.sl l.length (en l)) :: (dds 1 (.val (.bool false) :: (dds 2 (.val (.sl l.length (en l)) :: (.val (.int .i64 ((l.length : Nat) : Int)) :: (.val (.int .i64 i) :: (dds 28 []))))))))) (ex := .ret) rfl rfl
    (RunsW.csi (RunsW.seq (RunsW.go TLd_holds 400 [] [0, 2, 5, 6, 7] a0 (by kernel_rfl))
    (RunsW.seq_out (RunsW.block_ret hl1) (by intro e; cases e)))) (by intro i e; cases e) rfl

noncomputable def Tryz.c8 : ICode := Tryz.cp Tryz.x8 94 52
def Tryz.s8 (l : List E3) (i : Int) : State := (.val (.sl l.length (en l)) :: (dds 1 (.val (.bool false) :: (.val (.int .i64 i) :: (dds 41 [])))))
theorem Tryz.k8_1 (l : List E3) (i : Int)  (c1 : (decide (i < ((l.length : Nat) : Int))) = true)
    (c2 : (decide ((IntKind.i64.wrap (((l.getD (Int.toNat i) z3).2.1) - ((l.getD (Int.toNat i) z3).1))) > ((l.getD (Int.toNat i) z3).2.2))) = true)
    (n1 : 0 ≤ i ∧ i < ((l.length : Nat) : Int)) : RunsW Tryz.ir Tryz.c8 (Tryz.s8 l i) .ret (Tryz.s8 l i) :=
  (RunsW.go TLd_holds 400 [.b true, .v (.int .i64 ((l.getD (Int.toNat i) z3).2.1)), .v (.int .i64 ((l.getD (Int.toNat i) z3).1)), .v (.int .i64 ((l.getD (Int.toNat i) z3).2.2)), .b true, .b true] [0, 2, 3] (ac c1 (ac n1 (ac (show takeA (List.drop 1 (List.drop (Int.toNat i * 3) (en l))) 0 1 true = some (.int .i64 ((l.getD (Int.toNat i) z3).2.1)) from (take_en1 n1)) (ac n1 (ac (show takeA (List.drop 0 (List.drop (Int.toNat i * 3) (en l))) 0 1 true = some (.int .i64 ((l.getD (Int.toNat i) z3).1)) from (take_en0 n1)) (ac n1 (ac (show takeA (List.drop 2 (List.drop (Int.toNat i * 3) (en l))) 0 1 true = some (.int .i64 ((l.getD (Int.toNat i) z3).2.2)) from (take_en2 n1)) (ac c2 (ac (show true = true from rfl) a0))))))))) (by kernel_rfl))

theorem Tryz.k8_2 (l : List E3) (i : Int)  (c1 : (decide (i < ((l.length : Nat) : Int))) = true)
    (c2 : (decide ((IntKind.i64.wrap (((l.getD (Int.toNat i) z3).2.1) - ((l.getD (Int.toNat i) z3).1))) > ((l.getD (Int.toNat i) z3).2.2))) = false)
    (c3 : (decide (i > 0)) = true)
    (c4 : (((l.getD (Int.toNat i) z3).1) != ((l.getD (Int.toNat (IntKind.i64.wrap (i - 1))) z3).2.1)) = true)
    (n1 : 0 ≤ i ∧ i < ((l.length : Nat) : Int))
    (n2 : 0 ≤ (IntKind.i64.wrap (i - 1)) ∧ (IntKind.i64.wrap (i - 1)) < ((l.length : Nat) : Int)) : RunsW Tryz.ir Tryz.c8 (Tryz.s8 l i) .ret (Tryz.s8 l i) :=
  (RunsW.go TLd_holds 400 [.b true, .v (.int .i64 ((l.getD (Int.toNat i) z3).2.1)), .v (.int .i64 ((l.getD (Int.toNat i) z3).1)), .v (.int .i64 ((l.getD (Int.toNat i) z3).2.2)), .b false, .b true, .v (.int .i64 ((l.getD (Int.toNat i) z3).1)), .v (.int .i64 ((l.getD (Int.toNat (IntKind.i64.wrap (i - 1))) z3).2.1)), .b false, .b true, .b true] [0, 2, 3] (ac c1 (ac n1 (ac (show takeA (List.drop 1 (List.drop (Int.toNat i * 3) (en l))) 0 1 true = some (.int .i64 ((l.getD (Int.toNat i) z3).2.1)) from (take_en1 n1)) (ac n1 (ac (show takeA (List.drop 0 (List.drop (Int.toNat i * 3) (en l))) 0 1 true = some (.int .i64 ((l.getD (Int.toNat i) z3).1)) from (take_en0 n1)) (ac n1 (ac (show takeA (List.drop 2 (List.drop (Int.toNat i * 3) (en l))) 0 1 true = some (.int .i64 ((l.getD (Int.toNat i) z3).2.2)) from (take_en2 n1)) (ac c2 (ac c3 (ac n1 (ac (show takeA (List.drop 0 (List.drop (Int.toNat i * 3) (en l))) 0 1 true = some (.int .i64 ((l.getD (Int.toNat i) z3).1)) from (take_en0 n1)) (ac n2 (ac (show takeA (List.drop 1 (List.drop (Int.toNat (IntKind.i64.wrap (i - 1)) * 3) (en l))) 0 1 true = some (.int .i64 ((l.getD (Int.toNat (IntKind.i64.wrap (i - 1))) z3).2.1)) from (take_en1 n2)) (ac c2 (ac c3 (ac c4 a0)))))))))))))))) (by kernel_rfl))

theorem Tryz.k8_3 (l : List E3) (i : Int)  (c1 : (decide (i < ((l.length : Nat) : Int))) = true)
    (c2 : (decide ((IntKind.i64.wrap (((l.getD (Int.toNat i) z3).2.1) - ((l.getD (Int.toNat i) z3).1))) > ((l.getD (Int.toNat i) z3).2.2))) = false)
    (c3 : (decide (i > 0)) = true)
    (c4 : (((l.getD (Int.toNat i) z3).1) != ((l.getD (Int.toNat (IntKind.i64.wrap (i - 1))) z3).2.1)) = false)
    (n1 : 0 ≤ i ∧ i < ((l.length : Nat) : Int))
    (n2 : 0 ≤ (IntKind.i64.wrap (i - 1)) ∧ (IntKind.i64.wrap (i - 1)) < ((l.length : Nat) : Int)) : RunsW Tryz.ir Tryz.c8 (Tryz.s8 l i) .norm (Tryz.s8 l (IntKind.i64.wrap (i + 1))) :=
  (RunsW.go TLd_holds 400 [.b true, .v (.int .i64 ((l.getD (Int.toNat i) z3).2.1)), .v (.int .i64 ((l.getD (Int.toNat i) z3).1)), .v (.int .i64 ((l.getD (Int.toNat i) z3).2.2)), .b false, .b true, .v (.int .i64 ((l.getD (Int.toNat i) z3).1)), .v (.int .i64 ((l.getD (Int.toNat (IntKind.i64.wrap (i - 1))) z3).2.1)), .b false, .b true, .b false] [0, 2, 3] (ac c1 (ac n1 (ac (show takeA (List.drop 1 (List.drop (Int.toNat i * 3) (en l))) 0 1 true = some (.int .i64 ((l.getD (Int.toNat i) z3).2.1)) from (take_en1 n1)) (ac n1 (ac (show takeA (List.drop 0 (List.drop (Int.toNat i * 3) (en l))) 0 1 true = some (.int .i64 ((l.getD (Int.toNat i) z3).1)) from (take_en0 n1)) (ac n1 (ac (show takeA (List.drop 2 (List.drop (Int.toNat i * 3) (en l))) 0 1 true = some (.int .i64 ((l.getD (Int.toNat i) z3).2.2)) from (take_en2 n1)) (ac c2 (ac c3 (ac n1 (ac (show takeA (List.drop 0 (List.drop (Int.toNat i * 3) (en l))) 0 1 true = some (.int .i64 ((l.getD (Int.toNat i) z3).1)) from (take_en0 n1)) (ac n2 (ac (show takeA (List.drop 1 (List.drop (Int.toNat (IntKind.i64.wrap (i - 1)) * 3) (en l))) 0 1 true = some (.int .i64 ((l.getD (Int.toNat (IntKind.i64.wrap (i - 1))) z3).2.1)) from (take_en1 n2)) (ac c2 (ac c3 (ac c4 a0)))))))))))))))) (by kernel_rfl))

theorem Tryz.k8_4 (l : List E3) (i : Int)  (c1 : (decide (i < ((l.length : Nat) : Int))) = true)
    (c2 : (decide ((IntKind.i64.wrap (((l.getD (Int.toNat i) z3).2.1) - ((l.getD (Int.toNat i) z3).1))) > ((l.getD (Int.toNat i) z3).2.2))) = false)
    (c3 : (decide (i > 0)) = false)
    (n1 : 0 ≤ i ∧ i < ((l.length : Nat) : Int)) : RunsW Tryz.ir Tryz.c8 (Tryz.s8 l i) .norm (Tryz.s8 l (IntKind.i64.wrap (i + 1))) :=
  (RunsW.go TLd_holds 400 [.b true, .v (.int .i64 ((l.getD (Int.toNat i) z3).2.1)), .v (.int .i64 ((l.getD (Int.toNat i) z3).1)), .v (.int .i64 ((l.getD (Int.toNat i) z3).2.2)), .b false, .b false, .b false, .b false, .b false] [0, 2, 3] (ac c1 (ac n1 (ac (show takeA (List.drop 1 (List.drop (Int.toNat i * 3) (en l))) 0 1 true = some (.int .i64 ((l.getD (Int.toNat i) z3).2.1)) from (take_en1 n1)) (ac n1 (ac (show takeA (List.drop 0 (List.drop (Int.toNat i * 3) (en l))) 0 1 true = some (.int .i64 ((l.getD (Int.toNat i) z3).1)) from (take_en0 n1)) (ac n1 (ac (show takeA (List.drop 2 (List.drop (Int.toNat i * 3) (en l))) 0 1 true = some (.int .i64 ((l.getD (Int.toNat i) z3).2.2)) from (take_en2 n1)) (ac c2 (ac c3 (ac c2 (ac c3 (ac (show false = false from rfl) a0)))))))))))) (by kernel_rfl))

theorem Tryz.k8_5 (l : List E3) (i : Int)  (c1 : (decide (i < ((l.length : Nat) : Int))) = false) : RunsW Tryz.ir Tryz.c8 (Tryz.s8 l i) (.exit 0) (Tryz.s8 l i) :=
  (RunsW.go TLd_holds 400 [.b false] [0, 2, 3] (ac c1 a0) (by kernel_rfl))

theorem Tryz.run8_y (l : List E3) (i : Int) (hl1 : RunsW Tryz.ir (.loop Tryz.c8) (Tryz.s8 l 0) (.exit 0) (Tryz.s8 l i)) : Runs Tryz.ir 8 [.sl l.length (en l)] (.bool true) :=
  Runs.of_bodyW (fn := Tryz.i8) (s := (dds 2 (.val (.bool true) :: (dds 42 [])))) (ex := .ret) rfl rfl
    (RunsW.csi (RunsW.seq (RunsW.go TLd_holds 400 [] [0, 2, 3] a0 (by kernel_rfl))
    (RunsW.seq (RunsW.block hl1)
    (RunsW.go TLd_holds 400 [] [2] a0 (by kernel_rfl))))) (by intro i e; cases e) rfl

theorem Tryz.run8_n (l : List E3) (i : Int) (hl1 : RunsW Tryz.ir (.loop Tryz.c8) (Tryz.s8 l 0) .ret (Tryz.s8 l i)) : Runs Tryz.ir 8 [.sl l.length (en l)] (.bool false) :=
  Runs.of_bodyW (fn := Tryz.i8) (s := (.val (.sl l.length (en l)) :: (dds 1 (.val (.bool false) :: (.val (.int .i64 i) :: (dds 41 [])))))) (ex := .ret) rfl rfl
    (RunsW.csi (RunsW.seq (RunsW.go TLd_holds 400 [] [0, 2, 3] a0 (by kernel_rfl))
    (RunsW.seq_out (RunsW.block_ret hl1) (by intro e; cases e)))) (by intro i e; cases e) rfl

noncomputable def Tryz.c3 : ICode := Tryz.cp Tryz.x3 92 244
def Tryz.s3 (l : List E3) (o : Bool) (n : Nat) (cs : List AV) (i : Int) : State := (.val (.sl l.length (en l)) :: (dds 1 (.val (.bool o) :: (.own 3 n cs :: (.val (.int .i64 i) :: (dds 88 []))))))
theorem Tryz.k3_1 (l : List E3) (o : Bool) (n : Nat) (cs : List AV) (i : Int)  (c1 : (decide (i < ((l.length : Nat) : Int))) = true)
    (c2 : (decide (((l.getD (Int.toNat i) z3).1) < (-1125899906842624))) = true)
    (n1 : 0 ≤ i ∧ i < ((l.length : Nat) : Int))
    (n2 : Runs Tryz.ir 4 [] (.bool true)) : RunsW Tryz.ir Tryz.c3 (Tryz.s3 l o n cs i) .ret (Tryz.s3 l true n cs i) :=
  (RunsW.go TLd_holds 400 [.b true, .v (.agg [.int .i64 ((l.getD (Int.toNat i) z3).1), .int .i64 ((l.getD (Int.toNat i) z3).2.1), .int .i64 ((l.getD (Int.toNat i) z3).2.2)]), .b true, .b true, .b true, .b true, .b true, .b true, .b true, .r (.bool true)] [0, 2, 3, 4] (ac c1 (ac n1 (ac (show takeA (List.drop (Int.toNat i * 3) (en l)) 0 3 false = some (.agg [.int .i64 ((l.getD (Int.toNat i) z3).1), .int .i64 ((l.getD (Int.toNat i) z3).2.1), .int .i64 ((l.getD (Int.toNat i) z3).2.2)]) from (take_enI n1)) (ac c2 (ac (show true = true from rfl) (ac (show true = true from rfl) (ac (show true = true from rfl) (ac (show true = true from rfl) (ac (show true = true from rfl) (ac (show true = true from rfl) (ac n2 a0))))))))))) (by kernel_rfl))

theorem Tryz.k3_2 (l : List E3) (o : Bool) (n : Nat) (cs : List AV) (i : Int)  (c1 : (decide (i < ((l.length : Nat) : Int))) = true)
    (c2 : (decide (((l.getD (Int.toNat i) z3).1) < (-1125899906842624))) = false)
    (c3 : (decide (((l.getD (Int.toNat i) z3).1) > 1125899906842624)) = true)
    (n1 : 0 ≤ i ∧ i < ((l.length : Nat) : Int))
    (n2 : Runs Tryz.ir 4 [] (.bool true)) : RunsW Tryz.ir Tryz.c3 (Tryz.s3 l o n cs i) .ret (Tryz.s3 l true n cs i) :=
  (RunsW.go TLd_holds 400 [.b true, .v (.agg [.int .i64 ((l.getD (Int.toNat i) z3).1), .int .i64 ((l.getD (Int.toNat i) z3).2.1), .int .i64 ((l.getD (Int.toNat i) z3).2.2)]), .b false, .b true, .b true, .b true, .b true, .b true, .b true, .r (.bool true)] [0, 2, 3, 4] (ac c1 (ac n1 (ac (show takeA (List.drop (Int.toNat i * 3) (en l)) 0 3 false = some (.agg [.int .i64 ((l.getD (Int.toNat i) z3).1), .int .i64 ((l.getD (Int.toNat i) z3).2.1), .int .i64 ((l.getD (Int.toNat i) z3).2.2)]) from (take_enI n1)) (ac c2 (ac c3 (ac (show true = true from rfl) (ac (show true = true from rfl) (ac (show true = true from rfl) (ac (show true = true from rfl) (ac (show true = true from rfl) (ac n2 a0))))))))))) (by kernel_rfl))

theorem Tryz.k3_3 (l : List E3) (o : Bool) (n : Nat) (cs : List AV) (i : Int)  (c1 : (decide (i < ((l.length : Nat) : Int))) = true)
    (c2 : (decide (((l.getD (Int.toNat i) z3).1) < (-1125899906842624))) = false)
    (c3 : (decide (((l.getD (Int.toNat i) z3).1) > 1125899906842624)) = false)
    (c4 : (decide (((l.getD (Int.toNat i) z3).2.1) < (-1125899906842624))) = true)
    (n1 : 0 ≤ i ∧ i < ((l.length : Nat) : Int))
    (n2 : Runs Tryz.ir 4 [] (.bool true)) : RunsW Tryz.ir Tryz.c3 (Tryz.s3 l o n cs i) .ret (Tryz.s3 l true n cs i) :=
  (RunsW.go TLd_holds 400 [.b true, .v (.agg [.int .i64 ((l.getD (Int.toNat i) z3).1), .int .i64 ((l.getD (Int.toNat i) z3).2.1), .int .i64 ((l.getD (Int.toNat i) z3).2.2)]), .b false, .b false, .b true, .b true, .b true, .b true, .b true, .r (.bool true)] [0, 2, 3, 4] (ac c1 (ac n1 (ac (show takeA (List.drop (Int.toNat i * 3) (en l)) 0 3 false = some (.agg [.int .i64 ((l.getD (Int.toNat i) z3).1), .int .i64 ((l.getD (Int.toNat i) z3).2.1), .int .i64 ((l.getD (Int.toNat i) z3).2.2)]) from (take_enI n1)) (ac c2 (ac c3 (ac c4 (ac (show true = true from rfl) (ac (show true = true from rfl) (ac (show true = true from rfl) (ac (show true = true from rfl) (ac n2 a0))))))))))) (by kernel_rfl))

theorem Tryz.k3_4 (l : List E3) (o : Bool) (n : Nat) (cs : List AV) (i : Int)  (c1 : (decide (i < ((l.length : Nat) : Int))) = true)
    (c2 : (decide (((l.getD (Int.toNat i) z3).1) < (-1125899906842624))) = false)
    (c3 : (decide (((l.getD (Int.toNat i) z3).1) > 1125899906842624)) = false)
    (c4 : (decide (((l.getD (Int.toNat i) z3).2.1) < (-1125899906842624))) = false)
    (c5 : (decide (((l.getD (Int.toNat i) z3).2.1) > 1125899906842624)) = true)
    (n1 : 0 ≤ i ∧ i < ((l.length : Nat) : Int))
    (n2 : Runs Tryz.ir 4 [] (.bool true)) : RunsW Tryz.ir Tryz.c3 (Tryz.s3 l o n cs i) .ret (Tryz.s3 l true n cs i) :=
  (RunsW.go TLd_holds 400 [.b true, .v (.agg [.int .i64 ((l.getD (Int.toNat i) z3).1), .int .i64 ((l.getD (Int.toNat i) z3).2.1), .int .i64 ((l.getD (Int.toNat i) z3).2.2)]), .b false, .b false, .b false, .b true, .b true, .b true, .b true, .r (.bool true)] [0, 2, 3, 4] (ac c1 (ac n1 (ac (show takeA (List.drop (Int.toNat i * 3) (en l)) 0 3 false = some (.agg [.int .i64 ((l.getD (Int.toNat i) z3).1), .int .i64 ((l.getD (Int.toNat i) z3).2.1), .int .i64 ((l.getD (Int.toNat i) z3).2.2)]) from (take_enI n1)) (ac c2 (ac c3 (ac c4 (ac c5 (ac (show true = true from rfl) (ac (show true = true from rfl) (ac (show true = true from rfl) (ac n2 a0))))))))))) (by kernel_rfl))

theorem Tryz.k3_5 (l : List E3) (o : Bool) (n : Nat) (cs : List AV) (i : Int)  (c1 : (decide (i < ((l.length : Nat) : Int))) = true)
    (c2 : (decide (((l.getD (Int.toNat i) z3).1) < (-1125899906842624))) = false)
    (c3 : (decide (((l.getD (Int.toNat i) z3).1) > 1125899906842624)) = false)
    (c4 : (decide (((l.getD (Int.toNat i) z3).2.1) < (-1125899906842624))) = false)
    (c5 : (decide (((l.getD (Int.toNat i) z3).2.1) > 1125899906842624)) = false)
    (c6 : (decide (((l.getD (Int.toNat i) z3).2.2) < (-1125899906842624))) = true)
    (n1 : 0 ≤ i ∧ i < ((l.length : Nat) : Int))
    (n2 : Runs Tryz.ir 4 [] (.bool true)) : RunsW Tryz.ir Tryz.c3 (Tryz.s3 l o n cs i) .ret (Tryz.s3 l true n cs i) :=
  (RunsW.go TLd_holds 400 [.b true, .v (.agg [.int .i64 ((l.getD (Int.toNat i) z3).1), .int .i64 ((l.getD (Int.toNat i) z3).2.1), .int .i64 ((l.getD (Int.toNat i) z3).2.2)]), .b false, .b false, .b false, .b false, .b true, .b true, .b true, .r (.bool true)] [0, 2, 3, 4] (ac c1 (ac n1 (ac (show takeA (List.drop (Int.toNat i * 3) (en l)) 0 3 false = some (.agg [.int .i64 ((l.getD (Int.toNat i) z3).1), .int .i64 ((l.getD (Int.toNat i) z3).2.1), .int .i64 ((l.getD (Int.toNat i) z3).2.2)]) from (take_enI n1)) (ac c2 (ac c3 (ac c4 (ac c5 (ac c6 (ac (show true = true from rfl) (ac (show true = true from rfl) (ac n2 a0))))))))))) (by kernel_rfl))

theorem Tryz.k3_6 (l : List E3) (o : Bool) (n : Nat) (cs : List AV) (i : Int)  (c1 : (decide (i < ((l.length : Nat) : Int))) = true)
    (c2 : (decide (((l.getD (Int.toNat i) z3).1) < (-1125899906842624))) = false)
    (c3 : (decide (((l.getD (Int.toNat i) z3).1) > 1125899906842624)) = false)
    (c4 : (decide (((l.getD (Int.toNat i) z3).2.1) < (-1125899906842624))) = false)
    (c5 : (decide (((l.getD (Int.toNat i) z3).2.1) > 1125899906842624)) = false)
    (c6 : (decide (((l.getD (Int.toNat i) z3).2.2) < (-1125899906842624))) = false)
    (c7 : (decide (((l.getD (Int.toNat i) z3).2.2) > 1125899906842624)) = true)
    (n1 : 0 ≤ i ∧ i < ((l.length : Nat) : Int))
    (n2 : Runs Tryz.ir 4 [] (.bool true)) : RunsW Tryz.ir Tryz.c3 (Tryz.s3 l o n cs i) .ret (Tryz.s3 l true n cs i) :=
  (RunsW.go TLd_holds 400 [.b true, .v (.agg [.int .i64 ((l.getD (Int.toNat i) z3).1), .int .i64 ((l.getD (Int.toNat i) z3).2.1), .int .i64 ((l.getD (Int.toNat i) z3).2.2)]), .b false, .b false, .b false, .b false, .b false, .b true, .b true, .r (.bool true)] [0, 2, 3, 4] (ac c1 (ac n1 (ac (show takeA (List.drop (Int.toNat i * 3) (en l)) 0 3 false = some (.agg [.int .i64 ((l.getD (Int.toNat i) z3).1), .int .i64 ((l.getD (Int.toNat i) z3).2.1), .int .i64 ((l.getD (Int.toNat i) z3).2.2)]) from (take_enI n1)) (ac c2 (ac c3 (ac c4 (ac c5 (ac c6 (ac c7 (ac (show true = true from rfl) (ac n2 a0))))))))))) (by kernel_rfl))

theorem Tryz.k3_7 (l : List E3) (o : Bool) (n : Nat) (cs : List AV) (i : Int)  (c1 : (decide (i < ((l.length : Nat) : Int))) = true)
    (c2 : (decide (((l.getD (Int.toNat i) z3).1) < (-1125899906842624))) = false)
    (c3 : (decide (((l.getD (Int.toNat i) z3).1) > 1125899906842624)) = false)
    (c4 : (decide (((l.getD (Int.toNat i) z3).2.1) < (-1125899906842624))) = false)
    (c5 : (decide (((l.getD (Int.toNat i) z3).2.1) > 1125899906842624)) = false)
    (c6 : (decide (((l.getD (Int.toNat i) z3).2.2) < (-1125899906842624))) = false)
    (c7 : (decide (((l.getD (Int.toNat i) z3).2.2) > 1125899906842624)) = false)
    (c8 : (decide (i > 1000)) = true)
    (n1 : 0 ≤ i ∧ i < ((l.length : Nat) : Int))
    (n2 : Runs Tryz.ir 4 [] (.bool true)) : RunsW Tryz.ir Tryz.c3 (Tryz.s3 l o n cs i) .ret (Tryz.s3 l true n cs i) :=
  (RunsW.go TLd_holds 400 [.b true, .v (.agg [.int .i64 ((l.getD (Int.toNat i) z3).1), .int .i64 ((l.getD (Int.toNat i) z3).2.1), .int .i64 ((l.getD (Int.toNat i) z3).2.2)]), .b false, .b false, .b false, .b false, .b false, .b false, .b true, .r (.bool true)] [0, 2, 3, 4] (ac c1 (ac n1 (ac (show takeA (List.drop (Int.toNat i * 3) (en l)) 0 3 false = some (.agg [.int .i64 ((l.getD (Int.toNat i) z3).1), .int .i64 ((l.getD (Int.toNat i) z3).2.1), .int .i64 ((l.getD (Int.toNat i) z3).2.2)]) from (take_enI n1)) (ac c2 (ac c3 (ac c4 (ac c5 (ac c6 (ac c7 (ac c8 (ac n2 a0))))))))))) (by kernel_rfl))

theorem Tryz.k3_8 (l : List E3) (o : Bool) (n : Nat) (cs : List AV) (i : Int)  (c1 : (decide (i < ((l.length : Nat) : Int))) = true)
    (c2 : (decide (((l.getD (Int.toNat i) z3).1) < (-1125899906842624))) = false)
    (c3 : (decide (((l.getD (Int.toNat i) z3).1) > 1125899906842624)) = false)
    (c4 : (decide (((l.getD (Int.toNat i) z3).2.1) < (-1125899906842624))) = false)
    (c5 : (decide (((l.getD (Int.toNat i) z3).2.1) > 1125899906842624)) = false)
    (c6 : (decide (((l.getD (Int.toNat i) z3).2.2) < (-1125899906842624))) = false)
    (c7 : (decide (((l.getD (Int.toNat i) z3).2.2) > 1125899906842624)) = false)
    (c8 : (decide (i > 1000)) = false)
    (n1 : 0 ≤ i ∧ i < ((l.length : Nat) : Int))
    (n2 : n + 1 ≤ 1048576) : RunsW Tryz.ir Tryz.c3 (Tryz.s3 l o n cs i) .norm (Tryz.s3 l o (n + 1) (cs ++ ([.int .i64 ((l.getD (Int.toNat i) z3).1), .int .i64 ((l.getD (Int.toNat i) z3).2.1), .int .i64 ((l.getD (Int.toNat i) z3).2.2)] : List AV)) (IntKind.i64.wrap (i + 1))) :=
  (RunsW.go TLd_holds 400 [.b true, .v (.agg [.int .i64 ((l.getD (Int.toNat i) z3).1), .int .i64 ((l.getD (Int.toNat i) z3).2.1), .int .i64 ((l.getD (Int.toNat i) z3).2.2)]), .b false, .b false, .b false, .b false, .b false, .b false, .b false] [0, 2, 3, 4] (ac c1 (ac n1 (ac (show takeA (List.drop (Int.toNat i * 3) (en l)) 0 3 false = some (.agg [.int .i64 ((l.getD (Int.toNat i) z3).1), .int .i64 ((l.getD (Int.toNat i) z3).2.1), .int .i64 ((l.getD (Int.toNat i) z3).2.2)]) from (take_enI n1)) (ac c2 (ac c3 (ac c4 (ac c5 (ac c6 (ac c7 (ac c8 (ac (show List.length ([.int .i64 ((l.getD (Int.toNat i) z3).1), .int .i64 ((l.getD (Int.toNat i) z3).2.1), .int .i64 ((l.getD (Int.toNat i) z3).2.2)] : List AV) = 1 * 3 from rfl) (ac n2 a0)))))))))))) (by kernel_rfl))

theorem Tryz.k3_9 (l : List E3) (o : Bool) (n : Nat) (cs : List AV) (i : Int)  (c1 : (decide (i < ((l.length : Nat) : Int))) = false) : RunsW Tryz.ir Tryz.c3 (Tryz.s3 l o n cs i) (.exit 0) (Tryz.s3 l o n cs i) :=
  (RunsW.go TLd_holds 400 [.b false] [0, 2, 3, 4] (ac c1 a0) (by kernel_rfl))

theorem Tryz.run3_y (l m : List E3) (i : Int) (x : E3) (d : Bool) (c1 : (d == d) = true)
    (c2 : (x.1 == x.1) = true)
    (c3 : (x.2.1 == x.2.1) = true)
    (n1 : Runs Tryz.ir 4 [] (.bool true))
    (hl2 : RunsW Tryz.ir (.loop Tryz.c3) (Tryz.s3 l false 0 ([] : List AV) 0) (.exit 0) (Tryz.s3 l false m.length (en m) i))
    (n3 : Runs Tryz.ir 5 [.sl l.length (en l)] (.agg [.int .i64 x.1, .int .i64 x.2.1, .int .i64 x.2.2]))
    (n4 : Runs Tryz.ir 6 [.sl m.length (en m)] (.agg [.int .i64 x.1, .int .i64 x.2.1, .int .i64 x.2.2]))
    (n5 : Runs Tryz.ir 7 [.sl l.length (en l)] (.bool d))
    (n6 : Runs Tryz.ir 8 [.sl m.length (en m)] (.bool d)) : Runs Tryz.ir 3 [.sl l.length (en l)] (.bool (x.2.2 == x.2.2)) :=
  Runs.of_bodyW (fn := Tryz.i3) (s := (dds 2 (.val (.bool (x.2.2 == x.2.2)) :: (dds 90 [])))) (ex := .ret) rfl rfl
    (RunsW.asc (RunsW.asc (RunsW.csi (RunsW.seq (RunsW.go TLd_holds 400 [.r (.bool true), .b false] [0, 2, 3, 4] (ac n1 (ac (show false = false from rfl) a0)) (by kernel_rfl))
    (RunsW.seq (RunsW.block hl2)
    (RunsW.go TLd_holds 400 [.r (.agg [.int .i64 x.1, .int .i64 x.2.1, .int .i64 x.2.2]), .r (.agg [.int .i64 x.1, .int .i64 x.2.1, .int .i64 x.2.2]), .r (.bool d), .r (.bool d), .b true, .b true, .b true] [2] (ac n3 (ac n4 (ac n5 (ac n6 (ac c1 (ac c2 (ac c3 a0))))))) (by kernel_rfl))))))) (by intro i e; cases e) rfl

theorem Tryz.run3_n (l : List E3) (n : Nat) (cs : List AV) (i : Int) (n1 : Runs Tryz.ir 4 [] (.bool true))
    (hl2 : RunsW Tryz.ir (.loop Tryz.c3) (Tryz.s3 l false 0 ([] : List AV) 0) .ret (Tryz.s3 l true n cs i)) : Runs Tryz.ir 3 [.sl l.length (en l)] (.bool true) :=
  Runs.of_bodyW (fn := Tryz.i3) (s := (.val (.sl l.length (en l)) :: (dds 1 (.val (.bool true) :: (.own 3 n cs :: (.val (.int .i64 i) :: (dds 88 []))))))) (ex := .ret) rfl rfl
    (RunsW.asc (RunsW.asc (RunsW.csi (RunsW.seq (RunsW.go TLd_holds 400 [.r (.bool true), .b false] [0, 2, 3, 4] (ac n1 (ac (show false = false from rfl) a0)) (by kernel_rfl))
    (RunsW.seq_out (RunsW.block_ret hl2) (by intro e; cases e)))))) (by intro i e; cases e) rfl

end Go.Proofs.YtokngfogomhmdaaGreat
