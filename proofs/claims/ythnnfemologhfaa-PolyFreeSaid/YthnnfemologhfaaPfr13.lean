/- Texts of the proof of PolyFree, packed by pack.py: part 13 of 19. -/
import Derived.Test.YthnnfemologhfaaPfr12
namespace Go.Proofs.Ythnnfemologhfaa
open Go.Ai
set_option maxRecDepth 100000
def Try.c64i : ICode := .seq (.region false [oB 65 .lss 64 63])
  (.seq (.cond (.t 65) (.skip)
  (.exit 2))
  (.seq (.block 3 (.seq (.region false [oM 66 64,
   oM 14 66])
  (.seq (.region true [o1 67 (.cpy 5),
   oM 68 14,
   o1 69 (.cpy 5),
   oM 70 14,
   o1 71 (.ixo 69 5 (.t 70) 2),
   o1 72 (.ld 71 5 2 false),
   o1 73 (.ld 9 9 2 false),
   oC 74 113 [72, 73],
   o1 75 (.ixo 67 5 (.t 68) 2),
   oN (.st 75 5 2 (.t 74))])
  (.seq (.region false [oM 76 14,
   oM 77 13,
   oB 78 .geq 76 77])
  (.cond (.t 78) (.region true [o1 79 (.cpy 5),
   oM 80 14,
   o1 81 (.cpy 5),
   oM 82 14,
   o1 83 (.ixo 81 5 (.t 82) 2),
   o1 84 (.ld 83 5 2 false),
   o1 85 (.ld 11 11 2 false),
   oM 86 1,
   oM 87 14,
   oM 88 13,
   oB 89 .sub 87 88,
   o1 90 (.ixa 86 (.t 89) 2),
   o1 91 (.ld 90 90 2 false),
   oC 92 113 [85, 91],
   oC 93 114 [84, 92],
   o1 94 (.ixo 79 5 (.t 80) 2),
   oN (.st 94 5 2 (.t 93))])
  (.skip))))))
  (.region false [o1 95 (.bin .add (.t 64) (.c (.int .i64 1))),
   oM 64 95])))
def Try.s64i (qs : List Rn) (k : Nat) (rs : List Rn) (t : Rn) (a : Rn) (b : Rn) (at1 : Int) (n : Int) (i : Int) : State := (dds 1 (.val (.sl qs.length (pc qs)) :: (dds 3 (.own 2 k (pc rs) :: (.box [.bool t.1, .sl t.2.length (lm t.2)] :: (dds 2 (.box [.bool a.1, .sl a.2.length (lm a.2)] :: (dds 1 (.box [.bool b.1, .sl b.2.length (lm b.2)] :: (dds 1 (.val (.int .i64 at1) :: (dds 49 (.val (.int .i64 n) :: (.val (.int .i64 i) :: (dds 34 [])))))))))))))))
theorem Try.k64i_1 (qs : List Rn) (k : Nat) (rs : List Rn) (t : Rn) (a : Rn) (b : Rn) (at1 : Int) (n : Int) (i : Int)  (c1 : (decide (i < n)) = true)
    (c2 : (decide (i ≥ at1)) = true)
    (n1 : 0 ≤ i ∧ i < ((k : Nat) : Int))
    (n2 : rs.length = k)
    (n3 : (rs.set (Int.toNat i) (cn ((rval (rs.getD (Int.toNat i) z0)) * (rval a)))).length = k)
    (n4 : 0 ≤ (IntKind.i64.wrap (i - at1)) ∧ (IntKind.i64.wrap (i - at1)) < ((qs.length : Nat) : Int))
    (n5 : Runs Try.ir 113 [rawAV (rs.getD (Int.toNat i) z0), rawAV a] (bigAV ((rval (rs.getD (Int.toNat i) z0)) * (rval a))))
    (n6 : Runs Try.ir 113 [rawAV b, rawAV (qs.getD (Int.toNat (IntKind.i64.wrap (i - at1))) z0)] (bigAV ((rval b) * (rval (qs.getD (Int.toNat (IntKind.i64.wrap (i - at1))) z0)))))
    (n7 : Runs Try.ir 114 [rawAV ((rs.set (Int.toNat i) (cn ((rval (rs.getD (Int.toNat i) z0)) * (rval a)))).getD (Int.toNat i) z0), bigAV ((rval b) * (rval (qs.getD (Int.toNat (IntKind.i64.wrap (i - at1))) z0)))] (bigAV ((rval ((rs.set (Int.toNat i) (cn ((rval (rs.getD (Int.toNat i) z0)) * (rval a)))).getD (Int.toNat i) z0)) - ((rval b) * (rval (qs.getD (Int.toNat (IntKind.i64.wrap (i - at1))) z0)))))) : RunsW Try.ir Try.c64i (Try.s64i qs k rs t a b at1 n i) .norm (Try.s64i qs k ((rs.set (Int.toNat i) (cn ((rval (rs.getD (Int.toNat i) z0)) * (rval a)))).set (Int.toNat i) (cn ((rval ((rs.set (Int.toNat i) (cn ((rval (rs.getD (Int.toNat i) z0)) * (rval a)))).getD (Int.toNat i) z0)) - ((rval b) * (rval (qs.getD (Int.toNat (IntKind.i64.wrap (i - at1))) z0)))))) t a b at1 n (IntKind.i64.wrap (i + 1))) :=
  (RunsW.go TRB_holds 400 [.b true, .v (rawAV (rs.getD (Int.toNat i) z0)), .r (bigAV ((rval (rs.getD (Int.toNat i) z0)) * (rval a))), .l (pc (rs.set (Int.toNat i) (cn ((rval (rs.getD (Int.toNat i) z0)) * (rval a))))), .b true, .v (rawAV ((rs.set (Int.toNat i) (cn ((rval (rs.getD (Int.toNat i) z0)) * (rval a)))).getD (Int.toNat i) z0)), .v (rawAV (qs.getD (Int.toNat (IntKind.i64.wrap (i - at1))) z0)), .r (bigAV ((rval b) * (rval (qs.getD (Int.toNat (IntKind.i64.wrap (i - at1))) z0)))), .r (bigAV ((rval ((rs.set (Int.toNat i) (cn ((rval (rs.getD (Int.toNat i) z0)) * (rval a)))).getD (Int.toNat i) z0)) - ((rval b) * (rval (qs.getD (Int.toNat (IntKind.i64.wrap (i - at1))) z0))))), .l (pc ((rs.set (Int.toNat i) (cn ((rval (rs.getD (Int.toNat i) z0)) * (rval a)))).set (Int.toNat i) (cn ((rval ((rs.set (Int.toNat i) (cn ((rval (rs.getD (Int.toNat i) z0)) * (rval a)))).getD (Int.toNat i) z0)) - ((rval b) * (rval (qs.getD (Int.toNat (IntKind.i64.wrap (i - at1))) z0)))))))] [1, 5, 6, 9, 11, 13, 63, 64] (ac c1 (ac n1 (ac (own_pcI n2 n1) (ac n5 (ac n1 (ac (lay_pcI (r := cn ((rval (rs.getD (Int.toNat i) z0)) * (rval a))) n2 n1) (ac c2 (ac n1 (ac (own_pcI n3 n1) (ac n4 (ac (show takeA (List.drop (Int.toNat (IntKind.i64.wrap (i - at1)) * 2) (pc qs)) 0 2 false = some (rawAV (qs.getD (Int.toNat (IntKind.i64.wrap (i - at1))) z0)) from (take_pcI n4)) (ac n6 (ac n7 (ac n1 (ac (lay_pcI (r := cn ((rval ((rs.set (Int.toNat i) (cn ((rval (rs.getD (Int.toNat i) z0)) * (rval a)))).getD (Int.toNat i) z0)) - ((rval b) * (rval (qs.getD (Int.toNat (IntKind.i64.wrap (i - at1))) z0))))) n3 n1) a0))))))))))))))) (by kernel_rfl))
theorem Try.k64i_2 (qs : List Rn) (k : Nat) (rs : List Rn) (t : Rn) (a : Rn) (b : Rn) (at1 : Int) (n : Int) (i : Int)  (c1 : (decide (i < n)) = true)
    (c2 : (decide (i ≥ at1)) = false)
    (n1 : 0 ≤ i ∧ i < ((k : Nat) : Int))
    (n2 : rs.length = k)
    (n3 : Runs Try.ir 113 [rawAV (rs.getD (Int.toNat i) z0), rawAV a] (bigAV ((rval (rs.getD (Int.toNat i) z0)) * (rval a)))) : RunsW Try.ir Try.c64i (Try.s64i qs k rs t a b at1 n i) .norm (Try.s64i qs k (rs.set (Int.toNat i) (cn ((rval (rs.getD (Int.toNat i) z0)) * (rval a)))) t a b at1 n (IntKind.i64.wrap (i + 1))) :=
  (RunsW.go TRB_holds 400 [.b true, .v (rawAV (rs.getD (Int.toNat i) z0)), .r (bigAV ((rval (rs.getD (Int.toNat i) z0)) * (rval a))), .l (pc (rs.set (Int.toNat i) (cn ((rval (rs.getD (Int.toNat i) z0)) * (rval a))))), .b false] [1, 5, 6, 9, 11, 13, 63, 64] (ac c1 (ac n1 (ac (own_pcI n2 n1) (ac n3 (ac n1 (ac (lay_pcI (r := cn ((rval (rs.getD (Int.toNat i) z0)) * (rval a))) n2 n1) (ac c2 a0))))))) (by kernel_rfl))
theorem Try.k64i_3 (qs : List Rn) (k : Nat) (rs : List Rn) (t : Rn) (a : Rn) (b : Rn) (at1 : Int) (n : Int) (i : Int)  (c1 : (decide (i < n)) = false) : RunsW Try.ir Try.c64i (Try.s64i qs k rs t a b at1 n i) (.exit 2) (Try.s64i qs k rs t a b at1 n i) :=
  (RunsW.go TRB_holds 400 [.b false] [1, 5, 6, 9, 11, 13, 63, 64] (ac c1 a0) (by kernel_rfl))
def Try.c64 : ICode := .seq (.seq (.region false [o1 25 (.cpy 5),
   o1 26 (.lno 25 5),
   oM 27 1,
   o1 28 (.len (.t 27)),
   oB 29 .geq 26 28])
  (.cond (.t 29) (.skip)
  (.exit 0)))
  (.block 1 (.seq (.region false [o1 30 (.cpy 5),
   o1 31 (.cpy 5),
   o1 32 (.lno 31 5),
   o1 33 (.bin .sub (.t 32) (.c (.int .i64 1))),
   o1 34 (.ixo 30 5 (.t 33) 2),
   o1 35 (.ld 34 5 2 false),
   o1 7 (.new [.bool false, .sl 0 []] []),
   oN (.st 7 7 2 (.t 35))])
  (.seq (.region false [o1 36 (.ld 6 6 2 false),
   o1 37 (.ld 7 7 2 false),
   oC 38 109 [36, 37],
   o1 8 (.new [.bool false, .sl 0 []] []),
   oN (.st 8 8 2 (.t 38))])
  (.seq (.region true [o1 40 (.ld 6 6 2 false),
   oC 41 111 [40],
   o1 42 (.ld 8 8 2 false),
   oC 43 110 [41, 42],
   oM 39 43,
   o1 44 (.ext (.t 39) 0),
   o1 45 (.ext (.t 39) 1),
   o1 9 (.new [.bool false, .sl 0 []] []),
   o1 10 (.new [.bool false, .sl 0 []] []),
   oN (.st 9 9 2 (.t 44)),
   oN (.st 10 10 2 (.t 45))])
  (.seq (.region false [o1 47 (.ld 7 7 2 false),
   o1 48 (.ld 8 8 2 false),
   oC 49 110 [47, 48],
   oM 46 49,
   o1 50 (.ext (.t 46) 0),
   o1 51 (.ext (.t 46) 1),
   o1 11 (.new [.bool false, .sl 0 []] []),
   o1 12 (.new [.bool false, .sl 0 []] []),
   oN (.st 11 11 2 (.t 50)),
   oN (.st 12 12 2 (.t 51))])
  (.seq (.seq (.region false [o1 52 (.ld 6 6 2 false),
   oC 53 73 [52],
   o1 54 (.bin .lss (.t 53) (.c (.int .i64 0)))])
  (.cond (.t 54) (.region false [o1 55 (.ld 11 11 2 false),
   oC 56 112 [55],
   oN (.st 11 11 2 (.t 56))])
  (.skip)))
  (.seq (.region false [o1 57 (.cpy 5),
   o1 58 (.lno 57 5),
   oM 59 1,
   o1 60 (.len (.t 59)),
   oB 61 .sub 58 60,
   oM 13 61])
  (.seq (.seq (.region false [o1 62 (.cpy 5),
   o1 63 (.lno 62 5),
   o1 64 (.mov (.c (.int .i64 0)))])
  (.block 2 (.loop (.seq (.region false [oB 65 .lss 64 63])
  (.seq (.cond (.t 65) (.skip)
  (.exit 2))
  (.seq (.block 3 (.seq (.region false [oM 66 64,
   oM 14 66])
  (.seq (.region true [o1 67 (.cpy 5),
   oM 68 14,
   o1 69 (.cpy 5),
   oM 70 14,
   o1 71 (.ixo 69 5 (.t 70) 2),
   o1 72 (.ld 71 5 2 false),
   o1 73 (.ld 9 9 2 false),
   oC 74 113 [72, 73],
   o1 75 (.ixo 67 5 (.t 68) 2),
   oN (.st 75 5 2 (.t 74))])
  (.seq (.region false [oM 76 14,
   oM 77 13,
   oB 78 .geq 76 77])
  (.cond (.t 78) (.region true [o1 79 (.cpy 5),
   oM 80 14,
   o1 81 (.cpy 5),
   oM 82 14,
   o1 83 (.ixo 81 5 (.t 82) 2),
   o1 84 (.ld 83 5 2 false),
   o1 85 (.ld 11 11 2 false),
   oM 86 1,
   oM 87 14,
   oM 88 13,
   oB 89 .sub 87 88,
   o1 90 (.ixa 86 (.t 89) 2),
   o1 91 (.ld 90 90 2 false),
   oC 92 113 [85, 91],
   oC 93 114 [84, 92],
   o1 94 (.ixo 79 5 (.t 80) 2),
   oN (.st 94 5 2 (.t 93))])
  (.skip))))))
  (.region false [o1 95 (.bin .add (.t 64) (.c (.int .i64 1))),
   oM 64 95])))))))
  (.region false [o1 96 (.frz 5),
   o1 97 (.clo 86 [.t 96]),
   ⟨some 5, .tra 97, none, [25, 30, 31, 34, 57, 62, 67, 69, 71, 75, 79, 81, 83, 94]⟩])))))))))
def Try.s64 (qs : List Rn) (k : Nat) (rs : List Rn) (t : Rn) : State := (dds 1 (.val (.sl qs.length (pc qs)) :: (dds 3 (.own 2 k (pc rs) :: (.box [.bool t.1, .sl t.2.length (lm t.2)] :: (dds 92 []))))))
theorem Try.k64_1 (qs : List Rn) (k : Nat) (rs : List Rn) (t : Rn) (os us : List Rn) (a b : Rn) (g ab x y ny r1 r2 s at1 n i : Int) (c1 : (decide (((k : Nat) : Int) ≥ ((qs.length : Nat) : Int))) = true)
    (c2 : (decide (s < 0)) = true)
    (n1 : 0 ≤ (IntKind.i64.wrap (((k : Nat) : Int) - 1)) ∧ (IntKind.i64.wrap (((k : Nat) : Int) - 1)) < ((k : Nat) : Int))
    (n2 : rs.length = k)
    (n3 : Runs Try.ir 109 [rawAV t, rawAV (rs.getD (Int.toNat (IntKind.i64.wrap (((k : Nat) : Int) - 1))) z0)] (bigAV g))
    (n4 : Runs Try.ir 111 [rawAV t] (bigAV ab))
    (n5 : Runs Try.ir 110 [bigAV ab, bigAV g] (.tup [bigAV x, bigAV r1]))
    (n6 : Runs Try.ir 110 [rawAV (rs.getD (Int.toNat (IntKind.i64.wrap (((k : Nat) : Int) - 1))) z0), bigAV g] (.tup [bigAV y, bigAV r2]))
    (n7 : Runs Try.ir 73 [rawAV t] (.int .i64 s))
    (n8 : Runs Try.ir 112 [bigAV y] (bigAV ny))
    (hl9 : RunsW Try.ir (.loop Try.c64i) (Try.s64i qs k rs t (cn x) (cn ny) (IntKind.i64.wrap (((k : Nat) : Int) - ((qs.length : Nat) : Int))) ((k : Nat) : Int) 0) (.exit 2) (Try.s64i qs k os t a b at1 n i))
    (n10 : Runs Try.ir 86 [.sl k (pc os)] (.fresh 2 us.length (pc us))) : RunsW Try.ir Try.c64 (Try.s64 qs k rs t) .norm (Try.s64 qs us.length us t) :=
  (RunsW.seq (RunsW.go (t := (dds 1 (.val (.sl qs.length (pc qs)) :: (dds 3 (.own 2 k (pc rs) :: (.box [.bool t.1, .sl t.2.length (lm t.2)] :: (dds 18 (.dup 5 :: (dds 73 []))))))))) (ex := .norm) TRB_holds 400 [.b true] [1, 5, 6, 25] (ac c1 a0) (by kernel_rfl))
    (RunsW.block_norm (RunsW.seq (RunsW.go (t := (dds 1 (.val (.sl qs.length (pc qs)) :: (dds 3 (.own 2 k (pc rs) :: (.box [.bool t.1, .sl t.2.length (lm t.2)] :: (.box [.bool ((rs.getD (Int.toNat (IntKind.i64.wrap (((k : Nat) : Int) - 1))) z0).1), .sl ((rs.getD (Int.toNat (IntKind.i64.wrap (((k : Nat) : Int) - 1))) z0).2.length) (lm (rs.getD (Int.toNat (IntKind.i64.wrap (((k : Nat) : Int) - 1))) z0).2)] :: (dds 17 (.dup 5 :: (dds 4 (.dup 5 :: (.dup 5 :: (dds 2 (.ptr 5 (Int.toNat (IntKind.i64.wrap (((k : Nat) : Int) - 1)) * 2) :: (dds 64 []))))))))))))))) (ex := .norm) TRB_holds 400 [.v (rawAV (rs.getD (Int.toNat (IntKind.i64.wrap (((k : Nat) : Int) - 1))) z0))] [1, 5, 6, 7, 25, 30, 31, 34] (ac n1 (ac (own_pcI n2 n1) a0)) (by kernel_rfl))
    (RunsW.seq (RunsW.go (t := (dds 1 (.val (.sl qs.length (pc qs)) :: (dds 3 (.own 2 k (pc rs) :: (.box [.bool t.1, .sl t.2.length (lm t.2)] :: (.box [.bool ((rs.getD (Int.toNat (IntKind.i64.wrap (((k : Nat) : Int) - 1))) z0).1), .sl ((rs.getD (Int.toNat (IntKind.i64.wrap (((k : Nat) : Int) - 1))) z0).2.length) (lm (rs.getD (Int.toNat (IntKind.i64.wrap (((k : Nat) : Int) - 1))) z0).2)] :: (.box [.bool (decide (g < 0)), .sl ((limbs (Int.natAbs g)).length) (lm (limbs (Int.natAbs g)))] :: (dds 16 (.dup 5 :: (dds 4 (.dup 5 :: (.dup 5 :: (dds 2 (.ptr 5 (Int.toNat (IntKind.i64.wrap (((k : Nat) : Int) - 1)) * 2) :: (dds 64 [])))))))))))))))) (ex := .norm) TRB_holds 400 [.r (bigAV g)] [1, 5, 6, 7, 8, 25, 30, 31, 34] (ac n3 a0) (by kernel_rfl))
    (RunsW.seq (RunsW.go (t := (dds 1 (.val (.sl qs.length (pc qs)) :: (dds 3 (.own 2 k (pc rs) :: (.box [.bool t.1, .sl t.2.length (lm t.2)] :: (.box [.bool ((rs.getD (Int.toNat (IntKind.i64.wrap (((k : Nat) : Int) - 1))) z0).1), .sl ((rs.getD (Int.toNat (IntKind.i64.wrap (((k : Nat) : Int) - 1))) z0).2.length) (lm (rs.getD (Int.toNat (IntKind.i64.wrap (((k : Nat) : Int) - 1))) z0).2)] :: (.box [.bool (decide (g < 0)), .sl ((limbs (Int.natAbs g)).length) (lm (limbs (Int.natAbs g)))] :: (.box [.bool (decide (x < 0)), .sl ((limbs (Int.natAbs x)).length) (lm (limbs (Int.natAbs x)))] :: (dds 15 (.dup 5 :: (dds 4 (.dup 5 :: (.dup 5 :: (dds 2 (.ptr 5 (Int.toNat (IntKind.i64.wrap (((k : Nat) : Int) - 1)) * 2) :: (dds 64 []))))))))))))))))) (ex := .norm) TRB_holds 400 [.r (bigAV ab), .r (.tup [bigAV x, bigAV r1])] [1, 5, 6, 7, 8, 9, 25, 30, 31, 34] (ac n4 (ac n5 a0)) (by kernel_rfl))
    (RunsW.seq (RunsW.go (t := (dds 1 (.val (.sl qs.length (pc qs)) :: (dds 3 (.own 2 k (pc rs) :: (.box [.bool t.1, .sl t.2.length (lm t.2)] :: (dds 2 (.box [.bool (decide (x < 0)), .sl ((limbs (Int.natAbs x)).length) (lm (limbs (Int.natAbs x)))] :: (dds 1 (.box [.bool (decide (y < 0)), .sl ((limbs (Int.natAbs y)).length) (lm (limbs (Int.natAbs y)))] :: (dds 13 (.dup 5 :: (dds 4 (.dup 5 :: (.dup 5 :: (dds 2 (.ptr 5 (Int.toNat (IntKind.i64.wrap (((k : Nat) : Int) - 1)) * 2) :: (dds 64 [])))))))))))))))))) (ex := .norm) TRB_holds 400 [.r (.tup [bigAV y, bigAV r2])] [1, 5, 6, 9, 11, 25, 30, 31, 34] (ac n6 a0) (by kernel_rfl))
    (RunsW.seq (RunsW.go (t := (dds 1 (.val (.sl qs.length (pc qs)) :: (dds 3 (.own 2 k (pc rs) :: (.box [.bool t.1, .sl t.2.length (lm t.2)] :: (dds 2 (.box [.bool (decide (x < 0)), .sl ((limbs (Int.natAbs x)).length) (lm (limbs (Int.natAbs x)))] :: (dds 1 (.box [.bool (decide (ny < 0)), .sl ((limbs (Int.natAbs ny)).length) (lm (limbs (Int.natAbs ny)))] :: (dds 13 (.dup 5 :: (dds 4 (.dup 5 :: (.dup 5 :: (dds 2 (.ptr 5 (Int.toNat (IntKind.i64.wrap (((k : Nat) : Int) - 1)) * 2) :: (dds 64 [])))))))))))))))))) (ex := .norm) TRB_holds 400 [.r (.int .i64 s), .b true, .r (bigAV ny)] [1, 5, 6, 9, 11, 25, 30, 31, 34] (ac n7 (ac c2 (ac n8 a0))) (by kernel_rfl))
    (RunsW.seq (RunsW.go (t := (dds 1 (.val (.sl qs.length (pc qs)) :: (dds 3 (.own 2 k (pc rs) :: (.box [.bool t.1, .sl t.2.length (lm t.2)] :: (dds 2 (.box [.bool (decide (x < 0)), .sl ((limbs (Int.natAbs x)).length) (lm (limbs (Int.natAbs x)))] :: (dds 1 (.box [.bool (decide (ny < 0)), .sl ((limbs (Int.natAbs ny)).length) (lm (limbs (Int.natAbs ny)))] :: (dds 1 (.val (.int .i64 (IntKind.i64.wrap (((k : Nat) : Int) - ((qs.length : Nat) : Int)))) :: (dds 11 (.dup 5 :: (dds 4 (.dup 5 :: (.dup 5 :: (dds 2 (.ptr 5 (Int.toNat (IntKind.i64.wrap (((k : Nat) : Int) - 1)) * 2) :: (dds 22 (.dup 5 :: (dds 41 [])))))))))))))))))))))) (ex := .norm) TRB_holds 400 [] [1, 5, 6, 9, 11, 13, 25, 30, 31, 34, 57] a0 (by kernel_rfl))
    (RunsW.seq (RunsW.seq (RunsW.go TRB_holds 400 [] [1, 5, 6, 9, 11, 13, 63, 64] a0 (by kernel_rfl))
    (RunsW.block hl9))
    (RunsW.go TRB_holds 400 [.r (.fresh 2 us.length (pc us))] [1, 5, 6] (ac n10 a0) (by kernel_rfl)))))))))))
theorem Try.k64_2 (qs : List Rn) (k : Nat) (rs : List Rn) (t : Rn) (os us : List Rn) (a b : Rn) (g ab x y r1 r2 s at1 n i : Int) (c1 : (decide (((k : Nat) : Int) ≥ ((qs.length : Nat) : Int))) = true)
    (c2 : (decide (s < 0)) = false)
    (n1 : 0 ≤ (IntKind.i64.wrap (((k : Nat) : Int) - 1)) ∧ (IntKind.i64.wrap (((k : Nat) : Int) - 1)) < ((k : Nat) : Int))
    (n2 : rs.length = k)
    (n3 : Runs Try.ir 109 [rawAV t, rawAV (rs.getD (Int.toNat (IntKind.i64.wrap (((k : Nat) : Int) - 1))) z0)] (bigAV g))
    (n4 : Runs Try.ir 111 [rawAV t] (bigAV ab))
    (n5 : Runs Try.ir 110 [bigAV ab, bigAV g] (.tup [bigAV x, bigAV r1]))
    (n6 : Runs Try.ir 110 [rawAV (rs.getD (Int.toNat (IntKind.i64.wrap (((k : Nat) : Int) - 1))) z0), bigAV g] (.tup [bigAV y, bigAV r2]))
    (n7 : Runs Try.ir 73 [rawAV t] (.int .i64 s))
    (hl8 : RunsW Try.ir (.loop Try.c64i) (Try.s64i qs k rs t (cn x) (cn y) (IntKind.i64.wrap (((k : Nat) : Int) - ((qs.length : Nat) : Int))) ((k : Nat) : Int) 0) (.exit 2) (Try.s64i qs k os t a b at1 n i))
    (n9 : Runs Try.ir 86 [.sl k (pc os)] (.fresh 2 us.length (pc us))) : RunsW Try.ir Try.c64 (Try.s64 qs k rs t) .norm (Try.s64 qs us.length us t) :=
  (RunsW.seq (RunsW.go (t := (dds 1 (.val (.sl qs.length (pc qs)) :: (dds 3 (.own 2 k (pc rs) :: (.box [.bool t.1, .sl t.2.length (lm t.2)] :: (dds 18 (.dup 5 :: (dds 73 []))))))))) (ex := .norm) TRB_holds 400 [.b true] [1, 5, 6, 25] (ac c1 a0) (by kernel_rfl))
    (RunsW.block_norm (RunsW.seq (RunsW.go (t := (dds 1 (.val (.sl qs.length (pc qs)) :: (dds 3 (.own 2 k (pc rs) :: (.box [.bool t.1, .sl t.2.length (lm t.2)] :: (.box [.bool ((rs.getD (Int.toNat (IntKind.i64.wrap (((k : Nat) : Int) - 1))) z0).1), .sl ((rs.getD (Int.toNat (IntKind.i64.wrap (((k : Nat) : Int) - 1))) z0).2.length) (lm (rs.getD (Int.toNat (IntKind.i64.wrap (((k : Nat) : Int) - 1))) z0).2)] :: (dds 17 (.dup 5 :: (dds 4 (.dup 5 :: (.dup 5 :: (dds 2 (.ptr 5 (Int.toNat (IntKind.i64.wrap (((k : Nat) : Int) - 1)) * 2) :: (dds 64 []))))))))))))))) (ex := .norm) TRB_holds 400 [.v (rawAV (rs.getD (Int.toNat (IntKind.i64.wrap (((k : Nat) : Int) - 1))) z0))] [1, 5, 6, 7, 25, 30, 31, 34] (ac n1 (ac (own_pcI n2 n1) a0)) (by kernel_rfl))
    (RunsW.seq (RunsW.go (t := (dds 1 (.val (.sl qs.length (pc qs)) :: (dds 3 (.own 2 k (pc rs) :: (.box [.bool t.1, .sl t.2.length (lm t.2)] :: (.box [.bool ((rs.getD (Int.toNat (IntKind.i64.wrap (((k : Nat) : Int) - 1))) z0).1), .sl ((rs.getD (Int.toNat (IntKind.i64.wrap (((k : Nat) : Int) - 1))) z0).2.length) (lm (rs.getD (Int.toNat (IntKind.i64.wrap (((k : Nat) : Int) - 1))) z0).2)] :: (.box [.bool (decide (g < 0)), .sl ((limbs (Int.natAbs g)).length) (lm (limbs (Int.natAbs g)))] :: (dds 16 (.dup 5 :: (dds 4 (.dup 5 :: (.dup 5 :: (dds 2 (.ptr 5 (Int.toNat (IntKind.i64.wrap (((k : Nat) : Int) - 1)) * 2) :: (dds 64 [])))))))))))))))) (ex := .norm) TRB_holds 400 [.r (bigAV g)] [1, 5, 6, 7, 8, 25, 30, 31, 34] (ac n3 a0) (by kernel_rfl))
    (RunsW.seq (RunsW.go (t := (dds 1 (.val (.sl qs.length (pc qs)) :: (dds 3 (.own 2 k (pc rs) :: (.box [.bool t.1, .sl t.2.length (lm t.2)] :: (.box [.bool ((rs.getD (Int.toNat (IntKind.i64.wrap (((k : Nat) : Int) - 1))) z0).1), .sl ((rs.getD (Int.toNat (IntKind.i64.wrap (((k : Nat) : Int) - 1))) z0).2.length) (lm (rs.getD (Int.toNat (IntKind.i64.wrap (((k : Nat) : Int) - 1))) z0).2)] :: (.box [.bool (decide (g < 0)), .sl ((limbs (Int.natAbs g)).length) (lm (limbs (Int.natAbs g)))] :: (.box [.bool (decide (x < 0)), .sl ((limbs (Int.natAbs x)).length) (lm (limbs (Int.natAbs x)))] :: (dds 15 (.dup 5 :: (dds 4 (.dup 5 :: (.dup 5 :: (dds 2 (.ptr 5 (Int.toNat (IntKind.i64.wrap (((k : Nat) : Int) - 1)) * 2) :: (dds 64 []))))))))))))))))) (ex := .norm) TRB_holds 400 [.r (bigAV ab), .r (.tup [bigAV x, bigAV r1])] [1, 5, 6, 7, 8, 9, 25, 30, 31, 34] (ac n4 (ac n5 a0)) (by kernel_rfl))
    (RunsW.seq (RunsW.go (t := (dds 1 (.val (.sl qs.length (pc qs)) :: (dds 3 (.own 2 k (pc rs) :: (.box [.bool t.1, .sl t.2.length (lm t.2)] :: (dds 2 (.box [.bool (decide (x < 0)), .sl ((limbs (Int.natAbs x)).length) (lm (limbs (Int.natAbs x)))] :: (dds 1 (.box [.bool (decide (y < 0)), .sl ((limbs (Int.natAbs y)).length) (lm (limbs (Int.natAbs y)))] :: (dds 13 (.dup 5 :: (dds 4 (.dup 5 :: (.dup 5 :: (dds 2 (.ptr 5 (Int.toNat (IntKind.i64.wrap (((k : Nat) : Int) - 1)) * 2) :: (dds 64 [])))))))))))))))))) (ex := .norm) TRB_holds 400 [.r (.tup [bigAV y, bigAV r2])] [1, 5, 6, 9, 11, 25, 30, 31, 34] (ac n6 a0) (by kernel_rfl))
    (RunsW.seq (RunsW.go (t := (dds 1 (.val (.sl qs.length (pc qs)) :: (dds 3 (.own 2 k (pc rs) :: (.box [.bool t.1, .sl t.2.length (lm t.2)] :: (dds 2 (.box [.bool (decide (x < 0)), .sl ((limbs (Int.natAbs x)).length) (lm (limbs (Int.natAbs x)))] :: (dds 1 (.box [.bool (decide (y < 0)), .sl ((limbs (Int.natAbs y)).length) (lm (limbs (Int.natAbs y)))] :: (dds 13 (.dup 5 :: (dds 4 (.dup 5 :: (.dup 5 :: (dds 2 (.ptr 5 (Int.toNat (IntKind.i64.wrap (((k : Nat) : Int) - 1)) * 2) :: (dds 64 [])))))))))))))))))) (ex := .norm) TRB_holds 400 [.r (.int .i64 s), .b false] [1, 5, 6, 9, 11, 25, 30, 31, 34] (ac n7 (ac c2 a0)) (by kernel_rfl))
    (RunsW.seq (RunsW.go (t := (dds 1 (.val (.sl qs.length (pc qs)) :: (dds 3 (.own 2 k (pc rs) :: (.box [.bool t.1, .sl t.2.length (lm t.2)] :: (dds 2 (.box [.bool (decide (x < 0)), .sl ((limbs (Int.natAbs x)).length) (lm (limbs (Int.natAbs x)))] :: (dds 1 (.box [.bool (decide (y < 0)), .sl ((limbs (Int.natAbs y)).length) (lm (limbs (Int.natAbs y)))] :: (dds 1 (.val (.int .i64 (IntKind.i64.wrap (((k : Nat) : Int) - ((qs.length : Nat) : Int)))) :: (dds 11 (.dup 5 :: (dds 4 (.dup 5 :: (.dup 5 :: (dds 2 (.ptr 5 (Int.toNat (IntKind.i64.wrap (((k : Nat) : Int) - 1)) * 2) :: (dds 22 (.dup 5 :: (dds 41 [])))))))))))))))))))))) (ex := .norm) TRB_holds 400 [] [1, 5, 6, 9, 11, 13, 25, 30, 31, 34, 57] a0 (by kernel_rfl))
    (RunsW.seq (RunsW.seq (RunsW.go TRB_holds 400 [] [1, 5, 6, 9, 11, 13, 63, 64] a0 (by kernel_rfl))
    (RunsW.block hl8))
    (RunsW.go TRB_holds 400 [.r (.fresh 2 us.length (pc us))] [1, 5, 6] (ac n9 a0) (by kernel_rfl)))))))))))
theorem Try.k64_3 (qs : List Rn) (k : Nat) (rs : List Rn) (t : Rn)  (c1 : (decide (((k : Nat) : Int) ≥ ((qs.length : Nat) : Int))) = false) : RunsW Try.ir Try.c64 (Try.s64 qs k rs t) (.exit 0) (Try.s64 qs k rs t) :=
  (RunsW.seq_out (RunsW.go TRB_holds 400 [.b false] [1, 5, 6] (ac c1 a0) (by kernel_rfl)) (by intro e; cases e))
theorem Try.run64 (rs ss ps qs us : List Rn) (t : Rn) (k : Nat) (n1 : Runs Try.ir 86 [.sl rs.length (pc rs)] (.fresh 2 ps.length (pc ps)))
    (n2 : Runs Try.ir 86 [.sl ss.length (pc ss)] (.fresh 2 qs.length (pc qs)))
    (n3 : 0 ≤ (IntKind.i64.wrap (((qs.length : Nat) : Int) - 1)) ∧ (IntKind.i64.wrap (((qs.length : Nat) : Int) - 1)) < ((qs.length : Nat) : Int))
    (hl4 : RunsW Try.ir (.loop Try.c64) (Try.s64 qs ps.length ps (qs.getD (Int.toNat (IntKind.i64.wrap (((qs.length : Nat) : Int) - 1))) z0)) (.exit 0) (Try.s64 qs k us t)) : Runs Try.ir 64 [.sl rs.length (pc rs), .sl ss.length (pc ss)] (.fresh 2 k (pc us)) :=
  Runs.of_bodyW (fn := Try.i64) (s := (dds 4 (.own 2 k (pc us) :: (dds 94 [])))) (ex := .ret) rfl rfl
    (RunsW.seq (RunsW.go (t := (.val (.sl rs.length (pc rs)) :: (.val (.sl ss.length (pc ss)) :: (dds 2 (.own 2 0 [] :: (dds 94 [])))))) (ex := .norm) TRB_holds 400 [] [0, 1, 4] a0 (by kernel_rfl))
    (RunsW.seq (RunsW.go (t := (.val (.sl rs.length (pc rs)) :: (.val (.sl qs.length (pc qs)) :: (dds 2 (.own 2 0 [] :: (.own 2 ps.length (pc ps) :: (dds 93 []))))))) (ex := .norm) TRB_holds 400 [.r (.fresh 2 ps.length (pc ps)), .r (.fresh 2 qs.length (pc qs))] [0, 1, 4, 5] (ac n1 (ac n2 a0)) (by kernel_rfl))
    (RunsW.seq (RunsW.go TRB_holds 400 [.v (rawAV (qs.getD (Int.toNat (IntKind.i64.wrap (((qs.length : Nat) : Int) - 1))) z0))] [1, 5, 6] (ac n3 (ac (show takeA (List.drop (Int.toNat (IntKind.i64.wrap (((qs.length : Nat) : Int) - 1)) * 2) (pc qs)) 0 2 false = some (rawAV (qs.getD (Int.toNat (IntKind.i64.wrap (((qs.length : Nat) : Int) - 1))) z0)) from (take_pcI n3)) a0)) (by kernel_rfl))
    (RunsW.seq (RunsW.block hl4)
    (RunsW.go TRB_holds 400 [] [4] a0 (by kernel_rfl)))))) (by intro i e; cases e) rfl
def Try.c65 : ICode := .seq (.seq (.region false [oM 11 6,
   o1 12 (.len (.t 11)),
   o1 13 (.bin .gtr (.t 12) (.c (.int .i64 0)))])
  (.cond (.t 13) (.skip)
  (.exit 0)))
  (.block 1 (.region false [oM 14 6,
   oM 15 5,
   oM 16 6,
   oC 17 64 [15, 16],
   oM 5 14,
   oM 6 17]))
def Try.s65 (as1 : List Rn) (bs : List Rn) : State := (dds 5 (.val (.sl as1.length (pc as1)) :: (.val (.sl bs.length (pc bs)) :: (dds 13 []))))
theorem Try.k65_1 (as1 : List Rn) (bs : List Rn) (us : List Rn) (c1 : (decide (((bs.length : Nat) : Int) > 0)) = true)
    (n1 : Runs Try.ir 64 [.sl as1.length (pc as1), .sl bs.length (pc bs)] (.fresh 2 us.length (pc us))) : RunsW Try.ir Try.c65 (Try.s65 as1 bs) .norm (Try.s65 bs us) :=
  (RunsW.go TRB_holds 400 [.b true, .r (.fresh 2 us.length (pc us))] [5, 6] (ac c1 (ac n1 a0)) (by kernel_rfl))
theorem Try.k65_2 (as1 : List Rn) (bs : List Rn)  (c1 : (decide (((bs.length : Nat) : Int) > 0)) = false) : RunsW Try.ir Try.c65 (Try.s65 as1 bs) (.exit 0) (Try.s65 as1 bs) :=
  (RunsW.go TRB_holds 400 [.b false] [5, 6] (ac c1 a0) (by kernel_rfl))
theorem Try.run65_f (rs ss ps qs as1 bs ts : List Rn) (n1 : Runs Try.ir 86 [.sl rs.length (pc rs)] (.fresh 2 ps.length (pc ps)))
    (n2 : Runs Try.ir 86 [.sl ss.length (pc ss)] (.fresh 2 qs.length (pc qs)))
    (hl3 : RunsW Try.ir (.loop Try.c65) (Try.s65 ps qs) (.exit 0) (Try.s65 as1 bs))
    (n4 : Runs Try.ir 115 [.sl as1.length (pc as1)] (.fresh 2 ts.length (pc ts))) : Runs Try.ir 65 [.sl rs.length (pc rs), .sl ss.length (pc ss)] (.fresh 2 ts.length (pc ts)) :=
  Runs.of_bodyW (fn := Try.i65) (s := (dds 4 (.own 2 ts.length (pc ts) :: (dds 15 [])))) (ex := .ret) rfl rfl
    (RunsW.seq (RunsW.go (t := (.val (.sl rs.length (pc rs)) :: (.val (.sl ss.length (pc ss)) :: (dds 2 (.own 2 0 [] :: (dds 15 [])))))) (ex := .norm) TRB_holds 400 [] [0, 1, 4] a0 (by kernel_rfl))
    (RunsW.seq (RunsW.go TRB_holds 400 [.r (.fresh 2 ps.length (pc ps)), .r (.fresh 2 qs.length (pc qs))] [5, 6] (ac n1 (ac n2 a0)) (by kernel_rfl))
    (RunsW.seq (RunsW.block hl3)
    (RunsW.go TRB_holds 400 [.r (.fresh 2 ts.length (pc ts))] [4] (ac n4 a0) (by kernel_rfl))))) (by intro i e; cases e) rfl
theorem Try.run65_s (rs ss ps qs as1 bs : List Rn) (n1 : Runs Try.ir 86 [.sl rs.length (pc rs)] (.fresh 2 ps.length (pc ps)))
    (n2 : Runs Try.ir 86 [.sl ss.length (pc ss)] (.fresh 2 qs.length (pc qs)))
    (hl3 : RunsW Try.ir (.loop Try.c65) (Try.s65 ps qs) (.exit 0) (Try.s65 as1 bs))
    (n4 : Runs Try.ir 115 [.sl as1.length (pc as1)] (.sl as1.length (pc as1))) : Runs Try.ir 65 [.sl rs.length (pc rs), .sl ss.length (pc ss)] (.sl as1.length (pc as1)) :=
  Runs.of_bodyW (fn := Try.i65) (s := (dds 4 (.val (.sl as1.length (pc as1)) :: (dds 15 [])))) (ex := .ret) rfl rfl
    (RunsW.seq (RunsW.go (t := (.val (.sl rs.length (pc rs)) :: (.val (.sl ss.length (pc ss)) :: (dds 2 (.own 2 0 [] :: (dds 15 [])))))) (ex := .norm) TRB_holds 400 [] [0, 1, 4] a0 (by kernel_rfl))
    (RunsW.seq (RunsW.go TRB_holds 400 [.r (.fresh 2 ps.length (pc ps)), .r (.fresh 2 qs.length (pc qs))] [5, 6] (ac n1 (ac n2 a0)) (by kernel_rfl))
    (RunsW.seq (RunsW.block hl3)
    (RunsW.go TRB_holds 400 [.r (.sl as1.length (pc as1))] [4] (ac n4 a0) (by kernel_rfl))))) (by intro i e; cases e) rfl
def Try.c116a : ICode := .seq (.region false [oB 46 .lss 45 44])
  (.seq (.cond (.t 46) (.skip)
  (.exit 2))
  (.seq (.block 3 (.seq (.region false [oM 47 45,
   oM 10 47])
  (.region true [o1 48 (.cpy 5),
   oM 49 10,
   o1 50 (.cpy 5),
   oM 51 10,
   o1 52 (.ixo 50 5 (.t 51) 2),
   o1 53 (.ld 52 5 2 false),
   o1 54 (.ld 6 6 2 false),
   oC 55 113 [53, 54],
   o1 56 (.ixo 48 5 (.t 49) 2),
   oN (.st 56 5 2 (.t 55))])))
  (.region false [o1 57 (.bin .add (.t 45) (.c (.int .i64 1))),
   oM 45 57])))
def Try.s116a (qs : List Rn) (k : Nat) (rs : List Rn) (t : Rn) (kq : Nat) (os : List Rn) (j : Int) (l : Rn) (n : Int) (i : Int) : State := (dds 1 (.val (.sl qs.length (pc qs)) :: (dds 3 (.own 2 k (pc rs) :: (.box [.bool t.1, .sl t.2.length (lm t.2)] :: (.own 2 kq (pc os) :: (.val (.int .i64 j) :: (.box [.bool l.1, .sl l.2.length (lm l.2)] :: (dds 34 (.val (.int .i64 n) :: (.val (.int .i64 i) :: (dds 57 []))))))))))))
theorem Try.k116a_1 (qs : List Rn) (k : Nat) (rs : List Rn) (t : Rn) (kq : Nat) (os : List Rn) (j : Int) (l : Rn) (n : Int) (i : Int)  (c1 : (decide (i < n)) = true)
    (n1 : 0 ≤ i ∧ i < ((k : Nat) : Int))
    (n2 : rs.length = k)
    (n3 : Runs Try.ir 113 [rawAV (rs.getD (Int.toNat i) z0), rawAV t] (bigAV ((rval (rs.getD (Int.toNat i) z0)) * (rval t)))) : RunsW Try.ir Try.c116a (Try.s116a qs k rs t kq os j l n i) .norm (Try.s116a qs k (rs.set (Int.toNat i) (cn ((rval (rs.getD (Int.toNat i) z0)) * (rval t)))) t kq os j l n (IntKind.i64.wrap (i + 1))) :=
  (RunsW.go TRB_holds 400 [.b true, .v (rawAV (rs.getD (Int.toNat i) z0)), .r (bigAV ((rval (rs.getD (Int.toNat i) z0)) * (rval t))), .l (pc (rs.set (Int.toNat i) (cn ((rval (rs.getD (Int.toNat i) z0)) * (rval t)))))] [1, 5, 6, 7, 8, 9, 44, 45] (ac c1 (ac n1 (ac (own_pcI n2 n1) (ac n3 (ac n1 (ac (lay_pcI (r := cn ((rval (rs.getD (Int.toNat i) z0)) * (rval t))) n2 n1) a0)))))) (by kernel_rfl))
theorem Try.k116a_2 (qs : List Rn) (k : Nat) (rs : List Rn) (t : Rn) (kq : Nat) (os : List Rn) (j : Int) (l : Rn) (n : Int) (i : Int)  (c1 : (decide (i < n)) = false) : RunsW Try.ir Try.c116a (Try.s116a qs k rs t kq os j l n i) (.exit 2) (Try.s116a qs k rs t kq os j l n i) :=
  (RunsW.go TRB_holds 400 [.b false] [1, 5, 6, 7, 8, 9, 44, 45] (ac c1 a0) (by kernel_rfl))
def Try.c116b : ICode := .seq (.region false [oB 61 .lss 60 59])
  (.seq (.cond (.t 61) (.skip)
  (.exit 4))
  (.seq (.block 5 (.seq (.region false [oM 62 60,
   oM 11 62])
  (.region true [o1 63 (.cpy 7),
   oM 64 11,
   o1 65 (.cpy 7),
   oM 66 11,
   o1 67 (.ixo 65 7 (.t 66) 2),
   o1 68 (.ld 67 7 2 false),
   o1 69 (.ld 6 6 2 false),
   oC 70 113 [68, 69],
   o1 71 (.ixo 63 7 (.t 64) 2),
   oN (.st 71 7 2 (.t 70))])))
  (.region false [o1 72 (.bin .add (.t 60) (.c (.int .i64 1))),
   oM 60 72])))
def Try.s116b (qs : List Rn) (k : Nat) (rs : List Rn) (t : Rn) (kq : Nat) (os : List Rn) (j : Int) (l : Rn) (n : Int) (i : Int) : State := (dds 1 (.val (.sl qs.length (pc qs)) :: (dds 3 (.own 2 k (pc rs) :: (.box [.bool t.1, .sl t.2.length (lm t.2)] :: (.own 2 kq (pc os) :: (.val (.int .i64 j) :: (.box [.bool l.1, .sl l.2.length (lm l.2)] :: (dds 49 (.val (.int .i64 n) :: (.val (.int .i64 i) :: (dds 42 []))))))))))))
theorem Try.k116b_1 (qs : List Rn) (k : Nat) (rs : List Rn) (t : Rn) (kq : Nat) (os : List Rn) (j : Int) (l : Rn) (n : Int) (i : Int)  (c1 : (decide (i < n)) = true)
    (n1 : 0 ≤ i ∧ i < ((kq : Nat) : Int))
    (n2 : os.length = kq)
    (n3 : Runs Try.ir 113 [rawAV (os.getD (Int.toNat i) z0), rawAV t] (bigAV ((rval (os.getD (Int.toNat i) z0)) * (rval t)))) : RunsW Try.ir Try.c116b (Try.s116b qs k rs t kq os j l n i) .norm (Try.s116b qs k rs t kq (os.set (Int.toNat i) (cn ((rval (os.getD (Int.toNat i) z0)) * (rval t)))) j l n (IntKind.i64.wrap (i + 1))) :=
  (RunsW.go TRB_holds 400 [.b true, .v (rawAV (os.getD (Int.toNat i) z0)), .r (bigAV ((rval (os.getD (Int.toNat i) z0)) * (rval t))), .l (pc (os.set (Int.toNat i) (cn ((rval (os.getD (Int.toNat i) z0)) * (rval t)))))] [1, 5, 6, 7, 8, 9, 59, 60] (ac c1 (ac n1 (ac (own_pcI n2 n1) (ac n3 (ac n1 (ac (lay_pcI (r := cn ((rval (os.getD (Int.toNat i) z0)) * (rval t))) n2 n1) a0)))))) (by kernel_rfl))
theorem Try.k116b_2 (qs : List Rn) (k : Nat) (rs : List Rn) (t : Rn) (kq : Nat) (os : List Rn) (j : Int) (l : Rn) (n : Int) (i : Int)  (c1 : (decide (i < n)) = false) : RunsW Try.ir Try.c116b (Try.s116b qs k rs t kq os j l n i) (.exit 4) (Try.s116b qs k rs t kq os j l n i) :=
  (RunsW.go TRB_holds 400 [.b false] [1, 5, 6, 7, 8, 9, 59, 60] (ac c1 a0) (by kernel_rfl))
def Try.c116c : ICode := .seq (.region false [oB 80 .lss 79 78])
  (.seq (.cond (.t 80) (.skip)
  (.exit 6))
  (.seq (.block 7 (.seq (.region false [oM 81 79,
   oM 12 81])
  (.region true [o1 82 (.cpy 5),
   oM 83 8,
   oM 84 12,
   oB 85 .add 83 84,
   o1 86 (.cpy 5),
   oM 87 8,
   oM 88 12,
   oB 89 .add 87 88,
   o1 90 (.ixo 86 5 (.t 89) 2),
   o1 91 (.ld 90 5 2 false),
   o1 92 (.ld 9 9 2 false),
   oM 93 1,
   oM 94 12,
   o1 95 (.ixa 93 (.t 94) 2),
   o1 96 (.ld 95 95 2 false),
   oC 97 113 [92, 96],
   oC 98 114 [91, 97],
   o1 99 (.ixo 82 5 (.t 85) 2),
   oN (.st 99 5 2 (.t 98))])))
  (.region false [o1 100 (.bin .add (.t 79) (.c (.int .i64 1))),
   oM 79 100])))
def Try.s116c (qs : List Rn) (k : Nat) (rs : List Rn) (t : Rn) (kq : Nat) (os : List Rn) (j : Int) (l : Rn) (n : Int) (i : Int) : State := (dds 1 (.val (.sl qs.length (pc qs)) :: (dds 3 (.own 2 k (pc rs) :: (.box [.bool t.1, .sl t.2.length (lm t.2)] :: (.own 2 kq (pc os) :: (.val (.int .i64 j) :: (.box [.bool l.1, .sl l.2.length (lm l.2)] :: (dds 68 (.val (.int .i64 n) :: (.val (.int .i64 i) :: (dds 23 []))))))))))))
theorem Try.k116c_1 (qs : List Rn) (k : Nat) (rs : List Rn) (t : Rn) (kq : Nat) (os : List Rn) (j : Int) (l : Rn) (n : Int) (i : Int)  (c1 : (decide (i < n)) = true)
    (n1 : 0 ≤ (IntKind.i64.wrap (j + i)) ∧ (IntKind.i64.wrap (j + i)) < ((k : Nat) : Int))
    (n2 : rs.length = k)
    (n3 : 0 ≤ i ∧ i < ((qs.length : Nat) : Int))
    (n4 : Runs Try.ir 113 [rawAV l, rawAV (qs.getD (Int.toNat i) z0)] (bigAV ((rval l) * (rval (qs.getD (Int.toNat i) z0)))))
    (n5 : Runs Try.ir 114 [rawAV (rs.getD (Int.toNat (IntKind.i64.wrap (j + i))) z0), bigAV ((rval l) * (rval (qs.getD (Int.toNat i) z0)))] (bigAV ((rval (rs.getD (Int.toNat (IntKind.i64.wrap (j + i))) z0)) - ((rval l) * (rval (qs.getD (Int.toNat i) z0)))))) : RunsW Try.ir Try.c116c (Try.s116c qs k rs t kq os j l n i) .norm (Try.s116c qs k (rs.set (Int.toNat (IntKind.i64.wrap (j + i))) (cn ((rval (rs.getD (Int.toNat (IntKind.i64.wrap (j + i))) z0)) - ((rval l) * (rval (qs.getD (Int.toNat i) z0)))))) t kq os j l n (IntKind.i64.wrap (i + 1))) :=
  (RunsW.go TRB_holds 400 [.b true, .v (rawAV (rs.getD (Int.toNat (IntKind.i64.wrap (j + i))) z0)), .v (rawAV (qs.getD (Int.toNat i) z0)), .r (bigAV ((rval l) * (rval (qs.getD (Int.toNat i) z0)))), .r (bigAV ((rval (rs.getD (Int.toNat (IntKind.i64.wrap (j + i))) z0)) - ((rval l) * (rval (qs.getD (Int.toNat i) z0))))), .l (pc (rs.set (Int.toNat (IntKind.i64.wrap (j + i))) (cn ((rval (rs.getD (Int.toNat (IntKind.i64.wrap (j + i))) z0)) - ((rval l) * (rval (qs.getD (Int.toNat i) z0)))))))] [1, 5, 6, 7, 8, 9, 78, 79] (ac c1 (ac n1 (ac (own_pcI n2 n1) (ac n3 (ac (show takeA (List.drop (Int.toNat i * 2) (pc qs)) 0 2 false = some (rawAV (qs.getD (Int.toNat i) z0)) from (take_pcI n3)) (ac n4 (ac n5 (ac n1 (ac (lay_pcI (r := cn ((rval (rs.getD (Int.toNat (IntKind.i64.wrap (j + i))) z0)) - ((rval l) * (rval (qs.getD (Int.toNat i) z0))))) n2 n1) a0))))))))) (by kernel_rfl))
theorem Try.k116c_2 (qs : List Rn) (k : Nat) (rs : List Rn) (t : Rn) (kq : Nat) (os : List Rn) (j : Int) (l : Rn) (n : Int) (i : Int)  (c1 : (decide (i < n)) = false) : RunsW Try.ir Try.c116c (Try.s116c qs k rs t kq os j l n i) (.exit 6) (Try.s116c qs k rs t kq os j l n i) :=
  (RunsW.go TRB_holds 400 [.b false] [1, 5, 6, 7, 8, 9, 78, 79] (ac c1 a0) (by kernel_rfl))
def Try.c116 : ICode := .seq (.seq (.region false [oM 31 8,
   o1 32 (.bin .geq (.t 31) (.c (.int .i64 0)))])
  (.cond (.t 32) (.skip)
  (.exit 0)))
  (.seq (.block 1 (.seq (.region false [o1 35 (.cpy 5),
   oM 36 8,
   oM 37 1,
   o1 38 (.len (.t 37)),
   oB 39 .add 36 38,
   o1 40 (.bin .sub (.t 39) (.c (.int .i64 1))),
   o1 41 (.ixo 35 5 (.t 40) 2),
   o1 42 (.ld 41 5 2 false),
   o1 9 (.new [.bool false, .sl 0 []] []),
   oN (.st 9 9 2 (.t 42))])
  (.seq (.seq (.region false [o1 43 (.cpy 5),
   o1 44 (.lno 43 5),
   o1 45 (.mov (.c (.int .i64 0)))])
  (.block 2 (.loop (.seq (.region false [oB 46 .lss 45 44])
  (.seq (.cond (.t 46) (.skip)
  (.exit 2))
  (.seq (.block 3 (.seq (.region false [oM 47 45,
   oM 10 47])
  (.region true [o1 48 (.cpy 5),
   oM 49 10,
   o1 50 (.cpy 5),
   oM 51 10,
   o1 52 (.ixo 50 5 (.t 51) 2),
   o1 53 (.ld 52 5 2 false),
   o1 54 (.ld 6 6 2 false),
   oC 55 113 [53, 54],
   o1 56 (.ixo 48 5 (.t 49) 2),
   oN (.st 56 5 2 (.t 55))])))
  (.region false [o1 57 (.bin .add (.t 45) (.c (.int .i64 1))),
   oM 45 57])))))))
  (.seq (.seq (.region false [o1 58 (.cpy 7),
   o1 59 (.lno 58 7),
   o1 60 (.mov (.c (.int .i64 0)))])
  (.block 4 (.loop (.seq (.region false [oB 61 .lss 60 59])
  (.seq (.cond (.t 61) (.skip)
  (.exit 4))
  (.seq (.block 5 (.seq (.region false [oM 62 60,
   oM 11 62])
  (.region true [o1 63 (.cpy 7),
   oM 64 11,
   o1 65 (.cpy 7),
   oM 66 11,
   o1 67 (.ixo 65 7 (.t 66) 2),
   o1 68 (.ld 67 7 2 false),
   o1 69 (.ld 6 6 2 false),
   oC 70 113 [68, 69],
   o1 71 (.ixo 63 7 (.t 64) 2),
   oN (.st 71 7 2 (.t 70))])))
  (.region false [o1 72 (.bin .add (.t 60) (.c (.int .i64 1))),
   oM 60 72])))))))
  (.seq (.region false [o1 73 (.cpy 7),
   oM 74 8,
   o1 75 (.ld 9 9 2 false),
   o1 76 (.ixo 73 7 (.t 74) 2),
   oN (.st 76 7 2 (.t 75))])
  (.seq (.region false [oM 77 1,
   o1 78 (.len (.t 77)),
   o1 79 (.mov (.c (.int .i64 0)))])
  (.block 6 (.loop (.seq (.region false [oB 80 .lss 79 78])
  (.seq (.cond (.t 80) (.skip)
  (.exit 6))
  (.seq (.block 7 (.seq (.region false [oM 81 79,
   oM 12 81])
  (.region true [o1 82 (.cpy 5),
   oM 83 8,
   oM 84 12,
   oB 85 .add 83 84,
   o1 86 (.cpy 5),
   oM 87 8,
   oM 88 12,
   oB 89 .add 87 88,
   o1 90 (.ixo 86 5 (.t 89) 2),
   o1 91 (.ld 90 5 2 false),
   o1 92 (.ld 9 9 2 false),
   oM 93 1,
   oM 94 12,
   o1 95 (.ixa 93 (.t 94) 2),
   o1 96 (.ld 95 95 2 false),
   oC 97 113 [92, 96],
   oC 98 114 [91, 97],
   o1 99 (.ixo 82 5 (.t 85) 2),
   oN (.st 99 5 2 (.t 98))])))
  (.region false [o1 100 (.bin .add (.t 79) (.c (.int .i64 1))),
   oM 79 100]))))))))))))
  (.region false [oM 33 8,
   o1 34 (.bin .sub (.t 33) (.c (.int .i64 1))),
   oM 8 34]))
def Try.s116 (qs : List Rn) (k : Nat) (rs : List Rn) (t : Rn) (kq : Nat) (os : List Rn) (j : Int) : State := (dds 1 (.val (.sl qs.length (pc qs)) :: (dds 3 (.own 2 k (pc rs) :: (.box [.bool t.1, .sl t.2.length (lm t.2)] :: (.own 2 kq (pc os) :: (.val (.int .i64 j) :: (dds 94 []))))))))
theorem Try.k116_1 (qs : List Rn) (k : Nat) (rs : List Rn) (t : Rn) (kq : Nat) (os : List Rn) (j : Int) (rs1 rs2 os1 : List Rn) (m1 i1 m2 i2 m3 i3 : Int) (c1 : (decide (j ≥ 0)) = true)
    (n1 : 0 ≤ (IntKind.i64.wrap ((IntKind.i64.wrap (j + ((qs.length : Nat) : Int))) - 1)) ∧ (IntKind.i64.wrap ((IntKind.i64.wrap (j + ((qs.length : Nat) : Int))) - 1)) < ((k : Nat) : Int))
    (n2 : rs.length = k)
    (hl3 : RunsW Try.ir (.loop Try.c116a) (Try.s116a qs k rs t kq os j (rs.getD (Int.toNat (IntKind.i64.wrap ((IntKind.i64.wrap (j + ((qs.length : Nat) : Int))) - 1))) z0) ((k : Nat) : Int) 0) (.exit 2) (Try.s116a qs k rs1 t kq os j (rs.getD (Int.toNat (IntKind.i64.wrap ((IntKind.i64.wrap (j + ((qs.length : Nat) : Int))) - 1))) z0) m1 i1))
    (hl4 : RunsW Try.ir (.loop Try.c116b) (Try.s116b qs k rs1 t kq os j (rs.getD (Int.toNat (IntKind.i64.wrap ((IntKind.i64.wrap (j + ((qs.length : Nat) : Int))) - 1))) z0) ((kq : Nat) : Int) 0) (.exit 4) (Try.s116b qs k rs1 t kq os1 j (rs.getD (Int.toNat (IntKind.i64.wrap ((IntKind.i64.wrap (j + ((qs.length : Nat) : Int))) - 1))) z0) m2 i2))
    (n5 : 0 ≤ j ∧ j < ((kq : Nat) : Int))
    (n6 : os1.length = kq)
    (hl7 : RunsW Try.ir (.loop Try.c116c) (Try.s116c qs k rs1 t kq (os1.set (Int.toNat j) (rs.getD (Int.toNat (IntKind.i64.wrap ((IntKind.i64.wrap (j + ((qs.length : Nat) : Int))) - 1))) z0)) j (rs.getD (Int.toNat (IntKind.i64.wrap ((IntKind.i64.wrap (j + ((qs.length : Nat) : Int))) - 1))) z0) ((qs.length : Nat) : Int) 0) (.exit 6) (Try.s116c qs k rs2 t kq (os1.set (Int.toNat j) (rs.getD (Int.toNat (IntKind.i64.wrap ((IntKind.i64.wrap (j + ((qs.length : Nat) : Int))) - 1))) z0)) j (rs.getD (Int.toNat (IntKind.i64.wrap ((IntKind.i64.wrap (j + ((qs.length : Nat) : Int))) - 1))) z0) m3 i3)) : RunsW Try.ir Try.c116 (Try.s116 qs k rs t kq os j) .norm (Try.s116 qs k rs2 t kq (os1.set (Int.toNat j) (rs.getD (Int.toNat (IntKind.i64.wrap ((IntKind.i64.wrap (j + ((qs.length : Nat) : Int))) - 1))) z0)) (IntKind.i64.wrap (j - 1))) :=
  (RunsW.seq (RunsW.go (t := (dds 1 (.val (.sl qs.length (pc qs)) :: (dds 3 (.own 2 k (pc rs) :: (.box [.bool t.1, .sl t.2.length (lm t.2)] :: (.own 2 kq (pc os) :: (.val (.int .i64 j) :: (dds 94 []))))))))) (ex := .norm) TRB_holds 400 [.b true] [1, 5, 6, 7, 8] (ac c1 a0) (by kernel_rfl))
    (RunsW.seq (RunsW.block_norm (RunsW.seq (RunsW.go (t := (dds 1 (.val (.sl qs.length (pc qs)) :: (dds 3 (.own 2 k (pc rs) :: (.box [.bool t.1, .sl t.2.length (lm t.2)] :: (.own 2 kq (pc os) :: (.val (.int .i64 j) :: (.box [.bool ((rs.getD (Int.toNat (IntKind.i64.wrap ((IntKind.i64.wrap (j + ((qs.length : Nat) : Int))) - 1))) z0).1), .sl ((rs.getD (Int.toNat (IntKind.i64.wrap ((IntKind.i64.wrap (j + ((qs.length : Nat) : Int))) - 1))) z0).2.length) (lm (rs.getD (Int.toNat (IntKind.i64.wrap ((IntKind.i64.wrap (j + ((qs.length : Nat) : Int))) - 1))) z0).2)] :: (dds 93 [])))))))))) (ex := .norm) TRB_holds 400 [.v (rawAV (rs.getD (Int.toNat (IntKind.i64.wrap ((IntKind.i64.wrap (j + ((qs.length : Nat) : Int))) - 1))) z0))] [1, 5, 6, 7, 8, 9] (ac n1 (ac (own_pcI n2 n1) a0)) (by kernel_rfl))
    (RunsW.seq (RunsW.seq (RunsW.go TRB_holds 400 [] [1, 5, 6, 7, 8, 9, 44, 45] a0 (by kernel_rfl))
    (RunsW.block hl3))
    (RunsW.seq (RunsW.seq (RunsW.go TRB_holds 400 [] [1, 5, 6, 7, 8, 9, 59, 60] a0 (by kernel_rfl))
    (RunsW.block hl4))
    (RunsW.seq (RunsW.go (t := (dds 1 (.val (.sl qs.length (pc qs)) :: (dds 3 (.own 2 k (pc rs1) :: (.box [.bool t.1, .sl t.2.length (lm t.2)] :: (.own 2 kq (pc (os1.set (Int.toNat j) (rs.getD (Int.toNat (IntKind.i64.wrap ((IntKind.i64.wrap (j + ((qs.length : Nat) : Int))) - 1))) z0))) :: (.val (.int .i64 j) :: (.box [.bool ((rs.getD (Int.toNat (IntKind.i64.wrap ((IntKind.i64.wrap (j + ((qs.length : Nat) : Int))) - 1))) z0).1), .sl ((rs.getD (Int.toNat (IntKind.i64.wrap ((IntKind.i64.wrap (j + ((qs.length : Nat) : Int))) - 1))) z0).2.length) (lm (rs.getD (Int.toNat (IntKind.i64.wrap ((IntKind.i64.wrap (j + ((qs.length : Nat) : Int))) - 1))) z0).2)] :: (dds 93 [])))))))))) (ex := .norm) TRB_holds 400 [.l (pc (os1.set (Int.toNat j) (rs.getD (Int.toNat (IntKind.i64.wrap ((IntKind.i64.wrap (j + ((qs.length : Nat) : Int))) - 1))) z0)))] [1, 5, 6, 7, 8, 9] (ac n5 (ac (lay_pcI (r := rs.getD (Int.toNat (IntKind.i64.wrap ((IntKind.i64.wrap (j + ((qs.length : Nat) : Int))) - 1))) z0) n6 n5) a0)) (by kernel_rfl))
    (RunsW.seq (RunsW.go TRB_holds 400 [] [1, 5, 6, 7, 8, 9, 78, 79] a0 (by kernel_rfl))
    (RunsW.block hl7)))))))
    (RunsW.go TRB_holds 400 [] [1, 5, 6, 7, 8] a0 (by kernel_rfl))))
theorem Try.k116_2 (qs : List Rn) (k : Nat) (rs : List Rn) (t : Rn) (kq : Nat) (os : List Rn) (j : Int)  (c1 : (decide (j ≥ 0)) = false) : RunsW Try.ir Try.c116 (Try.s116 qs k rs t kq os j) (.exit 0) (Try.s116 qs k rs t kq os j) :=
  (RunsW.seq_out (RunsW.go TRB_holds 400 [.b false] [1, 5, 6, 7, 8] (ac c1 a0) (by kernel_rfl)) (by intro e; cases e))
theorem Try.run116 (rs qs ps us xs os : List Rn) (t : Rn) (k kq : Nat) (j : Int) (n1 : Runs Try.ir 92 [.sl rs.length (pc rs)] (.fresh 2 ps.length (pc ps)))
    (n2 : 0 ≤ (IntKind.i64.wrap (((qs.length : Nat) : Int) - 1)) ∧ (IntKind.i64.wrap (((qs.length : Nat) : Int) - 1)) < ((qs.length : Nat) : Int))
    (n3 : 0 ≤ (IntKind.i64.wrap ((IntKind.i64.wrap (((ps.length : Nat) : Int) - ((qs.length : Nat) : Int))) + 1)) ∧ (IntKind.i64.wrap ((IntKind.i64.wrap (((ps.length : Nat) : Int) - ((qs.length : Nat) : Int))) + 1)) ≤ 1048576)
    (hl4 : RunsW Try.ir (.loop Try.c116) ((dds 1 (.val (.sl qs.length (pc qs)) :: (dds 3 (.own 2 ps.length (pc ps) :: (.box [.bool ((qs.getD (Int.toNat (IntKind.i64.wrap (((qs.length : Nat) : Int) - 1))) z0).1), .sl ((qs.getD (Int.toNat (IntKind.i64.wrap (((qs.length : Nat) : Int) - 1))) z0).2.length) (lm (qs.getD (Int.toNat (IntKind.i64.wrap (((qs.length : Nat) : Int) - 1))) z0).2)] :: (.own 2 (Int.toNat (IntKind.i64.wrap ((IntKind.i64.wrap (((ps.length : Nat) : Int) - ((qs.length : Nat) : Int))) + 1))) (replA [.bool false, .sl 0 []] (Int.toNat (IntKind.i64.wrap ((IntKind.i64.wrap (((ps.length : Nat) : Int) - ((qs.length : Nat) : Int))) + 1)))) :: (.val (.int .i64 (IntKind.i64.wrap ((((Int.toNat (IntKind.i64.wrap ((IntKind.i64.wrap (((ps.length : Nat) : Int) - ((qs.length : Nat) : Int))) + 1))) : Nat) : Int) - 1))) :: (dds 94 []))))))))) (.exit 0) (Try.s116 qs k xs t kq os j))
    (n5 : Runs Try.ir 86 [.sl kq (pc os)] (.fresh 2 us.length (pc us))) : Runs Try.ir 116 [.sl rs.length (pc rs), .sl qs.length (pc qs)] (.fresh 2 us.length (pc us)) :=
  Runs.of_bodyW (fn := Try.i116) (s := (dds 4 (.own 2 us.length (pc us) :: (dds 98 [])))) (ex := .ret) rfl rfl
    (RunsW.seq (RunsW.go (t := (.val (.sl rs.length (pc rs)) :: (.val (.sl qs.length (pc qs)) :: (dds 2 (.own 2 0 [] :: (dds 98 [])))))) (ex := .norm) TRB_holds 400 [] [0, 1, 4] a0 (by kernel_rfl))
    (RunsW.seq (RunsW.go (t := (.val (.sl rs.length (pc rs)) :: (.val (.sl qs.length (pc qs)) :: (dds 2 (.own 2 0 [] :: (.own 2 ps.length (pc ps) :: (dds 97 []))))))) (ex := .norm) TRB_holds 400 [.r (.fresh 2 ps.length (pc ps))] [0, 1, 4, 5] (ac n1 a0) (by kernel_rfl))
    (RunsW.seq (RunsW.go (t := (.val (.sl rs.length (pc rs)) :: (.val (.sl qs.length (pc qs)) :: (dds 2 (.own 2 0 [] :: (.own 2 ps.length (pc ps) :: (.box [.bool ((qs.getD (Int.toNat (IntKind.i64.wrap (((qs.length : Nat) : Int) - 1))) z0).1), .sl ((qs.getD (Int.toNat (IntKind.i64.wrap (((qs.length : Nat) : Int) - 1))) z0).2.length) (lm (qs.getD (Int.toNat (IntKind.i64.wrap (((qs.length : Nat) : Int) - 1))) z0).2)] :: (dds 96 [])))))))) (ex := .norm) TRB_holds 400 [.v (rawAV (qs.getD (Int.toNat (IntKind.i64.wrap (((qs.length : Nat) : Int) - 1))) z0))] [0, 1, 4, 5, 6] (ac n2 (ac (show takeA (List.drop (Int.toNat (IntKind.i64.wrap (((qs.length : Nat) : Int) - 1)) * 2) (pc qs)) 0 2 false = some (rawAV (qs.getD (Int.toNat (IntKind.i64.wrap (((qs.length : Nat) : Int) - 1))) z0)) from (take_pcI n2)) a0)) (by kernel_rfl))
    (RunsW.seq (RunsW.go (t := (.val (.sl rs.length (pc rs)) :: (.val (.sl qs.length (pc qs)) :: (dds 2 (.own 2 0 [] :: (.own 2 ps.length (pc ps) :: (.box [.bool ((qs.getD (Int.toNat (IntKind.i64.wrap (((qs.length : Nat) : Int) - 1))) z0).1), .sl ((qs.getD (Int.toNat (IntKind.i64.wrap (((qs.length : Nat) : Int) - 1))) z0).2.length) (lm (qs.getD (Int.toNat (IntKind.i64.wrap (((qs.length : Nat) : Int) - 1))) z0).2)] :: (.own 2 (Int.toNat (IntKind.i64.wrap ((IntKind.i64.wrap (((ps.length : Nat) : Int) - ((qs.length : Nat) : Int))) + 1))) (replA [.bool false, .sl 0 []] (Int.toNat (IntKind.i64.wrap ((IntKind.i64.wrap (((ps.length : Nat) : Int) - ((qs.length : Nat) : Int))) + 1)))) :: (dds 95 []))))))))) (ex := .norm) TRB_holds 400 [] [0, 1, 4, 5, 6, 7] (ac n3 a0) (by kernel_rfl))
    (RunsW.seq (RunsW.seq (RunsW.go TRB_holds 400 [] [1, 5, 6, 7, 8] a0 (by kernel_rfl))
    (RunsW.block hl4))
    (RunsW.go TRB_holds 400 [.r (.fresh 2 us.length (pc us))] [4] (ac n5 a0) (by kernel_rfl))))))) (by intro i e; cases e) rfl
theorem Try.run66_ff_1 (rs ps xs : List Rn) (c1 : (decide (((xs.length : Nat) : Int) < 2)) = true)
    (n1 : Runs Try.ir 86 [.sl rs.length (pc rs)] (.fresh 2 ps.length (pc ps)))
    (n2 : Runs Try.ir 115 [.sl ps.length (pc ps)] (.fresh 2 xs.length (pc xs))) : Runs Try.ir 66 [.sl rs.length (pc rs)] (.sl xs.length (pc xs)) :=
  Runs.go (fn := Try.i66) TRB_holds rfl 400 rfl [.r (.fresh 2 ps.length (pc ps)), .r (.fresh 2 xs.length (pc xs)), .b true] (ac n1 (ac n2 (ac c1 a0))) (by kernel_rfl)
theorem Try.run66_ff_2 (rs ps xs ds gs : List Rn) (c1 : (decide (((xs.length : Nat) : Int) < 2)) = false)
    (c2 : (decide (((gs.length : Nat) : Int) < 2)) = true)
    (n1 : Runs Try.ir 86 [.sl rs.length (pc rs)] (.fresh 2 ps.length (pc ps)))
    (n2 : Runs Try.ir 115 [.sl ps.length (pc ps)] (.fresh 2 xs.length (pc xs)))
    (n3 : Runs Try.ir 75 [.sl xs.length (pc xs)] (.fresh 2 ds.length (pc ds)))
    (n4 : Runs Try.ir 65 [.sl xs.length (pc xs), .sl ds.length (pc ds)] (.fresh 2 gs.length (pc gs))) : Runs Try.ir 66 [.sl rs.length (pc rs)] (.sl xs.length (pc xs)) :=
  Runs.go (fn := Try.i66) TRB_holds rfl 400 rfl [.r (.fresh 2 ps.length (pc ps)), .r (.fresh 2 xs.length (pc xs)), .b false, .r (.fresh 2 ds.length (pc ds)), .r (.fresh 2 gs.length (pc gs)), .b true] (ac n1 (ac n2 (ac c1 (ac n3 (ac n4 (ac c2 a0)))))) (by kernel_rfl)
theorem Try.run66_ff_3 (rs ps xs ds gs us : List Rn) (c1 : (decide (((xs.length : Nat) : Int) < 2)) = false)
    (c2 : (decide (((gs.length : Nat) : Int) < 2)) = false)
    (n1 : Runs Try.ir 86 [.sl rs.length (pc rs)] (.fresh 2 ps.length (pc ps)))
    (n2 : Runs Try.ir 115 [.sl ps.length (pc ps)] (.fresh 2 xs.length (pc xs)))
    (n3 : Runs Try.ir 75 [.sl xs.length (pc xs)] (.fresh 2 ds.length (pc ds)))
    (n4 : Runs Try.ir 65 [.sl xs.length (pc xs), .sl ds.length (pc ds)] (.fresh 2 gs.length (pc gs)))
    (n5 : Runs Try.ir 116 [.sl xs.length (pc xs), .sl gs.length (pc gs)] (.fresh 2 us.length (pc us))) : Runs Try.ir 66 [.sl rs.length (pc rs)] (.fresh 2 us.length (pc us)) :=
  Runs.go (fn := Try.i66) TRB_holds rfl 400 rfl [.r (.fresh 2 ps.length (pc ps)), .r (.fresh 2 xs.length (pc xs)), .b false, .r (.fresh 2 ds.length (pc ds)), .r (.fresh 2 gs.length (pc gs)), .b false, .r (.fresh 2 us.length (pc us))] (ac n1 (ac n2 (ac c1 (ac n3 (ac n4 (ac c2 (ac n5 a0))))))) (by kernel_rfl)
theorem Try.run66_fs_2 (rs ps xs ds gs : List Rn) (c1 : (decide (((xs.length : Nat) : Int) < 2)) = false)
    (c2 : (decide (((gs.length : Nat) : Int) < 2)) = true)
    (n1 : Runs Try.ir 86 [.sl rs.length (pc rs)] (.fresh 2 ps.length (pc ps)))
    (n2 : Runs Try.ir 115 [.sl ps.length (pc ps)] (.fresh 2 xs.length (pc xs)))
    (n3 : Runs Try.ir 75 [.sl xs.length (pc xs)] (.fresh 2 ds.length (pc ds)))
    (n4 : Runs Try.ir 65 [.sl xs.length (pc xs), .sl ds.length (pc ds)] (.sl gs.length (pc gs))) : Runs Try.ir 66 [.sl rs.length (pc rs)] (.sl xs.length (pc xs)) :=
  Runs.go (fn := Try.i66) TRB_holds rfl 400 rfl [.r (.fresh 2 ps.length (pc ps)), .r (.fresh 2 xs.length (pc xs)), .b false, .r (.fresh 2 ds.length (pc ds)), .r (.sl gs.length (pc gs)), .b true] (ac n1 (ac n2 (ac c1 (ac n3 (ac n4 (ac c2 a0)))))) (by kernel_rfl)
theorem Try.run66_fs_3 (rs ps xs ds gs us : List Rn) (c1 : (decide (((xs.length : Nat) : Int) < 2)) = false)
    (c2 : (decide (((gs.length : Nat) : Int) < 2)) = false)
    (n1 : Runs Try.ir 86 [.sl rs.length (pc rs)] (.fresh 2 ps.length (pc ps)))
    (n2 : Runs Try.ir 115 [.sl ps.length (pc ps)] (.fresh 2 xs.length (pc xs)))
    (n3 : Runs Try.ir 75 [.sl xs.length (pc xs)] (.fresh 2 ds.length (pc ds)))
    (n4 : Runs Try.ir 65 [.sl xs.length (pc xs), .sl ds.length (pc ds)] (.sl gs.length (pc gs)))
    (n5 : Runs Try.ir 116 [.sl xs.length (pc xs), .sl gs.length (pc gs)] (.fresh 2 us.length (pc us))) : Runs Try.ir 66 [.sl rs.length (pc rs)] (.fresh 2 us.length (pc us)) :=
  Runs.go (fn := Try.i66) TRB_holds rfl 400 rfl [.r (.fresh 2 ps.length (pc ps)), .r (.fresh 2 xs.length (pc xs)), .b false, .r (.fresh 2 ds.length (pc ds)), .r (.sl gs.length (pc gs)), .b false, .r (.fresh 2 us.length (pc us))] (ac n1 (ac n2 (ac c1 (ac n3 (ac n4 (ac c2 (ac n5 a0))))))) (by kernel_rfl)
theorem Try.run66_sf_2 (rs ps ds gs : List Rn) (c1 : (decide (((ps.length : Nat) : Int) < 2)) = false)
    (c2 : (decide (((gs.length : Nat) : Int) < 2)) = true)
    (n1 : Runs Try.ir 86 [.sl rs.length (pc rs)] (.fresh 2 ps.length (pc ps)))
    (n2 : Runs Try.ir 115 [.sl ps.length (pc ps)] (.sl ps.length (pc ps)))
    (n3 : Runs Try.ir 75 [.sl ps.length (pc ps)] (.fresh 2 ds.length (pc ds)))
    (n4 : Runs Try.ir 65 [.sl ps.length (pc ps), .sl ds.length (pc ds)] (.fresh 2 gs.length (pc gs))) : Runs Try.ir 66 [.sl rs.length (pc rs)] (.sl ps.length (pc ps)) :=
  Runs.go (fn := Try.i66) TRB_holds rfl 400 rfl [.r (.fresh 2 ps.length (pc ps)), .r (.sl ps.length (pc ps)), .b false, .r (.fresh 2 ds.length (pc ds)), .r (.fresh 2 gs.length (pc gs)), .b true] (ac n1 (ac n2 (ac c1 (ac n3 (ac n4 (ac c2 a0)))))) (by kernel_rfl)
theorem Try.run66_sf_3 (rs ps ds gs us : List Rn) (c1 : (decide (((ps.length : Nat) : Int) < 2)) = false)
    (c2 : (decide (((gs.length : Nat) : Int) < 2)) = false)
    (n1 : Runs Try.ir 86 [.sl rs.length (pc rs)] (.fresh 2 ps.length (pc ps)))
    (n2 : Runs Try.ir 115 [.sl ps.length (pc ps)] (.sl ps.length (pc ps)))
    (n3 : Runs Try.ir 75 [.sl ps.length (pc ps)] (.fresh 2 ds.length (pc ds)))
    (n4 : Runs Try.ir 65 [.sl ps.length (pc ps), .sl ds.length (pc ds)] (.fresh 2 gs.length (pc gs)))
    (n5 : Runs Try.ir 116 [.sl ps.length (pc ps), .sl gs.length (pc gs)] (.fresh 2 us.length (pc us))) : Runs Try.ir 66 [.sl rs.length (pc rs)] (.fresh 2 us.length (pc us)) :=
  Runs.go (fn := Try.i66) TRB_holds rfl 400 rfl [.r (.fresh 2 ps.length (pc ps)), .r (.sl ps.length (pc ps)), .b false, .r (.fresh 2 ds.length (pc ds)), .r (.fresh 2 gs.length (pc gs)), .b false, .r (.fresh 2 us.length (pc us))] (ac n1 (ac n2 (ac c1 (ac n3 (ac n4 (ac c2 (ac n5 a0))))))) (by kernel_rfl)
theorem Try.run66_ss_1 (rs ps : List Rn) (c1 : (decide (((ps.length : Nat) : Int) < 2)) = true)
    (n1 : Runs Try.ir 86 [.sl rs.length (pc rs)] (.fresh 2 ps.length (pc ps)))
    (n2 : Runs Try.ir 115 [.sl ps.length (pc ps)] (.sl ps.length (pc ps))) : Runs Try.ir 66 [.sl rs.length (pc rs)] (.sl ps.length (pc ps)) :=
  Runs.go (fn := Try.i66) TRB_holds rfl 400 rfl [.r (.fresh 2 ps.length (pc ps)), .r (.sl ps.length (pc ps)), .b true] (ac n1 (ac n2 (ac c1 a0))) (by kernel_rfl)
theorem Try.run66_ss_2 (rs ps ds gs : List Rn) (c1 : (decide (((ps.length : Nat) : Int) < 2)) = false)
    (c2 : (decide (((gs.length : Nat) : Int) < 2)) = true)
    (n1 : Runs Try.ir 86 [.sl rs.length (pc rs)] (.fresh 2 ps.length (pc ps)))
    (n2 : Runs Try.ir 115 [.sl ps.length (pc ps)] (.sl ps.length (pc ps)))
    (n3 : Runs Try.ir 75 [.sl ps.length (pc ps)] (.fresh 2 ds.length (pc ds)))
    (n4 : Runs Try.ir 65 [.sl ps.length (pc ps), .sl ds.length (pc ds)] (.sl gs.length (pc gs))) : Runs Try.ir 66 [.sl rs.length (pc rs)] (.sl ps.length (pc ps)) :=
  Runs.go (fn := Try.i66) TRB_holds rfl 400 rfl [.r (.fresh 2 ps.length (pc ps)), .r (.sl ps.length (pc ps)), .b false, .r (.fresh 2 ds.length (pc ds)), .r (.sl gs.length (pc gs)), .b true] (ac n1 (ac n2 (ac c1 (ac n3 (ac n4 (ac c2 a0)))))) (by kernel_rfl)
theorem Try.run66_ss_3 (rs ps ds gs us : List Rn) (c1 : (decide (((ps.length : Nat) : Int) < 2)) = false)
    (c2 : (decide (((gs.length : Nat) : Int) < 2)) = false)
    (n1 : Runs Try.ir 86 [.sl rs.length (pc rs)] (.fresh 2 ps.length (pc ps)))
    (n2 : Runs Try.ir 115 [.sl ps.length (pc ps)] (.sl ps.length (pc ps)))
    (n3 : Runs Try.ir 75 [.sl ps.length (pc ps)] (.fresh 2 ds.length (pc ds)))
    (n4 : Runs Try.ir 65 [.sl ps.length (pc ps), .sl ds.length (pc ds)] (.sl gs.length (pc gs)))
    (n5 : Runs Try.ir 116 [.sl ps.length (pc ps), .sl gs.length (pc gs)] (.fresh 2 us.length (pc us))) : Runs Try.ir 66 [.sl rs.length (pc rs)] (.fresh 2 us.length (pc us)) :=
  Runs.go (fn := Try.i66) TRB_holds rfl 400 rfl [.r (.fresh 2 ps.length (pc ps)), .r (.sl ps.length (pc ps)), .b false, .r (.fresh 2 ds.length (pc ds)), .r (.sl gs.length (pc gs)), .b false, .r (.fresh 2 us.length (pc us))] (ac n1 (ac n2 (ac c1 (ac n3 (ac n4 (ac c2 (ac n5 a0))))))) (by kernel_rfl)
def TMA : Table := TRB
theorem TMA_holds : THolds Try.ir TMA := TRB_holds
end Go.Proofs.Ythnnfemologhfaa

namespace Go.Ai
theorem least_div (c : Nat) (hc : 1 < c) : ∃ p, 1 < p ∧ p ∣ c ∧ ∀ d, d ∣ p → d = 1 ∨ d = p := by
  have h : ∀ n, ∀ m, m ≤ n → 1 < m → m ∣ c → ∃ p, 1 < p ∧ p ∣ c ∧ ∀ d, d ∣ p → d = 1 ∨ d = p := by
    intro n
    induction n with
    | zero => intro m h1 h2; omega
    | succ n ih =>
      intro m h1 h2 h3
      by_cases h : ∀ d, d ∣ m → d = 1 ∨ d = m
      · exact ⟨m, h2, h3, h⟩
      · obtain ⟨d, hd⟩ := Classical.not_forall.1 h
        obtain ⟨hd1, hd2⟩ := Classical.not_imp.1 hd
        have h5 := Nat.le_of_dvd (by omega) hd1
        have h6 : d ≠ 0 := by intro h0; subst h0; have := Nat.zero_dvd.1 hd1; omega
        exact ih d (by omega) (by omega) (Nat.dvd_trans hd1 h3)
  exact h c c (Nat.le_refl _) hc (Nat.dvd_refl _)
theorem prime_mul {p : Nat} (hp : ∀ d, d ∣ p → d = 1 ∨ d = p) {a b : Int} (h : (p : Int) ∣ a * b) : (p : Int) ∣ a ∨ (p : Int) ∣ b := by
  rcases hp (Nat.gcd p a.natAbs) (Nat.gcd_dvd_left _ _) with g | g
  · right
    have h1 : p ∣ a.natAbs * b.natAbs := by rw [← Int.natAbs_mul]; exact Int.ofNat_dvd_left.1 h
    exact Int.ofNat_dvd_left.2 (Nat.Coprime.dvd_of_dvd_mul_left g h1)
  · left
    have : p ∣ a.natAbs := by rw [← g]; exact Nat.gcd_dvd_right _ _
    exact Int.ofNat_dvd_left.2 this
theorem pmul_cons_right (g : List Int) (b : Int) (k : List Int) (i : Nat) : (pmul g (b :: k)).getD i 0 = b * g.getD i 0 + (shiftP 1 (pmul g k)).getD i 0 := by
  have h := peval_inj' (p := pmul g (b :: k)) (q := padd (psmul b g) (shiftP 1 (pmul g k))) (fun x => by
    rw [peval_pmul, peval_padd, peval_psmul, peval_shiftP, peval_pmul]
    simp only [peval, Int.pow_succ, Int.pow_zero]
    grind) i
  rw [h, getD_padd, getD_psmul]
theorem gauss_prime {p : Nat} (hp : ∀ d, d ∣ p → d = 1 ∨ d = p) : ∀ (g k : List Int), (∀ i, (p : Int) ∣ (pmul g k).getD i 0) → (¬ ∀ i, (p : Int) ∣ g.getD i 0) → ∀ i, (p : Int) ∣ k.getD i 0
  | [], k, _, h => absurd (fun i => by simp) h
  | a :: g, k, h, hn => by
    by_cases ha : (p : Int) ∣ a
    · refine gauss_prime hp g k (fun i => ?_) (fun h2 => hn fun i => ?_)
      · have h1 := h (i + 1)
        rw [getD_pmul_cons, getD_shiftP, if_pos (by omega)] at h1
        exact (Int.dvd_add_right (Int.dvd_trans ha (Int.dvd_mul_right _ _))).1 h1
      · cases i with
        | zero => simpa using ha
        | succ i => simpa using h2 i
    · clear hn
      induction k with
      | nil => intro i; simp
      | cons b k ih =>
        have h0 := h 0
        rw [getD_pmul_cons, getD_shiftP, if_neg (by omega), Int.add_zero] at h0
        have hb : (p : Int) ∣ b := by
          rcases prime_mul hp h0 with g1 | g1
          · exact absurd g1 ha
          · simpa using g1
        have h2 := ih (fun i => by
          have h1 := h (i + 1)
          rw [pmul_cons_right, getD_shiftP, if_pos (by omega)] at h1
          exact (Int.dvd_add_right (Int.dvd_trans hb (Int.dvd_mul_right _ _))).1 h1)
        intro i
        cases i with
        | zero => simpa using hb
        | succ i => simpa using h2 i
theorem gauss {g : List Int} (hg : cont g = 1) : ∀ (c : Nat) (k : List Int), 0 < c → (∀ i, (c : Int) ∣ (pmul g k).getD i 0) → ∀ i, (c : Int) ∣ k.getD i 0 := by
  intro c
  induction c using Nat.strongRecOn with
  | ind c ih =>
    intro k hc h
    by_cases h1 : c = 1
    · intro i; rw [h1]; exact Int.one_dvd _
    · obtain ⟨p, p1, ⟨d, hd⟩, p3⟩ := least_div c (by omega)
      have hd0 : 0 < d := by rcases Nat.eq_zero_or_pos d with g | g
                             · rw [g, Nat.mul_zero] at hd; omega
                             · exact g
      have hdc : d < c := by rw [hd]; exact (Nat.lt_mul_iff_one_lt_left hd0).2 p1
      have hpk := gauss_prime p3 g k (fun i => Int.dvd_trans ⟨(d : Int), by rw [hd]; push_cast; rfl⟩ (h i)) (fun h2 => by
        have := (dvd_cont p g).2 h2
        rw [hg] at this
        have := Nat.le_of_dvd (by decide) this
        omega)
      have hk : psmul (p : Int) (k.map fun x => x / (p : Int)) = k := by
        apply list_ext (by simp [psmul])
        intro i
        rw [getD_psmul]
        have e : (k.map fun x => x / (p : Int)).getD i 0 = k.getD i 0 / (p : Int) := by
          simp only [List.getD_eq_getElem?_getD, List.getElem?_map]
          cases k[i]? <;> simp
        rw [e]
        exact Int.mul_ediv_cancel' (hpk i)
      generalize k.map (fun x => x / (p : Int)) = k1 at hk
      subst hk
      have h3 := ih d hdc k1 hd0 (fun i => by
        have h2 := h i
        have e : (pmul g (psmul (p : Int) k1)).getD i 0 = (p : Int) * (pmul g k1).getD i 0 := by
          rw [← getD_psmul]
          exact peval_inj' (fun x => by rw [peval_pmul, peval_psmul, peval_psmul, peval_pmul]; grind) i
        rw [e, hd, Int.natCast_mul] at h2
        exact Int.dvd_of_mul_dvd_mul_left (by omega) h2)
      intro i
      rw [getD_psmul, hd, Int.natCast_mul]
      exact Int.mul_dvd_mul_left _ (h3 i)
def syn : List Int → Int → List Int
  | [], _ => []
  | _ :: p, a => padd p (psmul a (syn p a))
theorem syn_eval : ∀ (p : List Int) (a x : Int), peval p x - peval p a = (x - a) * peval (syn p a) x
  | [], a, x => by simp [syn, peval]
  | c :: p, a, x => by
    have ih := syn_eval p a x
    simp only [syn, peval]
    rw [peval_padd, peval_psmul]
    grind
theorem syn_len : ∀ (p : List Int) (a : Int), (syn p a).length ≤ p.length - 1
  | [], a => by simp [syn]
  | c :: p, a => by
    have ih := syn_len p a
    have := padd_len p (psmul a (syn p a))
    rw [psmul_length] at this
    simp only [syn, List.length_cons]
    omega
theorem syn_coef (p : List Int) (a : Int) (i : Nat) : p.getD i 0 = (peval p a :: syn p a).getD i 0 - a * (syn p a).getD i 0 := by
  have h := peval_inj' (p := p) (q := psub (peval p a :: syn p a) (psmul a (syn p a))) (fun x => by
    rw [peval_psub, peval_psmul]
    simp only [peval]
    have := syn_eval p a x
    grind) i
  rw [h, getD_psub, getD_psmul]
theorem roots_few : ∀ (n : Nat) (p : List Int) (l : List Int), p.length ≤ n → l.Nodup → (∀ x ∈ l, peval p x = 0) → n ≤ l.length → ∀ i, p.getD i 0 = 0 := by
  intro n
  induction n with
  | zero =>
    intro p l h _ _ _ i
    rw [List.eq_nil_of_length_eq_zero (by omega : p.length = 0)]; simp
  | succ n ih =>
    intro p l h1 h2 h3 h4 i
    cases l with
    | nil => simp at h4
    | cons a l =>
      have ha := h3 a List.mem_cons_self
      have hq := ih (syn p a) l (by have := syn_len p a; omega) (List.nodup_cons.1 h2).2 (fun x hx => by
        have h5 := syn_eval p a x
        rw [ha, h3 x (List.mem_cons_of_mem _ hx)] at h5
        rcases Int.mul_eq_zero.1 (h5.symm.trans (by omega)) with g | g
        · have hxa : x = a := by omega
          subst hxa
          exact absurd hx (List.nodup_cons.1 h2).1
        · exact g) (by simp at h4; omega)
      rw [syn_coef p a i, ha, hq i]
      cases i with
      | zero => simp
      | succ i => simpa using hq i
theorem small_coef {R : Nat} : ∀ (n : Nat) (g : List Int) (l : List Int) (M : Nat), g.length ≤ n + 1 → l.Nodup → l.length = n + 1 → (∀ x ∈ l, x.natAbs ≤ R ∧ (peval g x).natAbs ≤ M) → (∀ x ∈ l, ∀ y ∈ l, x ≠ y → 1 ≤ (x - y).natAbs) → ∀ i, (g.getD i 0).natAbs ≤ M * (2 * R + 3) ^ n := by
  intro n
  induction n with
  | zero =>
    intro g l M h1 h2 h3 h4 _ i
    cases l with
    | nil => simp at h3
    | cons a l =>
      have ha := h4 a List.mem_cons_self
      cases g with
      | nil => simp
      | cons c g =>
        have : g = [] := by simpa using h1
        subst this
        simp only [peval, Int.mul_zero, Int.add_zero] at ha
        rw [Nat.pow_zero, Nat.mul_one]
        cases i with
        | zero => simpa using ha.2
        | succ i => simp
  | succ n ih =>
    intro g l M h1 h2 h3 h4 h6 i
    cases l with
    | nil => simp at h3
    | cons a l =>
      obtain ⟨ha1, ha2⟩ := h4 a List.mem_cons_self
      have hq := ih (syn g a) l (2 * M) (by have := syn_len g a; omega) (List.nodup_cons.1 h2).2 (by simpa using h3) (fun x hx => by
        obtain ⟨hx1, hx2⟩ := h4 x (List.mem_cons_of_mem _ hx)
        refine ⟨hx1, ?_⟩
        have h5 := congrArg Int.natAbs (syn_eval g a x)
        rw [Int.natAbs_mul] at h5
        have hne : x ≠ a := by intro e; subst e; exact absurd hx (List.nodup_cons.1 h2).1
        have h7 : 1 ≤ (x - a).natAbs := by omega
        have h8 := Nat.le_mul_of_pos_left (peval (syn g a) x).natAbs h7
        have h9 : (peval g x - peval g a).natAbs ≤ 2 * M := by omega
        omega) (fun x hx y hy => h6 x (List.mem_cons_of_mem _ hx) y (List.mem_cons_of_mem _ hy))
      rw [syn_coef g a i]
      have hX : 1 ≤ (2 * R + 3) ^ n := Nat.pow_pos (by omega)
      have e1 : M * (2 * R + 3) ^ (n + 1) = R * (2 * M * (2 * R + 3) ^ n) + 2 * M * (2 * R + 3) ^ n + M * (2 * R + 3) ^ n := by rw [Nat.pow_succ]; grind
      have e2 : M * 1 ≤ M * (2 * R + 3) ^ n := Nat.mul_le_mul_left _ hX
      have b1 := hq i
      have b2 : (a * (syn g a).getD i 0).natAbs ≤ R * (2 * M * (2 * R + 3) ^ n) := by rw [Int.natAbs_mul]; exact Nat.mul_le_mul ha1 b1
      have b3 : ((peval g a :: syn g a).getD i 0).natAbs ≤ 2 * M * (2 * R + 3) ^ n + M * (2 * R + 3) ^ n := by
        cases i with
        | zero => simp only [List.getD_cons_zero]; omega
        | succ i => have := hq i; simp only [List.getD_cons_succ]; omega
      rw [e1]
      generalize R * (2 * M * (2 * R + 3) ^ n) = A at *
      generalize 2 * M * (2 * R + 3) ^ n = B at *
      generalize M * (2 * R + 3) ^ n = C at *
      omega
theorem peval_le {R B : Nat} : ∀ (t : List Int) (x : Int), (∀ i, (t.getD i 0).natAbs ≤ B) → x.natAbs ≤ R → (peval t x).natAbs ≤ B * (R + 1) ^ t.length
  | [], x, _, _ => by simp [peval]
  | c :: t, x, h, hx => by
    have ih := peval_le t x (fun i => by simpa using h (i + 1)) hx
    have h0 : c.natAbs ≤ B := by simpa using h 0
    simp only [peval, List.length_cons]
    have h1 : (x * peval t x).natAbs ≤ R * (B * (R + 1) ^ t.length) := by rw [Int.natAbs_mul]; exact Nat.mul_le_mul hx ih
    have h2 : B * 1 ≤ B * (R + 1) ^ t.length := Nat.mul_le_mul_left _ (Nat.pow_pos (by omega))
    have e : B * (R + 1) ^ (t.length + 1) = R * (B * (R + 1) ^ t.length) + B * (R + 1) ^ t.length := by rw [Nat.pow_succ]; grind
    rw [e]
    generalize R * (B * (R + 1) ^ t.length) = X at *
    omega
theorem no_roots {t : List Int} {n : Nat} (ht : trimL t ≠ []) (hl : t.length ≤ n + 1) : ∃ l : List Int, l.Nodup ∧ l.length = n + 1 ∧ ∀ x ∈ l, x.natAbs ≤ 2 * n ∧ peval t x ≠ 0 := by
  have hnd : ((List.range (2 * n + 1)).map fun i : Nat => (i : Int)).Nodup := by
    rw [List.nodup_iff_pairwise_ne, List.pairwise_map]
    exact (List.nodup_iff_pairwise_ne.1 List.nodup_range).imp (fun h => by omega)
  have hmem : ∀ x ∈ (List.range (2 * n + 1)).map fun i : Nat => (i : Int), x.natAbs ≤ 2 * n := by
    intro x hx
    obtain ⟨i, hi, rfl⟩ := List.mem_map.1 hx
    have := List.mem_range.1 hi
    omega
  have hlen : ((List.range (2 * n + 1)).map fun i : Nat => (i : Int)).length = 2 * n + 1 := by simp
  generalize ((List.range (2 * n + 1)).map fun i : Nat => (i : Int)) = L at *
  have hsum := List.length_eq_countP_add_countP (fun x => decide (peval t x = 0)) (l := L)
  rw [List.countP_eq_length_filter, List.countP_eq_length_filter] at hsum
  have hA : (L.filter fun x => decide (peval t x = 0)).length ≤ n := by
    apply Nat.le_of_not_lt
    intro h
    apply ht
    rw [trim_nil]
    exact roots_few (n + 1) t (L.filter fun x => decide (peval t x = 0)) hl (hnd.filter _) (fun x hx => by simpa using (List.mem_filter.1 hx).2) (by omega)
  refine ⟨(L.filter fun x => decide ¬ (decide (peval t x = 0)) = true).take (n + 1), (hnd.filter _).sublist (List.take_sublist _ _), ?_, ?_⟩
  · rw [List.length_take]; omega
  · intro x hx
    obtain ⟨h1, h2⟩ := List.mem_filter.1 (List.mem_of_mem_take hx)
    exact ⟨hmem x h1, by simpa using h2⟩
theorem divisor_small {t g k : List Int} {K : Nat} (ht : trimL t ≠ []) (hl : t.length ≤ 9) (hg : g.length ≤ 9) (hK : Kb K t) (h : ∀ x, peval t x = peval g x * peval k x) : Kb (K + 3) g := by
  obtain ⟨l, l1, l2, l3⟩ := no_roots (n := 8) ht hl
  have hb : ∀ i, (t.getD i 0).natAbs ≤ 4294967296 ^ K := fun i => Nat.le_of_lt (hK i)
  have h1 := small_coef (R := 16) 8 g l (4294967296 ^ K * 17 ^ 9) hg l1 l2 (fun x hx => by
    obtain ⟨a, b⟩ := l3 x hx
    refine ⟨a, ?_⟩
    have h2 := peval_le (R := 16) t x hb a
    have h3 := congrArg Int.natAbs (h x)
    rw [Int.natAbs_mul] at h3
    have h4 : 1 ≤ (peval k x).natAbs := by
      rcases Nat.eq_zero_or_pos (peval k x).natAbs with g | g
      · rw [g, Nat.mul_zero] at h3; omega
      · exact g
    have h5 := Nat.le_mul_of_pos_right (peval g x).natAbs h4
    have h6 : 4294967296 ^ K * 17 ^ t.length ≤ 4294967296 ^ K * 17 ^ 9 := Nat.mul_le_mul_left _ (Nat.pow_le_pow_right (by decide) hl)
    exact Nat.le_trans (Nat.le_trans h5 (Nat.le_of_eq h3.symm)) (Nat.le_trans h2 h6)) (fun x _ y _ hne => by omega)
  intro i
  have h2 := h1 i
  unfold Fits
  refine Nat.lt_of_le_of_lt h2 ?_
  rw [Nat.mul_assoc, Nat.pow_add]
  exact Nat.mul_lt_mul_of_pos_left (by decide) (Nat.pow_pos (by decide))
theorem gauss_quot {t g k : List Int} {c : Int} (hc : c ≠ 0) (hg : cont g = 1) (h : ∀ x, c * peval t x = peval g x * peval k x) : ∃ k', ∀ x, peval t x = peval g x * peval k' x := by
  have h1 := peval_inj' (p := pmul g k) (q := psmul c t) (fun x => by rw [peval_pmul, peval_psmul]; exact (h x).symm)
  have h2 := gauss hg c.natAbs k (by omega) (fun i => by rw [h1, getD_psmul]; exact Int.dvd_trans (Int.natAbs_dvd.2 (Int.dvd_refl _)) (Int.dvd_mul_right _ _))
  have hk : psmul c (k.map fun x => x / c) = k := by
    apply list_ext (by simp [psmul])
    intro i
    rw [getD_psmul]
    have e : (k.map fun x => x / c).getD i 0 = k.getD i 0 / c := by
      simp only [List.getD_eq_getElem?_getD, List.getElem?_map]
      cases k[i]? <;> simp
    rw [e]
    exact Int.mul_ediv_cancel' (Int.natAbs_dvd.1 (h2 i))
  refine ⟨k.map fun x => x / c, fun x => ?_⟩
  have h3 := h x
  rw [← hk, peval_psmul] at h3
  apply Int.eq_of_mul_eq_mul_left hc
  rw [h3]; grind
theorem gauss_small {t g k : List Int} {c : Int} {K : Nat} (hc : c ≠ 0) (hg : cont g = 1) (ht : trimL t ≠ []) (hl : t.length ≤ 9) (hgl : g.length ≤ 9) (hK : Kb K t) (h : ∀ x, c * peval t x = peval g x * peval k x) : Kb (K + 3) g := by
  obtain ⟨k', hk⟩ := gauss_quot hc hg h
  exact divisor_small ht hl hgl hK hk
end Go.Ai

namespace Go.Ai
def Dv (g t : List Int) : Prop := ∃ (c : Int) (k : List Int), c ≠ 0 ∧ ∀ x, c * peval t x = peval g x * peval k x
theorem Dv.refl (g : List Int) : Dv g g := ⟨1, [1], by decide, fun x => by simp [peval]⟩
theorem Dv.zero (g : List Int) : Dv g [] := ⟨1, [], by decide, fun x => by simp [peval]⟩
theorem Dv.trans {a b c : List Int} (h1 : Dv a b) (h2 : Dv b c) : Dv a c := by
  obtain ⟨m, k, hm, h⟩ := h1
  obtain ⟨n, l, hn, g⟩ := h2
  refine ⟨m * n, pmul k l, Int.mul_ne_zero hm hn, fun x => ?_⟩
  have h' := h x; have g' := g x
  rw [peval_pmul, Int.mul_assoc, g']
  rw [← Int.mul_assoc, h']
  grind
theorem Dv.comb {g s t r : List Int} {m : Int} (u v : List Int) (hm : m ≠ 0) (h1 : Dv g s) (h2 : Dv g t) (h : ∀ x, m * peval r x = peval u x * peval s x + peval v x * peval t x) : Dv g r := by
  obtain ⟨c, k, hc, hk⟩ := h1
  obtain ⟨d, l, hd, hl⟩ := h2
  refine ⟨c * d * m, padd (psmul d (pmul u k)) (psmul c (pmul v l)), Int.mul_ne_zero (Int.mul_ne_zero hc hd) hm, fun x => ?_⟩
  rw [peval_padd, peval_psmul, peval_psmul, peval_pmul, peval_pmul]
  have a := hk x; have b := hl x; have e := h x
  rw [Int.mul_assoc, e]
  generalize peval s x = s at *
  generalize peval t x = t at *
  generalize peval g x = g at *
  generalize peval k x = k at *
  generalize peval l x = l at *
  generalize peval u x = u at *
  generalize peval v x = v at *
  have e1 : c * d * (u * s + v * t) = d * u * (c * s) + c * v * (d * t) := by grind
  rw [e1, a, b]; grind
theorem Dv.scaled {g s r : List Int} {m n : Int} (hm : m ≠ 0) (h1 : Dv g s) (h : ∀ x, m * peval r x = n * peval s x) : Dv g r :=
  Dv.comb [n] [] hm h1 h1 fun x => by rw [h x]; simp [peval]
theorem Dv.left {g f t : List Int} {m n : Int} (_ : m ≠ 0) (hn : n ≠ 0) (h1 : Dv g t) (h : ∀ x, m * peval f x = n * peval g x) : Dv f t := by
  obtain ⟨c, k, hc, hk⟩ := h1
  refine ⟨n * c, psmul m k, Int.mul_ne_zero hn hc, fun x => ?_⟩
  have a := hk x; have b := h x
  rw [peval_psmul]
  have e1 : n * c * peval t x = n * (c * peval t x) := by grind
  rw [e1, a]
  have e2 : n * (peval g x * peval k x) = (n * peval g x) * peval k x := by grind
  rw [e2, ← b]; grind
theorem Dv.mul_right {g s : List Int} (t : List Int) (h : Dv g s) {r : List Int} (hr : ∀ x, peval r x = peval s x * peval t x) : Dv g r :=
  Dv.comb (m := 1) t [] (by decide) h h fun x => by rw [hr x]; simp [peval]; grind
theorem nonzero_trim {p : List Int} (h : Lead p) (h0 : p ≠ []) : trimL p ≠ [] := by rw [h]; exact h0
theorem pmul_ne {p q : List Int} (hp : trimL p ≠ []) (hq : trimL q ≠ []) : (trimL (pmul p q)).length = (trimL p).length + (trimL q).length - 1 := by
  have e : trimL (pmul p q) = trimL (pmul (trimL p) (trimL q)) := peval_inj fun x => by rw [peval_pmul, peval_pmul, peval_trim, peval_trim]
  rw [e]
  have lp := lead_trim p
  have lq := lead_trim q
  generalize trimL p = P at *
  generalize trimL q = Q at *
  have h1 := List.length_pos_iff.2 hp
  have h2 := List.length_pos_iff.2 hq
  obtain ⟨t1, t2⟩ := pmul_top P Q hp hq
  have t3 : (pmul P Q).getD (P.length + Q.length - 2) 0 ≠ 0 := by rw [t1]; exact Int.mul_ne_zero (lead_top lp hp) (lead_top lq hq)
  rw [pmul_trim]
  have a1 : ¬ (pmul P Q).length ≤ P.length + Q.length - 2 := fun h => t3 (getD_end h)
  have a2 : ¬ P.length + Q.length - 1 < (pmul P Q).length := fun h => by
    have hne : pmul P Q ≠ [] := by intro h0; rw [h0] at h; simp at h
    exact lead_top (show Lead (pmul P Q) from pmul_trim P Q) hne (t2 _ (by omega))
  omega
theorem mul_zero_fn {p q : List Int} (hp : trimL p ≠ []) (h : ∀ x, peval p x * peval q x = 0) : ∀ x, peval q x = 0 := by
  intro x
  by_cases hq : trimL q = []
  · exact peval_zero_of_trim hq x
  · have h1 := pmul_ne hp hq
    have h2 : trimL (pmul p q) = trimL [] := peval_inj fun x => by rw [peval_pmul, h x]; rfl
    rw [h2] at h1
    have := List.length_pos_iff.2 hp
    have := List.length_pos_iff.2 hq
    have h0 : (trimL []).length = 0 := rfl
    rw [h0] at h1
    omega
theorem cancel_fn {p : List Int} (hp : trimL p ≠ []) (q r : List Int) (h : ∀ x, peval p x * peval q x = peval p x * peval r x) : ∀ x, peval q x = peval r x := by
  intro x
  have := mul_zero_fn (q := psub q r) hp (fun x => by rw [peval_psub, Int.mul_sub, h x]; omega) x
  rw [peval_psub] at this
  omega
theorem Dv.length {g t : List Int} (h : Dv g t) (ht : trimL t ≠ []) : (trimL g).length ≤ (trimL t).length ∧ trimL g ≠ [] := by
  obtain ⟨c, k, hc, hk⟩ := h
  have e : trimL (psmul c t) = trimL (pmul g k) := peval_inj fun x => by rw [peval_psmul, peval_pmul]; exact hk x
  rw [trim_psmul hc] at e
  have e2 := congrArg List.length e
  rw [psmul_length] at e2
  have ht1 := List.length_pos_iff.2 ht
  by_cases hg : trimL g = []
  · have : trimL (pmul g k) = trimL [] := peval_inj fun x => by rw [peval_pmul, peval_zero_of_trim hg]; simp [peval]
    have h0 : (trimL []).length = 0 := rfl
    rw [this, h0] at e2
    omega
  · by_cases hk0 : trimL k = []
    · have : trimL (pmul g k) = trimL [] := peval_inj fun x => by rw [peval_pmul, peval_zero_of_trim hk0]; simp [peval]
      have h0 : (trimL []).length = 0 := rfl
      rw [this, h0] at e2
      omega
    · rw [pmul_ne hg hk0] at e2
      have := List.length_pos_iff.2 hk0
      exact ⟨by omega, hg⟩
def IsG (g s t : List Int) : Prop := Dv g s ∧ Dv g t ∧ ∃ (c : Int) (u v : List Int), c ≠ 0 ∧ ∀ x, c * peval g x = peval u x * peval s x + peval v x * peval t x
theorem IsG.comm {g s t : List Int} (h : IsG g s t) : IsG g t s := by
  obtain ⟨a, b, c, u, v, hc, h⟩ := h
  exact ⟨b, a, c, v, u, hc, fun x => by rw [h x]; omega⟩
theorem IsG.dv {g s t f : List Int} (h : IsG g s t) (h1 : Dv f s) (h2 : Dv f t) : Dv f g := by
  obtain ⟨_, _, c, u, v, hc, h⟩ := h
  exact Dv.comb u v hc h1 h2 h
theorem IsG.start (s : List Int) : IsG s s [] := ⟨Dv.refl s, Dv.zero s, 1, [1], [], by decide, fun x => by simp [peval]⟩
theorem IsG.length {f g s t : List Int} (h1 : IsG f s t) (h2 : IsG g s t) (hf : trimL f ≠ []) : (trimL f).length = (trimL g).length := by
  have a := (h1.dv h2.1 h2.2.1).length hf
  have b := (h2.dv h1.1 h1.2.1).length a.2
  omega
theorem IsG.step {g r d e q : List Int} {a m : Int} (ha : a ≠ 0) (hm : m ≠ 0) (hr : ∀ x, a * peval r x = peval q x * peval d x + m * peval e x) (h : IsG g d e) : IsG g r d := by
  obtain ⟨h1, h2, c, u, v, hc, h⟩ := h
  refine ⟨Dv.comb q [m] ha h1 h2 (fun x => by rw [hr x]; simp [peval]), h1, c * m, psmul a v, psub (psmul m u) (pmul v q), Int.mul_ne_zero hc hm, fun x => ?_⟩
  have e1 := hr x; have e2 := h x
  rw [peval_psmul, peval_psub, peval_psmul, peval_pmul]
  generalize peval g x = g at *
  generalize peval d x = d at *
  generalize peval e x = e at *
  generalize peval r x = r at *
  generalize peval q x = q at *
  generalize peval u x = u at *
  generalize peval v x = v at *
  have e3 : c * m * g = m * (c * g) := by grind
  rw [e3, e2]
  have e4 : a * v * r = v * (a * r) := by grind
  rw [e4, e1]; grind
theorem IsG.scaled {g s t s' t' : List Int} {m n k l : Int} (hm : m ≠ 0) (hn : n ≠ 0) (hk : k ≠ 0) (hl : l ≠ 0) (h1 : ∀ x, m * peval s' x = n * peval s x) (h2 : ∀ x, k * peval t' x = l * peval t x) (h : IsG g s t) : IsG g s' t' := by
  obtain ⟨a, b, c, u, v, hc, h⟩ := h
  refine ⟨a.scaled hm h1, b.scaled hk h2, c * (n * l), psmul (m * l) u, psmul (k * n) v, Int.mul_ne_zero hc (Int.mul_ne_zero hn hl), fun x => ?_⟩
  have e1 := h1 x; have e2 := h2 x; have e3 := h x
  rw [peval_psmul, peval_psmul]
  generalize peval g x = g at *
  generalize peval s x = s at *
  generalize peval t x = t at *
  generalize peval s' x = s' at *
  generalize peval t' x = t' at *
  generalize peval u x = u at *
  generalize peval v x = v at *
  have e4 : c * (n * l) * g = n * l * (c * g) := by grind
  rw [e4, e3]
  have e5 : m * l * u * s' = l * u * (m * s') := by grind
  have e6 : k * n * v * t' = n * v * (k * t') := by grind
  rw [e5, e6, e1, e2]; grind
theorem IsG.gscaled {g g' s t : List Int} {m n : Int} (hm : m ≠ 0) (hn : n ≠ 0) (h1 : ∀ x, m * peval g' x = n * peval g x) (h : IsG g s t) : IsG g' s t := by
  obtain ⟨a, b, c, u, v, hc, h⟩ := h
  refine ⟨a.left hm hn h1, b.left hm hn h1, c * m, psmul n u, psmul n v, Int.mul_ne_zero hc hm, fun x => ?_⟩
  have e1 := h1 x; have e2 := h x
  rw [peval_psmul, peval_psmul, Int.mul_assoc, e1]
  have e3 : c * (n * peval g x) = n * (c * peval g x) := by grind
  rw [e3, e2]; grind
theorem IsG.mul {d p q : List Int} (c : List Int) {d' p' q' : List Int} (hd : ∀ x, peval d' x = peval c x * peval d x) (hp : ∀ x, peval p' x = peval c x * peval p x) (hq : ∀ x, peval q' x = peval c x * peval q x) (h : IsG d p q) : IsG d' p' q' := by
  obtain ⟨⟨m, k, hm, hk⟩, ⟨n, l, hn, hl⟩, e, u, v, he, h⟩ := h
  refine ⟨⟨m, k, hm, fun x => ?_⟩, ⟨n, l, hn, fun x => ?_⟩, e, u, v, he, fun x => ?_⟩
  · have := hk x; rw [hd, hp]; grind
  · have := hl x; rw [hd, hq]; grind
  · have := h x; rw [hd, hp, hq]; grind
theorem prim_eval (p : List Int) : ∃ m : Int, m ≠ 0 ∧ ∀ x, peval p x = m * peval (prim p) x := by
  by_cases h : trimL p = []
  · refine ⟨1, by decide, fun x => ?_⟩
    rw [peval_zero_of_trim h, prim_nil.2 (trim_nil.1 h)]; rfl
  · have := cont_pos h
    refine ⟨(cont p : Int), by omega, fun x => ?_⟩
    rw [← peval_psmul, psmul_prim, peval_trim]
theorem pstep_eval {r d : List Int} (hl : d.length ≤ r.length) (ht : top d ≠ 0) : ∃ (a m : Int) (q : List Int), a ≠ 0 ∧ m ≠ 0 ∧ ∀ x, a * peval r x = peval q x * peval d x + m * peval (pstep r d) x := by
  obtain ⟨m, hm, h⟩ := prim_eval (estN r d ((top d).natAbs : Int) (sg (top d) * top r) r.length)
  refine ⟨((top d).natAbs : Int), m, shiftP (r.length - d.length) [sg (top d) * top r], by omega, hm, fun x => ?_⟩
  have h1 := h x
  rw [estN_eval hl] at h1
  have e : peval (pstep r d) x = peval (prim (estN r d ((top d).natAbs : Int) (sg (top d) * top r) r.length)) x := rfl
  rw [e, ← h1, peval_shiftP]
  simp only [peval]
  grind
theorem restN_eval {d : List Int} (ht : top d ≠ 0) : ∀ (f : Nat) (r : List Int), ∃ (a m : Int) (q : List Int), a ≠ 0 ∧ m ≠ 0 ∧ ∀ x, a * peval r x = peval q x * peval d x + m * peval (restN f r d) x := by
  intro f
  induction f with
  | zero => intro r; exact ⟨1, 1, [], by decide, by decide, fun x => by simp [peval, restN]⟩
  | succ f ih =>
    intro r
    simp only [restN]
    split
    · rename_i hl
      obtain ⟨a, m, q, ha, hm, h⟩ := pstep_eval hl ht
      obtain ⟨b, n, s, hb, hn, g⟩ := ih (pstep r d)
      refine ⟨b * a, m * n, padd (psmul b q) (psmul m s), Int.mul_ne_zero hb ha, Int.mul_ne_zero hm hn, fun x => ?_⟩
      have h' := h x; have g' := g x
      rw [peval_padd, peval_psmul, peval_psmul, Int.mul_assoc, h']
      generalize peval (restN f (pstep r d) d) x = z at *
      generalize peval (pstep r d) x = y at *
      have e : b * (peval q x * peval d x + m * y) = b * (peval q x * peval d x) + m * (b * y) := by grind
      rw [e, g']; grind
    · exact ⟨1, 1, [], by decide, by decide, fun x => by simp [peval]⟩
theorem pcomN_isG : ∀ (f : Nat) (x y : List Int), y.length ≤ f → y.length ≤ x.length → Lead x → Lead y → IsG (pcomN f x y) x y := by
  intro f
  induction f with
  | zero =>
    intro x y h1 _ _ _
    have : y = [] := List.eq_nil_of_length_eq_zero (by omega)
    subst this
    exact IsG.start x
  | succ f ih =>
    intro x y h1 h2 lx ly
    simp only [pcomN]
    split
    · rename_i h; subst h; exact IsG.start x
    · rename_i h
      have ht : top y ≠ 0 := lead_top ly h
      obtain ⟨r1, r2, _⟩ := restN_ok h (K := Nat.max 1 (y.map Int.natAbs).sum) (fun i => by
        have h3 : (y.getD i 0).natAbs ≤ (y.map Int.natAbs).sum := by
          clear ht h h1 h2 ly ih
          induction y generalizing i with
          | nil => simp
          | cons c y ih => 
            cases i with
            | zero => simp
            | succ i => have := ih i; simp at this ⊢; omega
        unfold Fits
        have h4 : (y.map Int.natAbs).sum ≤ Nat.max 1 (y.map Int.natAbs).sum := Nat.le_max_right _ _
        exact Nat.lt_of_le_of_lt (Nat.le_trans h3 h4) (Nat.lt_pow_self (by decide))) x.length x (Nat.max 1 (x.map Int.natAbs).sum) (Nat.le_refl _) lx (fun i => by
        have h3 : (x.getD i 0).natAbs ≤ (x.map Int.natAbs).sum := by
          clear ht h h1 h2 lx ih
          induction x generalizing i with
          | nil => simp
          | cons c y ih => 
            cases i with
            | zero => simp
            | succ i => have := ih i; simp at this ⊢; omega
        unfold Fits
        have h4 : (x.map Int.natAbs).sum ≤ Nat.max 1 (x.map Int.natAbs).sum := Nat.le_max_right _ _
        exact Nat.lt_of_le_of_lt (Nat.le_trans h3 h4) (Nat.lt_pow_self (by decide)))
      obtain ⟨a, m, q, ha, hm, e⟩ := restN_eval ht x.length x
      exact IsG.step ha hm e (ih y (prest x y) (by unfold prest; omega) (by unfold prest; omega) ly r1)
def pgcd (x y : List Int) : List Int := if y.length ≤ x.length then pcomN y.length x y else pcomN x.length y x
theorem pgcd_isG {x y : List Int} (lx : Lead x) (ly : Lead y) : IsG (pgcd x y) x y := by
  unfold pgcd
  split
  · exact pcomN_isG _ _ _ (Nat.le_refl _) (by assumption) lx ly
  · exact (pcomN_isG _ _ _ (Nat.le_refl _) (by omega) ly lx).comm
theorem ppos_eval (p : List Int) : ∃ m : Int, m ≠ 0 ∧ ∀ x, peval (ppos p) x = m * peval p x := by
  unfold ppos
  split
  · exact ⟨-1, by decide, fun x => by rw [peval_pneg]; omega⟩
  · exact ⟨1, by decide, fun x => by omega⟩
theorem ppos_length (p : List Int) : (ppos p).length = p.length := by
  unfold ppos; split
  · exact pneg_len p
  · rfl
def pcom (s t : List Int) : List Int := ppos (pgcd (prim s) (prim t))
theorem pcom_isG (s t : List Int) : IsG (pcom s t) s t := by
  have h := pgcd_isG (lead_prim s) (lead_prim t)
  obtain ⟨m, hm, h1⟩ := prim_eval s
  obtain ⟨n, hn, h2⟩ := prim_eval t
  obtain ⟨k, hk, h3⟩ := ppos_eval (pgcd (prim s) (prim t))
  have h4 := h.scaled (s' := s) (t' := t) (m := 1) (n := m) (k := 1) (l := n) (by decide) hm (by decide) hn (fun x => by rw [h1 x]; omega) (fun x => by rw [h2 x]; omega)
  exact h4.gscaled (m := 1) (n := k) (by decide) hk (fun x => by unfold pcom; rw [h3 x]; omega)
theorem lead_pneg {p : List Int} (h : Lead p) : Lead (pneg p) := by
  have e : pneg p = psmul (-1) p := by
    unfold pneg psmul
    apply List.map_congr_left
    intro x _; omega
  rw [e]; exact lead_psmul (by decide) h
theorem lead_ppos {p : List Int} (h : Lead p) : Lead (ppos p) := by
  unfold ppos; split
  · exact lead_pneg h
  · exact h
theorem prim_pcomN : ∀ (f : Nat) (x y : List Int), prim x = x → prim y = y → prim (pcomN f x y) = pcomN f x y := by
  intro f
  induction f with
  | zero => intro x y h _; exact h
  | succ f ih =>
    intro x y hx hy
    simp only [pcomN]
    split
    · exact hx
    · exact ih y _ hy (prim_restN _ _ _ hx)
theorem prim_pgcd {x y : List Int} (hx : prim x = x) (hy : prim y = y) : prim (pgcd x y) = pgcd x y := by
  unfold pgcd; split
  · exact prim_pcomN _ _ _ hx hy
  · exact prim_pcomN _ _ _ hy hx
theorem cont_pneg (p : List Int) : cont (pneg p) = cont p := by
  have e : pneg p = psmul (-1) p := by
    unfold pneg psmul
    apply List.map_congr_left
    intro x _; omega
  rw [e, cont_psmul]; simp
theorem cont_ppos (p : List Int) : cont (ppos p) = cont p := by
  unfold ppos; split
  · exact cont_pneg p
  · rfl
theorem lead_pcom (s t : List Int) : Lead (pcom s t) := lead_ppos (lead_of_prim (prim_pgcd (prim_prim s) (prim_prim t)))
theorem prim_of_cont {p : List Int} (h : Lead p) (hc : cont p = 1) : prim p = p := by rw [prim_one hc]; exact h
theorem pcom_ne {s t : List Int} (h : trimL s ≠ []) : pcom s t ≠ [] := by
  have := ((pcom_isG s t).1.length h).2
  intro h0; rw [h0] at this; exact this rfl
theorem cont_pcom {s t : List Int} (h : trimL s ≠ []) : cont (pcom s t) = 1 := by
  have h1 := pcom_ne (t := t) h
  unfold pcom at *
  rw [cont_ppos]
  have h2 : pgcd (prim s) (prim t) ≠ [] := by
    intro h0; rw [h0] at h1; exact h1 rfl
  have h3 := prim_pgcd (prim_prim s) (prim_prim t)
  rw [← h3]
  exact cont_prim (by rw [lead_of_prim h3]; exact h2)
theorem top_ppos {p : List Int} (h : Lead p) (h0 : p ≠ []) : 0 < top (ppos p) := by
  have h1 := lead_top h h0
  unfold ppos; split
  · rename_i hn
    unfold top at *
    rw [pneg_len, getD_pneg]; omega
  · rename_i hn
    unfold top at *; omega
theorem top_pcom {s t : List Int} (h : trimL s ≠ []) : 0 < top (pcom s t) := by
  have h1 := pcom_ne (t := t) h
  unfold pcom at *
  refine top_ppos (lead_of_prim (prim_pgcd (prim_prim s) (prim_prim t))) ?_
  intro h0; rw [h0] at h1; exact h1 rfl
theorem kb_pcom {s t : List Int} {K : Nat} (h : trimL s ≠ []) (hl : s.length ≤ 9) (hK : Kb K s) : Kb (K + 3) (pcom s t) ∧ (pcom s t).length ≤ (trimL s).length := by
  have hg := (pcom_isG s t).1
  have h1 := (hg.length h).1
  have hle := lead_pcom s t
  rw [hle] at h1
  obtain ⟨c, k, hc, hk⟩ := hg
  have := trim_len s
  exact ⟨gauss_small hc (cont_pcom h) h hl (by omega) hK hk, h1⟩
end Go.Ai
