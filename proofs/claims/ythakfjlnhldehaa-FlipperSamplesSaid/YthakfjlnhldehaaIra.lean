/- Functions of the seat in the intermediate language, printed by a program out of the translation, and that each is the program's own. -/
import Derived.Test.YthakfjlnhldehaaProg
import Derived.Test.YthakfjlnhldehaaAbs14
import Derived.KernelRfl
namespace Go.Proofs.Ythakfjlnhldehaa
open Go.Ai
set_option maxRecDepth 100000

/- pinball/pinballlaw12.ArcMirror -/
def Try.i3 : IFunc := ⟨3, 107, [.tmp 6],
  .seq (.region false [o1 3 (.box (.t 0) []),
   o1 4 (.box (.t 1) [14, 19, 25]),
   o1 6 (.mov (.c (.bool false)))])
  (.seq (.seq (.region false [oC 12 11 [],
   o1 13 (.un .not (.t 12))])
  (.cond (.t 13) (.seq (.region false [o1 6 (.mov (.c (.bool false)))])
  (.ret))
  (.skip)))
  (.seq (.seq (.region false [o1 14 (.adr 4 4 2),
   o1 15 (.ld 14 4 2 false),
   oC 16 12 [15],
   o1 17 (.un .not (.t 16)),
   oM 18 17,
   oG 19 (.adr 4 4 4) 18 false,
   oG 20 (.ld 19 4 2 false) 18 false,
   oG 21 (.call 12 [.t 20]) 18 false,
   oG 22 (.un .not (.t 21)) 18 false,
   o1 23 (.pick (.t 18) (.c (.bool true)) (.t 22)),
   oM 24 23,
   oG 25 (.adr 4 4 6) 24 false,
   oG 26 (.ld 25 4 2 false) 24 false,
   oG 27 (.call 12 [.t 26]) 24 false,
   oG 28 (.un .not (.t 27)) 24 false,
   o1 29 (.pick (.t 24) (.c (.bool true)) (.t 28)),
   oM 30 29,
   oG 31 (.ld 3 3 2 false) 30 false,
   oG 32 (.call 12 [.t 31]) 30 false,
   oG 33 (.un .not (.t 32)) 30 false,
   o1 34 (.pick (.t 30) (.c (.bool true)) (.t 33))])
  (.cond (.t 34) (.seq (.region false [oC 35 11 [],
   oM 6 35])
  (.ret))
  (.skip)))
  (.seq (.region false [o1 36 (.ld 4 4 12 false),
   oC 37 13 [36],
   o1 7 (.new [.str ByteArray.empty, .int .i64 0, .int .i64 0, .int .i64 0, .int .i64 0, .int .i64 0, .int .i64 0, .int .i64 0, .int .i64 0, .int .i64 0, .int .i64 0, .int .i64 0] []),
   oN (.st 7 7 12 (.t 37))])
  (.seq (.region false [o1 39 (.ld 4 4 12 false),
   oC 40 14 [39],
   oM 38 40,
   o1 41 (.ext (.t 38) 0),
   o1 42 (.ext (.t 38) 1),
   oM 8 41,
   oM 9 42])
  (.seq (.region false [o1 44 (.ld 7 7 12 false),
   oC 45 14 [44],
   oM 43 45,
   o1 46 (.ext (.t 43) 0),
   o1 47 (.ext (.t 43) 1),
   oM 10 46,
   oM 11 47])
  (.seq (.seq (.region true [oM 48 8,
   oM 49 10,
   oB 50 .neq 48 49,
   oM 51 50,
   oG 52 (.mov (.t 9)) 51 false,
   oG 53 (.mov (.t 11)) 51 false,
   oG 54 (.eqb true (.t 52) (.t 53)) 51 false,
   o1 55 (.pick (.t 51) (.c (.bool true)) (.t 54)),
   oM 56 55,
   oG 57 (.ld 7 7 12 false) 56 false,
   oG 58 (.ld 3 3 2 false) 56 false,
   oG 59 (.call 16 [.t 58]) 56 false,
   oG 60 (.call 15 [.t 57, .t 59]) 56 false,
   oG 61 (.ld 4 4 12 false) 56 false,
   oG 62 (.ld 3 3 2 false) 56 false,
   oG 63 (.call 15 [.t 61, .t 62]) 56 false,
   oG 64 (.eqb true (.t 60) (.t 63)) 56 false,
   o1 65 (.pick (.t 56) (.c (.bool true)) (.t 64)),
   oM 66 65,
   oG 67 (.ld 3 3 2 false) 66 false,
   oG 68 (.call 16 [.t 67]) 66 false,
   oG 69 (.ld 7 7 12 false) 66 false,
   oG 70 (.call 17 [.t 68, .t 69]) 66 false,
   oG 71 (.ld 3 3 2 false) 66 false,
   oG 72 (.ld 4 4 12 false) 66 false,
   oG 73 (.call 17 [.t 71, .t 72]) 66 false,
   oG 74 (.call 16 [.t 73]) 66 false,
   oG 75 (.eqv true 2 (.t 70) (.t 74)) 66 false,
   o1 76 (.pick (.t 66) (.c (.bool true)) (.t 75)),
   oM 77 76,
   oG 78 (.ld 3 3 2 false) 77 false,
   oG 79 (.call 16 [.t 78]) 77 false,
   oG 80 (.ld 7 7 12 false) 77 false,
   oG 81 (.mov (.t 2)) 77 false,
   oG 82 (.call 18 [.t 79, .t 80, .t 81]) 77 false,
   oG 83 (.ld 3 3 2 false) 77 false,
   oG 84 (.ld 4 4 12 false) 77 false,
   oG 85 (.mov (.t 2)) 77 false,
   oG 86 (.call 18 [.t 83, .t 84, .t 85]) 77 false,
   oG 87 (.eqb true (.t 82) (.t 86)) 77 false,
   o1 88 (.pick (.t 77) (.c (.bool true)) (.t 87))])
  (.cond (.t 88) (.seq (.region false [o1 6 (.mov (.c (.bool false)))])
  (.ret))
  (.skip)))
  (.seq (.region false [o1 89 (.ld 3 3 2 false),
   o1 90 (.ld 4 4 12 false),
   oM 91 2,
   oC 92 18 [89, 90, 91],
   o1 93 (.un .not (.t 92)),
   oM 94 93,
   oG 95 (.mov (.t 2)) 94 false,
   oG 96 (.bin .add (.t 95) (.c (.int .i64 1))) 94 false,
   oG 97 (.mov (.t 8)) 94 false,
   oG 98 (.bin .geq (.t 96) (.t 97)) 94 false,
   o1 99 (.pick (.t 94) (.c (.bool true)) (.t 98)),
   oM 100 99,
   oG 101 (.ld 3 3 2 false) 100 false,
   oG 102 (.ld 4 4 12 false) 100 false,
   oG 103 (.mov (.t 2)) 100 false,
   oG 104 (.bin .add (.t 103) (.c (.int .i64 1))) 100 false,
   oG 105 (.call 18 [.t 101, .t 102, .t 104]) 100 false,
   o1 106 (.pick (.t 100) (.c (.bool true)) (.t 105)),
   oM 6 106])
  (.ret))))))))⟩
def Try.r3 : List (Nat × Nat) := [(14, 4), (19, 4), (25, 4)]
theorem Try.i3_ok : fnOk Try.prog Try.r3 Try.f3 Try.i3 = true := by kernel_rfl

/- pinball/pinballlaw12.ArcCircle -/
def Try.i4 : IFunc := ⟨3, 97, [.tmp 6],
  .seq (.region false [o1 3 (.box (.t 0) [64, 66, 69, 71]),
   o1 6 (.mov (.c (.bool false)))])
  (.seq (.seq (.region false [oC 11 11 [],
   o1 12 (.un .not (.t 11))])
  (.cond (.t 12) (.seq (.region false [o1 6 (.mov (.c (.bool false)))])
  (.ret))
  (.skip)))
  (.seq (.seq (.region false [oM 13 1,
   o1 14 (.bin .lss (.t 13) (.c (.int .i64 2))),
   oM 15 14,
   oG 16 (.mov (.t 1)) 15 false,
   oG 17 (.bin .gtr (.t 16) (.c (.int .i64 32768))) 15 false,
   o1 18 (.pick (.t 15) (.c (.bool true)) (.t 17)),
   oM 19 18,
   oG 20 (.mov (.t 2)) 19 false,
   oG 21 (.bin .lss (.t 20) (.c (.int .i64 1))) 19 false,
   o1 22 (.pick (.t 19) (.c (.bool true)) (.t 21)),
   oM 23 22,
   oG 24 (.mov (.t 2)) 23 false,
   oG 25 (.mov (.t 1)) 23 false,
   oG 26 (.bin .geq (.t 24) (.t 25)) 23 false,
   o1 27 (.pick (.t 23) (.c (.bool true)) (.t 26)),
   oM 28 27,
   oG 29 (.ld 3 3 2 false) 28 false,
   oG 30 (.call 12 [.t 29]) 28 false,
   oG 31 (.un .not (.t 30)) 28 false,
   o1 32 (.pick (.t 28) (.c (.bool true)) (.t 31))])
  (.cond (.t 32) (.seq (.region false [oC 33 11 [],
   oM 6 33])
  (.ret))
  (.skip)))
  (.seq (.region false [oM 34 1,
   o1 35 (.bld [.int .i64 0, .int .i64 0] [(0, 1, .t 34)]),
   oM 36 1,
   o1 37 (.bld [.int .i64 0, .int .i64 0] [(1, 1, .t 36)]),
   oM 38 1,
   o1 39 (.un .neg (.t 38)),
   o1 40 (.bld [.int .i64 0, .int .i64 0] [(0, 1, .t 39)]),
   oM 41 1,
   o1 42 (.un .neg (.t 41)),
   o1 43 (.bld [.int .i64 0, .int .i64 0] [(1, 1, .t 42)]),
   o1 44 (.bld [.int .i64 0, .int .i64 0, .int .i64 0, .int .i64 0, .int .i64 0, .int .i64 0, .int .i64 0, .int .i64 0] [(0, 2, .t 35), (2, 2, .t 37), (4, 2, .t 40), (6, 2, .t 43)]),
   o1 7 (.new [.int .i64 0, .int .i64 0, .int .i64 0, .int .i64 0, .int .i64 0, .int .i64 0, .int .i64 0, .int .i64 0] [53, 58]),
   oN (.st 7 7 8 (.t 44))])
  (.seq (.region false [o1 8 (.mov (.c (.bool false)))])
  (.seq (.seq (.region false [o1 9 (.mov (.c (.int .i64 0)))])
  (.block 0 (.loop (.seq (.seq (.region false [oM 45 9,
   o1 46 (.bin .lss (.t 45) (.c (.int .i64 4)))])
  (.cond (.t 46) (.skip)
  (.exit 0)))
  (.seq (.block 1 (.region true [oM 49 8,
   oM 50 49,
   oG 51 (.ld 3 3 2 false) 50 false,
   oG 52 (.mov (.t 9)) 50 false,
   oG 53 (.ixb 7 (.t 52) 4 2) 50 false,
   oG 54 (.ld 53 7 2 false) 50 false,
   oG 55 (.mov (.t 9)) 50 false,
   oG 56 (.bin .add (.t 55) (.c (.int .i64 1))) 50 false,
   oG 57 (.bin .rem (.t 56) (.c (.int .i64 4))) 50 false,
   oG 58 (.ixb 7 (.t 57) 4 2) 50 false,
   oG 59 (.ld 58 7 2 false) 50 false,
   oG 60 (.bld [.str ByteArray.empty, .int .i64 0, .int .i64 0, .int .i64 0, .int .i64 0, .int .i64 0, .int .i64 0, .int .i64 0, .int .i64 0, .int .i64 0, .int .i64 0, .int .i64 0] [(4, 2, .t 54), (6, 2, .t 59)]) 50 false,
   oG 61 (.mov (.t 2)) 50 false,
   oG 62 (.call 18 [.t 51, .t 60, .t 61]) 50 false,
   o1 63 (.pick (.t 50) (.c (.bool true)) (.t 62)),
   oM 8 63]))
  (.region false [oM 47 9,
   o1 48 (.bin .add (.t 47) (.c (.int .i64 1))),
   oM 9 48]))))))
  (.seq (.region false [o1 64 (.adr 3 3 0),
   o1 65 (.ld 64 3 1 true),
   o1 66 (.adr 3 3 0),
   o1 67 (.ld 66 3 1 true),
   oB 68 .mul 65 67,
   o1 69 (.adr 3 3 1),
   o1 70 (.ld 69 3 1 true),
   o1 71 (.adr 3 3 1),
   o1 72 (.ld 71 3 1 true),
   oB 73 .mul 70 72,
   oB 74 .add 68 73,
   oM 10 74])
  (.seq (.region false [oM 75 8,
   oM 76 10,
   oM 77 1,
   oM 78 2,
   oB 79 .add 77 78,
   oM 80 1,
   oM 81 2,
   oB 82 .add 80 81,
   oB 83 .mul 79 82,
   oB 84 .lss 76 83,
   oM 85 84,
   oG 86 (.mov (.t 10)) 85 true,
   oG 87 (.mov (.t 1)) 85 true,
   oG 88 (.mov (.t 2)) 85 true,
   oG 89 (.bin .sub (.t 87) (.t 88)) 85 true,
   oG 90 (.mov (.t 1)) 85 true,
   oG 91 (.mov (.t 2)) 85 true,
   oG 92 (.bin .sub (.t 90) (.t 91)) 85 true,
   oG 93 (.bin .mul (.t 89) (.t 92)) 85 true,
   oG 94 (.bin .gtr (.t 86) (.t 93)) 85 true,
   o1 95 (.pick (.t 85) (.t 94) (.c (.bool false))),
   o1 96 (.eqb false (.t 75) (.t 95)),
   oM 6 96])
  (.ret))))))))⟩
def Try.r4 : List (Nat × Nat) := [(53, 7), (58, 7), (64, 3), (66, 3), (69, 3), (71, 3)]
theorem Try.i4_ok : fnOk Try.prog Try.r4 Try.f4 Try.i4 = true := by kernel_rfl

/- pinball/pinballlaw13.FlipperSteps -/
def Try.i5 : IFunc := ⟨3, 79, [.tmp 6],
  .seq (.region false [o1 3 (.box (.t 0) []),
   o1 6 (.mov (.c (.bool false)))])
  (.seq (.seq (.region false [oC 15 19 [],
   o1 16 (.un .not (.t 15))])
  (.cond (.t 16) (.seq (.region false [o1 6 (.mov (.c (.bool false)))])
  (.ret))
  (.skip)))
  (.seq (.seq (.region false [oM 17 1,
   o1 18 (.len (.t 17)),
   o1 19 (.bin .lss (.t 18) (.c (.int .i64 2)))])
  (.cond (.t 19) (.seq (.region false [oC 20 19 [],
   oM 6 20])
  (.ret))
  (.skip)))
  (.seq (.region true [o1 22 (.ld 3 3 15 false),
   oM 23 1,
   o1 24 (.ixa 23 (.c (.int .i64 0)) 1),
   o1 25 (.ld 24 24 1 true),
   oM 26 1,
   o1 27 (.ixa 26 (.c (.int .i64 1)) 1),
   o1 28 (.ld 27 27 1 true),
   oM 29 2,
   oC 30 20 [22, 25, 28, 29],
   oM 21 30,
   o1 31 (.ext (.t 21) 0),
   o1 32 (.ext (.t 21) 1),
   oM 7 31,
   oM 8 32])
  (.seq (.region true [o1 34 (.ld 3 3 15 false),
   oM 35 1,
   o1 36 (.ixa 35 (.c (.int .i64 0)) 1),
   o1 37 (.ld 36 36 1 true),
   oM 38 1,
   o1 39 (.ixa 38 (.c (.int .i64 1)) 1),
   o1 40 (.ld 39 39 1 true),
   oM 41 2,
   oC 42 21 [34, 37, 40, 41],
   oM 33 42,
   o1 43 (.ext (.t 33) 0),
   o1 44 (.ext (.t 33) 1),
   oM 9 43,
   oM 10 44])
  (.seq (.region true [o1 46 (.ld 3 3 15 false),
   oM 47 1,
   o1 48 (.ixa 47 (.c (.int .i64 0)) 1),
   o1 49 (.ld 48 48 1 true),
   oC 50 22 [46, 49],
   oM 45 50,
   o1 51 (.ext (.t 45) 0),
   o1 52 (.ext (.t 45) 1),
   o1 11 (.new [.int .i64 0, .int .i64 0] []),
   oN (.st 11 11 2 (.t 51)),
   oM 12 52])
  (.seq (.region true [o1 54 (.ld 3 3 15 false),
   oM 55 1,
   o1 56 (.ixa 55 (.c (.int .i64 0)) 1),
   o1 57 (.ld 56 56 1 true),
   oC 58 23 [54, 57],
   oM 53 58,
   o1 59 (.ext (.t 53) 0),
   o1 60 (.ext (.t 53) 1),
   o1 13 (.new [.int .i64 0, .int .i64 0] []),
   oN (.st 13 13 2 (.t 59)),
   oM 14 60])
  (.seq (.region false [oM 61 7,
   oM 62 9,
   oB 63 .eql 61 62,
   oM 64 63,
   oG 65 (.mov (.t 8)) 64 true,
   oG 66 (.mov (.t 10)) 64 true,
   oG 67 (.bin .eql (.t 65) (.t 66)) 64 true,
   o1 68 (.pick (.t 64) (.t 67) (.c (.bool false))),
   oM 69 68,
   oG 70 (.ld 11 11 2 false) 69 true,
   oG 71 (.ld 13 13 2 false) 69 true,
   oG 72 (.eqv false 2 (.t 70) (.t 71)) 69 true,
   o1 73 (.pick (.t 69) (.t 72) (.c (.bool false))),
   oM 74 73,
   oG 75 (.mov (.t 12)) 74 true,
   oG 76 (.mov (.t 14)) 74 true,
   oG 77 (.bin .eql (.t 75) (.t 76)) 74 true,
   o1 78 (.pick (.t 74) (.t 77) (.c (.bool false))),
   oM 6 78])
  (.ret))))))))⟩
def Try.r5 : List (Nat × Nat) := []
theorem Try.i5_ok : fnOk Try.prog Try.r5 Try.f5 Try.i5 = true := by kernel_rfl

/- pinball/pinballlaw13.FlipperRuns -/
def Try.i6 : IFunc := ⟨2, 108, [.tmp 4],
  .seq (.region false [o1 2 (.box (.t 0) [23, 43, 48, 54, 61, 90, 105]),
   o1 4 (.mov (.c (.bool false)))])
  (.seq (.seq (.region false [oC 12 19 [],
   o1 13 (.un .not (.t 12))])
  (.cond (.t 13) (.seq (.region false [o1 4 (.mov (.c (.bool false)))])
  (.ret))
  (.skip)))
  (.seq (.seq (.region false [o1 14 (.ld 2 2 15 false),
   oC 15 24 [14],
   o1 16 (.un .not (.t 15)),
   oM 17 16,
   oG 18 (.mov (.t 1)) 17 false,
   oG 19 (.len (.t 18)) 17 false,
   oG 20 (.bin .gtr (.t 19) (.c (.int .i64 400))) 17 false,
   o1 21 (.pick (.t 17) (.c (.bool true)) (.t 20))])
  (.cond (.t 21) (.seq (.region false [oC 22 19 [],
   oM 4 22])
  (.ret))
  (.skip)))
  (.seq (.region false [o1 23 (.adr 2 2 6),
   o1 24 (.ld 23 2 1 true),
   oM 5 24,
   o1 6 (.mov (.c (.int .i64 0)))])
  (.seq (.seq (.region false [o1 7 (.mov (.c (.int .i64 0)))])
  (.block 0 (.loop (.seq (.seq (.region false [oM 25 7,
   oM 26 1,
   o1 27 (.len (.t 26)),
   oB 28 .lss 25 27])
  (.cond (.t 28) (.skip)
  (.exit 0)))
  (.seq (.block 1 (.seq (.region true [o1 32 (.ld 2 2 15 false),
   oM 33 5,
   oM 34 6,
   oM 35 1,
   oM 36 7,
   o1 37 (.ixa 35 (.t 36) 1),
   o1 38 (.ld 37 37 1 true),
   oC 39 20 [32, 33, 34, 38],
   oM 31 39,
   o1 40 (.ext (.t 31) 0),
   o1 41 (.ext (.t 31) 1),
   oM 8 40,
   oM 9 41])
  (.seq (.seq (.region false [oM 42 8,
   o1 43 (.adr 2 2 6),
   o1 44 (.ld 43 2 1 true),
   oB 45 .lss 42 44,
   oM 46 45,
   oG 47 (.mov (.t 8)) 46 false,
   oG 48 (.adr 2 2 7) 46 false,
   oG 49 (.ld 48 2 1 true) 46 false,
   oG 50 (.bin .gtr (.t 47) (.t 49)) 46 false,
   o1 51 (.pick (.t 46) (.c (.bool true)) (.t 50)),
   oM 52 51,
   oG 53 (.mov (.t 9)) 52 false,
   oG 54 (.adr 2 2 10) 52 false,
   oG 55 (.ld 54 2 1 true) 52 false,
   oG 56 (.un .neg (.t 55)) 52 false,
   oG 57 (.bin .lss (.t 53) (.t 56)) 52 false,
   o1 58 (.pick (.t 52) (.c (.bool true)) (.t 57)),
   oM 59 58,
   oG 60 (.mov (.t 9)) 59 false,
   oG 61 (.adr 2 2 10) 59 false,
   oG 62 (.ld 61 2 1 true) 59 false,
   oG 63 (.bin .gtr (.t 60) (.t 62)) 59 false,
   o1 64 (.pick (.t 59) (.c (.bool true)) (.t 63)),
   oM 65 64,
   oG 66 (.mov (.t 9)) 65 false,
   oG 67 (.bin .neq (.t 66) (.c (.int .i64 0))) 65 false,
   oG 68 (.mov (.t 67)) 65 false,
   oG 69 (.mov (.t 8)) 68 true,
   oG 70 (.mov (.t 5)) 68 true,
   oG 71 (.mov (.t 9)) 68 true,
   oG 72 (.bin .add (.t 70) (.t 71)) 68 true,
   oG 73 (.bin .neq (.t 69) (.t 72)) 68 true,
   oG 74 (.pick (.t 68) (.t 73) (.c (.bool false))) 65 false,
   o1 75 (.pick (.t 65) (.c (.bool true)) (.t 74))])
  (.cond (.t 75) (.seq (.region false [o1 4 (.mov (.c (.bool false)))])
  (.ret))
  (.skip)))
  (.region false [oM 76 8,
   oM 77 9,
   oM 5 76,
   oM 6 77]))))
  (.region false [oM 29 7,
   o1 30 (.bin .add (.t 29) (.c (.int .i64 1))),
   oM 7 30]))))))
  (.seq (.seq (.region false [o1 10 (.mov (.c (.int .i64 0)))])
  (.block 2 (.loop (.seq (.seq (.region false [oM 78 10,
   o1 79 (.bin .lss (.t 78) (.c (.int .i64 700)))])
  (.cond (.t 79) (.skip)
  (.exit 2)))
  (.seq (.block 3 (.region false [o1 83 (.ld 2 2 15 false),
   oM 84 5,
   oM 85 6,
   o1 86 (.call 20 [.t 83, .t 84, .t 85, .c (.bool true)]),
   oM 82 86,
   o1 87 (.ext (.t 82) 0),
   o1 88 (.ext (.t 82) 1),
   oM 5 87,
   oM 6 88]))
  (.region false [oM 80 10,
   o1 81 (.bin .add (.t 80) (.c (.int .i64 1))),
   oM 10 81]))))))
  (.seq (.seq (.region false [oM 89 5,
   o1 90 (.adr 2 2 7),
   o1 91 (.ld 90 2 1 true),
   oB 92 .neq 89 91])
  (.cond (.t 92) (.seq (.region false [o1 4 (.mov (.c (.bool false)))])
  (.ret))
  (.skip)))
  (.seq (.seq (.region false [o1 11 (.mov (.c (.int .i64 0)))])
  (.block 4 (.loop (.seq (.seq (.region false [oM 93 11,
   o1 94 (.bin .lss (.t 93) (.c (.int .i64 700)))])
  (.cond (.t 94) (.skip)
  (.exit 4)))
  (.seq (.block 5 (.region false [o1 98 (.ld 2 2 15 false),
   oM 99 5,
   oM 100 6,
   o1 101 (.call 20 [.t 98, .t 99, .t 100, .c (.bool false)]),
   oM 97 101,
   o1 102 (.ext (.t 97) 0),
   o1 103 (.ext (.t 97) 1),
   oM 5 102,
   oM 6 103]))
  (.region false [oM 95 11,
   o1 96 (.bin .add (.t 95) (.c (.int .i64 1))),
   oM 11 96]))))))
  (.seq (.region false [oM 104 5,
   o1 105 (.adr 2 2 6),
   o1 106 (.ld 105 2 1 true),
   oB 107 .eql 104 106,
   oM 4 107])
  (.ret)))))))))⟩
def Try.r6 : List (Nat × Nat) := [(23, 2), (43, 2), (48, 2), (54, 2), (61, 2), (90, 2), (105, 2)]
theorem Try.i6_ok : fnOk Try.prog Try.r6 Try.f6 Try.i6 = true := by kernel_rfl

/- pinball/pinballlaw13.FlipperLead -/
def Try.i7 : IFunc := ⟨2, 154, [.tmp 4],
  .seq (.region false [o1 2 (.box (.t 0) [16, 21, 27, 33, 35, 41, 43, 54, 55, 60, 61, 67, 69, 75, 77, 98, 100, 102, 123, 125]),
   o1 4 (.mov (.c (.bool false)))])
  (.seq (.seq (.region false [oC 14 19 [],
   o1 15 (.un .not (.t 14))])
  (.cond (.t 15) (.seq (.region false [o1 4 (.mov (.c (.bool false)))])
  (.ret))
  (.skip)))
  (.seq (.seq (.region false [o1 16 (.adr 2 2 0),
   o1 17 (.ld 16 2 15 false),
   oC 18 24 [17],
   o1 19 (.un .not (.t 18)),
   oM 20 19,
   oG 21 (.adr 2 2 15) 20 false,
   oG 22 (.ld 21 2 1 true) 20 false,
   oG 23 (.call 25 [.t 22]) 20 false,
   oG 24 (.un .not (.t 23)) 20 false,
   o1 25 (.pick (.t 20) (.c (.bool true)) (.t 24)),
   oM 26 25,
   oG 27 (.adr 2 2 16) 26 false,
   oG 28 (.ld 27 2 1 true) 26 false,
   oG 29 (.call 25 [.t 28]) 26 false,
   oG 30 (.un .not (.t 29)) 26 false,
   o1 31 (.pick (.t 26) (.c (.bool true)) (.t 30)),
   oM 32 31,
   oG 33 (.adr 2 2 16) 32 false,
   oG 34 (.ld 33 2 1 true) 32 false,
   oG 35 (.adr 2 2 15) 32 false,
   oG 36 (.ld 35 2 1 true) 32 false,
   oG 37 (.bin .sub (.t 34) (.t 36)) 32 false,
   oG 38 (.bin .gtr (.t 37) (.c (.int .i64 64))) 32 false,
   o1 39 (.pick (.t 32) (.c (.bool true)) (.t 38)),
   oM 40 39,
   oG 41 (.adr 2 2 15) 40 false,
   oG 42 (.ld 41 2 1 true) 40 false,
   oG 43 (.adr 2 2 16) 40 false,
   oG 44 (.ld 43 2 1 true) 40 false,
   oG 45 (.bin .sub (.t 42) (.t 44)) 40 false,
   oG 46 (.bin .gtr (.t 45) (.c (.int .i64 64))) 40 false,
   o1 47 (.pick (.t 40) (.c (.bool true)) (.t 46)),
   oM 48 47,
   oG 49 (.mov (.t 1)) 48 false,
   oG 50 (.bin .lss (.t 49) (.c (.int .i64 200))) 48 false,
   o1 51 (.pick (.t 48) (.c (.bool true)) (.t 50)),
   oM 52 51,
   oG 53 (.mov (.t 1)) 52 false,
   oG 54 (.adr 2 2 0) 52 false,
   oG 55 (.adr 54 2 4) 52 false,
   oG 56 (.ld 55 2 1 true) 52 false,
   oG 57 (.bin .gtr (.t 53) (.t 56)) 52 false,
   o1 58 (.pick (.t 52) (.c (.bool true)) (.t 57)),
   oM 59 58,
   oG 60 (.adr 2 2 0) 59 false,
   oG 61 (.adr 60 2 4) 59 false,
   oG 62 (.ld 61 2 1 true) 59 false,
   oG 63 (.bin .gtr (.t 62) (.c (.int .i64 32768))) 59 false,
   o1 64 (.pick (.t 59) (.c (.bool true)) (.t 63))])
  (.cond (.t 64) (.seq (.region false [oC 65 19 [],
   oM 4 65])
  (.ret))
  (.skip)))
  (.seq (.region false [o1 67 (.adr 2 2 0),
   o1 68 (.ld 67 2 15 false),
   o1 69 (.adr 2 2 15),
   o1 70 (.ld 69 2 1 true),
   oC 71 22 [68, 70],
   oM 66 71,
   o1 72 (.ext (.t 66) 0),
   o1 73 (.ext (.t 66) 1),
   o1 5 (.new [.int .i64 0, .int .i64 0] [84, 91]),
   oN (.st 5 5 2 (.t 72)),
   oM 6 73])
  (.seq (.region false [o1 75 (.adr 2 2 0),
   o1 76 (.ld 75 2 15 false),
   o1 77 (.adr 2 2 16),
   o1 78 (.ld 77 2 1 true),
   oC 79 22 [76, 78],
   oM 74 79,
   o1 80 (.ext (.t 74) 0),
   o1 81 (.ext (.t 74) 1),
   o1 7 (.new [.int .i64 0, .int .i64 0] [110, 116]),
   oN (.st 7 7 2 (.t 80)),
   oM 8 81])
  (.seq (.region true [oM 82 1,
   o1 83 (.bin .mul (.c (.int .i64 256)) (.t 82)),
   o1 84 (.adr 5 5 0),
   o1 85 (.ld 84 5 1 true),
   oB 86 .mul 83 85,
   oM 87 6,
   oB 88 .quo 86 87,
   oM 89 1,
   o1 90 (.bin .mul (.c (.int .i64 256)) (.t 89)),
   o1 91 (.adr 5 5 1),
   o1 92 (.ld 91 5 1 true),
   oB 93 .mul 90 92,
   oM 94 6,
   oB 95 .quo 93 94,
   o1 96 (.bld [.int .i64 0, .int .i64 0] [(0, 1, .t 88), (1, 1, .t 95)]),
   o1 9 (.new [.int .i64 0, .int .i64 0] []),
   oN (.st 9 9 2 (.t 96))])
  (.seq (.region false [o1 97 (.ld 9 9 2 false),
   o1 98 (.adr 2 2 0),
   o1 99 (.ld 98 2 15 false),
   o1 100 (.adr 2 2 15),
   o1 101 (.ld 100 2 1 true),
   o1 102 (.adr 2 2 16),
   o1 103 (.ld 102 2 1 true),
   oC 104 26 [97, 99, 101, 103],
   o1 10 (.new [.int .i64 0, .int .i64 0] []),
   oN (.st 10 10 2 (.t 104))])
  (.seq (.region false [o1 105 (.ld 5 5 2 false),
   o1 106 (.ld 10 10 2 false),
   oC 107 27 [105, 106],
   oM 11 107])
  (.seq (.region true [o1 108 (.ld 5 5 2 false),
   oM 109 1,
   o1 110 (.adr 7 7 0),
   o1 111 (.ld 110 7 1 true),
   oB 112 .mul 109 111,
   oM 113 8,
   oB 114 .quo 112 113,
   oM 115 1,
   o1 116 (.adr 7 7 1),
   o1 117 (.ld 116 7 1 true),
   oB 118 .mul 115 117,
   oM 119 8,
   oB 120 .quo 118 119,
   o1 121 (.bld [.int .i64 0, .int .i64 0] [(0, 1, .t 114), (1, 1, .t 120)]),
   oC 122 27 [108, 121],
   oM 12 122])
  (.seq (.seq (.region false [o1 123 (.adr 2 2 16),
   o1 124 (.ld 123 2 1 true),
   o1 125 (.adr 2 2 15),
   o1 126 (.ld 125 2 1 true),
   oB 127 .eql 124 126])
  (.cond (.t 127) (.seq (.region false [oM 128 11,
   o1 129 (.bin .eql (.t 128) (.c (.int .i64 0))),
   oM 4 129])
  (.ret))
  (.skip)))
  (.seq (.region false [oM 130 6,
   o1 131 (.bin .mul (.c (.int .i64 6)) (.t 130)),
   oM 13 131])
  (.seq (.region false [oM 132 11,
   oM 133 12,
   oM 134 13,
   oB 135 .sub 133 134,
   oB 136 .geq 132 135,
   oM 137 136,
   oG 138 (.mov (.t 12)) 137 true,
   oG 139 (.bin .geq (.t 138) (.c (.int .i64 0))) 137 true,
   o1 140 (.pick (.t 137) (.t 139) (.c (.bool false))),
   oM 141 140,
   oG 142 (.mov (.t 11)) 141 false,
   oG 143 (.un .neg (.t 142)) 141 false,
   oG 144 (.mov (.t 12)) 141 false,
   oG 145 (.un .neg (.t 144)) 141 false,
   oG 146 (.mov (.t 13)) 141 false,
   oG 147 (.bin .sub (.t 145) (.t 146)) 141 false,
   oG 148 (.bin .geq (.t 143) (.t 147)) 141 false,
   oG 149 (.mov (.t 148)) 141 false,
   oG 150 (.mov (.t 12)) 149 true,
   oG 151 (.bin .leq (.t 150) (.c (.int .i64 0))) 149 true,
   oG 152 (.pick (.t 149) (.t 151) (.c (.bool false))) 141 false,
   o1 153 (.pick (.t 141) (.c (.bool true)) (.t 152)),
   oM 4 153])
  (.ret))))))))))))⟩
def Try.r7 : List (Nat × Nat) := [(16, 2), (21, 2), (27, 2), (33, 2), (35, 2), (41, 2), (43, 2), (54, 2), (55, 2), (60, 2), (61, 2), (67, 2), (69, 2), (75, 2), (77, 2), (84, 5), (91, 5), (98, 2), (100, 2), (102, 2), (110, 7), (116, 7), (123, 2), (125, 2)]
theorem Try.i7_ok : fnOk Try.prog Try.r7 Try.f7 Try.i7 = true := by kernel_rfl

/- pinball/pinballlaw13.FlipperMirror -/
def Try.i8 : IFunc := ⟨3, 137, [.tmp 6],
  .seq (.region false [o1 3 (.box (.t 0) []),
   o1 4 (.box (.t 1) [13, 23, 29, 33, 35, 37, 42, 44, 52, 54, 65, 67, 72, 74, 76, 87, 89, 93, 95, 97, 112, 114, 116, 126, 130, 132]),
   o1 6 (.mov (.c (.bool false)))])
  (.seq (.seq (.region false [oC 11 19 [],
   o1 12 (.un .not (.t 11))])
  (.cond (.t 12) (.seq (.region false [o1 6 (.mov (.c (.bool false)))])
  (.ret))
  (.skip)))
  (.seq (.seq (.region false [o1 13 (.adr 4 4 0),
   o1 14 (.ld 13 4 15 false),
   oC 15 24 [14],
   o1 16 (.un .not (.t 15)),
   oM 17 16,
   oG 18 (.ld 3 3 2 false) 17 false,
   oG 19 (.call 28 [.t 18]) 17 false,
   oG 20 (.un .not (.t 19)) 17 false,
   o1 21 (.pick (.t 17) (.c (.bool true)) (.t 20)),
   oM 22 21,
   oG 23 (.adr 4 4 15) 22 false,
   oG 24 (.ld 23 4 1 true) 22 false,
   oG 25 (.call 25 [.t 24]) 22 false,
   oG 26 (.un .not (.t 25)) 22 false,
   o1 27 (.pick (.t 22) (.c (.bool true)) (.t 26))])
  (.cond (.t 27) (.seq (.region false [oC 28 19 [],
   oM 6 28])
  (.ret))
  (.skip)))
  (.seq (.region false [o1 29 (.adr 4 4 0),
   o1 30 (.ld 29 4 15 false),
   oC 31 29 [30],
   o1 7 (.new [.str ByteArray.empty, .int .i64 0, .int .i64 0, .int .i64 0, .int .i64 0, .bool false, .int .i64 0, .int .i64 0, .int .i64 0, .int .i64 0, .int .i64 0, .int .i64 0, .int .i64 0, .int .i64 0, .int .i64 0] []),
   oN (.st 7 7 15 (.t 31))])
  (.seq (.region false [o1 32 (.ld 3 3 2 false),
   o1 33 (.adr 4 4 0),
   o1 34 (.ld 33 4 15 false),
   o1 35 (.adr 4 4 15),
   o1 36 (.ld 35 4 1 true),
   o1 37 (.adr 4 4 16),
   o1 38 (.ld 37 4 1 true),
   oM 39 2,
   oC 40 30 [32, 34, 36, 38, 39],
   o1 8 (.new [.int .i64 0, .int .i64 0] []),
   oN (.st 8 8 2 (.t 40))])
  (.seq (.region false [o1 42 (.adr 4 4 0),
   o1 43 (.ld 42 4 15 false),
   o1 44 (.adr 4 4 15),
   o1 45 (.ld 44 4 1 true),
   oC 46 22 [43, 45],
   oM 41 46,
   o1 47 (.ext (.t 41) 0),
   o1 48 (.ext (.t 41) 1),
   o1 9 (.new [.int .i64 0, .int .i64 0] []),
   oN (.st 9 9 2 (.t 47)),
   oM 10 48])
  (.seq (.seq (.region true [o1 49 (.ld 3 3 2 false),
   oC 50 31 [49],
   o1 51 (.ld 7 7 15 false),
   o1 52 (.adr 4 4 15),
   o1 53 (.ld 52 4 1 true),
   o1 54 (.adr 4 4 16),
   o1 55 (.ld 54 4 1 true),
   oM 56 2,
   oC 57 30 [50, 51, 53, 55, 56],
   o1 58 (.ld 8 8 2 false),
   oC 59 31 [58],
   o1 60 (.eqv true 2 (.t 57) (.t 59)),
   oM 61 60,
   oG 62 (.ld 3 3 2 false) 61 false,
   oG 63 (.call 31 [.t 62]) 61 false,
   oG 64 (.ld 7 7 15 false) 61 false,
   oG 65 (.adr 4 4 15) 61 false,
   oG 66 (.ld 65 4 1 true) 61 false,
   oG 67 (.adr 4 4 16) 61 false,
   oG 68 (.ld 67 4 1 true) 61 false,
   oG 69 (.mov (.t 2)) 61 false,
   oG 70 (.call 32 [.t 63, .t 64, .t 66, .t 68, .t 69]) 61 false,
   oG 71 (.ld 3 3 2 false) 61 false,
   oG 72 (.adr 4 4 0) 61 false,
   oG 73 (.ld 72 4 15 false) 61 false,
   oG 74 (.adr 4 4 15) 61 false,
   oG 75 (.ld 74 4 1 true) 61 false,
   oG 76 (.adr 4 4 16) 61 false,
   oG 77 (.ld 76 4 1 true) 61 false,
   oG 78 (.mov (.t 2)) 61 false,
   oG 79 (.call 32 [.t 71, .t 73, .t 75, .t 77, .t 78]) 61 false,
   oG 80 (.call 31 [.t 79]) 61 false,
   oG 81 (.eqv true 2 (.t 70) (.t 80)) 61 false,
   o1 82 (.pick (.t 61) (.c (.bool true)) (.t 81)),
   oM 83 82,
   oG 84 (.ld 8 8 2 false) 83 false,
   oG 85 (.call 31 [.t 84]) 83 false,
   oG 86 (.ld 7 7 15 false) 83 false,
   oG 87 (.adr 4 4 15) 83 false,
   oG 88 (.ld 87 4 1 true) 83 false,
   oG 89 (.adr 4 4 16) 83 false,
   oG 90 (.ld 89 4 1 true) 83 false,
   oG 91 (.call 26 [.t 85, .t 86, .t 88, .t 90]) 83 false,
   oG 92 (.ld 8 8 2 false) 83 false,
   oG 93 (.adr 4 4 0) 83 false,
   oG 94 (.ld 93 4 15 false) 83 false,
   oG 95 (.adr 4 4 15) 83 false,
   oG 96 (.ld 95 4 1 true) 83 false,
   oG 97 (.adr 4 4 16) 83 false,
   oG 98 (.ld 97 4 1 true) 83 false,
   oG 99 (.call 26 [.t 92, .t 94, .t 96, .t 98]) 83 false,
   oG 100 (.call 31 [.t 99]) 83 false,
   oG 101 (.eqv true 2 (.t 91) (.t 100)) 83 false,
   o1 102 (.pick (.t 83) (.c (.bool true)) (.t 101))])
  (.cond (.t 102) (.seq (.region false [o1 6 (.mov (.c (.bool false)))])
  (.ret))
  (.skip)))
  (.seq (.region true [o1 103 (.ld 9 9 2 false),
   o1 104 (.ld 9 9 2 false),
   oC 105 33 [103, 104],
   oM 106 10,
   oM 107 10,
   oB 108 .mul 106 107,
   oB 109 .eql 105 108,
   oM 110 109,
   oG 111 (.ld 8 8 2 false) 110 true,
   oG 112 (.adr 4 4 0) 110 true,
   oG 113 (.ld 112 4 15 false) 110 true,
   oG 114 (.adr 4 4 15) 110 true,
   oG 115 (.ld 114 4 1 true) 110 true,
   oG 116 (.adr 4 4 15) 110 true,
   oG 117 (.ld 116 4 1 true) 110 true,
   oG 118 (.call 26 [.t 111, .t 113, .t 115, .t 117]) 110 true,
   oG 119 (.bld [.int .i64 0, .int .i64 0] []) 110 true,
   oG 120 (.eqv false 2 (.t 118) (.t 119)) 110 true,
   o1 121 (.pick (.t 110) (.t 120) (.c (.bool false))),
   oM 122 121,
   oG 123 (.ld 3 3 2 false) 122 true,
   oG 124 (.call 31 [.t 123]) 122 true,
   oG 125 (.ld 7 7 15 false) 122 true,
   oG 126 (.adr 4 4 15) 122 true,
   oG 127 (.ld 126 4 1 true) 122 true,
   oG 128 (.call 34 [.t 124, .t 125, .t 127, .c (.int .i64 300)]) 122 true,
   oG 129 (.ld 3 3 2 false) 122 true,
   oG 130 (.adr 4 4 0) 122 true,
   oG 131 (.ld 130 4 15 false) 122 true,
   oG 132 (.adr 4 4 15) 122 true,
   oG 133 (.ld 132 4 1 true) 122 true,
   oG 134 (.call 34 [.t 129, .t 131, .t 133, .c (.int .i64 300)]) 122 true,
   oG 135 (.eqb false (.t 128) (.t 134)) 122 true,
   o1 136 (.pick (.t 122) (.t 135) (.c (.bool false))),
   oM 6 136])
  (.ret))))))))⟩
def Try.r8 : List (Nat × Nat) := [(13, 4), (23, 4), (29, 4), (33, 4), (35, 4), (37, 4), (42, 4), (44, 4), (52, 4), (54, 4), (65, 4), (67, 4), (72, 4), (74, 4), (76, 4), (87, 4), (89, 4), (93, 4), (95, 4), (97, 4), (112, 4), (114, 4), (116, 4), (126, 4), (130, 4), (132, 4)]
theorem Try.i8_ok : fnOk Try.prog Try.r8 Try.f8 Try.i8 = true := by kernel_rfl

/- pinball/pinballlaw12.ArcSamples -/
def Try.i9 : IFunc := ⟨3, 73, [.tmp 6],
  .seq (.region false [o1 3 (.box (.t 0) [36, 53]),
   o1 4 (.box (.t 1) []),
   o1 6 (.mov (.c (.bool false)))])
  (.seq (.seq (.region false [oC 12 11 [],
   o1 13 (.un .not (.t 12))])
  (.cond (.t 13) (.seq (.region false [o1 6 (.mov (.c (.bool false)))])
  (.ret))
  (.skip)))
  (.seq (.region false [o1 15 (.ld 4 4 12 false),
   oC 16 14 [15],
   oM 14 16,
   o1 17 (.ext (.t 14) 0),
   o1 18 (.ext (.t 14) 1),
   oM 7 17,
   oM 8 18])
  (.seq (.seq (.region false [oM 19 8,
   o1 20 (.un .not (.t 19)),
   oM 21 20,
   oG 22 (.mov (.t 2)) 21 false,
   oG 23 (.bin .lss (.t 22) (.c (.int .i64 1))) 21 false,
   o1 24 (.pick (.t 21) (.c (.bool true)) (.t 23)),
   oM 25 24,
   oG 26 (.mov (.t 2)) 25 false,
   oG 27 (.mov (.t 7)) 25 false,
   oG 28 (.bin .geq (.t 26) (.t 27)) 25 false,
   o1 29 (.pick (.t 25) (.c (.bool true)) (.t 28)),
   oM 30 29,
   oG 31 (.ld 3 3 6 false) 30 false,
   oG 32 (.call 35 [.t 31]) 30 false,
   oG 33 (.un .not (.t 32)) 30 false,
   o1 34 (.pick (.t 30) (.c (.bool true)) (.t 33)),
   oM 35 34,
   oG 36 (.adr 3 3 0) 35 false,
   oG 37 (.ld 36 3 2 false) 35 false,
   oG 38 (.call 12 [.t 37]) 35 false,
   oG 39 (.un .not (.t 38)) 35 false,
   o1 40 (.pick (.t 35) (.c (.bool true)) (.t 39))])
  (.cond (.t 40) (.seq (.region false [oC 41 11 [],
   oM 6 41])
  (.ret))
  (.skip)))
  (.seq (.region false [o1 42 (.ld 3 3 6 false),
   o1 43 (.ld 4 4 12 false),
   oM 44 2,
   oC 45 36 [42, 43, 44],
   oM 9 45])
  (.seq (.region false [o1 47 (.ld 3 3 6 false),
   oC 48 37 [47],
   oM 46 48,
   o1 49 (.ext (.t 46) 0),
   o1 50 (.ext (.t 46) 1),
   o1 10 (.new [.int .i64 0, .int .i64 0] []),
   o1 11 (.new [.int .i64 0, .int .i64 0] []),
   oN (.st 10 10 2 (.t 49)),
   oN (.st 11 11 2 (.t 50))])
  (.seq (.region true [oM 51 9,
   o1 52 (.call 38 [.t 51, .c (.int .i64 0)]),
   o1 53 (.adr 3 3 0),
   o1 54 (.ld 53 3 2 false),
   o1 55 (.ld 4 4 12 false),
   oM 56 2,
   oC 57 18 [54, 55, 56],
   o1 58 (.eqb false (.t 52) (.t 57)),
   oM 59 58,
   oG 60 (.ld 10 10 2 false) 59 true,
   oG 61 (.call 12 [.t 60]) 59 true,
   oG 62 (.un .not (.t 61)) 59 true,
   oG 63 (.mov (.t 62)) 59 true,
   oG 64 (.mov (.t 9)) 63 false,
   oG 65 (.call 38 [.t 64, .c (.int .i64 16)]) 63 false,
   oG 66 (.ld 10 10 2 false) 63 false,
   oG 67 (.ld 4 4 12 false) 63 false,
   oG 68 (.mov (.t 2)) 63 false,
   oG 69 (.call 18 [.t 66, .t 67, .t 68]) 63 false,
   oG 70 (.eqb false (.t 65) (.t 69)) 63 false,
   oG 71 (.pick (.t 63) (.c (.bool true)) (.t 70)) 59 true,
   o1 72 (.pick (.t 59) (.t 71) (.c (.bool false))),
   oM 6 72])
  (.ret)))))))⟩
def Try.r9 : List (Nat × Nat) := [(36, 3), (53, 3)]
theorem Try.i9_ok : fnOk Try.prog Try.r9 Try.f9 Try.i9 = true := by kernel_rfl

/- pinball/pinballlaw13.FlipperSamples -/
def Try.i10 : IFunc := ⟨3, 90, [.tmp 6],
  .seq (.region false [o1 3 (.box (.t 0) [47, 69]),
   o1 4 (.box (.t 1) [17, 22, 28, 59, 61, 63, 71, 73, 82, 84]),
   o1 6 (.mov (.c (.bool false)))])
  (.seq (.seq (.region false [oC 10 19 [],
   o1 11 (.un .not (.t 10))])
  (.cond (.t 11) (.seq (.region false [o1 6 (.mov (.c (.bool false)))])
  (.ret))
  (.skip)))
  (.seq (.region false [o1 13 (.ld 3 3 6 false),
   oC 14 37 [13],
   oM 12 14,
   o1 15 (.ext (.t 12) 0),
   o1 16 (.ext (.t 12) 1),
   o1 7 (.new [.int .i64 0, .int .i64 0] []),
   o1 8 (.new [.int .i64 0, .int .i64 0] []),
   oN (.st 7 7 2 (.t 15)),
   oN (.st 8 8 2 (.t 16))])
  (.seq (.seq (.region false [o1 17 (.adr 4 4 0),
   o1 18 (.ld 17 4 15 false),
   oC 19 24 [18],
   o1 20 (.un .not (.t 19)),
   oM 21 20,
   oG 22 (.adr 4 4 15) 21 false,
   oG 23 (.ld 22 4 1 true) 21 false,
   oG 24 (.call 25 [.t 23]) 21 false,
   oG 25 (.un .not (.t 24)) 21 false,
   o1 26 (.pick (.t 21) (.c (.bool true)) (.t 25)),
   oM 27 26,
   oG 28 (.adr 4 4 16) 27 false,
   oG 29 (.ld 28 4 1 true) 27 false,
   oG 30 (.call 25 [.t 29]) 27 false,
   oG 31 (.un .not (.t 30)) 27 false,
   o1 32 (.pick (.t 27) (.c (.bool true)) (.t 31)),
   oM 33 32,
   oG 34 (.ld 3 3 6 false) 33 false,
   oG 35 (.call 35 [.t 34]) 33 false,
   oG 36 (.un .not (.t 35)) 33 false,
   o1 37 (.pick (.t 33) (.c (.bool true)) (.t 36)),
   oM 38 37,
   oG 39 (.mov (.t 2)) 38 false,
   oG 40 (.bin .lss (.t 39) (.c (.int .i64 1))) 38 false,
   o1 41 (.pick (.t 38) (.c (.bool true)) (.t 40)),
   oM 42 41,
   oG 43 (.mov (.t 2)) 42 false,
   oG 44 (.bin .gtr (.t 43) (.c (.int .i64 524288))) 42 false,
   o1 45 (.pick (.t 42) (.c (.bool true)) (.t 44)),
   oM 46 45,
   oG 47 (.adr 3 3 0) 46 false,
   oG 48 (.ld 47 3 2 false) 46 false,
   oG 49 (.call 28 [.t 48]) 46 false,
   oG 50 (.un .not (.t 49)) 46 false,
   o1 51 (.pick (.t 46) (.c (.bool true)) (.t 50)),
   oM 52 51,
   oG 53 (.ld 7 7 2 false) 52 false,
   oG 54 (.call 28 [.t 53]) 52 false,
   oG 55 (.un .not (.t 54)) 52 false,
   o1 56 (.pick (.t 52) (.c (.bool true)) (.t 55))])
  (.cond (.t 56) (.seq (.region false [oC 57 19 [],
   oM 6 57])
  (.ret))
  (.skip)))
  (.seq (.region false [o1 58 (.ld 3 3 6 false),
   o1 59 (.adr 4 4 0),
   o1 60 (.ld 59 4 15 false),
   o1 61 (.adr 4 4 15),
   o1 62 (.ld 61 4 1 true),
   o1 63 (.adr 4 4 16),
   o1 64 (.ld 63 4 1 true),
   oM 65 2,
   oC 66 39 [58, 60, 62, 64, 65],
   oM 9 66])
  (.seq (.region true [oM 67 9,
   o1 68 (.call 40 [.t 67, .c (.int .i64 0)]),
   o1 69 (.adr 3 3 0),
   o1 70 (.ld 69 3 2 false),
   o1 71 (.adr 4 4 0),
   o1 72 (.ld 71 4 15 false),
   o1 73 (.adr 4 4 15),
   o1 74 (.ld 73 4 1 true),
   oM 75 2,
   oC 76 34 [70, 72, 74, 75],
   o1 77 (.eqb false (.t 68) (.t 76)),
   oM 78 77,
   oG 79 (.mov (.t 9)) 78 true,
   oG 80 (.call 40 [.t 79, .c (.int .i64 16)]) 78 true,
   oG 81 (.ld 7 7 2 false) 78 true,
   oG 82 (.adr 4 4 0) 78 true,
   oG 83 (.ld 82 4 15 false) 78 true,
   oG 84 (.adr 4 4 16) 78 true,
   oG 85 (.ld 84 4 1 true) 78 true,
   oG 86 (.mov (.t 2)) 78 true,
   oG 87 (.call 34 [.t 81, .t 83, .t 85, .t 86]) 78 true,
   oG 88 (.eqb false (.t 80) (.t 87)) 78 true,
   o1 89 (.pick (.t 78) (.t 88) (.c (.bool false))),
   oM 6 89])
  (.ret))))))⟩
def Try.r10 : List (Nat × Nat) := [(17, 4), (22, 4), (28, 4), (47, 3), (59, 4), (61, 4), (63, 4), (69, 3), (71, 4), (73, 4), (82, 4), (84, 4)]
theorem Try.i10_ok : fnOk Try.prog Try.r10 Try.f10 Try.i10 = true := by kernel_rfl

/- pinball/pinballlaw12.awake -/
def Try.i11 : IFunc := ⟨0, 70, [.tmp 0],
  .seq (.region false [o1 0 (.mov (.c (.bool false)))])
  (.seq (.region false [oC 8 41 [],
   o1 1 (.new [.str ByteArray.empty, .int .i64 0, .int .i64 0, .int .i64 0, .int .i64 0, .int .i64 0, .int .i64 0, .int .i64 0, .int .i64 0, .int .i64 0, .int .i64 0, .int .i64 0] []),
   oN (.st 1 1 12 (.t 8))])
  (.seq (.region false [o1 10 (.ld 1 1 12 false),
   oC 11 14 [10],
   oM 9 11,
   o1 12 (.ext (.t 9) 0),
   o1 13 (.ext (.t 9) 1),
   oM 2 12,
   oM 3 13])
  (.seq (.region false [o1 14 (.bld [.int .i64 0, .int .i64 0] [(0, 1, .c (.int .i64 400)), (1, 1, .c (.int .i64 400))]),
   o1 15 (.bld [.int .i64 0, .int .i64 0] [(0, 1, .c (.int .i64 100)), (1, 1, .c (.int .i64 100))]),
   o1 4 (.new [.int .i64 0, .int .i64 0] [16, 19]),
   o1 5 (.new [.int .i64 0, .int .i64 0] [25, 28]),
   oN (.st 4 4 2 (.t 14)),
   oN (.st 5 5 2 (.t 15))])
  (.seq (.region true [o1 16 (.adr 4 4 0),
   o1 17 (.ld 16 4 1 true),
   o1 18 (.bin .mul (.c (.int .i64 256)) (.t 17)),
   o1 19 (.adr 4 4 1),
   o1 20 (.ld 19 4 1 true),
   o1 21 (.bin .mul (.c (.int .i64 256)) (.t 20)),
   o1 22 (.bld [.int .i64 0, .int .i64 0] [(0, 1, .t 18), (1, 1, .t 21)]),
   o1 23 (.ld 1 1 12 false),
   oC 24 17 [22, 23],
   o1 25 (.adr 5 5 0),
   o1 26 (.ld 25 5 1 true),
   o1 27 (.bin .mul (.c (.int .i64 256)) (.t 26)),
   o1 28 (.adr 5 5 1),
   o1 29 (.ld 28 5 1 true),
   o1 30 (.bin .mul (.c (.int .i64 256)) (.t 29)),
   o1 31 (.bld [.int .i64 0, .int .i64 0] [(0, 1, .t 27), (1, 1, .t 30)]),
   o1 32 (.ld 1 1 12 false),
   oC 33 17 [31, 32],
   o1 6 (.new [.int .i64 0, .int .i64 0] [51, 56]),
   o1 7 (.new [.int .i64 0, .int .i64 0] [61, 66]),
   oN (.st 6 6 2 (.t 24)),
   oN (.st 7 7 2 (.t 33))])
  (.seq (.region false [oM 34 3,
   oM 35 34,
   oG 36 (.mov (.t 2)) 35 true,
   oG 37 (.bin .eql (.t 36) (.c (.int .i64 500))) 35 true,
   o1 38 (.pick (.t 35) (.t 37) (.c (.bool false))),
   oM 39 38,
   oG 40 (.ld 4 4 2 false) 39 true,
   oG 41 (.ld 1 1 12 false) 39 true,
   oG 42 (.call 18 [.t 40, .t 41, .c (.int .i64 66)]) 39 true,
   o1 43 (.pick (.t 39) (.t 42) (.c (.bool false))),
   oM 44 43,
   oG 45 (.ld 4 4 2 false) 44 true,
   oG 46 (.ld 1 1 12 false) 44 true,
   oG 47 (.call 18 [.t 45, .t 46, .c (.int .i64 65)]) 44 true,
   oG 48 (.un .not (.t 47)) 44 true,
   o1 49 (.pick (.t 44) (.t 48) (.c (.bool false))),
   oM 50 49,
   oG 51 (.adr 6 6 0) 50 true,
   oG 52 (.ld 51 6 1 true) 50 true,
   oG 53 (.bin .gtr (.t 52) (.c (.int .i64 0))) 50 true,
   o1 54 (.pick (.t 50) (.t 53) (.c (.bool false))),
   oM 55 54,
   oG 56 (.adr 6 6 1) 55 true,
   oG 57 (.ld 56 6 1 true) 55 true,
   oG 58 (.bin .gtr (.t 57) (.c (.int .i64 0))) 55 true,
   o1 59 (.pick (.t 55) (.t 58) (.c (.bool false))),
   oM 60 59,
   oG 61 (.adr 7 7 0) 60 true,
   oG 62 (.ld 61 7 1 true) 60 true,
   oG 63 (.bin .lss (.t 62) (.c (.int .i64 0))) 60 true,
   o1 64 (.pick (.t 60) (.t 63) (.c (.bool false))),
   oM 65 64,
   oG 66 (.adr 7 7 1) 65 true,
   oG 67 (.ld 66 7 1 true) 65 true,
   oG 68 (.bin .lss (.t 67) (.c (.int .i64 0))) 65 true,
   o1 69 (.pick (.t 65) (.t 68) (.c (.bool false))),
   oM 0 69])
  (.ret))))))⟩
def Try.r11 : List (Nat × Nat) := [(16, 4), (19, 4), (25, 5), (28, 5), (51, 6), (56, 6), (61, 7), (66, 7)]
theorem Try.i11_ok : fnOk Try.prog Try.r11 Try.f11 Try.i11 = true := by kernel_rfl

/- pinball/pinballlaw12.near -/
def Try.i12 : IFunc := ⟨1, 21, [.tmp 2],
  .seq (.region false [o1 1 (.box (.t 0) [3, 7, 12, 17]),
   o1 2 (.mov (.c (.bool false)))])
  (.seq (.region false [o1 3 (.adr 1 1 0),
   o1 4 (.ld 3 1 1 true),
   o1 5 (.bin .geq (.t 4) (.c (.int .i64 (-1048576)))),
   oM 6 5,
   oG 7 (.adr 1 1 0) 6 true,
   oG 8 (.ld 7 1 1 true) 6 true,
   oG 9 (.bin .leq (.t 8) (.c (.int .i64 1048576))) 6 true,
   o1 10 (.pick (.t 6) (.t 9) (.c (.bool false))),
   oM 11 10,
   oG 12 (.adr 1 1 1) 11 true,
   oG 13 (.ld 12 1 1 true) 11 true,
   oG 14 (.bin .geq (.t 13) (.c (.int .i64 (-1048576)))) 11 true,
   o1 15 (.pick (.t 11) (.t 14) (.c (.bool false))),
   oM 16 15,
   oG 17 (.adr 1 1 1) 16 true,
   oG 18 (.ld 17 1 1 true) 16 true,
   oG 19 (.bin .leq (.t 18) (.c (.int .i64 1048576))) 16 true,
   o1 20 (.pick (.t 16) (.t 19) (.c (.bool false))),
   oM 2 20])
  (.ret))⟩
def Try.r12 : List (Nat × Nat) := [(3, 1), (7, 1), (12, 1), (17, 1)]
theorem Try.i12_ok : fnOk Try.prog Try.r12 Try.f12 Try.i12 = true := by kernel_rfl

/- pinball/pinballlaw12.mirrored -/
def Try.i13 : IFunc := ⟨1, 16, [.cell 2 12 false],
  .seq (.region false [o1 1 (.box (.t 0) [3, 6, 9, 12, 13, 14]),
   o1 2 (.new [.str ByteArray.empty, .int .i64 0, .int .i64 0, .int .i64 0, .int .i64 0, .int .i64 0, .int .i64 0, .int .i64 0, .int .i64 0, .int .i64 0, .int .i64 0, .int .i64 0] [])])
  (.seq (.region true [o1 3 (.adr 1 1 2),
   o1 4 (.ld 3 1 2 false),
   oC 5 16 [4],
   o1 6 (.adr 1 1 6),
   o1 7 (.ld 6 1 2 false),
   oC 8 16 [7],
   o1 9 (.adr 1 1 4),
   o1 10 (.ld 9 1 2 false),
   oC 11 16 [10],
   o1 12 (.adr 1 1 2),
   oN (.st 12 1 2 (.t 5)),
   o1 13 (.adr 1 1 4),
   oN (.st 13 1 2 (.t 8)),
   o1 14 (.adr 1 1 6),
   oN (.st 14 1 2 (.t 11))])
  (.seq (.region false [o1 15 (.ld 1 1 12 false),
   oN (.st 2 2 12 (.t 15))])
  (.ret)))⟩
def Try.r13 : List (Nat × Nat) := [(3, 1), (6, 1), (9, 1), (12, 1), (13, 1), (14, 1)]
theorem Try.i13_ok : fnOk Try.prog Try.r13 Try.f13 Try.i13 = true := by kernel_rfl

/- pinball/arc.Radius -/
def Try.i14 : IFunc := ⟨1, 59, [.tmp 2, .tmp 3],
  .seq (.region false [o1 1 (.box (.t 0) [8, 10, 12, 17, 19, 22, 24]),
   o1 2 (.mov (.c (.int .i64 0))),
   o1 3 (.mov (.c (.bool false)))])
  (.seq (.seq (.region false [o1 8 (.adr 1 1 2),
   o1 9 (.ld 8 1 2 false),
   o1 10 (.adr 1 1 4),
   o1 11 (.ld 10 1 2 false),
   o1 12 (.adr 1 1 6),
   o1 13 (.ld 12 1 2 false),
   o1 14 (.bls 3 [.int .i64 0, .int .i64 0, .int .i64 0, .int .i64 0, .int .i64 0, .int .i64 0] [(0, 2, .t 9), (2, 2, .t 11), (4, 2, .t 13)]),
   o1 15 (.call 42 [.c (.int .i64 1048576), .t 14]),
   o1 16 (.un .not (.t 15))])
  (.cond (.t 16) (.seq (.region false [o1 2 (.mov (.c (.int .i64 0))),
   o1 3 (.mov (.c (.bool false)))])
  (.ret))
  (.skip)))
  (.seq (.region true [o1 17 (.adr 1 1 4),
   o1 18 (.ld 17 1 2 false),
   o1 19 (.adr 1 1 2),
   o1 20 (.ld 19 1 2 false),
   oC 21 43 [18, 20],
   o1 22 (.adr 1 1 6),
   o1 23 (.ld 22 1 2 false),
   o1 24 (.adr 1 1 2),
   o1 25 (.ld 24 1 2 false),
   oC 26 43 [23, 25],
   o1 4 (.new [.int .i64 0, .int .i64 0] []),
   o1 5 (.new [.int .i64 0, .int .i64 0] []),
   oN (.st 4 4 2 (.t 21)),
   oN (.st 5 5 2 (.t 26))])
  (.seq (.region false [o1 27 (.ld 4 4 2 false),
   o1 28 (.ld 4 4 2 false),
   oC 29 33 [27, 28],
   oM 6 29])
  (.seq (.region false [oM 30 6,
   oC 31 44 [30],
   oM 7 31])
  (.seq (.seq (.region false [oM 32 7,
   oM 33 7,
   oB 34 .mul 32 33,
   oM 35 6,
   oB 36 .neq 34 35,
   oM 37 36,
   oG 38 (.ld 5 5 2 false) 37 false,
   oG 39 (.ld 5 5 2 false) 37 false,
   oG 40 (.call 33 [.t 38, .t 39]) 37 false,
   oG 41 (.mov (.t 6)) 37 false,
   oG 42 (.bin .neq (.t 40) (.t 41)) 37 false,
   o1 43 (.pick (.t 37) (.c (.bool true)) (.t 42)),
   oM 44 43,
   oG 45 (.mov (.t 7)) 44 false,
   oG 46 (.bin .lss (.t 45) (.c (.int .i64 1))) 44 false,
   o1 47 (.pick (.t 44) (.c (.bool true)) (.t 46)),
   oM 48 47,
   oG 49 (.mov (.t 7)) 48 false,
   oG 50 (.bin .gtr (.t 49) (.c (.int .i64 262144))) 48 false,
   o1 51 (.pick (.t 48) (.c (.bool true)) (.t 50)),
   oM 52 51,
   oG 53 (.ld 4 4 2 false) 52 false,
   oG 54 (.ld 5 5 2 false) 52 false,
   oG 55 (.call 27 [.t 53, .t 54]) 52 false,
   oG 56 (.bin .leq (.t 55) (.c (.int .i64 0))) 52 false,
   o1 57 (.pick (.t 52) (.c (.bool true)) (.t 56))])
  (.cond (.t 57) (.seq (.region false [o1 2 (.mov (.c (.int .i64 0))),
   o1 3 (.mov (.c (.bool false)))])
  (.ret))
  (.skip)))
  (.seq (.region false [oM 58 7,
   oM 2 58,
   o1 3 (.mov (.c (.bool true)))])
  (.ret)))))))⟩
def Try.r14 : List (Nat × Nat) := [(8, 1), (10, 1), (12, 1), (17, 1), (19, 1), (22, 1), (24, 1)]
theorem Try.i14_ok : fnOk Try.prog Try.r14 Try.f14 Try.i14 = true := by kernel_rfl

/- pinball/arc.Sector -/
def Try.i15 : IFunc := ⟨2, 44, [.tmp 4],
  .seq (.region false [o1 2 (.box (.t 0) [22, 26, 28, 36, 38]),
   o1 3 (.box (.t 1) []),
   o1 4 (.mov (.c (.bool false)))])
  (.seq (.seq (.region false [o1 9 (.ld 2 2 12 false),
   oC 10 14 [9],
   oM 8 10,
   o1 11 (.ext (.t 8) 0),
   o1 12 (.ext (.t 8) 1),
   oM 5 11,
   oM 6 12])
  (.seq (.region false [oM 13 6,
   o1 14 (.un .not (.t 13)),
   oM 15 14,
   oG 16 (.ld 3 3 2 false) 15 false,
   oG 17 (.bls 1 [.int .i64 0, .int .i64 0] [(0, 2, .t 16)]) 15 false,
   oG 18 (.call 42 [.c (.int .i64 536870912), .t 17]) 15 false,
   oG 19 (.un .not (.t 18)) 15 false,
   o1 20 (.pick (.t 15) (.c (.bool true)) (.t 19))])
  (.cond (.t 20) (.seq (.region false [o1 4 (.mov (.c (.bool false)))])
  (.ret))
  (.skip))))
  (.seq (.region true [o1 21 (.ld 3 3 2 false),
   o1 22 (.adr 2 2 2),
   o1 23 (.ld 22 2 2 false),
   o1 24 (.call 45 [.t 23, .c (.int .i64 256)]),
   oC 25 43 [21, 24],
   o1 7 (.new [.int .i64 0, .int .i64 0] []),
   oN (.st 7 7 2 (.t 25))])
  (.seq (.region true [o1 26 (.adr 2 2 4),
   o1 27 (.ld 26 2 2 false),
   o1 28 (.adr 2 2 2),
   o1 29 (.ld 28 2 2 false),
   oC 30 43 [27, 29],
   o1 31 (.ld 7 7 2 false),
   oC 32 27 [30, 31],
   o1 33 (.bin .gtr (.t 32) (.c (.int .i64 0))),
   oM 34 33,
   oG 35 (.ld 7 7 2 false) 34 true,
   oG 36 (.adr 2 2 6) 34 true,
   oG 37 (.ld 36 2 2 false) 34 true,
   oG 38 (.adr 2 2 2) 34 true,
   oG 39 (.ld 38 2 2 false) 34 true,
   oG 40 (.call 43 [.t 37, .t 39]) 34 true,
   oG 41 (.call 27 [.t 35, .t 40]) 34 true,
   oG 42 (.bin .gtr (.t 41) (.c (.int .i64 0))) 34 true,
   o1 43 (.pick (.t 34) (.t 42) (.c (.bool false))),
   oM 4 43])
  (.ret))))⟩
def Try.r15 : List (Nat × Nat) := [(22, 2), (26, 2), (28, 2), (36, 2), (38, 2)]
theorem Try.i15_ok : fnOk Try.prog Try.r15 Try.f15 Try.i15 = true := by kernel_rfl

/- pinball/pinballlaw12.flip -/
def Try.i16 : IFunc := ⟨1, 9, [.cell 2 2 false],
  .seq (.region false [o1 1 (.box (.t 0) [3, 6]),
   o1 2 (.new [.int .i64 0, .int .i64 0] [])])
  (.seq (.region false [o1 3 (.adr 1 1 0),
   o1 4 (.ld 3 1 1 true),
   o1 5 (.un .neg (.t 4)),
   o1 6 (.adr 1 1 1),
   o1 7 (.ld 6 1 1 true),
   o1 8 (.bld [.int .i64 0, .int .i64 0] [(0, 1, .t 5), (1, 1, .t 7)]),
   oN (.st 2 2 2 (.t 8))])
  (.ret))⟩
def Try.r16 : List (Nat × Nat) := [(3, 1), (6, 1)]
theorem Try.i16_ok : fnOk Try.prog Try.r16 Try.f16 Try.i16 = true := by kernel_rfl

/- pinball/arc.Normal -/
def Try.i17 : IFunc := ⟨2, 86, [.cell 4 2 false],
  .seq (.region false [o1 2 (.box (.t 0) []),
   o1 3 (.box (.t 1) [27, 32, 47, 55, 60]),
   o1 4 (.new [.int .i64 0, .int .i64 0] [])])
  (.seq (.region false [o1 15 (.ld 3 3 12 false),
   oC 16 14 [15],
   oM 14 16,
   o1 17 (.ext (.t 14) 0),
   o1 18 (.ext (.t 14) 1),
   oM 5 17,
   oM 6 18])
  (.seq (.seq (.region false [oM 19 6,
   o1 20 (.un .not (.t 19))])
  (.cond (.t 20) (.seq (.region false [o1 21 (.bld [.int .i64 0, .int .i64 0] []),
   oN (.st 4 4 2 (.t 21))])
  (.ret))
  (.skip)))
  (.seq (.seq (.region false [o1 22 (.ld 3 3 12 false),
   o1 23 (.ld 2 2 2 false),
   oC 24 15 [22, 23],
   o1 25 (.un .not (.t 24))])
  (.cond (.t 25) (.seq (.region true [o1 26 (.ld 2 2 2 false),
   o1 27 (.adr 3 3 4),
   o1 28 (.ld 27 3 2 false),
   o1 29 (.call 45 [.t 28, .c (.int .i64 256)]),
   oC 30 43 [26, 29],
   o1 31 (.ld 2 2 2 false),
   o1 32 (.adr 3 3 6),
   o1 33 (.ld 32 3 2 false),
   o1 34 (.call 45 [.t 33, .c (.int .i64 256)]),
   oC 35 43 [31, 34],
   o1 7 (.new [.int .i64 0, .int .i64 0] []),
   o1 8 (.new [.int .i64 0, .int .i64 0] []),
   oN (.st 7 7 2 (.t 30)),
   oN (.st 8 8 2 (.t 35))])
  (.seq (.seq (.region true [o1 36 (.ld 7 7 2 false),
   o1 37 (.ld 7 7 2 false),
   oC 38 33 [36, 37],
   o1 39 (.ld 8 8 2 false),
   o1 40 (.ld 8 8 2 false),
   oC 41 33 [39, 40],
   oM 9 38,
   oM 10 41])
  (.block 0 (.seq (.region false [oM 43 9,
   oM 44 10,
   oB 45 .lss 43 44,
   oM 42 45])
  (.cond (.t 42) (.seq (.region false [o1 46 (.ld 2 2 2 false),
   o1 47 (.adr 3 3 4),
   o1 48 (.ld 47 3 2 false),
   oC 49 46 [46, 48],
   oN (.st 4 4 2 (.t 49))])
  (.ret))
  (.seq (.region false [oM 51 9,
   oM 52 10,
   oB 53 .gtr 51 52,
   oM 50 53])
  (.cond (.t 50) (.seq (.region false [o1 54 (.ld 2 2 2 false),
   o1 55 (.adr 3 3 6),
   o1 56 (.ld 55 3 2 false),
   oC 57 46 [54, 56],
   oN (.st 4 4 2 (.t 57))])
  (.ret))
  (.skip)))))))
  (.seq (.region false [o1 58 (.bld [.int .i64 0, .int .i64 0] []),
   oN (.st 4 4 2 (.t 58))])
  (.ret))))
  (.skip)))
  (.seq (.region true [o1 59 (.ld 2 2 2 false),
   o1 60 (.adr 3 3 2),
   o1 61 (.ld 60 3 2 false),
   o1 62 (.call 45 [.t 61, .c (.int .i64 256)]),
   oC 63 43 [59, 62],
   o1 11 (.new [.int .i64 0, .int .i64 0] []),
   oN (.st 11 11 2 (.t 63))])
  (.seq (.seq (.region false [o1 64 (.ld 11 11 2 false),
   o1 65 (.ld 11 11 2 false),
   oC 66 33 [64, 65],
   oM 67 5,
   o1 68 (.bin .mul (.c (.int .i64 256)) (.t 67)),
   o1 69 (.bin .mul (.t 68) (.c (.int .i64 256))),
   oM 70 5,
   oB 71 .mul 69 70,
   oM 12 66,
   oM 13 71])
  (.block 1 (.seq (.region false [oM 73 12,
   oM 74 13,
   oB 75 .gtr 73 74,
   oM 72 75])
  (.cond (.t 72) (.seq (.region false [o1 76 (.ld 11 11 2 false),
   oC 77 47 [76],
   oN (.st 4 4 2 (.t 77))])
  (.ret))
  (.seq (.region false [oM 79 12,
   oM 80 13,
   oB 81 .lss 79 80,
   oM 78 81])
  (.cond (.t 78) (.seq (.region false [o1 82 (.ld 11 11 2 false),
   o1 83 (.call 45 [.t 82, .c (.int .i64 (-1))]),
   oC 84 47 [83],
   oN (.st 4 4 2 (.t 84))])
  (.ret))
  (.skip)))))))
  (.seq (.region false [o1 85 (.bld [.int .i64 0, .int .i64 0] []),
   oN (.st 4 4 2 (.t 85))])
  (.ret)))))))⟩
def Try.r17 : List (Nat × Nat) := [(27, 3), (32, 3), (47, 3), (55, 3), (60, 3)]
theorem Try.i17_ok : fnOk Try.prog Try.r17 Try.f17 Try.i17 = true := by kernel_rfl

/- pinball/arc.Inside -/
def Try.i18 : IFunc := ⟨3, 90, [.tmp 6],
  .seq (.region false [o1 3 (.box (.t 0) []),
   o1 4 (.box (.t 1) [34, 40, 46, 49, 51, 59, 61]),
   o1 6 (.mov (.c (.bool false)))])
  (.seq (.region false [o1 12 (.ld 4 4 12 false),
   oC 13 14 [12],
   oM 11 13,
   o1 14 (.ext (.t 11) 0),
   o1 15 (.ext (.t 11) 1),
   oM 7 14,
   oM 8 15])
  (.seq (.seq (.region false [oM 16 8,
   o1 17 (.un .not (.t 16)),
   oM 18 17,
   oG 19 (.mov (.t 2)) 18 false,
   oG 20 (.bin .lss (.t 19) (.c (.int .i64 1))) 18 false,
   o1 21 (.pick (.t 18) (.c (.bool true)) (.t 20)),
   oM 22 21,
   oG 23 (.mov (.t 2)) 22 false,
   oG 24 (.mov (.t 7)) 22 false,
   oG 25 (.bin .geq (.t 23) (.t 24)) 22 false,
   o1 26 (.pick (.t 22) (.c (.bool true)) (.t 25)),
   oM 27 26,
   oG 28 (.ld 3 3 2 false) 27 false,
   oG 29 (.bls 1 [.int .i64 0, .int .i64 0] [(0, 2, .t 28)]) 27 false,
   oG 30 (.call 42 [.c (.int .i64 2097152), .t 29]) 27 false,
   oG 31 (.un .not (.t 30)) 27 false,
   o1 32 (.pick (.t 27) (.c (.bool true)) (.t 31))])
  (.cond (.t 32) (.seq (.region false [o1 6 (.mov (.c (.bool false)))])
  (.ret))
  (.skip)))
  (.seq (.seq (.region false [o1 33 (.ld 3 3 2 false),
   o1 34 (.adr 4 4 4),
   o1 35 (.ld 34 4 2 false),
   oM 36 2,
   oC 37 48 [33, 35, 36],
   oM 38 37,
   oG 39 (.ld 3 3 2 false) 38 false,
   oG 40 (.adr 4 4 6) 38 false,
   oG 41 (.ld 40 4 2 false) 38 false,
   oG 42 (.mov (.t 2)) 38 false,
   oG 43 (.call 48 [.t 39, .t 41, .t 42]) 38 false,
   o1 44 (.pick (.t 38) (.c (.bool true)) (.t 43))])
  (.cond (.t 44) (.seq (.region false [o1 6 (.mov (.c (.bool true)))])
  (.ret))
  (.skip)))
  (.seq (.region false [o1 45 (.ld 3 3 2 false),
   o1 46 (.adr 4 4 2),
   o1 47 (.ld 46 4 2 false),
   oC 48 43 [45, 47],
   o1 9 (.new [.int .i64 0, .int .i64 0] []),
   oN (.st 9 9 2 (.t 48))])
  (.seq (.seq (.region true [o1 49 (.adr 4 4 4),
   o1 50 (.ld 49 4 2 false),
   o1 51 (.adr 4 4 2),
   o1 52 (.ld 51 4 2 false),
   oC 53 43 [50, 52],
   o1 54 (.ld 9 9 2 false),
   oC 55 27 [53, 54],
   o1 56 (.bin .leq (.t 55) (.c (.int .i64 0))),
   oM 57 56,
   oG 58 (.ld 9 9 2 false) 57 false,
   oG 59 (.adr 4 4 6) 57 false,
   oG 60 (.ld 59 4 2 false) 57 false,
   oG 61 (.adr 4 4 2) 57 false,
   oG 62 (.ld 61 4 2 false) 57 false,
   oG 63 (.call 43 [.t 60, .t 62]) 57 false,
   oG 64 (.call 27 [.t 58, .t 63]) 57 false,
   oG 65 (.bin .leq (.t 64) (.c (.int .i64 0))) 57 false,
   o1 66 (.pick (.t 57) (.c (.bool true)) (.t 65))])
  (.cond (.t 66) (.seq (.region false [o1 6 (.mov (.c (.bool false)))])
  (.ret))
  (.skip)))
  (.seq (.region false [o1 67 (.ld 9 9 2 false),
   o1 68 (.ld 9 9 2 false),
   oC 69 33 [67, 68],
   oM 10 69])
  (.seq (.region false [oM 70 10,
   oM 71 7,
   oM 72 2,
   oB 73 .add 71 72,
   oM 74 7,
   oM 75 2,
   oB 76 .add 74 75,
   oB 77 .mul 73 76,
   oB 78 .lss 70 77,
   oM 79 78,
   oG 80 (.mov (.t 10)) 79 true,
   oG 81 (.mov (.t 7)) 79 true,
   oG 82 (.mov (.t 2)) 79 true,
   oG 83 (.bin .sub (.t 81) (.t 82)) 79 true,
   oG 84 (.mov (.t 7)) 79 true,
   oG 85 (.mov (.t 2)) 79 true,
   oG 86 (.bin .sub (.t 84) (.t 85)) 79 true,
   oG 87 (.bin .mul (.t 83) (.t 86)) 79 true,
   oG 88 (.bin .gtr (.t 80) (.t 87)) 79 true,
   o1 89 (.pick (.t 79) (.t 88) (.c (.bool false))),
   oM 6 89])
  (.ret))))))))⟩
def Try.r18 : List (Nat × Nat) := [(34, 4), (40, 4), (46, 4), (49, 4), (51, 4), (59, 4), (61, 4)]
theorem Try.i18_ok : fnOk Try.prog Try.r18 Try.f18 Try.i18 = true := by kernel_rfl

/- pinball/pinballlaw13.awake -/
def Try.i19 : IFunc := ⟨0, 68, [.tmp 0],
  .seq (.region false [o1 0 (.mov (.c (.bool false)))])
  (.seq (.region false [oC 9 49 [],
   o1 1 (.new [.str ByteArray.empty, .int .i64 0, .int .i64 0, .int .i64 0, .int .i64 0, .bool false, .int .i64 0, .int .i64 0, .int .i64 0, .int .i64 0, .int .i64 0, .int .i64 0, .int .i64 0, .int .i64 0, .int .i64 0] []),
   oN (.st 1 1 15 (.t 9))])
  (.seq (.region false [o1 11 (.ld 1 1 15 false),
   o1 12 (.call 22 [.t 11, .c (.int .i64 0)]),
   oM 10 12,
   o1 13 (.ext (.t 10) 0),
   o1 14 (.ext (.t 10) 1),
   o1 2 (.new [.int .i64 0, .int .i64 0] []),
   oN (.st 2 2 2 (.t 13)),
   oM 3 14])
  (.seq (.region false [o1 16 (.ld 1 1 15 false),
   o1 17 (.call 22 [.t 16, .c (.int .i64 256)]),
   oM 15 17,
   o1 18 (.ext (.t 15) 0),
   o1 19 (.ext (.t 15) 1),
   o1 4 (.new [.int .i64 0, .int .i64 0] []),
   oN (.st 4 4 2 (.t 18)),
   oM 5 19])
  (.seq (.region false [o1 21 (.ld 1 1 15 false),
   o1 22 (.call 20 [.t 21, .c (.int .i64 0), .c (.int .i64 14), .c (.bool true)]),
   oM 20 22,
   o1 23 (.ext (.t 20) 0),
   o1 24 (.ext (.t 20) 1),
   oM 6 23,
   oM 7 24])
  (.seq (.region false [o1 25 (.bld [.int .i64 0, .int .i64 0] [(0, 1, .c (.int .i64 256000))]),
   o1 26 (.ld 1 1 15 false),
   o1 27 (.call 26 [.t 25, .t 26, .c (.int .i64 0), .c (.int .i64 16)]),
   o1 8 (.new [.int .i64 0, .int .i64 0] []),
   oN (.st 8 8 2 (.t 27))])
  (.seq (.region false [o1 28 (.ld 2 2 2 false),
   o1 29 (.bld [.int .i64 0, .int .i64 0] [(0, 1, .c (.int .i64 65536))]),
   o1 30 (.eqv false 2 (.t 28) (.t 29)),
   oM 31 30,
   oG 32 (.mov (.t 3)) 31 true,
   oG 33 (.bin .eql (.t 32) (.c (.int .i64 65536))) 31 true,
   o1 34 (.pick (.t 31) (.t 33) (.c (.bool false))),
   oM 35 34,
   oG 36 (.ld 4 4 2 false) 35 true,
   oG 37 (.bld [.int .i64 0, .int .i64 0] [(1, 1, .c (.int .i64 131072))]) 35 true,
   oG 38 (.eqv false 2 (.t 36) (.t 37)) 35 true,
   o1 39 (.pick (.t 35) (.t 38) (.c (.bool false))),
   oM 40 39,
   oG 41 (.mov (.t 5)) 40 true,
   oG 42 (.bin .eql (.t 41) (.c (.int .i64 131072))) 40 true,
   o1 43 (.pick (.t 40) (.t 42) (.c (.bool false))),
   oM 44 43,
   oG 45 (.mov (.t 6)) 44 true,
   oG 46 (.bin .eql (.t 45) (.c (.int .i64 16))) 44 true,
   o1 47 (.pick (.t 44) (.t 46) (.c (.bool false))),
   oM 48 47,
   oG 49 (.mov (.t 7)) 48 true,
   oG 50 (.bin .eql (.t 49) (.c (.int .i64 16))) 48 true,
   o1 51 (.pick (.t 48) (.t 50) (.c (.bool false))),
   oM 52 51,
   oG 53 (.ld 8 8 2 false) 52 true,
   oG 54 (.bld [.int .i64 0, .int .i64 0] [(1, 1, .c (.int .i64 140))]) 52 true,
   oG 55 (.eqv false 2 (.t 53) (.t 54)) 52 true,
   o1 56 (.pick (.t 52) (.t 55) (.c (.bool false))),
   oM 57 56,
   oG 58 (.bld [.int .i64 0, .int .i64 0] [(0, 1, .c (.int .i64 500)), (1, 1, .c (.int .i64 99))]) 57 true,
   oG 59 (.ld 1 1 15 false) 57 true,
   oG 60 (.call 34 [.t 58, .t 59, .c (.int .i64 0), .c (.int .i64 100)]) 57 true,
   o1 61 (.pick (.t 57) (.t 60) (.c (.bool false))),
   oM 62 61,
   oG 63 (.bld [.int .i64 0, .int .i64 0] [(0, 1, .c (.int .i64 500)), (1, 1, .c (.int .i64 100))]) 62 true,
   oG 64 (.ld 1 1 15 false) 62 true,
   oG 65 (.call 34 [.t 63, .t 64, .c (.int .i64 0), .c (.int .i64 100)]) 62 true,
   oG 66 (.un .not (.t 65)) 62 true,
   o1 67 (.pick (.t 62) (.t 66) (.c (.bool false))),
   oM 0 67])
  (.ret)))))))⟩
def Try.r19 : List (Nat × Nat) := []
theorem Try.i19_ok : fnOk Try.prog Try.r19 Try.f19 Try.i19 = true := by kernel_rfl

/- pinball/flipper.Next -/
def Try.i20 : IFunc := ⟨4, 56, [.tmp 8, .tmp 9],
  .seq (.region false [o1 4 (.box (.t 0) [23, 26, 30, 33, 42, 45, 49, 52]),
   o1 8 (.mov (.c (.int .i64 0))),
   o1 9 (.mov (.c (.int .i64 0)))])
  (.seq (.seq (.region false [o1 10 (.ld 4 4 15 false),
   oM 11 1,
   o1 12 (.bls 1 [.int .i64 0] [(0, 1, .t 11)]),
   oC 13 50 [10, 12],
   o1 14 (.un .not (.t 13)),
   oM 15 14,
   oG 16 (.mov (.t 2)) 15 false,
   oG 17 (.bls 1 [.int .i64 0] [(0, 1, .t 16)]) 15 false,
   oG 18 (.call 51 [.c (.int .i64 (-64)), .c (.int .i64 64), .t 17]) 15 false,
   oG 19 (.un .not (.t 18)) 15 false,
   o1 20 (.pick (.t 15) (.c (.bool true)) (.t 19))])
  (.cond (.t 20) (.seq (.region false [o1 8 (.mov (.c (.int .i64 0))),
   o1 9 (.mov (.c (.int .i64 0)))])
  (.ret))
  (.skip)))
  (.seq (.seq (.region false [oM 21 3])
  (.cond (.t 21) (.region false [oM 22 2,
   o1 23 (.adr 4 4 8),
   o1 24 (.ld 23 4 1 true),
   oB 25 .add 22 24,
   o1 26 (.adr 4 4 10),
   o1 27 (.ld 26 4 1 true),
   o1 28 (.mn [.t 25, .t 27]),
   oM 2 28])
  (.region false [oM 29 2,
   o1 30 (.adr 4 4 9),
   o1 31 (.ld 30 4 1 true),
   oB 32 .sub 29 31,
   o1 33 (.adr 4 4 10),
   o1 34 (.ld 33 4 1 true),
   o1 35 (.un .neg (.t 34)),
   o1 36 (.mx [.t 32, .t 35]),
   oM 2 36])))
  (.seq (.region false [oM 37 1,
   oM 38 2,
   oB 39 .add 37 38,
   oM 1 39])
  (.seq (.block 0 (.seq (.region false [oM 41 1,
   o1 42 (.adr 4 4 7),
   o1 43 (.ld 42 4 1 true),
   oB 44 .gtr 41 43,
   oM 40 44])
  (.cond (.t 40) (.seq (.region false [o1 45 (.adr 4 4 7),
   o1 46 (.ld 45 4 1 true),
   oM 8 46,
   o1 9 (.mov (.c (.int .i64 0)))])
  (.ret))
  (.seq (.region false [oM 48 1,
   o1 49 (.adr 4 4 6),
   o1 50 (.ld 49 4 1 true),
   oB 51 .lss 48 50,
   oM 47 51])
  (.cond (.t 47) (.seq (.region false [o1 52 (.adr 4 4 6),
   o1 53 (.ld 52 4 1 true),
   oM 8 53,
   o1 9 (.mov (.c (.int .i64 0)))])
  (.ret))
  (.skip))))))
  (.seq (.region false [oM 54 1,
   oM 55 2,
   oM 8 54,
   oM 9 55])
  (.ret))))))⟩
def Try.r20 : List (Nat × Nat) := [(23, 4), (26, 4), (30, 4), (33, 4), (42, 4), (45, 4), (49, 4), (52, 4)]
theorem Try.i20_ok : fnOk Try.prog Try.r20 Try.f20 Try.i20 = true := by kernel_rfl

/- pinball/pinballref13.Next -/
def Try.i21 : IFunc := ⟨4, 61, [.tmp 8, .tmp 9],
  .seq (.region false [o1 4 (.box (.t 0) [28, 31, 35, 38, 47, 50, 54, 57]),
   o1 8 (.mov (.c (.int .i64 0))),
   o1 9 (.mov (.c (.int .i64 0)))])
  (.seq (.seq (.region false [o1 10 (.ld 4 4 15 false),
   oC 11 24 [10],
   o1 12 (.un .not (.t 11)),
   oM 13 12,
   oG 14 (.mov (.t 1)) 13 false,
   oG 15 (.call 52 [.t 14]) 13 false,
   oG 16 (.un .not (.t 15)) 13 false,
   o1 17 (.pick (.t 13) (.c (.bool true)) (.t 16)),
   oM 18 17,
   oG 19 (.mov (.t 2)) 18 false,
   oG 20 (.bin .lss (.t 19) (.c (.int .i64 (-64)))) 18 false,
   o1 21 (.pick (.t 18) (.c (.bool true)) (.t 20)),
   oM 22 21,
   oG 23 (.mov (.t 2)) 22 false,
   oG 24 (.bin .gtr (.t 23) (.c (.int .i64 64))) 22 false,
   o1 25 (.pick (.t 22) (.c (.bool true)) (.t 24))])
  (.cond (.t 25) (.seq (.region false [o1 8 (.mov (.c (.int .i64 0))),
   o1 9 (.mov (.c (.int .i64 0)))])
  (.ret))
  (.skip)))
  (.seq (.seq (.region false [oM 26 3])
  (.cond (.t 26) (.region false [oM 27 2,
   o1 28 (.adr 4 4 8),
   o1 29 (.ld 28 4 1 true),
   oB 30 .add 27 29,
   o1 31 (.adr 4 4 10),
   o1 32 (.ld 31 4 1 true),
   o1 33 (.mn [.t 30, .t 32]),
   oM 2 33])
  (.region false [oM 34 2,
   o1 35 (.adr 4 4 9),
   o1 36 (.ld 35 4 1 true),
   oB 37 .sub 34 36,
   o1 38 (.adr 4 4 10),
   o1 39 (.ld 38 4 1 true),
   o1 40 (.un .neg (.t 39)),
   o1 41 (.mx [.t 37, .t 40]),
   oM 2 41])))
  (.seq (.region false [oM 42 1,
   oM 43 2,
   oB 44 .add 42 43,
   oM 1 44])
  (.seq (.block 0 (.seq (.region false [oM 46 1,
   o1 47 (.adr 4 4 7),
   o1 48 (.ld 47 4 1 true),
   oB 49 .gtr 46 48,
   oM 45 49])
  (.cond (.t 45) (.seq (.region false [o1 50 (.adr 4 4 7),
   o1 51 (.ld 50 4 1 true),
   oM 8 51,
   o1 9 (.mov (.c (.int .i64 0)))])
  (.ret))
  (.seq (.region false [oM 53 1,
   o1 54 (.adr 4 4 6),
   o1 55 (.ld 54 4 1 true),
   oB 56 .lss 53 55,
   oM 52 56])
  (.cond (.t 52) (.seq (.region false [o1 57 (.adr 4 4 6),
   o1 58 (.ld 57 4 1 true),
   oM 8 58,
   o1 9 (.mov (.c (.int .i64 0)))])
  (.ret))
  (.skip))))))
  (.seq (.region false [oM 59 1,
   oM 60 2,
   oM 8 59,
   oM 9 60])
  (.ret))))))⟩
def Try.r21 : List (Nat × Nat) := [(28, 4), (31, 4), (35, 4), (38, 4), (47, 4), (50, 4), (54, 4), (57, 4)]
theorem Try.i21_ok : fnOk Try.prog Try.r21 Try.f21 Try.i21 = true := by kernel_rfl

/- pinball/flipper.Direction -/
def Try.i22 : IFunc := ⟨2, 17, [.cell 4 2 false, .tmp 5],
  .seq (.region false [o1 2 (.box (.t 0) []),
   o1 4 (.new [.int .i64 0, .int .i64 0] []),
   o1 5 (.mov (.c (.int .i64 0)))])
  (.seq (.seq (.region false [o1 6 (.ld 2 2 15 false),
   oM 7 1,
   o1 8 (.bls 1 [.int .i64 0] [(0, 1, .t 7)]),
   oC 9 50 [6, 8],
   o1 10 (.un .not (.t 9))])
  (.cond (.t 10) (.seq (.region false [o1 11 (.bld [.int .i64 0, .int .i64 0] []),
   oN (.st 4 4 2 (.t 11)),
   o1 5 (.mov (.c (.int .i64 0)))])
  (.ret))
  (.skip)))
  (.seq (.region false [o1 12 (.ld 2 2 15 false),
   oM 13 1,
   o1 14 (.call 53 [.t 12, .t 13, .c (.int .i64 256)]),
   o1 15 (.ext (.t 14) 0),
   o1 16 (.ext (.t 14) 1),
   oN (.st 4 4 2 (.t 15)),
   oM 5 16])
  (.ret)))⟩
def Try.r22 : List (Nat × Nat) := []
theorem Try.i22_ok : fnOk Try.prog Try.r22 Try.f22 Try.i22 = true := by kernel_rfl

/- pinball/pinballref13.Direction -/
def Try.i23 : IFunc := ⟨2, 20, [.cell 4 2 false, .tmp 5],
  .seq (.region false [o1 2 (.box (.t 0) []),
   o1 4 (.new [.int .i64 0, .int .i64 0] []),
   o1 5 (.mov (.c (.int .i64 0)))])
  (.seq (.seq (.region false [o1 6 (.ld 2 2 15 false),
   oC 7 24 [6],
   o1 8 (.un .not (.t 7)),
   oM 9 8,
   oG 10 (.mov (.t 1)) 9 false,
   oG 11 (.call 52 [.t 10]) 9 false,
   oG 12 (.un .not (.t 11)) 9 false,
   o1 13 (.pick (.t 9) (.c (.bool true)) (.t 12))])
  (.cond (.t 13) (.seq (.region false [o1 14 (.bld [.int .i64 0, .int .i64 0] []),
   oN (.st 4 4 2 (.t 14)),
   o1 5 (.mov (.c (.int .i64 0)))])
  (.ret))
  (.skip)))
  (.seq (.region false [o1 15 (.ld 2 2 15 false),
   oM 16 1,
   o1 17 (.call 54 [.t 15, .c (.int .i64 256), .t 16]),
   o1 18 (.ext (.t 17) 0),
   o1 19 (.ext (.t 17) 1),
   oN (.st 4 4 2 (.t 18)),
   oM 5 19])
  (.ret)))⟩
def Try.r23 : List (Nat × Nat) := []
theorem Try.i23_ok : fnOk Try.prog Try.r23 Try.f23 Try.i23 = true := by kernel_rfl

/- pinball/pinballref09.Flips -/
def Try.i24 : IFunc := ⟨1, 51, [.tmp 2],
  .seq (.region false [o1 1 (.box (.t 0) [3, 7, 12, 17, 22, 24, 29, 34, 39, 44, 46]),
   o1 2 (.mov (.c (.bool false)))])
  (.seq (.region false [o1 3 (.adr 1 1 2),
   o1 4 (.ld 3 1 2 false),
   o1 5 (.call 55 [.t 4, .c (.int .i64 1048576)]),
   oM 6 5,
   oG 7 (.adr 1 1 4) 6 true,
   oG 8 (.ld 7 1 1 true) 6 true,
   oG 9 (.call 56 [.t 8, .c (.int .i64 1), .c (.int .i64 262144)]) 6 true,
   o1 10 (.pick (.t 6) (.t 9) (.c (.bool false))),
   oM 11 10,
   oG 12 (.adr 1 1 6) 11 true,
   oG 13 (.ld 12 1 1 true) 11 true,
   oG 14 (.call 56 [.t 13, .c (.int .i64 (-256)), .c (.int .i64 256)]) 11 true,
   o1 15 (.pick (.t 11) (.t 14) (.c (.bool false))),
   oM 16 15,
   oG 17 (.adr 1 1 7) 16 true,
   oG 18 (.ld 17 1 1 true) 16 true,
   oG 19 (.call 56 [.t 18, .c (.int .i64 (-256)), .c (.int .i64 256)]) 16 true,
   o1 20 (.pick (.t 16) (.t 19) (.c (.bool false))),
   oM 21 20,
   oG 22 (.adr 1 1 6) 21 true,
   oG 23 (.ld 22 1 1 true) 21 true,
   oG 24 (.adr 1 1 7) 21 true,
   oG 25 (.ld 24 1 1 true) 21 true,
   oG 26 (.bin .lss (.t 23) (.t 25)) 21 true,
   o1 27 (.pick (.t 21) (.t 26) (.c (.bool false))),
   oM 28 27,
   oG 29 (.adr 1 1 8) 28 true,
   oG 30 (.ld 29 1 1 true) 28 true,
   oG 31 (.call 56 [.t 30, .c (.int .i64 1), .c (.int .i64 64)]) 28 true,
   o1 32 (.pick (.t 28) (.t 31) (.c (.bool false))),
   oM 33 32,
   oG 34 (.adr 1 1 9) 33 true,
   oG 35 (.ld 34 1 1 true) 33 true,
   oG 36 (.call 56 [.t 35, .c (.int .i64 1), .c (.int .i64 64)]) 33 true,
   o1 37 (.pick (.t 33) (.t 36) (.c (.bool false))),
   oM 38 37,
   oG 39 (.adr 1 1 10) 38 true,
   oG 40 (.ld 39 1 1 true) 38 true,
   oG 41 (.call 56 [.t 40, .c (.int .i64 1), .c (.int .i64 64)]) 38 true,
   o1 42 (.pick (.t 38) (.t 41) (.c (.bool false))),
   oM 43 42,
   oG 44 (.adr 1 1 10) 43 true,
   oG 45 (.ld 44 1 1 true) 43 true,
   oG 46 (.adr 1 1 4) 43 true,
   oG 47 (.ld 46 1 1 true) 43 true,
   oG 48 (.bin .mul (.t 45) (.t 47)) 43 true,
   oG 49 (.bin .leq (.t 48) (.c (.int .i64 2097152))) 43 true,
   o1 50 (.pick (.t 43) (.t 49) (.c (.bool false))),
   oM 2 50])
  (.ret))⟩
def Try.r24 : List (Nat × Nat) := [(3, 1), (7, 1), (12, 1), (17, 1), (22, 1), (24, 1), (29, 1), (34, 1), (39, 1), (44, 1), (46, 1)]
theorem Try.i24_ok : fnOk Try.prog Try.r24 Try.f24 Try.i24 = true := by kernel_rfl

/- pinball/pinballlaw13.angle -/
def Try.i25 : IFunc := ⟨1, 9, [.tmp 2],
  .seq (.region false [o1 2 (.mov (.c (.bool false)))])
  (.seq (.region false [oM 3 0,
   o1 4 (.bin .geq (.t 3) (.c (.int .i64 (-256)))),
   oM 5 4,
   oG 6 (.mov (.t 0)) 5 true,
   oG 7 (.bin .leq (.t 6) (.c (.int .i64 256))) 5 true,
   o1 8 (.pick (.t 5) (.t 7) (.c (.bool false))),
   oM 2 8])
  (.ret))⟩
def Try.r25 : List (Nat × Nat) := []
theorem Try.i25_ok : fnOk Try.prog Try.r25 Try.f25 Try.i25 = true := by kernel_rfl

/- pinball/flipper.Surface -/
def Try.i26 : IFunc := ⟨4, 57, [.cell 8 2 false],
  .seq (.region false [o1 4 (.box (.t 0) []),
   o1 5 (.box (.t 1) [34]),
   o1 8 (.new [.int .i64 0, .int .i64 0] [])])
  (.seq (.seq (.region false [o1 16 (.ld 5 5 15 false),
   oM 17 2,
   oM 18 3,
   o1 19 (.bls 2 [.int .i64 0, .int .i64 0] [(0, 1, .t 17), (1, 1, .t 18)]),
   oC 20 50 [16, 19],
   o1 21 (.un .not (.t 20))])
  (.cond (.t 21) (.seq (.region false [o1 22 (.bld [.int .i64 0, .int .i64 0] []),
   oN (.st 8 8 2 (.t 22))])
  (.ret))
  (.skip)))
  (.seq (.region false [o1 23 (.ld 4 4 2 false),
   oC 24 57 [23],
   o1 9 (.new [.int .i64 0, .int .i64 0] [39, 47]),
   oN (.st 9 9 2 (.t 24))])
  (.seq (.region false [oM 25 3,
   oM 26 2,
   oB 27 .sub 25 26,
   o1 28 (.bin .mul (.c (.int .i64 4608)) (.t 27)),
   oM 29 2,
   oM 30 2,
   oB 31 .mul 29 30,
   o1 32 (.bin .add (.c (.int .i64 65536)) (.t 31)),
   o1 33 (.bin .mul (.c (.int .i64 2048)) (.t 32)),
   oM 10 28,
   oM 11 33])
  (.seq (.seq (.region false [o1 34 (.adr 5 5 5),
   o1 35 (.ld 34 5 1 true)])
  (.cond (.t 35) (.region false [oM 36 10,
   o1 37 (.un .neg (.t 36)),
   oM 10 37])
  (.skip)))
  (.seq (.region false [o1 39 (.adr 9 9 0),
   o1 40 (.ld 39 9 1 true),
   oM 41 10,
   oM 42 11,
   oC 43 58 [40, 41, 42],
   oM 38 43,
   o1 44 (.ext (.t 38) 0),
   o1 45 (.ext (.t 38) 1),
   oM 12 44,
   oM 13 45])
  (.seq (.region false [o1 47 (.adr 9 9 1),
   o1 48 (.ld 47 9 1 true),
   oM 49 10,
   oM 50 11,
   oC 51 58 [48, 49, 50],
   oM 46 51,
   o1 52 (.ext (.t 46) 0),
   o1 53 (.ext (.t 46) 1),
   oM 14 52,
   oM 15 53])
  (.seq (.region false [oM 54 12,
   oM 55 14,
   o1 56 (.bld [.int .i64 0, .int .i64 0] [(0, 1, .t 54), (1, 1, .t 55)]),
   oN (.st 8 8 2 (.t 56))])
  (.ret))))))))⟩
def Try.r26 : List (Nat × Nat) := [(34, 5), (39, 9), (47, 9)]
theorem Try.i26_ok : fnOk Try.prog Try.r26 Try.f26 Try.i26 = true := by kernel_rfl

/- pinball/vector.Cross -/
def Try.i27 : IFunc := ⟨2, 24, [.tmp 4],
  .seq (.region false [o1 2 (.box (.t 0) [13, 18]),
   o1 3 (.box (.t 1) [15, 20]),
   o1 4 (.mov (.c (.int .i64 0)))])
  (.seq (.seq (.region false [o1 5 (.ld 2 2 2 false),
   oC 6 59 [5],
   o1 7 (.un .not (.t 6)),
   oM 8 7,
   oG 9 (.ld 3 3 2 false) 8 false,
   oG 10 (.call 59 [.t 9]) 8 false,
   oG 11 (.un .not (.t 10)) 8 false,
   o1 12 (.pick (.t 8) (.c (.bool true)) (.t 11))])
  (.cond (.t 12) (.seq (.region false [o1 4 (.mov (.c (.int .i64 0)))])
  (.ret))
  (.skip)))
  (.seq (.region false [o1 13 (.adr 2 2 0),
   o1 14 (.ld 13 2 1 true),
   o1 15 (.adr 3 3 1),
   o1 16 (.ld 15 3 1 true),
   oB 17 .mul 14 16,
   o1 18 (.adr 2 2 1),
   o1 19 (.ld 18 2 1 true),
   o1 20 (.adr 3 3 0),
   o1 21 (.ld 20 3 1 true),
   oB 22 .mul 19 21,
   oB 23 .sub 17 22,
   oM 4 23])
  (.ret)))⟩
def Try.r27 : List (Nat × Nat) := [(13, 2), (15, 3), (18, 2), (20, 3)]
theorem Try.i27_ok : fnOk Try.prog Try.r27 Try.f27 Try.i27 = true := by kernel_rfl

/- pinball/pinballlaw13.near -/
def Try.i28 : IFunc := ⟨1, 21, [.tmp 2],
  .seq (.region false [o1 1 (.box (.t 0) [3, 7, 12, 17]),
   o1 2 (.mov (.c (.bool false)))])
  (.seq (.region false [o1 3 (.adr 1 1 0),
   o1 4 (.ld 3 1 1 true),
   o1 5 (.bin .geq (.t 4) (.c (.int .i64 (-2097152)))),
   oM 6 5,
   oG 7 (.adr 1 1 0) 6 true,
   oG 8 (.ld 7 1 1 true) 6 true,
   oG 9 (.bin .leq (.t 8) (.c (.int .i64 2097152))) 6 true,
   o1 10 (.pick (.t 6) (.t 9) (.c (.bool false))),
   oM 11 10,
   oG 12 (.adr 1 1 1) 11 true,
   oG 13 (.ld 12 1 1 true) 11 true,
   oG 14 (.bin .geq (.t 13) (.c (.int .i64 (-2097152)))) 11 true,
   o1 15 (.pick (.t 11) (.t 14) (.c (.bool false))),
   oM 16 15,
   oG 17 (.adr 1 1 1) 16 true,
   oG 18 (.ld 17 1 1 true) 16 true,
   oG 19 (.bin .leq (.t 18) (.c (.int .i64 2097152))) 16 true,
   o1 20 (.pick (.t 16) (.t 19) (.c (.bool false))),
   oM 2 20])
  (.ret))⟩
def Try.r28 : List (Nat × Nat) := [(3, 1), (7, 1), (12, 1), (17, 1)]
theorem Try.i28_ok : fnOk Try.prog Try.r28 Try.f28 Try.i28 = true := by kernel_rfl

/- pinball/pinballlaw13.mirrored -/
def Try.i29 : IFunc := ⟨1, 12, [.cell 2 15 false],
  .seq (.region false [o1 1 (.box (.t 0) [3, 6, 9, 10]),
   o1 2 (.new [.str ByteArray.empty, .int .i64 0, .int .i64 0, .int .i64 0, .int .i64 0, .bool false, .int .i64 0, .int .i64 0, .int .i64 0, .int .i64 0, .int .i64 0, .int .i64 0, .int .i64 0, .int .i64 0, .int .i64 0] [])])
  (.seq (.region true [o1 3 (.adr 1 1 2),
   o1 4 (.ld 3 1 2 false),
   oC 5 31 [4],
   o1 6 (.adr 1 1 5),
   o1 7 (.ld 6 1 1 true),
   o1 8 (.un .not (.t 7)),
   o1 9 (.adr 1 1 2),
   oN (.st 9 1 2 (.t 5)),
   o1 10 (.adr 1 1 5),
   oN (.st 10 1 1 (.t 8))])
  (.seq (.region false [o1 11 (.ld 1 1 15 false),
   oN (.st 2 2 15 (.t 11))])
  (.ret)))⟩
def Try.r29 : List (Nat × Nat) := [(3, 1), (6, 1), (9, 1), (10, 1)]
theorem Try.i29_ok : fnOk Try.prog Try.r29 Try.f29 Try.i29 = true := by kernel_rfl

/- pinball/flipper.Foot -/
def Try.i30 : IFunc := ⟨5, 112, [.cell 10 2 false],
  .seq (.region false [o1 5 (.box (.t 0) [31, 33]),
   o1 6 (.box (.t 1) [54, 66, 72, 80]),
   o1 10 (.new [.int .i64 0, .int .i64 0] [])])
  (.seq (.seq (.region false [o1 18 (.ld 6 6 15 false),
   oM 19 2,
   oM 20 3,
   o1 21 (.bls 2 [.int .i64 0, .int .i64 0] [(0, 1, .t 19), (1, 1, .t 20)]),
   oC 22 50 [18, 21],
   o1 23 (.un .not (.t 22)),
   oM 24 23,
   oG 25 (.mov (.t 4)) 24 false,
   oG 26 (.bls 1 [.int .i64 0] [(0, 1, .t 25)]) 24 false,
   oG 27 (.call 51 [.c (.int .i64 0), .c (.int .i64 16), .t 26]) 24 false,
   oG 28 (.un .not (.t 27)) 24 false,
   o1 29 (.pick (.t 24) (.c (.bool true)) (.t 28)),
   oM 30 29,
   oG 31 (.adr 5 5 0) 30 false,
   oG 32 (.ld 31 5 1 true) 30 false,
   oG 33 (.adr 5 5 1) 30 false,
   oG 34 (.ld 33 5 1 true) 30 false,
   oG 35 (.bls 2 [.int .i64 0, .int .i64 0] [(0, 1, .t 32), (1, 1, .t 34)]) 30 false,
   oG 36 (.call 51 [.c (.int .i64 (-536870912)), .c (.int .i64 536870912), .t 35]) 30 false,
   oG 37 (.un .not (.t 36)) 30 false,
   o1 38 (.pick (.t 30) (.c (.bool true)) (.t 37))])
  (.cond (.t 38) (.seq (.region false [o1 39 (.bld [.int .i64 0, .int .i64 0] []),
   oN (.st 10 10 2 (.t 39))])
  (.ret))
  (.skip)))
  (.seq (.region false [o1 41 (.ld 6 6 15 false),
   oM 42 2,
   o1 43 (.bin .mul (.c (.int .i64 16)) (.t 42)),
   oM 44 3,
   oM 45 2,
   oB 46 .sub 44 45,
   oM 47 4,
   oB 48 .mul 46 47,
   oB 49 .add 43 48,
   o1 50 (.call 53 [.t 41, .t 49, .c (.int .i64 4096)]),
   oM 40 50,
   o1 51 (.ext (.t 40) 0),
   o1 52 (.ext (.t 40) 1),
   o1 11 (.new [.int .i64 0, .int .i64 0] [75, 83, 91, 101]),
   oN (.st 11 11 2 (.t 51)),
   oM 12 52])
  (.seq (.region true [o1 53 (.ld 5 5 2 false),
   o1 54 (.adr 6 6 2),
   o1 55 (.ld 54 6 2 false),
   o1 56 (.call 45 [.t 55, .c (.int .i64 256)]),
   oC 57 43 [53, 56],
   o1 58 (.ld 11 11 2 false),
   oC 59 33 [57, 58],
   oM 13 59])
  (.seq (.block 0 (.seq (.region false [oM 61 13,
   o1 62 (.bin .leq (.t 61) (.c (.int .i64 0))),
   oM 60 62])
  (.cond (.t 60) (.seq (.region false [o1 63 (.bld [.int .i64 0, .int .i64 0] []),
   oN (.st 10 10 2 (.t 63))])
  (.ret))
  (.seq (.region false [oM 65 13,
   o1 66 (.adr 6 6 4),
   o1 67 (.ld 66 6 1 true),
   o1 68 (.bin .mul (.c (.int .i64 256)) (.t 67)),
   oM 69 12,
   oB 70 .mul 68 69,
   oB 71 .geq 65 70,
   oM 64 71])
  (.cond (.t 64) (.seq (.region true [o1 72 (.adr 6 6 4),
   o1 73 (.ld 72 6 1 true),
   o1 74 (.bin .mul (.c (.int .i64 256)) (.t 73)),
   o1 75 (.adr 11 11 0),
   o1 76 (.ld 75 11 1 true),
   oB 77 .mul 74 76,
   oM 78 12,
   oB 79 .quo 77 78,
   o1 80 (.adr 6 6 4),
   o1 81 (.ld 80 6 1 true),
   o1 82 (.bin .mul (.c (.int .i64 256)) (.t 81)),
   o1 83 (.adr 11 11 1),
   o1 84 (.ld 83 11 1 true),
   oB 85 .mul 82 84,
   oM 86 12,
   oB 87 .quo 85 86,
   o1 88 (.bld [.int .i64 0, .int .i64 0] [(0, 1, .t 79), (1, 1, .t 87)]),
   oN (.st 10 10 2 (.t 88))])
  (.ret))
  (.skip))))))
  (.seq (.region false [oM 90 13,
   o1 91 (.adr 11 11 0),
   o1 92 (.ld 91 11 1 true),
   oM 93 12,
   oM 94 12,
   oB 95 .mul 93 94,
   oC 96 58 [90, 92, 95],
   oM 89 96,
   o1 97 (.ext (.t 89) 0),
   o1 98 (.ext (.t 89) 1),
   oM 14 97,
   oM 15 98])
  (.seq (.region false [oM 100 13,
   o1 101 (.adr 11 11 1),
   o1 102 (.ld 101 11 1 true),
   oM 103 12,
   oM 104 12,
   oB 105 .mul 103 104,
   oC 106 58 [100, 102, 105],
   oM 99 106,
   o1 107 (.ext (.t 99) 0),
   o1 108 (.ext (.t 99) 1),
   oM 16 107,
   oM 17 108])
  (.seq (.region false [oM 109 14,
   oM 110 16,
   o1 111 (.bld [.int .i64 0, .int .i64 0] [(0, 1, .t 109), (1, 1, .t 110)]),
   oN (.st 10 10 2 (.t 111))])
  (.ret))))))))⟩
def Try.r30 : List (Nat × Nat) := [(31, 5), (33, 5), (54, 6), (66, 6), (72, 6), (75, 11), (80, 6), (83, 11), (91, 11), (101, 11)]
theorem Try.i30_ok : fnOk Try.prog Try.r30 Try.f30 Try.i30 = true := by kernel_rfl

/- pinball/pinballlaw13.flip -/
def Try.i31 : IFunc := ⟨1, 9, [.cell 2 2 false],
  .seq (.region false [o1 1 (.box (.t 0) [3, 6]),
   o1 2 (.new [.int .i64 0, .int .i64 0] [])])
  (.seq (.region false [o1 3 (.adr 1 1 0),
   o1 4 (.ld 3 1 1 true),
   o1 5 (.un .neg (.t 4)),
   o1 6 (.adr 1 1 1),
   o1 7 (.ld 6 1 1 true),
   o1 8 (.bld [.int .i64 0, .int .i64 0] [(0, 1, .t 5), (1, 1, .t 7)]),
   oN (.st 2 2 2 (.t 8))])
  (.ret))⟩
def Try.r31 : List (Nat × Nat) := [(3, 1), (6, 1)]
theorem Try.i31_ok : fnOk Try.prog Try.r31 Try.f31 Try.i31 = true := by kernel_rfl

/- pinball/flipper.Normal -/
def Try.i32 : IFunc := ⟨5, 46, [.cell 10 2 false],
  .seq (.region false [o1 5 (.box (.t 0) [24, 26]),
   o1 6 (.box (.t 1) [34]),
   o1 10 (.new [.int .i64 0, .int .i64 0] [])])
  (.seq (.seq (.region false [o1 11 (.ld 6 6 15 false),
   oM 12 2,
   oM 13 3,
   o1 14 (.bls 2 [.int .i64 0, .int .i64 0] [(0, 1, .t 12), (1, 1, .t 13)]),
   oC 15 50 [11, 14],
   o1 16 (.un .not (.t 15)),
   oM 17 16,
   oG 18 (.mov (.t 4)) 17 false,
   oG 19 (.bls 1 [.int .i64 0] [(0, 1, .t 18)]) 17 false,
   oG 20 (.call 51 [.c (.int .i64 0), .c (.int .i64 16), .t 19]) 17 false,
   oG 21 (.un .not (.t 20)) 17 false,
   o1 22 (.pick (.t 17) (.c (.bool true)) (.t 21)),
   oM 23 22,
   oG 24 (.adr 5 5 0) 23 false,
   oG 25 (.ld 24 5 1 true) 23 false,
   oG 26 (.adr 5 5 1) 23 false,
   oG 27 (.ld 26 5 1 true) 23 false,
   oG 28 (.bls 2 [.int .i64 0, .int .i64 0] [(0, 1, .t 25), (1, 1, .t 27)]) 23 false,
   oG 29 (.call 51 [.c (.int .i64 (-536870912)), .c (.int .i64 536870912), .t 28]) 23 false,
   oG 30 (.un .not (.t 29)) 23 false,
   o1 31 (.pick (.t 23) (.c (.bool true)) (.t 30))])
  (.cond (.t 31) (.seq (.region false [o1 32 (.bld [.int .i64 0, .int .i64 0] []),
   oN (.st 10 10 2 (.t 32))])
  (.ret))
  (.skip)))
  (.seq (.region true [o1 33 (.ld 5 5 2 false),
   o1 34 (.adr 6 6 2),
   o1 35 (.ld 34 6 2 false),
   o1 36 (.call 45 [.t 35, .c (.int .i64 256)]),
   oC 37 43 [33, 36],
   o1 38 (.ld 5 5 2 false),
   o1 39 (.ld 6 6 15 false),
   oM 40 2,
   oM 41 3,
   oM 42 4,
   oC 43 30 [38, 39, 40, 41, 42],
   oC 44 43 [37, 43],
   oC 45 47 [44],
   oN (.st 10 10 2 (.t 45))])
  (.ret)))⟩
def Try.r32 : List (Nat × Nat) := [(24, 5), (26, 5), (34, 6)]
theorem Try.i32_ok : fnOk Try.prog Try.r32 Try.f32 Try.i32 = true := by kernel_rfl

/- pinball/vector.Dot -/
def Try.i33 : IFunc := ⟨2, 24, [.tmp 4],
  .seq (.region false [o1 2 (.box (.t 0) [13, 18]),
   o1 3 (.box (.t 1) [15, 20]),
   o1 4 (.mov (.c (.int .i64 0)))])
  (.seq (.seq (.region false [o1 5 (.ld 2 2 2 false),
   oC 6 59 [5],
   o1 7 (.un .not (.t 6)),
   oM 8 7,
   oG 9 (.ld 3 3 2 false) 8 false,
   oG 10 (.call 59 [.t 9]) 8 false,
   oG 11 (.un .not (.t 10)) 8 false,
   o1 12 (.pick (.t 8) (.c (.bool true)) (.t 11))])
  (.cond (.t 12) (.seq (.region false [o1 4 (.mov (.c (.int .i64 0)))])
  (.ret))
  (.skip)))
  (.seq (.region false [o1 13 (.adr 2 2 0),
   o1 14 (.ld 13 2 1 true),
   o1 15 (.adr 3 3 0),
   o1 16 (.ld 15 3 1 true),
   oB 17 .mul 14 16,
   o1 18 (.adr 2 2 1),
   o1 19 (.ld 18 2 1 true),
   o1 20 (.adr 3 3 1),
   o1 21 (.ld 20 3 1 true),
   oB 22 .mul 19 21,
   oB 23 .add 17 22,
   oM 4 23])
  (.ret)))⟩
def Try.r33 : List (Nat × Nat) := [(13, 2), (15, 3), (18, 2), (20, 3)]
theorem Try.i33_ok : fnOk Try.prog Try.r33 Try.f33 Try.i33 = true := by kernel_rfl

/- pinball/flipper.Inside -/
def Try.i34 : IFunc := ⟨4, 96, [.tmp 8],
  .seq (.region false [o1 4 (.box (.t 0) [26, 28]),
   o1 5 (.box (.t 1) [41, 62, 71, 73, 82]),
   o1 8 (.mov (.c (.bool false)))])
  (.seq (.seq (.region false [o1 14 (.ld 5 5 15 false),
   oM 15 2,
   o1 16 (.bls 1 [.int .i64 0] [(0, 1, .t 15)]),
   oC 17 50 [14, 16],
   o1 18 (.un .not (.t 17)),
   oM 19 18,
   oG 20 (.mov (.t 3)) 19 false,
   oG 21 (.bls 1 [.int .i64 0] [(0, 1, .t 20)]) 19 false,
   oG 22 (.call 51 [.c (.int .i64 1), .c (.int .i64 524288), .t 21]) 19 false,
   oG 23 (.un .not (.t 22)) 19 false,
   o1 24 (.pick (.t 19) (.c (.bool true)) (.t 23)),
   oM 25 24,
   oG 26 (.adr 4 4 0) 25 false,
   oG 27 (.ld 26 4 1 true) 25 false,
   oG 28 (.adr 4 4 1) 25 false,
   oG 29 (.ld 28 4 1 true) 25 false,
   oG 30 (.bls 2 [.int .i64 0, .int .i64 0] [(0, 1, .t 27), (1, 1, .t 29)]) 25 false,
   oG 31 (.call 51 [.c (.int .i64 (-2097152)), .c (.int .i64 2097152), .t 30]) 25 false,
   oG 32 (.un .not (.t 31)) 25 false,
   o1 33 (.pick (.t 25) (.c (.bool true)) (.t 32))])
  (.cond (.t 33) (.seq (.region false [o1 8 (.mov (.c (.bool false)))])
  (.ret))
  (.skip)))
  (.seq (.region false [o1 35 (.ld 5 5 15 false),
   oM 36 2,
   o1 37 (.call 53 [.t 35, .t 36, .c (.int .i64 256)]),
   oM 34 37,
   o1 38 (.ext (.t 34) 0),
   o1 39 (.ext (.t 34) 1),
   o1 9 (.new [.int .i64 0, .int .i64 0] []),
   oN (.st 9 9 2 (.t 38)),
   oM 10 39])
  (.seq (.region false [o1 40 (.ld 4 4 2 false),
   o1 41 (.adr 5 5 2),
   o1 42 (.ld 41 5 2 false),
   oC 43 43 [40, 42],
   o1 11 (.new [.int .i64 0, .int .i64 0] []),
   oN (.st 11 11 2 (.t 43))])
  (.seq (.region true [o1 44 (.ld 11 11 2 false),
   o1 45 (.ld 9 9 2 false),
   oC 46 33 [44, 45],
   o1 47 (.ld 9 9 2 false),
   o1 48 (.ld 11 11 2 false),
   oC 49 27 [47, 48],
   oM 12 46,
   oM 13 49])
  (.seq (.block 0 (.seq (.region false [oM 51 12,
   o1 52 (.bin .leq (.t 51) (.c (.int .i64 0))),
   oM 50 52])
  (.cond (.t 50) (.seq (.region false [o1 53 (.ld 11 11 2 false),
   o1 54 (.ld 11 11 2 false),
   oC 55 33 [53, 54],
   oM 56 3,
   oM 57 3,
   oB 58 .mul 56 57,
   oB 59 .lss 55 58,
   oM 8 59])
  (.ret))
  (.seq (.region false [oM 61 12,
   o1 62 (.adr 5 5 4),
   o1 63 (.ld 62 5 1 true),
   oM 64 10,
   oB 65 .mul 63 64,
   oB 66 .geq 61 65,
   oM 60 66])
  (.cond (.t 60) (.seq (.region true [oM 67 10,
   o1 68 (.ld 11 11 2 false),
   o1 69 (.ld 11 11 2 false),
   oC 70 33 [68, 69],
   o1 71 (.adr 5 5 4),
   o1 72 (.ld 71 5 1 true),
   o1 73 (.adr 5 5 4),
   o1 74 (.ld 73 5 1 true),
   oB 75 .mul 72 74,
   oB 76 .add 70 75,
   oM 77 3,
   oM 78 3,
   oB 79 .mul 77 78,
   oB 80 .sub 76 79,
   oB 81 .mul 67 80,
   o1 82 (.adr 5 5 4),
   o1 83 (.ld 82 5 1 true),
   o1 84 (.bin .mul (.c (.int .i64 2)) (.t 83)),
   oM 85 12,
   oB 86 .mul 84 85,
   oB 87 .lss 81 86,
   oM 8 87])
  (.ret))
  (.skip))))))
  (.seq (.region false [oM 88 13,
   oM 89 13,
   o1 90 (.un .neg (.t 89)),
   o1 91 (.mx [.t 88, .t 90]),
   oM 92 3,
   oM 93 10,
   oB 94 .mul 92 93,
   oB 95 .lss 91 94,
   oM 8 95])
  (.ret)))))))⟩
def Try.r34 : List (Nat × Nat) := [(26, 4), (28, 4), (41, 5), (62, 5), (71, 5), (73, 5), (82, 5)]
theorem Try.i34_ok : fnOk Try.prog Try.r34 Try.f34 Try.i34 = true := by kernel_rfl

/- pinball/pinballref10.Valid -/
def Try.i35 : IFunc := ⟨1, 16, [.tmp 2],
  .seq (.region false [o1 1 (.box (.t 0) [3, 7, 12]),
   o1 2 (.mov (.c (.bool false)))])
  (.seq (.region false [o1 3 (.adr 1 1 0),
   o1 4 (.ld 3 1 2 false),
   o1 5 (.call 60 [.t 4, .c (.int .i64 8388608)]),
   oM 6 5,
   oG 7 (.adr 1 1 2) 6 true,
   oG 8 (.ld 7 1 2 false) 6 true,
   oG 9 (.call 60 [.t 8, .c (.int .i64 262144)]) 6 true,
   o1 10 (.pick (.t 6) (.t 9) (.c (.bool false))),
   oM 11 10,
   oG 12 (.adr 1 1 4) 11 true,
   oG 13 (.ld 12 1 2 false) 11 true,
   oG 14 (.call 60 [.t 13, .c (.int .i64 4096)]) 11 true,
   o1 15 (.pick (.t 11) (.t 14) (.c (.bool false))),
   oM 2 15])
  (.ret))⟩
def Try.r35 : List (Nat × Nat) := [(3, 1), (7, 1), (12, 1)]
theorem Try.i35_ok : fnOk Try.prog Try.r35 Try.f35 Try.i35 = true := by kernel_rfl

/- pinball/arc.Conditions -/
def Try.i36 : IFunc := ⟨3, 131, [.tmp 6],
  .seq (.region false [o1 3 (.box (.t 0) []),
   o1 4 (.box (.t 1) [42, 43, 49, 50, 55, 57, 60, 62, 118, 123]),
   o1 6 (.nlo 1)])
  (.seq (.region false [o1 16 (.ld 4 4 12 false),
   oC 17 14 [16],
   oM 15 17,
   o1 18 (.ext (.t 15) 0),
   o1 19 (.ext (.t 15) 1),
   oM 7 18,
   oM 8 19])
  (.seq (.seq (.region false [oM 20 8,
   o1 21 (.un .not (.t 20)),
   oM 22 21,
   oG 23 (.mov (.t 2)) 22 false,
   oG 24 (.bin .lss (.t 23) (.c (.int .i64 1))) 22 false,
   o1 25 (.pick (.t 22) (.c (.bool true)) (.t 24)),
   oM 26 25,
   oG 27 (.mov (.t 2)) 26 false,
   oG 28 (.mov (.t 7)) 26 false,
   oG 29 (.bin .geq (.t 27) (.t 28)) 26 false,
   o1 30 (.pick (.t 26) (.c (.bool true)) (.t 29)),
   oM 31 30,
   oG 32 (.ld 3 3 6 false) 31 false,
   oG 33 (.call 61 [.t 32]) 31 false,
   oG 34 (.un .not (.t 33)) 31 false,
   o1 35 (.pick (.t 31) (.c (.bool true)) (.t 34))])
  (.cond (.t 35) (.seq (.region false [o1 6 (.nlo 1)])
  (.ret))
  (.skip)))
  (.seq (.region false [o1 37 (.ld 3 3 6 false),
   oC 38 62 [37],
   oM 36 38,
   o1 39 (.ext (.t 36) 0),
   o1 40 (.ext (.t 36) 1),
   oM 9 39,
   oM 10 40])
  (.seq (.region true [oM 41 9,
   o1 42 (.adr 4 4 2),
   o1 43 (.adr 42 4 0),
   o1 44 (.ld 43 4 1 true),
   o1 45 (.bls 1 [.int .i64 0] [(0, 1, .t 44)]),
   oC 46 64 [45],
   oC 47 63 [41, 46],
   oM 48 10,
   o1 49 (.adr 4 4 2),
   o1 50 (.adr 49 4 1),
   o1 51 (.ld 50 4 1 true),
   o1 52 (.bls 1 [.int .i64 0] [(0, 1, .t 51)]),
   oC 53 64 [52],
   oC 54 63 [48, 53],
   oM 9 47,
   oM 10 54])
  (.seq (.region true [o1 55 (.adr 4 4 4),
   o1 56 (.ld 55 4 2 false),
   o1 57 (.adr 4 4 2),
   o1 58 (.ld 57 4 2 false),
   oC 59 43 [56, 58],
   o1 60 (.adr 4 4 6),
   o1 61 (.ld 60 4 2 false),
   o1 62 (.adr 4 4 2),
   o1 63 (.ld 62 4 2 false),
   oC 64 43 [61, 63],
   o1 11 (.new [.int .i64 0, .int .i64 0] [72, 76]),
   o1 12 (.new [.int .i64 0, .int .i64 0] [85, 89]),
   oN (.st 11 11 2 (.t 59)),
   oN (.st 12 12 2 (.t 64))])
  (.seq (.region false [oM 65 9,
   oM 66 9,
   oC 67 66 [65, 66],
   oM 68 10,
   oM 69 10,
   oC 70 66 [68, 69],
   oC 71 65 [67, 70],
   oM 13 71])
  (.seq (.region true [o1 72 (.adr 11 11 0),
   o1 73 (.ld 72 11 1 true),
   o1 74 (.bls 1 [.int .i64 0] [(0, 1, .t 73)]),
   oC 75 64 [74],
   o1 76 (.adr 11 11 1),
   o1 77 (.ld 76 11 1 true),
   o1 78 (.bls 1 [.int .i64 0] [(0, 1, .t 77)]),
   oC 79 64 [78],
   oM 80 9,
   oM 81 10,
   oC 82 67 [75, 79, 80, 81],
   oM 83 9,
   oM 84 10,
   o1 85 (.adr 12 12 0),
   o1 86 (.ld 85 12 1 true),
   o1 87 (.bls 1 [.int .i64 0] [(0, 1, .t 86)]),
   oC 88 64 [87],
   o1 89 (.adr 12 12 1),
   o1 90 (.ld 89 12 1 true),
   o1 91 (.bls 1 [.int .i64 0] [(0, 1, .t 90)]),
   oC 92 64 [91],
   oC 93 67 [83, 84, 88, 92],
   oM 94 7,
   oM 95 2,
   oB 96 .add 94 95,
   oM 97 7,
   oM 98 2,
   oB 99 .add 97 98,
   oB 100 .mul 96 99,
   o1 101 (.bls 1 [.int .i64 0] [(0, 1, .t 100)]),
   oC 102 64 [101],
   oM 103 13,
   oC 104 63 [102, 103],
   oM 105 13,
   oM 106 7,
   oM 107 2,
   oB 108 .sub 106 107,
   oM 109 7,
   oM 110 2,
   oB 111 .sub 109 110,
   oB 112 .mul 108 111,
   o1 113 (.bls 1 [.int .i64 0] [(0, 1, .t 112)]),
   oC 114 64 [113],
   oC 115 63 [105, 114],
   o1 116 (.bls 4 [.sl 0 [], .sl 0 [], .sl 0 [], .sl 0 []] [(0, 1, .t 82), (1, 1, .t 93), (2, 1, .t 104), (3, 1, .t 115)]),
   oM 14 116])
  (.seq (.region true [o1 117 (.ld 3 3 6 false),
   o1 118 (.adr 4 4 4),
   o1 119 (.ld 118 4 2 false),
   oM 120 2,
   o1 121 (.clo 68 [.t 117, .t 119, .t 120]),
   o1 122 (.ld 3 3 6 false),
   o1 123 (.adr 4 4 6),
   o1 124 (.ld 123 4 2 false),
   oM 125 2,
   oC 126 68 [122, 124, 125],
   o1 127 (.apd true (.t 121) (.t 126) 1),
   oM 128 14,
   o1 129 (.bls 1 [.sl 0 []] [(0, 1, .t 128)]),
   o1 130 (.apd true (.t 127) (.t 129) 1),
   o1 6 (.tra 130)])
  (.ret)))))))))⟩
def Try.r36 : List (Nat × Nat) := [(42, 4), (43, 4), (49, 4), (50, 4), (55, 4), (57, 4), (60, 4), (62, 4), (72, 11), (76, 11), (85, 12), (89, 12), (118, 4), (123, 4)]
theorem Try.i36_ok : fnOk Try.prog Try.r36 Try.f36 Try.i36 = true := by kernel_rfl

/- pinball/pinballref10.End -/
def Try.i37 : IFunc := ⟨1, 49, [.cell 2 2 false, .cell 3 2 false],
  .seq (.region false [o1 1 (.box (.t 0) [9, 10, 12, 13, 16, 17, 20, 21, 23, 24, 27, 28, 32, 33, 35, 36, 40, 41, 43, 44]),
   o1 2 (.new [.int .i64 0, .int .i64 0] []),
   o1 3 (.new [.int .i64 0, .int .i64 0] [])])
  (.seq (.seq (.region false [o1 4 (.ld 1 1 6 false),
   oC 5 35 [4],
   o1 6 (.un .not (.t 5))])
  (.cond (.t 6) (.seq (.region false [o1 7 (.bld [.int .i64 0, .int .i64 0] []),
   o1 8 (.bld [.int .i64 0, .int .i64 0] []),
   oN (.st 2 2 2 (.t 7)),
   oN (.st 3 3 2 (.t 8))])
  (.ret))
  (.skip)))
  (.seq (.region true [o1 9 (.adr 1 1 0),
   o1 10 (.adr 9 1 0),
   o1 11 (.ld 10 1 1 true),
   o1 12 (.adr 1 1 2),
   o1 13 (.adr 12 1 0),
   o1 14 (.ld 13 1 1 true),
   oB 15 .add 11 14,
   o1 16 (.adr 1 1 4),
   o1 17 (.adr 16 1 0),
   o1 18 (.ld 17 1 1 true),
   oB 19 .add 15 18,
   o1 20 (.adr 1 1 0),
   o1 21 (.adr 20 1 1),
   o1 22 (.ld 21 1 1 true),
   o1 23 (.adr 1 1 2),
   o1 24 (.adr 23 1 1),
   o1 25 (.ld 24 1 1 true),
   oB 26 .add 22 25,
   o1 27 (.adr 1 1 4),
   o1 28 (.adr 27 1 1),
   o1 29 (.ld 28 1 1 true),
   oB 30 .add 26 29,
   o1 31 (.bld [.int .i64 0, .int .i64 0] [(0, 1, .t 19), (1, 1, .t 30)]),
   o1 32 (.adr 1 1 2),
   o1 33 (.adr 32 1 0),
   o1 34 (.ld 33 1 1 true),
   o1 35 (.adr 1 1 4),
   o1 36 (.adr 35 1 0),
   o1 37 (.ld 36 1 1 true),
   o1 38 (.bin .mul (.c (.int .i64 2)) (.t 37)),
   oB 39 .add 34 38,
   o1 40 (.adr 1 1 2),
   o1 41 (.adr 40 1 1),
   o1 42 (.ld 41 1 1 true),
   o1 43 (.adr 1 1 4),
   o1 44 (.adr 43 1 1),
   o1 45 (.ld 44 1 1 true),
   o1 46 (.bin .mul (.c (.int .i64 2)) (.t 45)),
   oB 47 .add 42 46,
   o1 48 (.bld [.int .i64 0, .int .i64 0] [(0, 1, .t 39), (1, 1, .t 47)]),
   oN (.st 2 2 2 (.t 31)),
   oN (.st 3 3 2 (.t 48))])
  (.ret)))⟩
def Try.r37 : List (Nat × Nat) := [(9, 1), (10, 1), (12, 1), (13, 1), (16, 1), (17, 1), (20, 1), (21, 1), (23, 1), (24, 1), (27, 1), (28, 1), (32, 1), (33, 1), (35, 1), (36, 1), (40, 1), (41, 1), (43, 1), (44, 1)]
theorem Try.i37_ok : fnOk Try.prog Try.r37 Try.f37 Try.i37 = true := by kernel_rfl

/- pinball/pinballlaw12.at -/
def Try.i38 : IFunc := ⟨2, 42, [.tmp 4],
  .seq (.region false [o1 4 (.mov (.c (.bool false)))])
  (.seq (.seq (.region false [o1 5 (.mov (.c (.int .i64 0)))])
  (.block 0 (.loop (.seq (.seq (.region false [oM 9 5,
   oM 10 0,
   o1 11 (.len (.t 10)),
   oB 12 .lss 9 11])
  (.cond (.t 12) (.skip)
  (.exit 0)))
  (.seq (.block 1 (.seq (.region false [o1 6 (.mov (.c (.bool true)))])
  (.seq (.seq (.region false [o1 7 (.mov (.c (.int .i64 0)))])
  (.block 2 (.loop (.seq (.seq (.region false [oM 15 7,
   oM 16 0,
   oM 17 5,
   o1 18 (.ixa 16 (.t 17) 1),
   o1 19 (.ld 18 18 1 true),
   o1 20 (.len (.t 19)),
   oB 21 .lss 15 20])
  (.cond (.t 21) (.skip)
  (.exit 2)))
  (.seq (.block 3 (.seq (.region false [oM 24 0,
   oM 25 5,
   o1 26 (.ixa 24 (.t 25) 1),
   o1 27 (.ld 26 26 1 true),
   oM 28 7,
   o1 29 (.ixa 27 (.t 28) 1),
   o1 30 (.ld 29 29 1 true),
   oC 31 69 [30],
   oM 8 31])
  (.region false [oM 32 6,
   oM 33 32,
   oG 34 (.mov (.t 8)) 33 true,
   oG 35 (.mov (.t 1)) 33 true,
   oG 36 (.call 72 [.t 35]) 33 true,
   oG 37 (.call 71 [.t 34, .t 36, .c (.int .i64 4)]) 33 true,
   oG 38 (.call 70 [.t 37]) 33 true,
   oG 39 (.bin .gtr (.t 38) (.c (.int .i64 0))) 33 true,
   o1 40 (.pick (.t 33) (.t 39) (.c (.bool false))),
   oM 6 40])))
  (.region false [oM 22 7,
   o1 23 (.bin .add (.t 22) (.c (.int .i64 1))),
   oM 7 23]))))))
  (.seq (.region false [oM 41 6])
  (.cond (.t 41) (.seq (.region false [o1 4 (.mov (.c (.bool true)))])
  (.ret))
  (.skip))))))
  (.region false [oM 13 5,
   o1 14 (.bin .add (.t 13) (.c (.int .i64 1))),
   oM 5 14]))))))
  (.seq (.region false [o1 4 (.mov (.c (.bool false)))])
  (.ret)))⟩
def Try.r38 : List (Nat × Nat) := []
theorem Try.i38_ok : fnOk Try.prog Try.r38 Try.f38 Try.i38 = true := by kernel_rfl

/- pinball/flipper.Conditions -/
def Try.i39 : IFunc := ⟨5, 163, [.tmp 10],
  .seq (.region false [o1 5 (.box (.t 0) []),
   o1 6 (.box (.t 1) [49, 50, 56, 57, 83, 111, 113, 124, 138, 154]),
   o1 10 (.nlo 1)])
  (.seq (.seq (.region false [o1 26 (.ld 6 6 15 false),
   oM 27 2,
   oM 28 3,
   o1 29 (.bls 2 [.int .i64 0, .int .i64 0] [(0, 1, .t 27), (1, 1, .t 28)]),
   oC 30 50 [26, 29],
   o1 31 (.un .not (.t 30)),
   oM 32 31,
   oG 33 (.ld 5 5 6 false) 32 false,
   oG 34 (.call 61 [.t 33]) 32 false,
   oG 35 (.un .not (.t 34)) 32 false,
   o1 36 (.pick (.t 32) (.c (.bool true)) (.t 35)),
   oM 37 36,
   oG 38 (.mov (.t 4)) 37 false,
   oG 39 (.bls 1 [.int .i64 0] [(0, 1, .t 38)]) 37 false,
   oG 40 (.call 51 [.c (.int .i64 1), .c (.int .i64 524288), .t 39]) 37 false,
   oG 41 (.un .not (.t 40)) 37 false,
   o1 42 (.pick (.t 37) (.c (.bool true)) (.t 41))])
  (.cond (.t 42) (.seq (.region false [o1 10 (.nlo 1)])
  (.ret))
  (.skip)))
  (.seq (.region false [o1 44 (.ld 5 5 6 false),
   oC 45 62 [44],
   oM 43 45,
   o1 46 (.ext (.t 43) 0),
   o1 47 (.ext (.t 43) 1),
   oM 11 46,
   oM 12 47])
  (.seq (.region true [oM 48 11,
   o1 49 (.adr 6 6 2),
   o1 50 (.adr 49 6 0),
   o1 51 (.ld 50 6 1 true),
   o1 52 (.bls 1 [.int .i64 0] [(0, 1, .t 51)]),
   oC 53 73 [52],
   oC 54 63 [48, 53],
   oM 55 12,
   o1 56 (.adr 6 6 2),
   o1 57 (.adr 56 6 1),
   o1 58 (.ld 57 6 1 true),
   o1 59 (.bls 1 [.int .i64 0] [(0, 1, .t 58)]),
   oC 60 73 [59],
   oC 61 63 [55, 60],
   oM 11 54,
   oM 12 61])
  (.seq (.region false [oM 62 2,
   oM 63 3,
   oM 64 2,
   oB 65 .sub 63 64,
   o1 66 (.bls 2 [.int .i64 0, .int .i64 0] [(0, 1, .t 62), (1, 1, .t 65)]),
   oC 67 73 [66],
   oM 13 67])
  (.seq (.region false [oM 68 13,
   oM 69 13,
   oC 70 66 [68, 69],
   o1 71 (.bls 1 [.int .i64 0] [(0, 1, .c (.int .i64 65536))]),
   oC 72 73 [71],
   oM 14 70,
   oM 15 72])
  (.seq (.region false [oM 73 15,
   oM 74 14,
   oC 75 63 [73, 74],
   o1 76 (.bls 1 [.int .i64 0] [(0, 1, .c (.int .i64 512))]),
   oC 77 73 [76],
   oM 78 13,
   oC 79 66 [77, 78],
   oM 80 15,
   oM 81 14,
   oC 82 65 [80, 81],
   oM 16 75,
   oM 17 79,
   oM 18 82])
  (.seq (.seq (.region false [o1 83 (.adr 6 6 5),
   o1 84 (.ld 83 6 1 true)])
  (.cond (.t 84) (.region false [oM 85 16,
   oC 86 74 [85],
   oM 16 86])
  (.skip)))
  (.seq (.region false [oM 87 11,
   oM 88 11,
   oC 89 66 [87, 88],
   oM 90 12,
   oM 91 12,
   oC 92 66 [90, 91],
   oC 93 65 [89, 92],
   oM 19 93])
  (.seq (.region false [oM 94 11,
   oM 95 16,
   oC 96 66 [94, 95],
   oM 97 12,
   oM 98 17,
   oC 99 66 [97, 98],
   oC 100 65 [96, 99],
   oM 20 100])
  (.seq (.region false [oM 101 16,
   oM 102 12,
   oC 103 66 [101, 102],
   oM 104 17,
   oM 105 11,
   oC 106 66 [104, 105],
   oC 107 63 [103, 106],
   oM 21 107])
  (.seq (.region false [oM 108 4,
   oM 109 4,
   oB 110 .mul 108 109,
   o1 111 (.adr 6 6 4),
   o1 112 (.ld 111 6 1 true),
   o1 113 (.adr 6 6 4),
   o1 114 (.ld 113 6 1 true),
   oB 115 .mul 112 114,
   oB 116 .sub 110 115,
   o1 117 (.bls 1 [.int .i64 0] [(0, 1, .t 116)]),
   oC 118 73 [117],
   oM 119 19,
   oC 120 63 [118, 119],
   oM 22 120])
  (.seq (.region true [oM 121 18,
   oM 122 22,
   oC 123 66 [121, 122],
   o1 124 (.adr 6 6 4),
   o1 125 (.ld 124 6 1 true),
   o1 126 (.bin .mul (.c (.int .i64 2)) (.t 125)),
   o1 127 (.bls 1 [.int .i64 0] [(0, 1, .t 126)]),
   oC 128 73 [127],
   oM 129 20,
   oC 130 66 [128, 129],
   oC 131 65 [123, 130],
   oM 23 131])
  (.seq (.region false [oM 132 4,
   o1 133 (.bls 1 [.int .i64 0] [(0, 1, .t 132)]),
   oC 134 73 [133],
   oM 135 18,
   oC 136 66 [134, 135],
   oM 24 136])
  (.seq (.region false [oM 137 20,
   o1 138 (.adr 6 6 4),
   o1 139 (.ld 138 6 1 true),
   o1 140 (.bls 1 [.int .i64 0] [(0, 1, .t 139)]),
   oC 141 73 [140],
   oM 142 18,
   oC 143 66 [141, 142],
   oM 144 20,
   oC 145 63 [143, 144],
   oM 146 24,
   oM 147 21,
   oC 148 63 [146, 147],
   oM 149 24,
   oM 150 21,
   oC 151 65 [149, 150],
   o1 152 (.bls 4 [.sl 0 [], .sl 0 [], .sl 0 [], .sl 0 []] [(0, 1, .t 137), (1, 1, .t 145), (2, 1, .t 148), (3, 1, .t 151)]),
   oM 25 152])
  (.seq (.region false [o1 153 (.ld 5 5 6 false),
   o1 154 (.adr 6 6 2),
   o1 155 (.ld 154 6 2 false),
   oM 156 4,
   o1 157 (.clo 68 [.t 153, .t 155, .t 156]),
   oM 158 23,
   o1 159 (.bls 1 [.sl 0 []] [(0, 1, .t 158)]),
   oM 160 25,
   o1 161 (.bls 2 [.sl 0 [], .sl 0 []] [(0, 1, .t 159), (1, 1, .t 160)]),
   o1 162 (.apd true (.t 157) (.t 161) 1),
   o1 10 (.tra 162)])
  (.ret))))))))))))))))⟩
def Try.r39 : List (Nat × Nat) := [(49, 6), (50, 6), (56, 6), (57, 6), (83, 6), (111, 6), (113, 6), (124, 6), (138, 6), (154, 6)]
theorem Try.i39_ok : fnOk Try.prog Try.r39 Try.f39 Try.i39 = true := by kernel_rfl

/- pinball/pinballlaw13.at -/
def Try.i40 : IFunc := ⟨2, 42, [.tmp 4],
  .seq (.region false [o1 4 (.mov (.c (.bool false)))])
  (.seq (.seq (.region false [o1 5 (.mov (.c (.int .i64 0)))])
  (.block 0 (.loop (.seq (.seq (.region false [oM 9 5,
   oM 10 0,
   o1 11 (.len (.t 10)),
   oB 12 .lss 9 11])
  (.cond (.t 12) (.skip)
  (.exit 0)))
  (.seq (.block 1 (.seq (.region false [o1 6 (.mov (.c (.bool true)))])
  (.seq (.seq (.region false [o1 7 (.mov (.c (.int .i64 0)))])
  (.block 2 (.loop (.seq (.seq (.region false [oM 15 7,
   oM 16 0,
   oM 17 5,
   o1 18 (.ixa 16 (.t 17) 1),
   o1 19 (.ld 18 18 1 true),
   o1 20 (.len (.t 19)),
   oB 21 .lss 15 20])
  (.cond (.t 21) (.skip)
  (.exit 2)))
  (.seq (.block 3 (.seq (.region false [oM 24 0,
   oM 25 5,
   o1 26 (.ixa 24 (.t 25) 1),
   o1 27 (.ld 26 26 1 true),
   oM 28 7,
   o1 29 (.ixa 27 (.t 28) 1),
   o1 30 (.ld 29 29 1 true),
   oC 31 69 [30],
   oM 8 31])
  (.region false [oM 32 6,
   oM 33 32,
   oG 34 (.mov (.t 8)) 33 true,
   oG 35 (.mov (.t 1)) 33 true,
   oG 36 (.call 72 [.t 35]) 33 true,
   oG 37 (.call 71 [.t 34, .t 36, .c (.int .i64 4)]) 33 true,
   oG 38 (.call 70 [.t 37]) 33 true,
   oG 39 (.bin .gtr (.t 38) (.c (.int .i64 0))) 33 true,
   o1 40 (.pick (.t 33) (.t 39) (.c (.bool false))),
   oM 6 40])))
  (.region false [oM 22 7,
   o1 23 (.bin .add (.t 22) (.c (.int .i64 1))),
   oM 7 23]))))))
  (.seq (.region false [oM 41 6])
  (.cond (.t 41) (.seq (.region false [o1 4 (.mov (.c (.bool true)))])
  (.ret))
  (.skip))))))
  (.region false [oM 13 5,
   o1 14 (.bin .add (.t 13) (.c (.int .i64 1))),
   oM 5 14]))))))
  (.seq (.region false [o1 4 (.mov (.c (.bool false)))])
  (.ret)))⟩
def Try.r40 : List (Nat × Nat) := []
theorem Try.i40_ok : fnOk Try.prog Try.r40 Try.f40 Try.i40 = true := by kernel_rfl

/- pinball/pinballlaw12.quarter -/
def Try.i41 : IFunc := ⟨0, 4, [.cell 0 12 false],
  .seq (.region false [o1 0 (.new [.str ByteArray.empty, .int .i64 0, .int .i64 0, .int .i64 0, .int .i64 0, .int .i64 0, .int .i64 0, .int .i64 0, .int .i64 0, .int .i64 0, .int .i64 0, .int .i64 0] [])])
  (.seq (.region false [o1 1 (.bld [.int .i64 0, .int .i64 0] [(0, 1, .c (.int .i64 500))]),
   o1 2 (.bld [.int .i64 0, .int .i64 0] [(1, 1, .c (.int .i64 500))]),
   o1 3 (.bld [.str ByteArray.empty, .int .i64 0, .int .i64 0, .int .i64 0, .int .i64 0, .int .i64 0, .int .i64 0, .int .i64 0, .int .i64 0, .int .i64 0, .int .i64 0, .int .i64 0] [(4, 2, .t 1), (6, 2, .t 2)]),
   oN (.st 0 0 12 (.t 3))])
  (.ret))⟩
def Try.r41 : List (Nat × Nat) := []
theorem Try.i41_ok : fnOk Try.prog Try.r41 Try.f41 Try.i41 = true := by kernel_rfl

/- pinball/arc.within -/
def Try.i42 : IFunc := ⟨2, 38, [.tmp 4],
  .seq (.region false [o1 4 (.mov (.c (.bool false)))])
  (.seq (.seq (.region false [oM 7 1,
   o1 8 (.len (.t 7)),
   o1 9 (.mov (.c (.int .i64 0)))])
  (.block 0 (.loop (.seq (.region false [oB 10 .lss 9 8])
  (.seq (.cond (.t 10) (.skip)
  (.exit 0))
  (.seq (.block 1 (.seq (.region false [o1 11 (.ixa 7 (.t 9) 2),
   o1 12 (.ld 11 11 2 false),
   o1 6 (.new [.int .i64 0, .int .i64 0] [13, 19, 25, 32]),
   oN (.st 6 6 2 (.t 12))])
  (.seq (.region false [o1 13 (.adr 6 6 0),
   o1 14 (.ld 13 6 1 true),
   oM 15 0,
   o1 16 (.un .neg (.t 15)),
   oB 17 .lss 14 16,
   oM 18 17,
   oG 19 (.adr 6 6 0) 18 false,
   oG 20 (.ld 19 6 1 true) 18 false,
   oG 21 (.mov (.t 0)) 18 false,
   oG 22 (.bin .gtr (.t 20) (.t 21)) 18 false,
   o1 23 (.pick (.t 18) (.c (.bool true)) (.t 22)),
   oM 24 23,
   oG 25 (.adr 6 6 1) 24 false,
   oG 26 (.ld 25 6 1 true) 24 false,
   oG 27 (.mov (.t 0)) 24 false,
   oG 28 (.un .neg (.t 27)) 24 false,
   oG 29 (.bin .lss (.t 26) (.t 28)) 24 false,
   o1 30 (.pick (.t 24) (.c (.bool true)) (.t 29)),
   oM 31 30,
   oG 32 (.adr 6 6 1) 31 false,
   oG 33 (.ld 32 6 1 true) 31 false,
   oG 34 (.mov (.t 0)) 31 false,
   oG 35 (.bin .gtr (.t 33) (.t 34)) 31 false,
   o1 36 (.pick (.t 31) (.c (.bool true)) (.t 35))])
  (.cond (.t 36) (.seq (.region false [o1 4 (.mov (.c (.bool false)))])
  (.ret))
  (.skip)))))
  (.region false [o1 37 (.bin .add (.t 9) (.c (.int .i64 1))),
   oM 9 37])))))))
  (.seq (.region false [o1 4 (.mov (.c (.bool true)))])
  (.ret)))⟩
def Try.r42 : List (Nat × Nat) := [(13, 6), (19, 6), (25, 6), (32, 6)]
theorem Try.i42_ok : fnOk Try.prog Try.r42 Try.f42 Try.i42 = true := by kernel_rfl

/- pinball/vector.Sub -/
def Try.i43 : IFunc := ⟨2, 26, [.cell 4 2 false],
  .seq (.region false [o1 2 (.box (.t 0) [14, 19]),
   o1 3 (.box (.t 1) [16, 21]),
   o1 4 (.new [.int .i64 0, .int .i64 0] [])])
  (.seq (.seq (.region false [o1 5 (.ld 2 2 2 false),
   oC 6 59 [5],
   o1 7 (.un .not (.t 6)),
   oM 8 7,
   oG 9 (.ld 3 3 2 false) 8 false,
   oG 10 (.call 59 [.t 9]) 8 false,
   oG 11 (.un .not (.t 10)) 8 false,
   o1 12 (.pick (.t 8) (.c (.bool true)) (.t 11))])
  (.cond (.t 12) (.seq (.region false [o1 13 (.bld [.int .i64 0, .int .i64 0] []),
   oN (.st 4 4 2 (.t 13))])
  (.ret))
  (.skip)))
  (.seq (.region false [o1 14 (.adr 2 2 0),
   o1 15 (.ld 14 2 1 true),
   o1 16 (.adr 3 3 0),
   o1 17 (.ld 16 3 1 true),
   oB 18 .sub 15 17,
   o1 19 (.adr 2 2 1),
   o1 20 (.ld 19 2 1 true),
   o1 21 (.adr 3 3 1),
   o1 22 (.ld 21 3 1 true),
   oB 23 .sub 20 22,
   o1 24 (.bld [.int .i64 0, .int .i64 0] [(0, 1, .t 18), (1, 1, .t 23)]),
   oC 25 75 [24],
   oN (.st 4 4 2 (.t 25))])
  (.ret)))⟩
def Try.r43 : List (Nat × Nat) := [(14, 2), (16, 3), (19, 2), (21, 3)]
theorem Try.i43_ok : fnOk Try.prog Try.r43 Try.f43 Try.i43 = true := by kernel_rfl

/- pinball/vector.Root -/
def Try.i44 : IFunc := ⟨1, 22, [.tmp 2],
  .seq (.region false [o1 2 (.mov (.c (.int .i64 0)))])
  (.seq (.seq (.region false [oM 6 0,
   o1 7 (.bin .leq (.t 6) (.c (.int .i64 0)))])
  (.cond (.t 7) (.seq (.region false [o1 2 (.mov (.c (.int .i64 0)))])
  (.ret))
  (.skip)))
  (.seq (.region false [o1 3 (.mov (.c (.int .i64 0)))])
  (.seq (.seq (.region false [o1 4 (.mov (.c (.int .i64 2147483648)))])
  (.block 0 (.loop (.seq (.seq (.region false [oM 8 4,
   o1 9 (.bin .gtr (.t 8) (.c (.int .i64 0)))])
  (.cond (.t 9) (.skip)
  (.exit 0)))
  (.seq (.block 1 (.seq (.region false [oM 12 3,
   oM 13 4,
   oB 14 .or 12 13,
   oM 5 14])
  (.seq (.region false [oM 15 5,
   oM 16 0,
   oM 17 5,
   oB 18 .quo 16 17,
   oB 19 .leq 15 18])
  (.cond (.t 19) (.region false [oM 20 5,
   oM 3 20])
  (.skip)))))
  (.region false [oM 10 4,
   o1 11 (.bin .shr (.t 10) (.c (.int .u64 1))),
   oM 4 11]))))))
  (.seq (.region false [oM 21 3,
   oM 2 21])
  (.ret)))))⟩
def Try.r44 : List (Nat × Nat) := []
theorem Try.i44_ok : fnOk Try.prog Try.r44 Try.f44 Try.i44 = true := by kernel_rfl

/- pinball/vector.Scale -/
def Try.i45 : IFunc := ⟨2, 32, [.cell 4 2 false],
  .seq (.region false [o1 2 (.box (.t 0) [22, 26]),
   o1 4 (.new [.int .i64 0, .int .i64 0] [])])
  (.seq (.seq (.region false [o1 5 (.ld 2 2 2 false),
   oC 6 59 [5],
   o1 7 (.un .not (.t 6)),
   oM 8 7,
   oG 9 (.ld 2 2 2 false) 8 false,
   oG 10 (.bld [.int .i64 0, .int .i64 0] []) 8 false,
   oG 11 (.eqv false 2 (.t 9) (.t 10)) 8 false,
   o1 12 (.pick (.t 8) (.c (.bool true)) (.t 11)),
   oM 13 12,
   oG 14 (.mov (.t 1)) 13 false,
   oG 15 (.bin .lss (.t 14) (.c (.int .i64 (-1073741824)))) 13 false,
   o1 16 (.pick (.t 13) (.c (.bool true)) (.t 15)),
   oM 17 16,
   oG 18 (.mov (.t 1)) 17 false,
   oG 19 (.bin .gtr (.t 18) (.c (.int .i64 1073741824))) 17 false,
   o1 20 (.pick (.t 17) (.c (.bool true)) (.t 19))])
  (.cond (.t 20) (.seq (.region false [o1 21 (.bld [.int .i64 0, .int .i64 0] []),
   oN (.st 4 4 2 (.t 21))])
  (.ret))
  (.skip)))
  (.seq (.region false [o1 22 (.adr 2 2 0),
   o1 23 (.ld 22 2 1 true),
   oM 24 1,
   oB 25 .mul 23 24,
   o1 26 (.adr 2 2 1),
   o1 27 (.ld 26 2 1 true),
   oM 28 1,
   oB 29 .mul 27 28,
   o1 30 (.bld [.int .i64 0, .int .i64 0] [(0, 1, .t 25), (1, 1, .t 29)]),
   oC 31 75 [30],
   oN (.st 4 4 2 (.t 31))])
  (.ret)))⟩
def Try.r45 : List (Nat × Nat) := [(22, 2), (26, 2)]
theorem Try.i45_ok : fnOk Try.prog Try.r45 Try.f45 Try.i45 = true := by kernel_rfl

/- pinball/wall.DiscNormal -/
def Try.i46 : IFunc := ⟨2, 15, [.cell 4 2 false],
  .seq (.region false [o1 2 (.box (.t 0) []),
   o1 3 (.box (.t 1) []),
   o1 4 (.new [.int .i64 0, .int .i64 0] [])])
  (.seq (.seq (.region false [o1 5 (.ld 3 3 2 false),
   o1 6 (.bls 1 [.int .i64 0, .int .i64 0] [(0, 2, .t 5)]),
   o1 7 (.call 76 [.c (.int .i64 1048576), .t 6]),
   o1 8 (.un .not (.t 7))])
  (.cond (.t 8) (.seq (.region false [o1 9 (.bld [.int .i64 0, .int .i64 0] []),
   oN (.st 4 4 2 (.t 9))])
  (.ret))
  (.skip)))
  (.seq (.region true [o1 10 (.ld 2 2 2 false),
   o1 11 (.ld 3 3 2 false),
   o1 12 (.call 45 [.t 11, .c (.int .i64 256)]),
   oC 13 43 [10, 12],
   oC 14 47 [13],
   oN (.st 4 4 2 (.t 14))])
  (.ret)))⟩
def Try.r46 : List (Nat × Nat) := []
theorem Try.i46_ok : fnOk Try.prog Try.r46 Try.f46 Try.i46 = true := by kernel_rfl

/- pinball/vector.Halve -/
def Try.i47 : IFunc := ⟨1, 27, [.cell 2 2 false],
  .seq (.region false [o1 1 (.box (.t 0) [7, 9, 12, 14, 19, 22]),
   o1 2 (.new [.int .i64 0, .int .i64 0] [])])
  (.seq (.seq (.region false [o1 3 (.ld 1 1 2 false),
   oC 4 59 [3],
   o1 5 (.un .not (.t 4))])
  (.cond (.t 5) (.seq (.region false [o1 6 (.bld [.int .i64 0, .int .i64 0] []),
   oN (.st 2 2 2 (.t 6))])
  (.ret))
  (.skip)))
  (.seq (.block 0 (.loop (.seq (.seq (.region false [o1 7 (.adr 1 1 0),
   o1 8 (.ld 7 1 1 true),
   o1 9 (.adr 1 1 0),
   o1 10 (.ld 9 1 1 true),
   o1 11 (.un .neg (.t 10)),
   o1 12 (.adr 1 1 1),
   o1 13 (.ld 12 1 1 true),
   o1 14 (.adr 1 1 1),
   o1 15 (.ld 14 1 1 true),
   o1 16 (.un .neg (.t 15)),
   o1 17 (.mx [.t 8, .t 11, .t 13, .t 16]),
   o1 18 (.bin .gtr (.t 17) (.c (.int .i64 2097152)))])
  (.cond (.t 18) (.skip)
  (.exit 0)))
  (.block 1 (.region false [o1 19 (.adr 1 1 0),
   o1 20 (.ld 19 1 1 true),
   o1 21 (.bin .quo (.t 20) (.c (.int .i64 2))),
   o1 22 (.adr 1 1 1),
   o1 23 (.ld 22 1 1 true),
   o1 24 (.bin .quo (.t 23) (.c (.int .i64 2))),
   o1 25 (.bld [.int .i64 0, .int .i64 0] [(0, 1, .t 21), (1, 1, .t 24)]),
   oN (.st 1 1 2 (.t 25))])))))
  (.seq (.region false [o1 26 (.ld 1 1 2 false),
   oN (.st 2 2 2 (.t 26))])
  (.ret))))⟩
def Try.r47 : List (Nat × Nat) := [(7, 1), (9, 1), (12, 1), (14, 1), (19, 1), (22, 1)]
theorem Try.i47_ok : fnOk Try.prog Try.r47 Try.f47 Try.i47 = true := by kernel_rfl

/- pinball/wall.InDisc -/
def Try.i48 : IFunc := ⟨3, 36, [.tmp 6],
  .seq (.region false [o1 3 (.box (.t 0) []),
   o1 4 (.box (.t 1) []),
   o1 6 (.mov (.c (.bool false)))])
  (.seq (.seq (.region false [o1 8 (.ld 3 3 2 false),
   o1 9 (.bls 1 [.int .i64 0, .int .i64 0] [(0, 2, .t 8)]),
   o1 10 (.call 76 [.c (.int .i64 2097152), .t 9]),
   o1 11 (.un .not (.t 10)),
   oM 12 11,
   oG 13 (.ld 4 4 2 false) 12 false,
   oG 14 (.bls 1 [.int .i64 0, .int .i64 0] [(0, 2, .t 13)]) 12 false,
   oG 15 (.call 76 [.c (.int .i64 1048576), .t 14]) 12 false,
   oG 16 (.un .not (.t 15)) 12 false,
   o1 17 (.pick (.t 12) (.c (.bool true)) (.t 16)),
   oM 18 17,
   oG 19 (.mov (.t 2)) 18 false,
   oG 20 (.bin .lss (.t 19) (.c (.int .i64 1))) 18 false,
   o1 21 (.pick (.t 18) (.c (.bool true)) (.t 20)),
   oM 22 21,
   oG 23 (.mov (.t 2)) 22 false,
   oG 24 (.bin .gtr (.t 23) (.c (.int .i64 524288))) 22 false,
   o1 25 (.pick (.t 22) (.c (.bool true)) (.t 24))])
  (.cond (.t 25) (.seq (.region false [o1 6 (.mov (.c (.bool false)))])
  (.ret))
  (.skip)))
  (.seq (.region false [o1 26 (.ld 3 3 2 false),
   o1 27 (.ld 4 4 2 false),
   oC 28 43 [26, 27],
   o1 7 (.new [.int .i64 0, .int .i64 0] []),
   oN (.st 7 7 2 (.t 28))])
  (.seq (.region false [o1 29 (.ld 7 7 2 false),
   o1 30 (.ld 7 7 2 false),
   oC 31 33 [29, 30],
   oM 32 2,
   oM 33 2,
   oB 34 .mul 32 33,
   oB 35 .lss 31 34,
   oM 6 35])
  (.ret))))⟩
def Try.r48 : List (Nat × Nat) := []
theorem Try.i48_ok : fnOk Try.prog Try.r48 Try.f48 Try.i48 = true := by kernel_rfl

/- pinball/pinballlaw13.usual -/
def Try.i49 : IFunc := ⟨0, 2, [.cell 0 15 false],
  .seq (.region false [o1 0 (.new [.str ByteArray.empty, .int .i64 0, .int .i64 0, .int .i64 0, .int .i64 0, .bool false, .int .i64 0, .int .i64 0, .int .i64 0, .int .i64 0, .int .i64 0, .int .i64 0, .int .i64 0, .int .i64 0, .int .i64 0] [])])
  (.seq (.region false [o1 1 (.bld [.str ByteArray.empty, .int .i64 0, .int .i64 0, .int .i64 0, .int .i64 0, .bool false, .int .i64 0, .int .i64 0, .int .i64 0, .int .i64 0, .int .i64 0, .int .i64 0, .int .i64 0, .int .i64 0, .int .i64 0] [(4, 1, .c (.int .i64 1000)), (6, 1, .c (.int .i64 (-100))), (7, 1, .c (.int .i64 256)), (8, 1, .c (.int .i64 4)), (9, 1, .c (.int .i64 2)), (10, 1, .c (.int .i64 16)), (13, 1, .c (.int .i64 0)), (14, 1, .c (.int .i64 (-1)))]),
   oN (.st 0 0 15 (.t 1))])
  (.ret))⟩
def Try.r49 : List (Nat × Nat) := []
theorem Try.i49_ok : fnOk Try.prog Try.r49 Try.f49 Try.i49 = true := by kernel_rfl

/- pinball/flipper.permitted -/
def Try.i50 : IFunc := ⟨2, 56, [.tmp 4],
  .seq (.region false [o1 2 (.box (.t 0) [5, 6, 8, 9, 14, 20, 22, 28, 30, 35, 37, 39, 45, 47]),
   o1 4 (.mov (.c (.bool false)))])
  (.seq (.region false [o1 5 (.adr 2 2 2),
   o1 6 (.adr 5 2 0),
   o1 7 (.ld 6 2 1 true),
   o1 8 (.adr 2 2 2),
   o1 9 (.adr 8 2 1),
   o1 10 (.ld 9 2 1 true),
   o1 11 (.bls 2 [.int .i64 0, .int .i64 0] [(0, 1, .t 7), (1, 1, .t 10)]),
   o1 12 (.call 51 [.c (.int .i64 (-1048576)), .c (.int .i64 1048576), .t 11]),
   oM 13 12,
   oG 14 (.adr 2 2 4) 13 true,
   oG 15 (.ld 14 2 1 true) 13 true,
   oG 16 (.bls 1 [.int .i64 0] [(0, 1, .t 15)]) 13 true,
   oG 17 (.call 51 [.c (.int .i64 1), .c (.int .i64 262144), .t 16]) 13 true,
   o1 18 (.pick (.t 13) (.t 17) (.c (.bool false))),
   oM 19 18,
   oG 20 (.adr 2 2 6) 19 true,
   oG 21 (.ld 20 2 1 true) 19 true,
   oG 22 (.adr 2 2 7) 19 true,
   oG 23 (.ld 22 2 1 true) 19 true,
   oG 24 (.bls 2 [.int .i64 0, .int .i64 0] [(0, 1, .t 21), (1, 1, .t 23)]) 19 true,
   oG 25 (.call 51 [.c (.int .i64 (-256)), .c (.int .i64 256), .t 24]) 19 true,
   o1 26 (.pick (.t 19) (.t 25) (.c (.bool false))),
   oM 27 26,
   oG 28 (.adr 2 2 6) 27 true,
   oG 29 (.ld 28 2 1 true) 27 true,
   oG 30 (.adr 2 2 7) 27 true,
   oG 31 (.ld 30 2 1 true) 27 true,
   oG 32 (.bin .lss (.t 29) (.t 31)) 27 true,
   o1 33 (.pick (.t 27) (.t 32) (.c (.bool false))),
   oM 34 33,
   oG 35 (.adr 2 2 8) 34 true,
   oG 36 (.ld 35 2 1 true) 34 true,
   oG 37 (.adr 2 2 9) 34 true,
   oG 38 (.ld 37 2 1 true) 34 true,
   oG 39 (.adr 2 2 10) 34 true,
   oG 40 (.ld 39 2 1 true) 34 true,
   oG 41 (.bls 3 [.int .i64 0, .int .i64 0, .int .i64 0] [(0, 1, .t 36), (1, 1, .t 38), (2, 1, .t 40)]) 34 true,
   oG 42 (.call 51 [.c (.int .i64 1), .c (.int .i64 64), .t 41]) 34 true,
   o1 43 (.pick (.t 34) (.t 42) (.c (.bool false))),
   oM 44 43,
   oG 45 (.adr 2 2 10) 44 true,
   oG 46 (.ld 45 2 1 true) 44 true,
   oG 47 (.adr 2 2 4) 44 true,
   oG 48 (.ld 47 2 1 true) 44 true,
   oG 49 (.bin .mul (.t 46) (.t 48)) 44 true,
   oG 50 (.bin .leq (.t 49) (.c (.int .i64 2097152))) 44 true,
   o1 51 (.pick (.t 44) (.t 50) (.c (.bool false))),
   oM 52 51,
   oG 53 (.mov (.t 1)) 52 true,
   oG 54 (.call 51 [.c (.int .i64 (-256)), .c (.int .i64 256), .t 53]) 52 true,
   o1 55 (.pick (.t 52) (.t 54) (.c (.bool false))),
   oM 4 55])
  (.ret))⟩
def Try.r50 : List (Nat × Nat) := [(5, 2), (6, 2), (8, 2), (9, 2), (14, 2), (20, 2), (22, 2), (28, 2), (30, 2), (35, 2), (37, 2), (39, 2), (45, 2), (47, 2)]
theorem Try.i50_ok : fnOk Try.prog Try.r50 Try.f50 Try.i50 = true := by kernel_rfl

/- pinball/flipper.in -/
def Try.i51 : IFunc := ⟨3, 24, [.tmp 6],
  .seq (.region false [o1 6 (.mov (.c (.bool false)))])
  (.seq (.seq (.region false [oM 9 2,
   o1 10 (.len (.t 9)),
   o1 11 (.mov (.c (.int .i64 0)))])
  (.block 0 (.loop (.seq (.region false [oB 12 .lss 11 10])
  (.seq (.cond (.t 12) (.skip)
  (.exit 0))
  (.seq (.block 1 (.seq (.region false [o1 13 (.ixa 9 (.t 11) 1),
   o1 14 (.ld 13 13 1 true),
   oM 8 14])
  (.seq (.region false [oM 15 8,
   oM 16 0,
   oB 17 .lss 15 16,
   oM 18 17,
   oG 19 (.mov (.t 8)) 18 false,
   oG 20 (.mov (.t 1)) 18 false,
   oG 21 (.bin .gtr (.t 19) (.t 20)) 18 false,
   o1 22 (.pick (.t 18) (.c (.bool true)) (.t 21))])
  (.cond (.t 22) (.seq (.region false [o1 6 (.mov (.c (.bool false)))])
  (.ret))
  (.skip)))))
  (.region false [o1 23 (.bin .add (.t 11) (.c (.int .i64 1))),
   oM 11 23])))))))
  (.seq (.region false [o1 6 (.mov (.c (.bool true)))])
  (.ret)))⟩
def Try.r51 : List (Nat × Nat) := []
theorem Try.i51_ok : fnOk Try.prog Try.r51 Try.f51 Try.i51 = true := by kernel_rfl

/- pinball/pinballref13.angle -/
def Try.i52 : IFunc := ⟨1, 9, [.tmp 2],
  .seq (.region false [o1 2 (.mov (.c (.bool false)))])
  (.seq (.region false [oM 3 0,
   o1 4 (.bin .geq (.t 3) (.c (.int .i64 (-256)))),
   oM 5 4,
   oG 6 (.mov (.t 0)) 5 true,
   oG 7 (.bin .leq (.t 6) (.c (.int .i64 256))) 5 true,
   o1 8 (.pick (.t 5) (.t 7) (.c (.bool false))),
   oM 2 8])
  (.ret))⟩
def Try.r52 : List (Nat × Nat) := []
theorem Try.i52_ok : fnOk Try.prog Try.r52 Try.f52 Try.i52 = true := by kernel_rfl

/- pinball/flipper.turned -/
def Try.i53 : IFunc := ⟨3, 35, [.cell 6 2 false, .tmp 7],
  .seq (.region false [o1 3 (.box (.t 0) [21]),
   o1 6 (.new [.int .i64 0, .int .i64 0] []),
   o1 7 (.mov (.c (.int .i64 0)))])
  (.seq (.region false [oM 9 2,
   oM 10 2,
   oB 11 .mul 9 10,
   oM 12 1,
   oM 13 1,
   oB 14 .mul 12 13,
   oB 15 .sub 11 14,
   oM 16 2,
   o1 17 (.bin .mul (.c (.int .i64 2)) (.t 16)),
   oM 18 1,
   oB 19 .mul 17 18,
   o1 20 (.bld [.int .i64 0, .int .i64 0] [(0, 1, .t 15), (1, 1, .t 19)]),
   o1 8 (.new [.int .i64 0, .int .i64 0] [23, 26]),
   oN (.st 8 8 2 (.t 20))])
  (.seq (.seq (.region false [o1 21 (.adr 3 3 5),
   o1 22 (.ld 21 3 1 true)])
  (.cond (.t 22) (.region false [o1 23 (.adr 8 8 0),
   o1 24 (.ld 23 8 1 true),
   o1 25 (.un .neg (.t 24)),
   o1 26 (.adr 8 8 0),
   oN (.st 26 8 1 (.t 25))])
  (.skip)))
  (.seq (.region false [o1 27 (.ld 8 8 2 false),
   oM 28 2,
   oM 29 2,
   oB 30 .mul 28 29,
   oM 31 1,
   oM 32 1,
   oB 33 .mul 31 32,
   oB 34 .add 30 33,
   oN (.st 6 6 2 (.t 27)),
   oM 7 34])
  (.ret))))⟩
def Try.r53 : List (Nat × Nat) := [(21, 3), (23, 8), (26, 8)]
theorem Try.i53_ok : fnOk Try.prog Try.r53 Try.f53 Try.i53 = true := by kernel_rfl

/- pinball/pinballref13.ray -/
def Try.i54 : IFunc := ⟨3, 35, [.cell 6 2 false, .tmp 7],
  .seq (.region false [o1 3 (.box (.t 0) [21]),
   o1 6 (.new [.int .i64 0, .int .i64 0] []),
   o1 7 (.mov (.c (.int .i64 0)))])
  (.seq (.region false [oM 9 1,
   oM 10 1,
   oB 11 .mul 9 10,
   oM 12 2,
   oM 13 2,
   oB 14 .mul 12 13,
   oB 15 .sub 11 14,
   oM 16 1,
   o1 17 (.bin .mul (.c (.int .i64 2)) (.t 16)),
   oM 18 2,
   oB 19 .mul 17 18,
   o1 20 (.bld [.int .i64 0, .int .i64 0] [(0, 1, .t 15), (1, 1, .t 19)]),
   o1 8 (.new [.int .i64 0, .int .i64 0] [23, 26]),
   oN (.st 8 8 2 (.t 20))])
  (.seq (.seq (.region false [o1 21 (.adr 3 3 5),
   o1 22 (.ld 21 3 1 true)])
  (.cond (.t 22) (.region false [o1 23 (.adr 8 8 0),
   o1 24 (.ld 23 8 1 true),
   o1 25 (.un .neg (.t 24)),
   o1 26 (.adr 8 8 0),
   oN (.st 26 8 1 (.t 25))])
  (.skip)))
  (.seq (.region false [o1 27 (.ld 8 8 2 false),
   oM 28 1,
   oM 29 1,
   oB 30 .mul 28 29,
   oM 31 2,
   oM 32 2,
   oB 33 .mul 31 32,
   oB 34 .add 30 33,
   oN (.st 6 6 2 (.t 27)),
   oM 7 34])
  (.ret))))⟩
def Try.r54 : List (Nat × Nat) := [(21, 3), (23, 8), (26, 8)]
theorem Try.i54_ok : fnOk Try.prog Try.r54 Try.f54 Try.i54 = true := by kernel_rfl

/- pinball/pinballref09.near -/
def Try.i55 : IFunc := ⟨2, 19, [.tmp 4],
  .seq (.region false [o1 2 (.box (.t 0) [5, 12]),
   o1 4 (.mov (.c (.bool false)))])
  (.seq (.region false [o1 5 (.adr 2 2 0),
   o1 6 (.ld 5 2 1 true),
   oM 7 1,
   o1 8 (.un .neg (.t 7)),
   oM 9 1,
   oC 10 56 [6, 8, 9],
   oM 11 10,
   oG 12 (.adr 2 2 1) 11 true,
   oG 13 (.ld 12 2 1 true) 11 true,
   oG 14 (.mov (.t 1)) 11 true,
   oG 15 (.un .neg (.t 14)) 11 true,
   oG 16 (.mov (.t 1)) 11 true,
   oG 17 (.call 56 [.t 13, .t 15, .t 16]) 11 true,
   o1 18 (.pick (.t 11) (.t 17) (.c (.bool false))),
   oM 4 18])
  (.ret))⟩
def Try.r55 : List (Nat × Nat) := [(5, 2), (12, 2)]
theorem Try.i55_ok : fnOk Try.prog Try.r55 Try.f55 Try.i55 = true := by kernel_rfl

/- pinball/pinballref09.in -/
def Try.i56 : IFunc := ⟨3, 15, [.tmp 6],
  .seq (.region false [o1 6 (.mov (.c (.bool false)))])
  (.seq (.region false [oM 7 0,
   oM 8 1,
   oB 9 .geq 7 8,
   oM 10 9,
   oG 11 (.mov (.t 0)) 10 true,
   oG 12 (.mov (.t 2)) 10 true,
   oG 13 (.bin .leq (.t 11) (.t 12)) 10 true,
   o1 14 (.pick (.t 10) (.t 13) (.c (.bool false))),
   oM 6 14])
  (.ret))⟩
def Try.r56 : List (Nat × Nat) := []
theorem Try.i56_ok : fnOk Try.prog Try.r56 Try.f56 Try.i56 = true := by kernel_rfl

/- pinball/vector.Perp -/
def Try.i57 : IFunc := ⟨1, 13, [.cell 2 2 false],
  .seq (.region false [o1 1 (.box (.t 0) [7, 10]),
   o1 2 (.new [.int .i64 0, .int .i64 0] [])])
  (.seq (.seq (.region false [o1 3 (.ld 1 1 2 false),
   oC 4 59 [3],
   o1 5 (.un .not (.t 4))])
  (.cond (.t 5) (.seq (.region false [o1 6 (.bld [.int .i64 0, .int .i64 0] []),
   oN (.st 2 2 2 (.t 6))])
  (.ret))
  (.skip)))
  (.seq (.region false [o1 7 (.adr 1 1 1),
   o1 8 (.ld 7 1 1 true),
   o1 9 (.un .neg (.t 8)),
   o1 10 (.adr 1 1 0),
   o1 11 (.ld 10 1 1 true),
   o1 12 (.bld [.int .i64 0, .int .i64 0] [(0, 1, .t 9), (1, 1, .t 11)]),
   oN (.st 2 2 2 (.t 12))])
  (.ret)))⟩
def Try.r57 : List (Nat × Nat) := [(7, 1), (10, 1)]
theorem Try.i57_ok : fnOk Try.prog Try.r57 Try.f57 Try.i57 = true := by kernel_rfl

/- pinball/vector.MulDiv -/
def Try.i58 : IFunc := ⟨3, 62, [.tmp 6, .tmp 7],
  .seq (.region false [o1 6 (.mov (.c (.int .i64 0))),
   o1 7 (.mov (.c (.bool false)))])
  (.seq (.seq (.region false [oM 14 2,
   o1 15 (.bin .eql (.t 14) (.c (.int .i64 0)))])
  (.cond (.t 15) (.seq (.region false [o1 6 (.mov (.c (.int .i64 0))),
   o1 7 (.mov (.c (.bool false)))])
  (.ret))
  (.skip)))
  (.seq (.region false [oM 16 0,
   o1 17 (.bin .lss (.t 16) (.c (.int .i64 0))),
   oM 18 1,
   o1 19 (.bin .lss (.t 18) (.c (.int .i64 0))),
   o1 20 (.eqb true (.t 17) (.t 19)),
   oM 21 2,
   o1 22 (.bin .lss (.t 21) (.c (.int .i64 0))),
   o1 23 (.eqb true (.t 20) (.t 22)),
   oM 8 23])
  (.seq (.region false [oM 25 0,
   oC 26 78 [25],
   oM 27 1,
   oC 28 78 [27],
   oC 29 77 [26, 28],
   oM 24 29,
   o1 30 (.ext (.t 24) 0),
   o1 31 (.ext (.t 24) 1),
   oM 9 30,
   oM 10 31])
  (.seq (.region false [oM 32 2,
   oC 33 78 [32],
   oM 11 33])
  (.seq (.seq (.region false [oM 34 9,
   oM 35 11,
   oB 36 .geq 34 35])
  (.cond (.t 36) (.seq (.region false [o1 6 (.mov (.c (.int .i64 0))),
   o1 7 (.mov (.c (.bool false)))])
  (.ret))
  (.skip)))
  (.seq (.region false [oM 38 9,
   oM 39 10,
   oM 40 11,
   oC 41 79 [38, 39, 40],
   oM 37 41,
   o1 42 (.ext (.t 37) 0),
   o1 43 (.ext (.t 37) 1),
   oM 12 42,
   oM 13 43])
  (.seq (.block 0 (.seq (.region false [oM 45 8,
   oM 46 45,
   oG 47 (.mov (.t 12)) 46 true,
   oG 48 (.bin .leq (.t 47) (.c (.int .u64 9223372036854775808))) 46 true,
   o1 49 (.pick (.t 46) (.t 48) (.c (.bool false))),
   oM 44 49])
  (.cond (.t 44) (.seq (.region false [oM 50 12,
   o1 51 (.un .neg (.t 50)),
   o1 52 (.cv .i64 (.t 51)),
   oM 6 52,
   o1 7 (.mov (.c (.bool true)))])
  (.ret))
  (.seq (.region false [oM 54 8,
   o1 55 (.un .not (.t 54)),
   oM 56 55,
   oG 57 (.mov (.t 12)) 56 true,
   oG 58 (.bin .lss (.t 57) (.c (.int .u64 9223372036854775808))) 56 true,
   o1 59 (.pick (.t 56) (.t 58) (.c (.bool false))),
   oM 53 59])
  (.cond (.t 53) (.seq (.region false [oM 60 12,
   o1 61 (.cv .i64 (.t 60)),
   oM 6 61,
   o1 7 (.mov (.c (.bool true)))])
  (.ret))
  (.skip))))))
  (.seq (.region false [o1 6 (.mov (.c (.int .i64 0))),
   o1 7 (.mov (.c (.bool false)))])
  (.ret)))))))))⟩
def Try.r58 : List (Nat × Nat) := []
theorem Try.i58_ok : fnOk Try.prog Try.r58 Try.f58 Try.i58 = true := by kernel_rfl

/- pinball/vector.Small -/
def Try.i59 : IFunc := ⟨1, 21, [.tmp 2],
  .seq (.region false [o1 1 (.box (.t 0) [3, 7, 12, 17]),
   o1 2 (.mov (.c (.bool false)))])
  (.seq (.region false [o1 3 (.adr 1 1 0),
   o1 4 (.ld 3 1 1 true),
   o1 5 (.bin .geq (.t 4) (.c (.int .i64 (-1073741824)))),
   oM 6 5,
   oG 7 (.adr 1 1 0) 6 true,
   oG 8 (.ld 7 1 1 true) 6 true,
   oG 9 (.bin .leq (.t 8) (.c (.int .i64 1073741824))) 6 true,
   o1 10 (.pick (.t 6) (.t 9) (.c (.bool false))),
   oM 11 10,
   oG 12 (.adr 1 1 1) 11 true,
   oG 13 (.ld 12 1 1 true) 11 true,
   oG 14 (.bin .geq (.t 13) (.c (.int .i64 (-1073741824)))) 11 true,
   o1 15 (.pick (.t 11) (.t 14) (.c (.bool false))),
   oM 16 15,
   oG 17 (.adr 1 1 1) 16 true,
   oG 18 (.ld 17 1 1 true) 16 true,
   oG 19 (.bin .leq (.t 18) (.c (.int .i64 1073741824))) 16 true,
   o1 20 (.pick (.t 16) (.t 19) (.c (.bool false))),
   oM 2 20])
  (.ret))⟩
def Try.r59 : List (Nat × Nat) := [(3, 1), (7, 1), (12, 1), (17, 1)]
theorem Try.i59_ok : fnOk Try.prog Try.r59 Try.f59 Try.i59 = true := by kernel_rfl

/- pinball/pinballref10.near -/
def Try.i60 : IFunc := ⟨2, 29, [.tmp 4],
  .seq (.region false [o1 2 (.box (.t 0) [5, 11, 17, 24]),
   o1 4 (.mov (.c (.bool false)))])
  (.seq (.region false [o1 5 (.adr 2 2 0),
   o1 6 (.ld 5 2 1 true),
   oM 7 1,
   o1 8 (.un .neg (.t 7)),
   oB 9 .geq 6 8,
   oM 10 9,
   oG 11 (.adr 2 2 0) 10 true,
   oG 12 (.ld 11 2 1 true) 10 true,
   oG 13 (.mov (.t 1)) 10 true,
   oG 14 (.bin .leq (.t 12) (.t 13)) 10 true,
   o1 15 (.pick (.t 10) (.t 14) (.c (.bool false))),
   oM 16 15,
   oG 17 (.adr 2 2 1) 16 true,
   oG 18 (.ld 17 2 1 true) 16 true,
   oG 19 (.mov (.t 1)) 16 true,
   oG 20 (.un .neg (.t 19)) 16 true,
   oG 21 (.bin .geq (.t 18) (.t 20)) 16 true,
   o1 22 (.pick (.t 16) (.t 21) (.c (.bool false))),
   oM 23 22,
   oG 24 (.adr 2 2 1) 23 true,
   oG 25 (.ld 24 2 1 true) 23 true,
   oG 26 (.mov (.t 1)) 23 true,
   oG 27 (.bin .leq (.t 25) (.t 26)) 23 true,
   o1 28 (.pick (.t 23) (.t 27) (.c (.bool false))),
   oM 4 28])
  (.ret))⟩
def Try.r60 : List (Nat × Nat) := [(5, 2), (11, 2), (17, 2), (24, 2)]
theorem Try.i60_ok : fnOk Try.prog Try.r60 Try.f60 Try.i60 = true := by kernel_rfl

/- pinball/flight.Valid -/
def Try.i61 : IFunc := ⟨1, 16, [.tmp 2],
  .seq (.region false [o1 1 (.box (.t 0) [3, 7, 12]),
   o1 2 (.mov (.c (.bool false)))])
  (.seq (.region false [o1 3 (.adr 1 1 0),
   o1 4 (.ld 3 1 2 false),
   o1 5 (.call 80 [.t 4, .c (.int .i64 8388608)]),
   oM 6 5,
   oG 7 (.adr 1 1 2) 6 true,
   oG 8 (.ld 7 1 2 false) 6 true,
   oG 9 (.call 80 [.t 8, .c (.int .i64 262144)]) 6 true,
   o1 10 (.pick (.t 6) (.t 9) (.c (.bool false))),
   oM 11 10,
   oG 12 (.adr 1 1 4) 11 true,
   oG 13 (.ld 12 1 2 false) 11 true,
   oG 14 (.call 80 [.t 13, .c (.int .i64 4096)]) 11 true,
   o1 15 (.pick (.t 11) (.t 14) (.c (.bool false))),
   oM 2 15])
  (.ret))⟩
def Try.r61 : List (Nat × Nat) := [(3, 1), (7, 1), (12, 1)]
theorem Try.i61_ok : fnOk Try.prog Try.r61 Try.f61 Try.i61 = true := by kernel_rfl

/- pinball/flight.Polys -/
def Try.i62 : IFunc := ⟨1, 29, [.tmp 2, .tmp 3],
  .seq (.region false [o1 1 (.box (.t 0) [7, 8, 10, 11, 13, 14, 18, 19, 21, 22, 24, 25]),
   o1 2 (.nlo 2),
   o1 3 (.nlo 2)])
  (.seq (.seq (.region false [o1 4 (.ld 1 1 6 false),
   oC 5 61 [4],
   o1 6 (.un .not (.t 5))])
  (.cond (.t 6) (.seq (.region false [o1 2 (.nlo 2),
   o1 3 (.nlo 2)])
  (.ret))
  (.skip)))
  (.seq (.region true [o1 7 (.adr 1 1 0),
   o1 8 (.adr 7 1 0),
   o1 9 (.ld 8 1 1 true),
   o1 10 (.adr 1 1 2),
   o1 11 (.adr 10 1 0),
   o1 12 (.ld 11 1 1 true),
   o1 13 (.adr 1 1 4),
   o1 14 (.adr 13 1 0),
   o1 15 (.ld 14 1 1 true),
   o1 16 (.bls 3 [.int .i64 0, .int .i64 0, .int .i64 0] [(0, 1, .t 9), (1, 1, .t 12), (2, 1, .t 15)]),
   o1 17 (.clo 64 [.t 16]),
   o1 18 (.adr 1 1 0),
   o1 19 (.adr 18 1 1),
   o1 20 (.ld 19 1 1 true),
   o1 21 (.adr 1 1 2),
   o1 22 (.adr 21 1 1),
   o1 23 (.ld 22 1 1 true),
   o1 24 (.adr 1 1 4),
   o1 25 (.adr 24 1 1),
   o1 26 (.ld 25 1 1 true),
   o1 27 (.bls 3 [.int .i64 0, .int .i64 0, .int .i64 0] [(0, 1, .t 20), (1, 1, .t 23), (2, 1, .t 26)]),
   o1 28 (.clo 64 [.t 27]),
   o1 2 (.tra 17),
   o1 3 (.tra 28)])
  (.ret)))⟩
def Try.r62 : List (Nat × Nat) := [(7, 1), (8, 1), (10, 1), (11, 1), (13, 1), (14, 1), (18, 1), (19, 1), (21, 1), (22, 1), (24, 1), (25, 1)]
theorem Try.i62_ok : fnOk Try.prog Try.r62 Try.f62 Try.i62 = true := by kernel_rfl

/- pinball/algebra.Minus -/
def Try.i63 : IFunc := ⟨2, 10, [.tmp 4],
  .seq (.region false [o1 4 (.nlo 2)])
  (.seq (.region false [oM 5 0,
   oM 6 1,
   oC 7 81 [6],
   oC 8 74 [7],
   o1 9 (.clo 65 [.t 5, .t 8]),
   o1 4 (.tra 9)])
  (.ret))⟩
def Try.r63 : List (Nat × Nat) := []
theorem Try.i63_ok : fnOk Try.prog Try.r63 Try.f63 Try.i63 = true := by kernel_rfl

/- pinball/poly.Of -/
def Try.i64 : IFunc := ⟨1, 5, [.tmp 2],
  .seq (.region false [o1 2 (.nlo 2)])
  (.seq (.region false [oM 3 0,
   o1 4 (.clo 73 [.t 3]),
   o1 2 (.tra 4)])
  (.ret))⟩
def Try.r64 : List (Nat × Nat) := []
theorem Try.i64_ok : fnOk Try.prog Try.r64 Try.f64 Try.i64 = true := by kernel_rfl

/- pinball/algebra.Plus -/
def Try.i65 : IFunc := ⟨2, 52, [.tmp 4],
  .seq (.region false [o1 4 (.nlo 2)])
  (.seq (.region false [oM 9 0,
   oC 10 82 [9],
   o1 11 (.bin .add (.t 10) (.c (.int .i64 1))),
   oM 12 1,
   oC 13 82 [12],
   o1 14 (.bin .add (.t 13) (.c (.int .i64 1))),
   oM 5 11,
   oM 6 14])
  (.seq (.region false [oM 15 5,
   oM 16 6,
   o1 17 (.mx [.t 15, .t 16]),
   o1 18 (.mks [.bool false, .sl 0 []] (.t 17)),
   ⟨some 7, .tra 18, none, [19, 27, 33, 37, 39, 41, 48]⟩])
  (.seq (.seq (.region false [o1 19 (.cpy 7),
   o1 20 (.lno 19 7),
   o1 21 (.mov (.c (.int .i64 0)))])
  (.block 0 (.loop (.seq (.region false [oB 22 .lss 21 20])
  (.seq (.cond (.t 22) (.skip)
  (.exit 0))
  (.seq (.block 1 (.seq (.region false [oM 23 21,
   oM 8 23])
  (.seq (.seq (.region false [oM 24 8,
   oM 25 5,
   oB 26 .lss 24 25])
  (.cond (.t 26) (.region false [o1 27 (.cpy 7),
   oM 28 8,
   oM 29 0,
   oM 30 8,
   o1 31 (.ixa 29 (.t 30) 2),
   o1 32 (.ld 31 31 2 false),
   o1 33 (.ixo 27 7 (.t 28) 2),
   oN (.st 33 7 2 (.t 32))])
  (.skip)))
  (.seq (.region false [oM 34 8,
   oM 35 6,
   oB 36 .lss 34 35])
  (.cond (.t 36) (.region true [o1 37 (.cpy 7),
   oM 38 8,
   o1 39 (.cpy 7),
   oM 40 8,
   o1 41 (.ixo 39 7 (.t 40) 2),
   o1 42 (.ld 41 7 2 false),
   oM 43 1,
   oM 44 8,
   o1 45 (.ixa 43 (.t 44) 2),
   o1 46 (.ld 45 45 2 false),
   oC 47 83 [42, 46],
   o1 48 (.ixo 37 7 (.t 38) 2),
   oN (.st 48 7 2 (.t 47))])
  (.skip))))))
  (.region false [o1 49 (.bin .add (.t 21) (.c (.int .i64 1))),
   oM 21 49])))))))
  (.seq (.region false [o1 50 (.frz 7),
   o1 51 (.clo 81 [.t 50]),
   o1 4 (.tra 51)])
  (.ret)))))⟩
def Try.r65 : List (Nat × Nat) := [(19, 7), (27, 7), (33, 7), (37, 7), (39, 7), (41, 7), (48, 7)]
theorem Try.i65_ok : fnOk Try.prog Try.r65 Try.f65 Try.i65 = true := by kernel_rfl

/- pinball/algebra.Times -/
def Try.i66 : IFunc := ⟨2, 60, [.tmp 4],
  .seq (.region false [o1 4 (.nlo 2)])
  (.seq (.region false [oM 10 0,
   oC 11 82 [10],
   o1 12 (.bin .add (.t 11) (.c (.int .i64 1))),
   oM 13 1,
   oC 14 82 [13],
   o1 15 (.bin .add (.t 14) (.c (.int .i64 1))),
   oM 5 12,
   oM 6 15])
  (.seq (.seq (.region false [oM 16 5,
   o1 17 (.bin .eql (.t 16) (.c (.int .i64 0))),
   oM 18 17,
   oG 19 (.mov (.t 6)) 18 false,
   oG 20 (.bin .eql (.t 19) (.c (.int .i64 0))) 18 false,
   o1 21 (.pick (.t 18) (.c (.bool true)) (.t 20))])
  (.cond (.t 21) (.seq (.region false [o1 4 (.nlo 2)])
  (.ret))
  (.skip)))
  (.seq (.region false [oM 22 5,
   oM 23 6,
   oB 24 .add 22 23,
   o1 25 (.bin .sub (.t 24) (.c (.int .i64 1))),
   o1 26 (.mks [.bool false, .sl 0 []] (.t 25)),
   ⟨some 7, .tra 26, none, [37, 41, 45, 57]⟩])
  (.seq (.seq (.region false [o1 8 (.mov (.c (.int .i64 0)))])
  (.block 0 (.loop (.seq (.seq (.region false [oM 27 8,
   oM 28 5,
   oB 29 .lss 27 28])
  (.cond (.t 29) (.skip)
  (.exit 0)))
  (.seq (.block 1 (.seq (.region false [o1 9 (.mov (.c (.int .i64 0)))])
  (.block 2 (.loop (.seq (.seq (.region false [oM 32 9,
   oM 33 6,
   oB 34 .lss 32 33])
  (.cond (.t 34) (.skip)
  (.exit 2)))
  (.seq (.block 3 (.region true [o1 37 (.cpy 7),
   oM 38 8,
   oM 39 9,
   oB 40 .add 38 39,
   o1 41 (.cpy 7),
   oM 42 8,
   oM 43 9,
   oB 44 .add 42 43,
   o1 45 (.ixo 41 7 (.t 44) 2),
   o1 46 (.ld 45 7 2 false),
   oM 47 0,
   oM 48 8,
   o1 49 (.ixa 47 (.t 48) 2),
   o1 50 (.ld 49 49 2 false),
   oM 51 1,
   oM 52 9,
   o1 53 (.ixa 51 (.t 52) 2),
   o1 54 (.ld 53 53 2 false),
   oC 55 84 [50, 54],
   oC 56 83 [46, 55],
   o1 57 (.ixo 37 7 (.t 40) 2),
   oN (.st 57 7 2 (.t 56))]))
  (.region false [oM 35 9,
   o1 36 (.bin .add (.t 35) (.c (.int .i64 1))),
   oM 9 36])))))))
  (.region false [oM 30 8,
   o1 31 (.bin .add (.t 30) (.c (.int .i64 1))),
   oM 8 31]))))))
  (.seq (.region false [o1 58 (.frz 7),
   o1 59 (.clo 81 [.t 58]),
   o1 4 (.tra 59)])
  (.ret))))))⟩
def Try.r66 : List (Nat × Nat) := [(37, 7), (41, 7), (45, 7), (57, 7)]
theorem Try.i66_ok : fnOk Try.prog Try.r66 Try.f66 Try.i66 = true := by kernel_rfl

/- pinball/arc.cross -/
def Try.i67 : IFunc := ⟨4, 16, [.tmp 8],
  .seq (.region false [o1 8 (.nlo 2)])
  (.seq (.region false [oM 9 0,
   oM 10 3,
   oC 11 66 [9, 10],
   oM 12 1,
   oM 13 2,
   oC 14 66 [12, 13],
   o1 15 (.clo 63 [.t 11, .t 14]),
   o1 8 (.tra 15)])
  (.ret))⟩
def Try.r67 : List (Nat × Nat) := []
theorem Try.i67_ok : fnOk Try.prog Try.r67 Try.f67 Try.i67 = true := by kernel_rfl

/- pinball/wall.Disc -/
def Try.i68 : IFunc := ⟨3, 30, [.tmp 6],
  .seq (.region false [o1 3 (.box (.t 0) []),
   o1 4 (.box (.t 1) []),
   o1 6 (.nlo 1)])
  (.seq (.seq (.region false [o1 7 (.ld 3 3 6 false),
   oC 8 61 [7],
   o1 9 (.un .not (.t 8)),
   oM 10 9,
   oG 11 (.ld 4 4 2 false) 10 false,
   oG 12 (.bls 1 [.int .i64 0, .int .i64 0] [(0, 2, .t 11)]) 10 false,
   oG 13 (.call 76 [.c (.int .i64 1048576), .t 12]) 10 false,
   oG 14 (.un .not (.t 13)) 10 false,
   o1 15 (.pick (.t 10) (.c (.bool true)) (.t 14)),
   oM 16 15,
   oG 17 (.mov (.t 2)) 16 false,
   oG 18 (.bin .lss (.t 17) (.c (.int .i64 1))) 16 false,
   o1 19 (.pick (.t 16) (.c (.bool true)) (.t 18)),
   oM 20 19,
   oG 21 (.mov (.t 2)) 20 false,
   oG 22 (.bin .gtr (.t 21) (.c (.int .i64 524288))) 20 false,
   o1 23 (.pick (.t 20) (.c (.bool true)) (.t 22))])
  (.cond (.t 23) (.seq (.region false [o1 6 (.nlo 1)])
  (.ret))
  (.skip)))
  (.seq (.region false [o1 24 (.ld 3 3 6 false),
   o1 25 (.ld 4 4 2 false),
   oM 26 2,
   oC 27 85 [24, 25, 26],
   o1 28 (.bls 1 [.sl 0 []] [(0, 1, .t 27)]),
   o1 29 (.blo 1 1 [.sl 0 []] [(0, 1, .t 28)]),
   o1 6 (.tra 29)])
  (.ret)))⟩
def Try.r68 : List (Nat × Nat) := []
theorem Try.i68_ok : fnOk Try.prog Try.r68 Try.f68 Try.i68 = true := by kernel_rfl

/- pinball/pinballref02.Trim -/
def Try.i69 : IFunc := ⟨1, 35, [.tmp 2],
  .seq (.region false [o1 2 (.nlo 2)])
  (.seq (.region false [oM 6 0,
   o1 7 (.len (.t 6)),
   oM 3 7])
  (.seq (.block 0 (.loop (.seq (.seq (.region false [oM 8 3,
   o1 9 (.bin .gtr (.t 8) (.c (.int .i64 0))),
   oM 10 9,
   oG 11 (.mov (.t 0)) 10 true,
   oG 12 (.mov (.t 3)) 10 true,
   oG 13 (.bin .sub (.t 12) (.c (.int .i64 1))) 10 true,
   oG 14 (.ixa 11 (.t 13) 2) 10 true,
   oG 15 (.ld 14 14 2 false) 10 true,
   oG 16 (.call 70 [.t 15]) 10 true,
   oG 17 (.bin .eql (.t 16) (.c (.int .i64 0))) 10 true,
   o1 18 (.pick (.t 10) (.t 17) (.c (.bool false)))])
  (.cond (.t 18) (.skip)
  (.exit 0)))
  (.block 1 (.region false [oM 19 3,
   o1 20 (.bin .sub (.t 19) (.c (.int .i64 1))),
   oM 3 20])))))
  (.seq (.region false [o1 4 (.nlo 2)])
  (.seq (.seq (.region false [o1 5 (.mov (.c (.int .i64 0)))])
  (.block 2 (.loop (.seq (.seq (.region false [oM 21 5,
   oM 22 3,
   oB 23 .lss 21 22])
  (.cond (.t 23) (.skip)
  (.exit 2)))
  (.seq (.block 3 (.region false [o1 26 (.tra 4),
   oM 27 0,
   oM 28 5,
   o1 29 (.ixa 27 (.t 28) 2),
   o1 30 (.ld 29 29 2 false),
   oC 31 86 [30],
   o1 32 (.bls 1 [.bool false, .sl 0 []] [(0, 2, .t 31)]),
   o1 33 (.apd true (.t 26) (.t 32) 2),
   o1 4 (.tra 33)]))
  (.region false [oM 24 5,
   o1 25 (.bin .add (.t 24) (.c (.int .i64 1))),
   oM 5 25]))))))
  (.seq (.region false [o1 34 (.tra 4),
   o1 2 (.tra 34)])
  (.ret))))))⟩
def Try.r69 : List (Nat × Nat) := []
theorem Try.i69_ok : fnOk Try.prog Try.r69 Try.f69 Try.i69 = true := by kernel_rfl

/- pinball/pinballref01.Sign -/
def Try.i70 : IFunc := ⟨1, 12, [.tmp 2],
  .seq (.region false [o1 1 (.box (.t 0) [4, 10]),
   o1 2 (.mov (.c (.int .i64 0)))])
  (.seq (.block 0 (.seq (.region false [o1 4 (.adr 1 1 1),
   o1 5 (.ld 4 1 1 true),
   oC 6 87 [5],
   o1 7 (.len (.t 6)),
   o1 8 (.bin .eql (.t 7) (.c (.int .i64 0))),
   oM 3 8])
  (.cond (.t 3) (.seq (.region false [o1 2 (.mov (.c (.int .i64 0)))])
  (.ret))
  (.seq (.region false [o1 10 (.adr 1 1 0),
   o1 11 (.ld 10 1 1 true),
   oM 9 11])
  (.cond (.t 9) (.seq (.region false [o1 2 (.mov (.c (.int .i64 (-1))))])
  (.ret))
  (.skip))))))
  (.seq (.region false [o1 2 (.mov (.c (.int .i64 1)))])
  (.ret)))⟩
def Try.r70 : List (Nat × Nat) := [(4, 1), (10, 1)]
theorem Try.i70_ok : fnOk Try.prog Try.r70 Try.f70 Try.i70 = true := by kernel_rfl

/- pinball/pinballref02.Value -/
def Try.i71 : IFunc := ⟨3, 37, [.cell 6 2 false],
  .seq (.region false [o1 4 (.box (.t 1) []),
   o1 6 (.new [.bool false, .sl 0 []] [])])
  (.seq (.region false [oM 10 0,
   oC 11 69 [10],
   oM 7 11])
  (.seq (.region false [o1 12 (.bld [.bool false, .sl 0 []] []),
   o1 8 (.new [.bool false, .sl 0 []] []),
   oN (.st 8 8 2 (.t 12))])
  (.seq (.seq (.region false [oM 13 7,
   o1 14 (.len (.t 13)),
   o1 15 (.bin .sub (.t 14) (.c (.int .i64 1))),
   oM 9 15])
  (.block 0 (.loop (.seq (.seq (.region false [oM 16 9,
   o1 17 (.bin .geq (.t 16) (.c (.int .i64 0)))])
  (.cond (.t 17) (.skip)
  (.exit 0)))
  (.seq (.block 1 (.region true [o1 20 (.ld 8 8 2 false),
   o1 21 (.ld 4 4 2 false),
   oC 22 89 [20, 21],
   oM 23 7,
   oM 24 9,
   o1 25 (.ixa 23 (.t 24) 2),
   o1 26 (.ld 25 25 2 false),
   oM 27 2,
   oM 28 7,
   o1 29 (.len (.t 28)),
   o1 30 (.bin .sub (.t 29) (.c (.int .i64 1))),
   oM 31 9,
   oB 32 .sub 30 31,
   oB 33 .mul 27 32,
   oC 34 90 [26, 33],
   oC 35 88 [22, 34],
   oN (.st 8 8 2 (.t 35))]))
  (.region false [oM 18 9,
   o1 19 (.bin .sub (.t 18) (.c (.int .i64 1))),
   oM 9 19]))))))
  (.seq (.region false [o1 36 (.ld 8 8 2 false),
   oN (.st 6 6 2 (.t 36))])
  (.ret)))))⟩
def Try.r71 : List (Nat × Nat) := []
theorem Try.i71_ok : fnOk Try.prog Try.r71 Try.f71 Try.i71 = true := by kernel_rfl

/- pinball/pinballref01.Of -/
def Try.i72 : IFunc := ⟨1, 19, [.cell 2 2 false],
  .seq (.region false [o1 2 (.new [.bool false, .sl 0 []] [])])
  (.seq (.region false [oM 4 0,
   o1 5 (.cv .u64 (.t 4)),
   oM 3 5])
  (.seq (.seq (.region false [oM 6 0,
   o1 7 (.bin .lss (.t 6) (.c (.int .i64 0)))])
  (.cond (.t 7) (.region false [oM 8 3,
   o1 9 (.un .neg (.t 8)),
   oM 3 9])
  (.skip)))
  (.seq (.region false [oM 10 0,
   o1 11 (.bin .lss (.t 10) (.c (.int .i64 0))),
   oM 12 3,
   o1 13 (.cv .u32 (.t 12)),
   oM 14 3,
   o1 15 (.bin .shr (.t 14) (.c (.int .u64 32))),
   o1 16 (.cv .u32 (.t 15)),
   o1 17 (.bls 2 [.int .u32 0, .int .u32 0] [(0, 1, .t 13), (1, 1, .t 16)]),
   oC 18 91 [11, 17],
   oN (.st 2 2 2 (.t 18))])
  (.ret))))⟩
def Try.r72 : List (Nat × Nat) := []
theorem Try.i72_ok : fnOk Try.prog Try.r72 Try.f72 Try.i72 = true := by kernel_rfl

/- pinball/algebra.Ints -/
def Try.i73 : IFunc := ⟨1, 24, [.tmp 2],
  .seq (.region false [o1 2 (.nlo 2)])
  (.seq (.region false [oM 6 0,
   o1 7 (.len (.t 6)),
   o1 8 (.mks [.bool false, .sl 0 []] (.t 7)),
   ⟨some 3, .tra 8, none, [16, 20]⟩])
  (.seq (.seq (.region false [oM 9 0,
   o1 10 (.len (.t 9)),
   o1 11 (.mov (.c (.int .i64 0)))])
  (.block 0 (.loop (.seq (.region false [oB 12 .lss 11 10])
  (.seq (.cond (.t 12) (.skip)
  (.exit 0))
  (.seq (.block 1 (.seq (.region false [oM 13 11,
   o1 14 (.ixa 9 (.t 11) 1),
   o1 15 (.ld 14 14 1 true),
   oM 4 13,
   oM 5 15])
  (.region false [o1 16 (.cpy 3),
   oM 17 4,
   oM 18 5,
   oC 19 92 [18],
   o1 20 (.ixo 16 3 (.t 17) 2),
   oN (.st 20 3 2 (.t 19))])))
  (.region false [o1 21 (.bin .add (.t 11) (.c (.int .i64 1))),
   oM 11 21])))))))
  (.seq (.region false [o1 22 (.frz 3),
   o1 23 (.clo 81 [.t 22]),
   o1 2 (.tra 23)])
  (.ret))))⟩
def Try.r73 : List (Nat × Nat) := [(16, 3), (20, 3)]
theorem Try.i73_ok : fnOk Try.prog Try.r73 Try.f73 Try.i73 = true := by kernel_rfl

/- pinball/algebra.Negative -/
def Try.i74 : IFunc := ⟨1, 23, [.tmp 2],
  .seq (.region false [o1 2 (.nlo 2)])
  (.seq (.region false [oM 5 0,
   o1 6 (.len (.t 5)),
   o1 7 (.mks [.bool false, .sl 0 []] (.t 6)),
   ⟨some 3, .tra 7, none, [13, 20]⟩])
  (.seq (.seq (.region false [oM 8 0,
   o1 9 (.len (.t 8)),
   o1 10 (.mov (.c (.int .i64 0)))])
  (.block 0 (.loop (.seq (.region false [oB 11 .lss 10 9])
  (.seq (.cond (.t 11) (.skip)
  (.exit 0))
  (.seq (.block 1 (.seq (.region false [oM 12 10,
   oM 4 12])
  (.region false [o1 13 (.cpy 3),
   oM 14 4,
   oM 15 0,
   oM 16 4,
   o1 17 (.ixa 15 (.t 16) 2),
   o1 18 (.ld 17 17 2 false),
   oC 19 93 [18],
   o1 20 (.ixo 13 3 (.t 14) 2),
   oN (.st 20 3 2 (.t 19))])))
  (.region false [o1 21 (.bin .add (.t 10) (.c (.int .i64 1))),
   oM 10 21])))))))
  (.seq (.region false [o1 22 (.tra 3),
   o1 2 (.tra 22)])
  (.ret))))⟩
def Try.r74 : List (Nat × Nat) := [(13, 3), (20, 3)]
theorem Try.i74_ok : fnOk Try.prog Try.r74 Try.f74 Try.i74 = true := by kernel_rfl

/- pinball/vector.kept -/
def Try.i75 : IFunc := ⟨1, 8, [.cell 2 2 false],
  .seq (.region false [o1 1 (.box (.t 0) []),
   o1 2 (.new [.int .i64 0, .int .i64 0] [])])
  (.seq (.seq (.region false [o1 3 (.ld 1 1 2 false),
   oC 4 59 [3],
   o1 5 (.un .not (.t 4))])
  (.cond (.t 5) (.seq (.region false [o1 6 (.bld [.int .i64 0, .int .i64 0] []),
   oN (.st 2 2 2 (.t 6))])
  (.ret))
  (.skip)))
  (.seq (.region false [o1 7 (.ld 1 1 2 false),
   oN (.st 2 2 2 (.t 7))])
  (.ret)))⟩
def Try.r75 : List (Nat × Nat) := []
theorem Try.i75_ok : fnOk Try.prog Try.r75 Try.f75 Try.i75 = true := by kernel_rfl

/- pinball/wall.within -/
def Try.i76 : IFunc := ⟨2, 38, [.tmp 4],
  .seq (.region false [o1 4 (.mov (.c (.bool false)))])
  (.seq (.seq (.region false [oM 7 1,
   o1 8 (.len (.t 7)),
   o1 9 (.mov (.c (.int .i64 0)))])
  (.block 0 (.loop (.seq (.region false [oB 10 .lss 9 8])
  (.seq (.cond (.t 10) (.skip)
  (.exit 0))
  (.seq (.block 1 (.seq (.region false [o1 11 (.ixa 7 (.t 9) 2),
   o1 12 (.ld 11 11 2 false),
   o1 6 (.new [.int .i64 0, .int .i64 0] [13, 19, 25, 32]),
   oN (.st 6 6 2 (.t 12))])
  (.seq (.region false [o1 13 (.adr 6 6 0),
   o1 14 (.ld 13 6 1 true),
   oM 15 0,
   o1 16 (.un .neg (.t 15)),
   oB 17 .lss 14 16,
   oM 18 17,
   oG 19 (.adr 6 6 0) 18 false,
   oG 20 (.ld 19 6 1 true) 18 false,
   oG 21 (.mov (.t 0)) 18 false,
   oG 22 (.bin .gtr (.t 20) (.t 21)) 18 false,
   o1 23 (.pick (.t 18) (.c (.bool true)) (.t 22)),
   oM 24 23,
   oG 25 (.adr 6 6 1) 24 false,
   oG 26 (.ld 25 6 1 true) 24 false,
   oG 27 (.mov (.t 0)) 24 false,
   oG 28 (.un .neg (.t 27)) 24 false,
   oG 29 (.bin .lss (.t 26) (.t 28)) 24 false,
   o1 30 (.pick (.t 24) (.c (.bool true)) (.t 29)),
   oM 31 30,
   oG 32 (.adr 6 6 1) 31 false,
   oG 33 (.ld 32 6 1 true) 31 false,
   oG 34 (.mov (.t 0)) 31 false,
   oG 35 (.bin .gtr (.t 33) (.t 34)) 31 false,
   o1 36 (.pick (.t 31) (.c (.bool true)) (.t 35))])
  (.cond (.t 36) (.seq (.region false [o1 4 (.mov (.c (.bool false)))])
  (.ret))
  (.skip)))))
  (.region false [o1 37 (.bin .add (.t 9) (.c (.int .i64 1))),
   oM 9 37])))))))
  (.seq (.region false [o1 4 (.mov (.c (.bool true)))])
  (.ret)))⟩
def Try.r76 : List (Nat × Nat) := [(13, 6), (19, 6), (25, 6), (32, 6)]
theorem Try.i76_ok : fnOk Try.prog Try.r76 Try.f76 Try.i76 = true := by kernel_rfl

/- math/bits.Mul64 -/
def Try.i77 : IFunc := ⟨2, 51, [.tmp 4, .tmp 5],
  .seq (.region false [o1 4 (.mov (.c (.int .u64 0))),
   o1 5 (.mov (.c (.int .u64 0)))])
  (.seq (.region false [oM 14 0,
   o1 15 (.bin .and (.t 14) (.c (.int .u64 4294967295))),
   oM 6 15])
  (.seq (.region false [oM 16 0,
   o1 17 (.bin .shr (.t 16) (.c (.int .u64 32))),
   oM 7 17])
  (.seq (.region false [oM 18 1,
   o1 19 (.bin .and (.t 18) (.c (.int .u64 4294967295))),
   oM 8 19])
  (.seq (.region false [oM 20 1,
   o1 21 (.bin .shr (.t 20) (.c (.int .u64 32))),
   oM 9 21])
  (.seq (.region false [oM 22 6,
   oM 23 8,
   oB 24 .mul 22 23,
   oM 10 24])
  (.seq (.region false [oM 25 7,
   oM 26 8,
   oB 27 .mul 25 26,
   oM 28 10,
   o1 29 (.bin .shr (.t 28) (.c (.int .u64 32))),
   oB 30 .add 27 29,
   oM 11 30])
  (.seq (.region false [oM 31 11,
   o1 32 (.bin .and (.t 31) (.c (.int .u64 4294967295))),
   oM 12 32])
  (.seq (.region false [oM 33 11,
   o1 34 (.bin .shr (.t 33) (.c (.int .u64 32))),
   oM 13 34])
  (.seq (.region false [oM 35 12,
   oM 36 6,
   oM 37 9,
   oB 38 .mul 36 37,
   oB 39 .add 35 38,
   oM 12 39])
  (.seq (.region false [oM 40 7,
   oM 41 9,
   oB 42 .mul 40 41,
   oM 43 13,
   oB 44 .add 42 43,
   oM 45 12,
   o1 46 (.bin .shr (.t 45) (.c (.int .u64 32))),
   oB 47 .add 44 46,
   oM 4 47])
  (.seq (.region false [oM 48 0,
   oM 49 1,
   oB 50 .mul 48 49,
   oM 5 50])
  (.ret))))))))))))⟩
def Try.r77 : List (Nat × Nat) := []
theorem Try.i77_ok : fnOk Try.prog Try.r77 Try.f77 Try.i77 = true := by kernel_rfl

/- pinball/vector.abs -/
def Try.i78 : IFunc := ⟨1, 10, [.tmp 2],
  .seq (.region false [o1 2 (.mov (.c (.int .u64 0)))])
  (.seq (.seq (.region false [oM 3 0,
   o1 4 (.bin .lss (.t 3) (.c (.int .i64 0)))])
  (.cond (.t 4) (.seq (.region false [oM 5 0,
   o1 6 (.cv .u64 (.t 5)),
   o1 7 (.un .neg (.t 6)),
   oM 2 7])
  (.ret))
  (.skip)))
  (.seq (.region false [oM 8 0,
   o1 9 (.cv .u64 (.t 8)),
   oM 2 9])
  (.ret)))⟩
def Try.r78 : List (Nat × Nat) := []
theorem Try.i78_ok : fnOk Try.prog Try.r78 Try.f78 Try.i78 = true := by kernel_rfl

/- math/bits.Div64 -/
def Try.i79 : IFunc := ⟨3, 135, [.tmp 6, .tmp 7],
  .seq (.region false [o1 6 (.mov (.c (.int .u64 0))),
   o1 7 (.mov (.c (.int .u64 0)))])
  (.seq (.seq (.region false [oM 19 2,
   o1 20 (.bin .eql (.t 19) (.c (.int .u64 0)))])
  (.cond (.t 20) (.region false [o1 21 (.bad),
   oN (.bad)])
  (.skip)))
  (.seq (.seq (.region false [oM 22 2,
   oM 23 0,
   oB 24 .leq 22 23])
  (.cond (.t 24) (.region false [o1 25 (.bad),
   oN (.bad)])
  (.skip)))
  (.seq (.seq (.region false [oM 26 0,
   o1 27 (.bin .eql (.t 26) (.c (.int .u64 0)))])
  (.cond (.t 27) (.seq (.region true [oM 28 1,
   oM 29 2,
   oB 30 .quo 28 29,
   oM 31 1,
   oM 32 2,
   oB 33 .rem 31 32,
   oM 6 30,
   oM 7 33])
  (.ret))
  (.skip)))
  (.seq (.region false [oM 34 2,
   oC 35 94 [34],
   o1 36 (.cv .u64 (.t 35)),
   oM 8 36])
  (.seq (.region false [oM 37 2,
   oM 38 8,
   oB 39 .shl 37 38,
   oM 2 39])
  (.seq (.region false [oM 40 2,
   o1 41 (.bin .shr (.t 40) (.c (.int .u64 32))),
   oM 9 41])
  (.seq (.region false [oM 42 2,
   o1 43 (.bin .and (.t 42) (.c (.int .u64 4294967295))),
   oM 10 43])
  (.seq (.region false [oM 44 0,
   oM 45 8,
   oB 46 .shl 44 45,
   oM 47 1,
   oM 48 8,
   o1 49 (.bin .sub (.c (.int .u64 64)) (.t 48)),
   oB 50 .shr 47 49,
   oB 51 .or 46 50,
   oM 11 51])
  (.seq (.region false [oM 52 1,
   oM 53 8,
   oB 54 .shl 52 53,
   oM 12 54])
  (.seq (.region false [oM 55 12,
   o1 56 (.bin .shr (.t 55) (.c (.int .u64 32))),
   oM 13 56])
  (.seq (.region false [oM 57 12,
   o1 58 (.bin .and (.t 57) (.c (.int .u64 4294967295))),
   oM 14 58])
  (.seq (.region false [oM 59 11,
   oM 60 9,
   oB 61 .quo 59 60,
   oM 15 61])
  (.seq (.region false [oM 62 11,
   oM 63 15,
   oM 64 9,
   oB 65 .mul 63 64,
   oB 66 .sub 62 65,
   oM 16 66])
  (.seq (.block 0 (.loop (.seq (.seq (.region false [oM 67 15,
   o1 68 (.bin .geq (.t 67) (.c (.int .u64 4294967296))),
   oM 69 68,
   oG 70 (.mov (.t 15)) 69 false,
   oG 71 (.mov (.t 10)) 69 false,
   oG 72 (.bin .mul (.t 70) (.t 71)) 69 false,
   oG 73 (.mov (.t 16)) 69 false,
   oG 74 (.bin .mul (.c (.int .u64 4294967296)) (.t 73)) 69 false,
   oG 75 (.mov (.t 13)) 69 false,
   oG 76 (.bin .add (.t 74) (.t 75)) 69 false,
   oG 77 (.bin .gtr (.t 72) (.t 76)) 69 false,
   o1 78 (.pick (.t 69) (.c (.bool true)) (.t 77))])
  (.cond (.t 78) (.skip)
  (.exit 0)))
  (.block 1 (.seq (.region false [oM 79 15,
   o1 80 (.bin .sub (.t 79) (.c (.int .u64 1))),
   oM 15 80])
  (.seq (.region false [oM 81 16,
   oM 82 9,
   oB 83 .add 81 82,
   oM 16 83])
  (.seq (.region false [oM 84 16,
   o1 85 (.bin .geq (.t 84) (.c (.int .u64 4294967296)))])
  (.cond (.t 85) (.exit 0)
  (.skip)))))))))
  (.seq (.region false [oM 86 11,
   o1 87 (.bin .mul (.t 86) (.c (.int .u64 4294967296))),
   oM 88 13,
   oB 89 .add 87 88,
   oM 90 15,
   oM 91 2,
   oB 92 .mul 90 91,
   oB 93 .sub 89 92,
   oM 17 93])
  (.seq (.region false [oM 94 17,
   oM 95 9,
   oB 96 .quo 94 95,
   oM 18 96])
  (.seq (.region false [oM 97 17,
   oM 98 18,
   oM 99 9,
   oB 100 .mul 98 99,
   oB 101 .sub 97 100,
   oM 16 101])
  (.seq (.block 2 (.loop (.seq (.seq (.region false [oM 102 18,
   o1 103 (.bin .geq (.t 102) (.c (.int .u64 4294967296))),
   oM 104 103,
   oG 105 (.mov (.t 18)) 104 false,
   oG 106 (.mov (.t 10)) 104 false,
   oG 107 (.bin .mul (.t 105) (.t 106)) 104 false,
   oG 108 (.mov (.t 16)) 104 false,
   oG 109 (.bin .mul (.c (.int .u64 4294967296)) (.t 108)) 104 false,
   oG 110 (.mov (.t 14)) 104 false,
   oG 111 (.bin .add (.t 109) (.t 110)) 104 false,
   oG 112 (.bin .gtr (.t 107) (.t 111)) 104 false,
   o1 113 (.pick (.t 104) (.c (.bool true)) (.t 112))])
  (.cond (.t 113) (.skip)
  (.exit 2)))
  (.block 3 (.seq (.region false [oM 114 18,
   o1 115 (.bin .sub (.t 114) (.c (.int .u64 1))),
   oM 18 115])
  (.seq (.region false [oM 116 16,
   oM 117 9,
   oB 118 .add 116 117,
   oM 16 118])
  (.seq (.region false [oM 119 16,
   o1 120 (.bin .geq (.t 119) (.c (.int .u64 4294967296)))])
  (.cond (.t 120) (.exit 2)
  (.skip)))))))))
  (.seq (.region false [oM 121 15,
   o1 122 (.bin .mul (.t 121) (.c (.int .u64 4294967296))),
   oM 123 18,
   oB 124 .add 122 123,
   oM 125 17,
   o1 126 (.bin .mul (.t 125) (.c (.int .u64 4294967296))),
   oM 127 14,
   oB 128 .add 126 127,
   oM 129 18,
   oM 130 2,
   oB 131 .mul 129 130,
   oB 132 .sub 128 131,
   oM 133 8,
   oB 134 .shr 132 133,
   oM 6 124,
   oM 7 134])
  (.ret))))))))))))))))))))⟩
def Try.r79 : List (Nat × Nat) := []
theorem Try.i79_ok : fnOk Try.prog Try.r79 Try.f79 Try.i79 = true := by kernel_rfl

/- pinball/flight.within -/
def Try.i80 : IFunc := ⟨2, 29, [.tmp 4],
  .seq (.region false [o1 2 (.box (.t 0) [5, 11, 17, 24]),
   o1 4 (.mov (.c (.bool false)))])
  (.seq (.region false [o1 5 (.adr 2 2 0),
   o1 6 (.ld 5 2 1 true),
   oM 7 1,
   o1 8 (.un .neg (.t 7)),
   oB 9 .geq 6 8,
   oM 10 9,
   oG 11 (.adr 2 2 0) 10 true,
   oG 12 (.ld 11 2 1 true) 10 true,
   oG 13 (.mov (.t 1)) 10 true,
   oG 14 (.bin .leq (.t 12) (.t 13)) 10 true,
   o1 15 (.pick (.t 10) (.t 14) (.c (.bool false))),
   oM 16 15,
   oG 17 (.adr 2 2 1) 16 true,
   oG 18 (.ld 17 2 1 true) 16 true,
   oG 19 (.mov (.t 1)) 16 true,
   oG 20 (.un .neg (.t 19)) 16 true,
   oG 21 (.bin .geq (.t 18) (.t 20)) 16 true,
   o1 22 (.pick (.t 16) (.t 21) (.c (.bool false))),
   oM 23 22,
   oG 24 (.adr 2 2 1) 23 true,
   oG 25 (.ld 24 2 1 true) 23 true,
   oG 26 (.mov (.t 1)) 23 true,
   oG 27 (.bin .leq (.t 25) (.t 26)) 23 true,
   o1 28 (.pick (.t 23) (.t 27) (.c (.bool false))),
   oM 4 28])
  (.ret))⟩
def Try.r80 : List (Nat × Nat) := [(5, 2), (11, 2), (17, 2), (24, 2)]
theorem Try.i80_ok : fnOk Try.prog Try.r80 Try.f80 Try.i80 = true := by kernel_rfl

/- pinball/algebra.Trim -/
def Try.i81 : IFunc := ⟨1, 28, [.tmp 2],
  .seq (.region false [o1 2 (.nlo 2)])
  (.seq (.region false [oM 6 0,
   oC 7 82 [6],
   o1 8 (.bin .add (.t 7) (.c (.int .i64 1))),
   oM 3 8])
  (.seq (.seq (.region false [oM 9 3,
   o1 10 (.bin .eql (.t 9) (.c (.int .i64 0)))])
  (.cond (.t 10) (.seq (.region false [o1 2 (.nlo 2)])
  (.ret))
  (.skip)))
  (.seq (.region false [oM 11 3,
   o1 12 (.mks [.bool false, .sl 0 []] (.t 11)),
   ⟨some 4, .tra 12, none, [13, 18, 25]⟩])
  (.seq (.seq (.region false [o1 13 (.cpy 4),
   o1 14 (.lno 13 4),
   o1 15 (.mov (.c (.int .i64 0)))])
  (.block 0 (.loop (.seq (.region false [oB 16 .lss 15 14])
  (.seq (.cond (.t 16) (.skip)
  (.exit 0))
  (.seq (.block 1 (.seq (.region false [oM 17 15,
   oM 5 17])
  (.region false [o1 18 (.cpy 4),
   oM 19 5,
   oM 20 0,
   oM 21 5,
   o1 22 (.ixa 20 (.t 21) 2),
   o1 23 (.ld 22 22 2 false),
   oC 24 95 [23],
   o1 25 (.ixo 18 4 (.t 19) 2),
   oN (.st 25 4 2 (.t 24))])))
  (.region false [o1 26 (.bin .add (.t 15) (.c (.int .i64 1))),
   oM 15 26])))))))
  (.seq (.region false [o1 27 (.tra 4),
   o1 2 (.tra 27)])
  (.ret))))))⟩
def Try.r81 : List (Nat × Nat) := [(13, 4), (18, 4), (25, 4)]
theorem Try.i81_ok : fnOk Try.prog Try.r81 Try.f81 Try.i81 = true := by kernel_rfl

/- pinball/algebra.Degree -/
def Try.i82 : IFunc := ⟨1, 20, [.tmp 2],
  .seq (.region false [o1 2 (.mov (.c (.int .i64 0)))])
  (.seq (.region false [oM 4 0,
   o1 5 (.len (.t 4)),
   o1 6 (.bin .sub (.t 5) (.c (.int .i64 1))),
   oM 3 6])
  (.seq (.block 0 (.loop (.seq (.seq (.region false [oM 7 3,
   o1 8 (.bin .geq (.t 7) (.c (.int .i64 0))),
   oM 9 8,
   oG 10 (.mov (.t 0)) 9 true,
   oG 11 (.mov (.t 3)) 9 true,
   oG 12 (.ixa 10 (.t 11) 2) 9 true,
   oG 13 (.ld 12 12 2 false) 9 true,
   oG 14 (.call 96 [.t 13]) 9 true,
   oG 15 (.bin .eql (.t 14) (.c (.int .i64 0))) 9 true,
   o1 16 (.pick (.t 9) (.t 15) (.c (.bool false)))])
  (.cond (.t 16) (.skip)
  (.exit 0)))
  (.block 1 (.region false [oM 17 3,
   o1 18 (.bin .sub (.t 17) (.c (.int .i64 1))),
   oM 3 18])))))
  (.seq (.region false [oM 19 3,
   oM 2 19])
  (.ret))))⟩
def Try.r82 : List (Nat × Nat) := []
theorem Try.i82_ok : fnOk Try.prog Try.r82 Try.f82 Try.i82 = true := by kernel_rfl

/- pinball/wide.Add -/
def Try.i83 : IFunc := ⟨2, 24, [.cell 4 2 false],
  .seq (.region false [o1 2 (.box (.t 0) []),
   o1 3 (.box (.t 1) []),
   o1 4 (.new [.bool false, .sl 0 []] [])])
  (.seq (.region false [o1 10 (.ld 2 2 2 false),
   oC 11 97 [10],
   oM 9 11,
   o1 12 (.ext (.t 9) 0),
   o1 13 (.ext (.t 9) 1),
   oM 5 12,
   oM 6 13])
  (.seq (.region false [o1 15 (.ld 3 3 2 false),
   oC 16 97 [15],
   oM 14 16,
   o1 17 (.ext (.t 14) 0),
   o1 18 (.ext (.t 14) 1),
   oM 7 17,
   oM 8 18])
  (.seq (.region false [oM 19 5,
   oM 20 6,
   oM 21 7,
   oM 22 8,
   oC 23 98 [19, 20, 21, 22],
   oN (.st 4 4 2 (.t 23))])
  (.ret))))⟩
def Try.r83 : List (Nat × Nat) := []
theorem Try.i83_ok : fnOk Try.prog Try.r83 Try.f83 Try.i83 = true := by kernel_rfl

/- pinball/wide.Mul -/
def Try.i84 : IFunc := ⟨2, 94, [.cell 4 2 false],
  .seq (.region false [o1 2 (.box (.t 0) []),
   o1 3 (.box (.t 1) []),
   o1 4 (.new [.bool false, .sl 0 []] [])])
  (.seq (.region false [o1 17 (.ld 2 2 2 false),
   oC 18 97 [17],
   oM 16 18,
   o1 19 (.ext (.t 16) 0),
   o1 20 (.ext (.t 16) 1),
   oM 5 19,
   oM 6 20])
  (.seq (.region false [o1 22 (.ld 3 3 2 false),
   oC 23 97 [22],
   oM 21 23,
   o1 24 (.ext (.t 21) 0),
   o1 25 (.ext (.t 21) 1),
   oM 7 24,
   oM 8 25])
  (.seq (.seq (.region false [oM 26 6,
   o1 27 (.len (.t 26)),
   o1 28 (.bin .eql (.t 27) (.c (.int .i64 0))),
   oM 29 28,
   oG 30 (.mov (.t 8)) 29 false,
   oG 31 (.len (.t 30)) 29 false,
   oG 32 (.bin .eql (.t 31) (.c (.int .i64 0))) 29 false,
   o1 33 (.pick (.t 29) (.c (.bool true)) (.t 32))])
  (.cond (.t 33) (.seq (.region false [o1 34 (.bld [.bool false, .sl 0 []] []),
   oN (.st 4 4 2 (.t 34))])
  (.ret))
  (.skip)))
  (.seq (.region false [oM 35 6,
   o1 36 (.len (.t 35)),
   oM 37 8,
   o1 38 (.len (.t 37)),
   oB 39 .add 36 38,
   o1 40 (.mks [.int .u32 0] (.t 39)),
   ⟨some 9, .tra 40, none, [60, 64, 70, 78, 80, 87]⟩])
  (.seq (.seq (.region false [oM 41 6,
   o1 42 (.len (.t 41)),
   o1 43 (.mov (.c (.int .i64 0)))])
  (.block 0 (.loop (.seq (.region false [oB 44 .lss 43 42])
  (.seq (.cond (.t 44) (.skip)
  (.exit 0))
  (.seq (.block 1 (.seq (.region false [oM 45 43,
   o1 46 (.ixa 41 (.t 43) 1),
   o1 47 (.ld 46 46 1 true),
   oM 10 45,
   oM 11 47])
  (.seq (.region false [o1 12 (.mov (.c (.int .u64 0)))])
  (.seq (.seq (.region false [oM 48 8,
   o1 49 (.len (.t 48)),
   o1 50 (.mov (.c (.int .i64 0)))])
  (.block 2 (.loop (.seq (.region false [oB 51 .lss 50 49])
  (.seq (.cond (.t 51) (.skip)
  (.exit 2))
  (.seq (.block 3 (.seq (.region false [oM 52 50,
   o1 53 (.ixa 48 (.t 50) 1),
   o1 54 (.ld 53 53 1 true),
   oM 13 52,
   oM 14 54])
  (.seq (.region false [oM 55 11,
   o1 56 (.cv .u64 (.t 55)),
   oM 57 14,
   o1 58 (.cv .u64 (.t 57)),
   oB 59 .mul 56 58,
   o1 60 (.cpy 9),
   oM 61 10,
   oM 62 13,
   oB 63 .add 61 62,
   o1 64 (.ixo 60 9 (.t 63) 1),
   o1 65 (.ld 64 9 1 true),
   o1 66 (.cv .u64 (.t 65)),
   oB 67 .add 59 66,
   oM 68 12,
   oB 69 .add 67 68,
   oM 15 69])
  (.region false [o1 70 (.cpy 9),
   oM 71 10,
   oM 72 13,
   oB 73 .add 71 72,
   oM 74 15,
   o1 75 (.cv .u32 (.t 74)),
   oM 76 15,
   o1 77 (.bin .shr (.t 76) (.c (.int .u64 32))),
   o1 78 (.ixo 70 9 (.t 73) 1),
   oN (.st 78 9 1 (.t 75)),
   oM 12 77]))))
  (.region false [o1 79 (.bin .add (.t 50) (.c (.int .i64 1))),
   oM 50 79])))))))
  (.region false [o1 80 (.cpy 9),
   oM 81 10,
   oM 82 8,
   o1 83 (.len (.t 82)),
   oB 84 .add 81 83,
   oM 85 12,
   o1 86 (.cv .u32 (.t 85)),
   o1 87 (.ixo 80 9 (.t 84) 1),
   oN (.st 87 9 1 (.t 86))])))))
  (.region false [o1 88 (.bin .add (.t 43) (.c (.int .i64 1))),
   oM 43 88])))))))
  (.seq (.region false [oM 89 5,
   oM 90 7,
   o1 91 (.eqb true (.t 89) (.t 90)),
   o1 92 (.frz 9),
   oC 93 99 [91, 92],
   oN (.st 4 4 2 (.t 93))])
  (.ret)))))))⟩
def Try.r84 : List (Nat × Nat) := [(60, 9), (64, 9), (70, 9), (78, 9), (80, 9), (87, 9)]
theorem Try.i84_ok : fnOk Try.prog Try.r84 Try.f84 Try.i84 = true := by kernel_rfl

/- pinball/wall.disc -/
def Try.i85 : IFunc := ⟨3, 19, [.tmp 6],
  .seq (.region false [o1 3 (.box (.t 0) []),
   o1 4 (.box (.t 1) []),
   o1 6 (.nlo 2)])
  (.seq (.region true [oM 7 2,
   oM 8 2,
   oB 9 .mul 7 8,
   o1 10 (.bls 1 [.int .i64 0] [(0, 1, .t 9)]),
   oC 11 73 [10],
   o1 12 (.ld 3 3 6 false),
   o1 13 (.ld 4 4 2 false),
   oC 14 101 [12, 13],
   o1 15 (.ext (.t 14) 0),
   o1 16 (.ext (.t 14) 1),
   oC 17 100 [15, 16],
   o1 18 (.clo 63 [.t 11, .t 17]),
   o1 6 (.tra 18)])
  (.ret))⟩
def Try.r85 : List (Nat × Nat) := []
theorem Try.i85_ok : fnOk Try.prog Try.r85 Try.f85 Try.i85 = true := by kernel_rfl

/- pinball/pinballref01.Trim -/
def Try.i86 : IFunc := ⟨1, 8, [.cell 2 2 false],
  .seq (.region false [o1 1 (.box (.t 0) [3, 5]),
   o1 2 (.new [.bool false, .sl 0 []] [])])
  (.seq (.region false [o1 3 (.adr 1 1 0),
   o1 4 (.ld 3 1 1 true),
   o1 5 (.adr 1 1 1),
   o1 6 (.ld 5 1 1 true),
   oC 7 91 [4, 6],
   oN (.st 2 2 2 (.t 7))])
  (.ret))⟩
def Try.r86 : List (Nat × Nat) := [(3, 1), (5, 1)]
theorem Try.i86_ok : fnOk Try.prog Try.r86 Try.f86 Try.i86 = true := by kernel_rfl

/- pinball/pinballref01.Mag -/
def Try.i87 : IFunc := ⟨1, 22, [.tmp 2],
  .seq (.region false [o1 2 (.nlo 1)])
  (.seq (.region false [oM 4 0,
   o1 5 (.len (.t 4)),
   oM 3 5])
  (.seq (.block 0 (.loop (.seq (.seq (.region false [oM 6 3,
   o1 7 (.bin .gtr (.t 6) (.c (.int .i64 0))),
   oM 8 7,
   oG 9 (.mov (.t 0)) 8 true,
   oG 10 (.mov (.t 3)) 8 true,
   oG 11 (.bin .sub (.t 10) (.c (.int .i64 1))) 8 true,
   oG 12 (.ixa 9 (.t 11) 1) 8 true,
   oG 13 (.ld 12 12 1 true) 8 true,
   oG 14 (.bin .eql (.t 13) (.c (.int .u32 0))) 8 true,
   o1 15 (.pick (.t 8) (.t 14) (.c (.bool false)))])
  (.cond (.t 15) (.skip)
  (.exit 0)))
  (.block 1 (.region false [oM 16 3,
   o1 17 (.bin .sub (.t 16) (.c (.int .i64 1))),
   oM 3 17])))))
  (.seq (.region false [oM 18 0,
   oM 19 3,
   o1 20 (.sli (.t 18) none (some (.t 19)) none 1),
   o1 21 (.apd true (.c (.nil)) (.t 20) 1),
   o1 2 (.tra 21)])
  (.ret))))⟩
def Try.r87 : List (Nat × Nat) := []
theorem Try.i87_ok : fnOk Try.prog Try.r87 Try.f87 Try.i87 = true := by kernel_rfl

/- pinball/pinballref01.Plus -/
def Try.i88 : IFunc := ⟨2, 42, [.cell 4 2 false],
  .seq (.region false [o1 2 (.box (.t 0) [7, 14, 19, 30]),
   o1 3 (.box (.t 1) [10, 16, 36]),
   o1 4 (.new [.bool false, .sl 0 []] [])])
  (.seq (.region true [o1 7 (.adr 2 2 1),
   o1 8 (.ld 7 2 1 true),
   oC 9 87 [8],
   o1 10 (.adr 3 3 1),
   o1 11 (.ld 10 3 1 true),
   oC 12 87 [11],
   oM 5 9,
   oM 6 12])
  (.seq (.block 0 (.seq (.region false [o1 14 (.adr 2 2 0),
   o1 15 (.ld 14 2 1 true),
   o1 16 (.adr 3 3 0),
   o1 17 (.ld 16 3 1 true),
   o1 18 (.eqb false (.t 15) (.t 17)),
   oM 13 18])
  (.cond (.t 13) (.seq (.region true [o1 19 (.adr 2 2 0),
   o1 20 (.ld 19 2 1 true),
   oM 21 5,
   oM 22 6,
   oC 23 102 [21, 22],
   oC 24 91 [20, 23],
   oN (.st 4 4 2 (.t 24))])
  (.ret))
  (.seq (.region false [oM 26 5,
   oM 27 6,
   oC 28 103 [26, 27],
   o1 29 (.bin .geq (.t 28) (.c (.int .i64 0))),
   oM 25 29])
  (.cond (.t 25) (.seq (.region true [o1 30 (.adr 2 2 0),
   o1 31 (.ld 30 2 1 true),
   oM 32 5,
   oM 33 6,
   oC 34 104 [32, 33],
   oC 35 91 [31, 34],
   oN (.st 4 4 2 (.t 35))])
  (.ret))
  (.skip))))))
  (.seq (.region true [o1 36 (.adr 3 3 0),
   o1 37 (.ld 36 3 1 true),
   oM 38 6,
   oM 39 5,
   oC 40 104 [38, 39],
   oC 41 91 [37, 40],
   oN (.st 4 4 2 (.t 41))])
  (.ret))))⟩
def Try.r88 : List (Nat × Nat) := [(7, 2), (10, 3), (14, 2), (16, 3), (19, 2), (30, 2), (36, 3)]
theorem Try.i88_ok : fnOk Try.prog Try.r88 Try.f88 Try.i88 = true := by kernel_rfl

/- pinball/pinballref01.Times -/
def Try.i89 : IFunc := ⟨2, 18, [.cell 4 2 false],
  .seq (.region false [o1 2 (.box (.t 0) [5, 10]),
   o1 3 (.box (.t 1) [7, 13]),
   o1 4 (.new [.bool false, .sl 0 []] [])])
  (.seq (.region true [o1 5 (.adr 2 2 0),
   o1 6 (.ld 5 2 1 true),
   o1 7 (.adr 3 3 0),
   o1 8 (.ld 7 3 1 true),
   o1 9 (.eqb true (.t 6) (.t 8)),
   o1 10 (.adr 2 2 1),
   o1 11 (.ld 10 2 1 true),
   oC 12 87 [11],
   o1 13 (.adr 3 3 1),
   o1 14 (.ld 13 3 1 true),
   oC 15 87 [14],
   oC 16 105 [12, 15],
   oC 17 91 [9, 16],
   oN (.st 4 4 2 (.t 17))])
  (.ret))⟩
def Try.r89 : List (Nat × Nat) := [(5, 2), (7, 3), (10, 2), (13, 3)]
theorem Try.i89_ok : fnOk Try.prog Try.r89 Try.f89 Try.i89 = true := by kernel_rfl

/- pinball/pinballref01.Up -/
def Try.i90 : IFunc := ⟨2, 51, [.cell 4 2 false],
  .seq (.region false [o1 2 (.box (.t 0) [17, 44]),
   o1 4 (.new [.bool false, .sl 0 []] [])])
  (.seq (.region false [oM 11 1,
   o1 12 (.bin .quo (.t 11) (.c (.int .i64 32))),
   o1 13 (.mks [.int .u32 0] (.t 12)),
   o1 5 (.tra 13)])
  (.seq (.region false [o1 6 (.mov (.c (.int .u32 0)))])
  (.seq (.region false [oM 14 1,
   o1 15 (.bin .rem (.t 14) (.c (.int .i64 32))),
   o1 16 (.cv .u64 (.t 15)),
   oM 7 16])
  (.seq (.region false [o1 17 (.adr 2 2 1),
   o1 18 (.ld 17 2 1 true),
   oC 19 87 [18],
   oM 8 19])
  (.seq (.seq (.region false [o1 9 (.mov (.c (.int .i64 0)))])
  (.block 0 (.loop (.seq (.seq (.region false [oM 20 9,
   oM 21 8,
   o1 22 (.len (.t 21)),
   oB 23 .lss 20 22])
  (.cond (.t 23) (.skip)
  (.exit 0)))
  (.seq (.block 1 (.seq (.region false [oM 26 8,
   oM 27 9,
   o1 28 (.ixa 26 (.t 27) 1),
   o1 29 (.ld 28 28 1 true),
   o1 30 (.cv .u64 (.t 29)),
   oM 31 7,
   oB 32 .shl 30 31,
   oM 33 6,
   o1 34 (.cv .u64 (.t 33)),
   oB 35 .or 32 34,
   oM 10 35])
  (.seq (.region false [o1 36 (.tra 5),
   oM 37 10,
   o1 38 (.cv .u32 (.t 37)),
   o1 39 (.bls 1 [.int .u32 0] [(0, 1, .t 38)]),
   o1 40 (.apd true (.t 36) (.t 39) 1),
   o1 5 (.tra 40)])
  (.region false [oM 41 10,
   o1 42 (.bin .shr (.t 41) (.c (.int .u64 32))),
   o1 43 (.cv .u32 (.t 42)),
   oM 6 43]))))
  (.region false [oM 24 9,
   o1 25 (.bin .add (.t 24) (.c (.int .i64 1))),
   oM 9 25]))))))
  (.seq (.region true [o1 44 (.adr 2 2 0),
   o1 45 (.ld 44 2 1 true),
   o1 46 (.tra 5),
   oM 47 6,
   o1 48 (.bls 1 [.int .u32 0] [(0, 1, .t 47)]),
   o1 49 (.apd false (.t 46) (.t 48) 1),
   oC 50 91 [45, 49],
   oN (.st 4 4 2 (.t 50))])
  (.ret)))))))⟩
def Try.r90 : List (Nat × Nat) := [(17, 2), (44, 2)]
theorem Try.i90_ok : fnOk Try.prog Try.r90 Try.f90 Try.i90 = true := by kernel_rfl

/- pinball/pinballref01.make1 -/
def Try.i91 : IFunc := ⟨2, 16, [.cell 4 2 false],
  .seq (.region false [o1 4 (.new [.bool false, .sl 0 []] [])])
  (.seq (.region false [oM 6 1,
   oC 7 87 [6],
   oM 5 7])
  (.seq (.region false [oM 8 0,
   oM 9 8,
   oG 10 (.mov (.t 5)) 9 true,
   oG 11 (.len (.t 10)) 9 true,
   oG 12 (.bin .gtr (.t 11) (.c (.int .i64 0))) 9 true,
   o1 13 (.pick (.t 9) (.t 12) (.c (.bool false))),
   oM 14 5,
   o1 15 (.bld [.bool false, .sl 0 []] [(0, 1, .t 13), (1, 1, .t 14)]),
   oN (.st 4 4 2 (.t 15))])
  (.ret)))⟩
def Try.r91 : List (Nat × Nat) := []
theorem Try.i91_ok : fnOk Try.prog Try.r91 Try.f91 Try.i91 = true := by kernel_rfl

/- pinball/wide.Of -/
def Try.i92 : IFunc := ⟨1, 19, [.cell 2 2 false],
  .seq (.region false [o1 2 (.new [.bool false, .sl 0 []] [])])
  (.seq (.region false [oM 4 0,
   o1 5 (.cv .u64 (.t 4)),
   oM 3 5])
  (.seq (.seq (.region false [oM 6 0,
   o1 7 (.bin .lss (.t 6) (.c (.int .i64 0)))])
  (.cond (.t 7) (.region false [oM 8 3,
   o1 9 (.un .neg (.t 8)),
   oM 3 9])
  (.skip)))
  (.seq (.region false [oM 10 0,
   o1 11 (.bin .lss (.t 10) (.c (.int .i64 0))),
   oM 12 3,
   o1 13 (.cv .u32 (.t 12)),
   oM 14 3,
   o1 15 (.bin .shr (.t 14) (.c (.int .u64 32))),
   o1 16 (.cv .u32 (.t 15)),
   o1 17 (.bls 2 [.int .u32 0, .int .u32 0] [(0, 1, .t 13), (1, 1, .t 16)]),
   oC 18 99 [11, 17],
   oN (.st 2 2 2 (.t 18))])
  (.ret))))⟩
def Try.r92 : List (Nat × Nat) := []
theorem Try.i92_ok : fnOk Try.prog Try.r92 Try.f92 Try.i92 = true := by kernel_rfl

/- pinball/wide.Neg -/
def Try.i93 : IFunc := ⟨1, 15, [.cell 2 2 false],
  .seq (.region false [o1 1 (.box (.t 0) []),
   o1 2 (.new [.bool false, .sl 0 []] [])])
  (.seq (.region false [o1 6 (.ld 1 1 2 false),
   oC 7 97 [6],
   oM 5 7,
   o1 8 (.ext (.t 5) 0),
   o1 9 (.ext (.t 5) 1),
   oM 3 8,
   oM 4 9])
  (.seq (.region false [oM 10 3,
   o1 11 (.un .not (.t 10)),
   oM 12 4,
   o1 13 (.apd false (.c (.nil)) (.t 12) 1),
   oC 14 99 [11, 13],
   oN (.st 2 2 2 (.t 14))])
  (.ret)))⟩
def Try.r93 : List (Nat × Nat) := []
theorem Try.i93_ok : fnOk Try.prog Try.r93 Try.f93 Try.i93 = true := by kernel_rfl

/- math/bits.LeadingZeros64 -/
def Try.i94 : IFunc := ⟨1, 6, [.tmp 2],
  .seq (.region false [o1 2 (.mov (.c (.int .i64 0)))])
  (.seq (.region false [oM 3 0,
   oC 4 106 [3],
   o1 5 (.bin .sub (.c (.int .i64 64)) (.t 4)),
   oM 2 5])
  (.ret))⟩
def Try.r94 : List (Nat × Nat) := []
theorem Try.i94_ok : fnOk Try.prog Try.r94 Try.f94 Try.i94 = true := by kernel_rfl

/- pinball/wide.Trim -/
def Try.i95 : IFunc := ⟨1, 14, [.cell 2 2 false],
  .seq (.region false [o1 1 (.box (.t 0) []),
   o1 2 (.new [.bool false, .sl 0 []] [])])
  (.seq (.region false [o1 6 (.ld 1 1 2 false),
   oC 7 97 [6],
   oM 5 7,
   o1 8 (.ext (.t 5) 0),
   o1 9 (.ext (.t 5) 1),
   oM 3 8,
   oM 4 9])
  (.seq (.region false [oM 10 3,
   oM 11 4,
   o1 12 (.apd false (.c (.nil)) (.t 11) 1),
   oC 13 99 [10, 12],
   oN (.st 2 2 2 (.t 13))])
  (.ret)))⟩
def Try.r95 : List (Nat × Nat) := []
theorem Try.i95_ok : fnOk Try.prog Try.r95 Try.f95 Try.i95 = true := by kernel_rfl

/- pinball/wide.Sign -/
def Try.i96 : IFunc := ⟨1, 16, [.tmp 2],
  .seq (.region false [o1 1 (.box (.t 0) []),
   o1 2 (.mov (.c (.int .i64 0)))])
  (.seq (.region false [o1 6 (.ld 1 1 2 false),
   oC 7 97 [6],
   oM 5 7,
   o1 8 (.ext (.t 5) 0),
   o1 9 (.ext (.t 5) 1),
   oM 3 8,
   oM 4 9])
  (.seq (.block 0 (.seq (.region false [oM 11 4,
   o1 12 (.len (.t 11)),
   o1 13 (.bin .eql (.t 12) (.c (.int .i64 0))),
   oM 10 13])
  (.cond (.t 10) (.seq (.region false [o1 2 (.mov (.c (.int .i64 0)))])
  (.ret))
  (.seq (.region false [oM 15 3,
   oM 14 15])
  (.cond (.t 14) (.seq (.region false [o1 2 (.mov (.c (.int .i64 (-1))))])
  (.ret))
  (.skip))))))
  (.seq (.region false [o1 2 (.mov (.c (.int .i64 1)))])
  (.ret))))⟩
def Try.r96 : List (Nat × Nat) := []
theorem Try.i96_ok : fnOk Try.prog Try.r96 Try.f96 Try.i96 = true := by kernel_rfl

/- pinball/wide.limbs -/
def Try.i97 : IFunc := ⟨1, 31, [.tmp 2, .tmp 3],
  .seq (.region false [o1 1 (.box (.t 0) [5, 11, 21, 27]),
   o1 2 (.mov (.c (.bool false))),
   o1 3 (.nlo 1)])
  (.seq (.region false [o1 5 (.adr 1 1 1),
   o1 6 (.ld 5 1 1 true),
   o1 7 (.len (.t 6)),
   oM 4 7])
  (.seq (.block 0 (.loop (.seq (.seq (.region false [oM 8 4,
   o1 9 (.bin .gtr (.t 8) (.c (.int .i64 0))),
   oM 10 9,
   oG 11 (.adr 1 1 1) 10 true,
   oG 12 (.ld 11 1 1 true) 10 true,
   oG 13 (.mov (.t 4)) 10 true,
   oG 14 (.bin .sub (.t 13) (.c (.int .i64 1))) 10 true,
   oG 15 (.ixa 12 (.t 14) 1) 10 true,
   oG 16 (.ld 15 15 1 true) 10 true,
   oG 17 (.bin .eql (.t 16) (.c (.int .u32 0))) 10 true,
   o1 18 (.pick (.t 10) (.t 17) (.c (.bool false)))])
  (.cond (.t 18) (.skip)
  (.exit 0)))
  (.block 1 (.region false [oM 19 4,
   o1 20 (.bin .sub (.t 19) (.c (.int .i64 1))),
   oM 4 20])))))
  (.seq (.region true [o1 21 (.adr 1 1 0),
   o1 22 (.ld 21 1 1 true),
   oM 23 22,
   oG 24 (.mov (.t 4)) 23 true,
   oG 25 (.bin .gtr (.t 24) (.c (.int .i64 0))) 23 true,
   o1 26 (.pick (.t 23) (.t 25) (.c (.bool false))),
   o1 27 (.adr 1 1 1),
   o1 28 (.ld 27 1 1 true),
   oM 29 4,
   o1 30 (.sli (.t 28) none (some (.t 29)) none 1),
   oM 2 26,
   o1 3 (.tra 30)])
  (.ret))))⟩
def Try.r97 : List (Nat × Nat) := [(5, 1), (11, 1), (21, 1), (27, 1)]
theorem Try.i97_ok : fnOk Try.prog Try.r97 Try.f97 Try.i97 = true := by kernel_rfl

/- pinball/wide.sum -/
def Try.i98 : IFunc := ⟨4, 31, [.cell 8 2 false],
  .seq (.region false [o1 8 (.new [.bool false, .sl 0 []] [])])
  (.seq (.seq (.region false [oM 9 0,
   oM 10 2,
   o1 11 (.eqb false (.t 9) (.t 10))])
  (.cond (.t 11) (.seq (.region false [oM 12 0,
   oM 13 1,
   oM 14 3,
   oC 15 107 [13, 14],
   oC 16 99 [12, 15],
   oN (.st 8 8 2 (.t 16))])
  (.ret))
  (.skip)))
  (.seq (.seq (.region false [oM 17 1,
   oM 18 3,
   oC 19 108 [17, 18],
   o1 20 (.bin .geq (.t 19) (.c (.int .i64 0)))])
  (.cond (.t 20) (.seq (.region false [oM 21 0,
   oM 22 1,
   oM 23 3,
   oC 24 109 [22, 23],
   oC 25 99 [21, 24],
   oN (.st 8 8 2 (.t 25))])
  (.ret))
  (.skip)))
  (.seq (.region false [oM 26 2,
   oM 27 3,
   oM 28 1,
   oC 29 109 [27, 28],
   oC 30 99 [26, 29],
   oN (.st 8 8 2 (.t 30))])
  (.ret))))⟩
def Try.r98 : List (Nat × Nat) := []
theorem Try.i98_ok : fnOk Try.prog Try.r98 Try.f98 Try.i98 = true := by kernel_rfl

/- pinball/wide.made -/
def Try.i99 : IFunc := ⟨2, 29, [.cell 4 2 false],
  .seq (.region false [o1 4 (.new [.bool false, .sl 0 []] [])])
  (.seq (.region false [oM 6 1,
   o1 7 (.len (.t 6)),
   oM 5 7])
  (.seq (.block 0 (.loop (.seq (.seq (.region false [oM 8 5,
   o1 9 (.bin .gtr (.t 8) (.c (.int .i64 0))),
   oM 10 9,
   oG 11 (.mov (.t 1)) 10 true,
   oG 12 (.mov (.t 5)) 10 true,
   oG 13 (.bin .sub (.t 12) (.c (.int .i64 1))) 10 true,
   oG 14 (.ixa 11 (.t 13) 1) 10 true,
   oG 15 (.ld 14 14 1 true) 10 true,
   oG 16 (.bin .eql (.t 15) (.c (.int .u32 0))) 10 true,
   o1 17 (.pick (.t 10) (.t 16) (.c (.bool false)))])
  (.cond (.t 17) (.skip)
  (.exit 0)))
  (.block 1 (.region false [oM 18 5,
   o1 19 (.bin .sub (.t 18) (.c (.int .i64 1))),
   oM 5 19])))))
  (.seq (.seq (.region false [oM 20 5,
   o1 21 (.bin .eql (.t 20) (.c (.int .i64 0)))])
  (.cond (.t 21) (.seq (.region false [o1 22 (.bld [.bool false, .sl 0 []] []),
   oN (.st 4 4 2 (.t 22))])
  (.ret))
  (.skip)))
  (.seq (.region false [oM 23 0,
   oM 24 1,
   oM 25 5,
   oM 26 5,
   o1 27 (.sli (.t 24) none (some (.t 25)) (some (.t 26)) 1),
   o1 28 (.bld [.bool false, .sl 0 []] [(0, 1, .t 23), (1, 1, .t 27)]),
   oN (.st 4 4 2 (.t 28))])
  (.ret)))))⟩
def Try.r99 : List (Nat × Nat) := []
theorem Try.i99_ok : fnOk Try.prog Try.r99 Try.f99 Try.i99 = true := by kernel_rfl

/- pinball/wall.square -/
def Try.i100 : IFunc := ⟨2, 12, [.tmp 4],
  .seq (.region false [o1 4 (.nlo 2)])
  (.seq (.region false [oM 5 0,
   oM 6 0,
   oC 7 66 [5, 6],
   oM 8 1,
   oM 9 1,
   oC 10 66 [8, 9],
   o1 11 (.clo 65 [.t 7, .t 10]),
   o1 4 (.tra 11)])
  (.ret))⟩
def Try.r100 : List (Nat × Nat) := []
theorem Try.i100_ok : fnOk Try.prog Try.r100 Try.f100 Try.i100 = true := by kernel_rfl

/- pinball/wall.relative -/
def Try.i101 : IFunc := ⟨2, 23, [.tmp 4, .tmp 5],
  .seq (.region false [o1 2 (.box (.t 0) []),
   o1 3 (.box (.t 1) [12, 18]),
   o1 4 (.nlo 2),
   o1 5 (.nlo 2)])
  (.seq (.region false [o1 7 (.ld 2 2 6 false),
   oC 8 62 [7],
   oM 6 8,
   o1 9 (.ext (.t 6) 0),
   o1 10 (.ext (.t 6) 1),
   o1 4 (.tra 9),
   o1 5 (.tra 10)])
  (.seq (.region true [o1 11 (.frz 4),
   o1 12 (.adr 3 3 0),
   o1 13 (.ld 12 3 1 true),
   o1 14 (.bls 1 [.int .i64 0] [(0, 1, .t 13)]),
   oC 15 73 [14],
   o1 16 (.clo 63 [.t 11, .t 15]),
   o1 17 (.frz 5),
   o1 18 (.adr 3 3 1),
   o1 19 (.ld 18 3 1 true),
   o1 20 (.bls 1 [.int .i64 0] [(0, 1, .t 19)]),
   oC 21 73 [20],
   o1 22 (.clo 63 [.t 17, .t 21]),
   o1 4 (.tra 16),
   o1 5 (.tra 22)])
  (.ret)))⟩
def Try.r101 : List (Nat × Nat) := [(12, 3), (18, 3)]
theorem Try.i101_ok : fnOk Try.prog Try.r101 Try.f101 Try.i101 = true := by kernel_rfl

/- pinball/pinballref01.addMag -/
def Try.i102 : IFunc := ⟨2, 54, [.tmp 4],
  .seq (.region false [o1 4 (.nlo 1)])
  (.seq (.region false [o1 5 (.nlo 1)])
  (.seq (.region false [o1 6 (.mov (.c (.int .u64 0)))])
  (.seq (.seq (.region false [o1 7 (.mov (.c (.int .i64 0)))])
  (.block 0 (.loop (.seq (.seq (.region false [oM 8 7,
   oM 9 0,
   o1 10 (.len (.t 9)),
   oB 11 .lss 8 10,
   oM 12 11,
   oG 13 (.mov (.t 7)) 12 false,
   oG 14 (.mov (.t 1)) 12 false,
   oG 15 (.len (.t 14)) 12 false,
   oG 16 (.bin .lss (.t 13) (.t 15)) 12 false,
   o1 17 (.pick (.t 12) (.c (.bool true)) (.t 16)),
   oM 18 17,
   oG 19 (.mov (.t 6)) 18 false,
   oG 20 (.bin .gtr (.t 19) (.c (.int .u64 0))) 18 false,
   o1 21 (.pick (.t 18) (.c (.bool true)) (.t 20))])
  (.cond (.t 21) (.skip)
  (.exit 0)))
  (.seq (.block 1 (.seq (.seq (.region false [oM 24 7,
   oM 25 0,
   o1 26 (.len (.t 25)),
   oB 27 .lss 24 26])
  (.cond (.t 27) (.region false [oM 28 6,
   oM 29 0,
   oM 30 7,
   o1 31 (.ixa 29 (.t 30) 1),
   o1 32 (.ld 31 31 1 true),
   o1 33 (.cv .u64 (.t 32)),
   oB 34 .add 28 33,
   oM 6 34])
  (.skip)))
  (.seq (.seq (.region false [oM 35 7,
   oM 36 1,
   o1 37 (.len (.t 36)),
   oB 38 .lss 35 37])
  (.cond (.t 38) (.region false [oM 39 6,
   oM 40 1,
   oM 41 7,
   o1 42 (.ixa 40 (.t 41) 1),
   o1 43 (.ld 42 42 1 true),
   o1 44 (.cv .u64 (.t 43)),
   oB 45 .add 39 44,
   oM 6 45])
  (.skip)))
  (.seq (.region false [o1 46 (.tra 5),
   oM 47 6,
   o1 48 (.cv .u32 (.t 47)),
   o1 49 (.bls 1 [.int .u32 0] [(0, 1, .t 48)]),
   o1 50 (.apd true (.t 46) (.t 49) 1),
   o1 5 (.tra 50)])
  (.region false [oM 51 6,
   o1 52 (.bin .shr (.t 51) (.c (.int .u64 32))),
   oM 6 52])))))
  (.region false [oM 22 7,
   o1 23 (.bin .add (.t 22) (.c (.int .i64 1))),
   oM 7 23]))))))
  (.seq (.region false [o1 53 (.tra 5),
   o1 4 (.tra 53)])
  (.ret)))))⟩
def Try.r102 : List (Nat × Nat) := []
theorem Try.i102_ok : fnOk Try.prog Try.r102 Try.f102 Try.i102 = true := by kernel_rfl

/- pinball/pinballref01.CmpMag -/
def Try.i103 : IFunc := ⟨2, 41, [.tmp 4],
  .seq (.region false [o1 4 (.mov (.c (.int .i64 0)))])
  (.seq (.seq (.region false [oM 6 0,
   o1 7 (.len (.t 6)),
   oM 8 1,
   o1 9 (.len (.t 8)),
   oB 10 .neq 7 9])
  (.cond (.t 10) (.seq (.seq (.region false [oM 11 0,
   o1 12 (.len (.t 11)),
   oM 13 1,
   o1 14 (.len (.t 13)),
   oB 15 .lss 12 14])
  (.cond (.t 15) (.seq (.region false [o1 4 (.mov (.c (.int .i64 (-1))))])
  (.ret))
  (.skip)))
  (.seq (.region false [o1 4 (.mov (.c (.int .i64 1)))])
  (.ret)))
  (.skip)))
  (.seq (.seq (.region false [oM 16 0,
   o1 17 (.len (.t 16)),
   o1 18 (.bin .sub (.t 17) (.c (.int .i64 1))),
   oM 5 18])
  (.block 0 (.loop (.seq (.seq (.region false [oM 19 5,
   o1 20 (.bin .geq (.t 19) (.c (.int .i64 0)))])
  (.cond (.t 20) (.skip)
  (.exit 0)))
  (.seq (.block 1 (.seq (.region true [oM 23 0,
   oM 24 5,
   o1 25 (.ixa 23 (.t 24) 1),
   o1 26 (.ld 25 25 1 true),
   oM 27 1,
   oM 28 5,
   o1 29 (.ixa 27 (.t 28) 1),
   o1 30 (.ld 29 29 1 true),
   oB 31 .neq 26 30])
  (.cond (.t 31) (.seq (.seq (.region true [oM 32 0,
   oM 33 5,
   o1 34 (.ixa 32 (.t 33) 1),
   o1 35 (.ld 34 34 1 true),
   oM 36 1,
   oM 37 5,
   o1 38 (.ixa 36 (.t 37) 1),
   o1 39 (.ld 38 38 1 true),
   oB 40 .lss 35 39])
  (.cond (.t 40) (.seq (.region false [o1 4 (.mov (.c (.int .i64 (-1))))])
  (.ret))
  (.skip)))
  (.seq (.region false [o1 4 (.mov (.c (.int .i64 1)))])
  (.ret)))
  (.skip))))
  (.region false [oM 21 5,
   o1 22 (.bin .sub (.t 21) (.c (.int .i64 1))),
   oM 5 22]))))))
  (.seq (.region false [o1 4 (.mov (.c (.int .i64 0)))])
  (.ret))))⟩
def Try.r103 : List (Nat × Nat) := []
theorem Try.i103_ok : fnOk Try.prog Try.r103 Try.f103 Try.i103 = true := by kernel_rfl

/- pinball/pinballref01.subMag -/
def Try.i104 : IFunc := ⟨2, 42, [.tmp 4],
  .seq (.region false [o1 4 (.nlo 1)])
  (.seq (.region false [o1 5 (.nlo 1)])
  (.seq (.region false [o1 6 (.mov (.c (.int .u64 0)))])
  (.seq (.seq (.region false [o1 7 (.mov (.c (.int .i64 0)))])
  (.block 0 (.loop (.seq (.seq (.region false [oM 10 7,
   oM 11 0,
   o1 12 (.len (.t 11)),
   oB 13 .lss 10 12])
  (.cond (.t 13) (.skip)
  (.exit 0)))
  (.seq (.block 1 (.seq (.region false [o1 8 (.mov (.c (.int .u64 0)))])
  (.seq (.seq (.region false [oM 16 7,
   oM 17 1,
   o1 18 (.len (.t 17)),
   oB 19 .lss 16 18])
  (.cond (.t 19) (.region false [oM 20 1,
   oM 21 7,
   o1 22 (.ixa 20 (.t 21) 1),
   o1 23 (.ld 22 22 1 true),
   o1 24 (.cv .u64 (.t 23)),
   oM 8 24])
  (.skip)))
  (.seq (.region false [oM 25 0,
   oM 26 7,
   o1 27 (.ixa 25 (.t 26) 1),
   o1 28 (.ld 27 27 1 true),
   o1 29 (.cv .u64 (.t 28)),
   oM 30 8,
   oB 31 .sub 29 30,
   oM 32 6,
   oB 33 .sub 31 32,
   oM 9 33])
  (.seq (.region false [o1 34 (.tra 5),
   oM 35 9,
   o1 36 (.cv .u32 (.t 35)),
   o1 37 (.bls 1 [.int .u32 0] [(0, 1, .t 36)]),
   o1 38 (.apd true (.t 34) (.t 37) 1),
   o1 5 (.tra 38)])
  (.region false [oM 39 9,
   o1 40 (.bin .shr (.t 39) (.c (.int .u64 63))),
   oM 6 40]))))))
  (.region false [oM 14 7,
   o1 15 (.bin .add (.t 14) (.c (.int .i64 1))),
   oM 7 15]))))))
  (.seq (.region false [o1 41 (.tra 5),
   o1 4 (.tra 41)])
  (.ret)))))⟩
def Try.r104 : List (Nat × Nat) := []
theorem Try.i104_ok : fnOk Try.prog Try.r104 Try.f104 Try.i104 = true := by kernel_rfl

/- pinball/pinballref01.mulMag -/
def Try.i105 : IFunc := ⟨2, 66, [.tmp 4],
  .seq (.region false [o1 4 (.nlo 1)])
  (.seq (.region false [oM 9 0,
   o1 10 (.len (.t 9)),
   oM 11 1,
   o1 12 (.len (.t 11)),
   oB 13 .add 10 12,
   o1 14 (.mks [.int .u32 0] (.t 13)),
   ⟨some 5, .tra 14, none, [28, 32, 48, 54, 57, 64]⟩])
  (.seq (.seq (.region false [o1 6 (.mov (.c (.int .i64 0)))])
  (.block 0 (.loop (.seq (.seq (.region false [oM 15 6,
   oM 16 0,
   o1 17 (.len (.t 16)),
   oB 18 .lss 15 17])
  (.cond (.t 18) (.skip)
  (.exit 0)))
  (.seq (.block 1 (.seq (.region false [o1 7 (.mov (.c (.int .u64 0)))])
  (.seq (.seq (.region false [o1 8 (.mov (.c (.int .i64 0)))])
  (.block 2 (.loop (.seq (.seq (.region false [oM 21 8,
   oM 22 1,
   o1 23 (.len (.t 22)),
   oB 24 .lss 21 23])
  (.cond (.t 24) (.skip)
  (.exit 2)))
  (.seq (.block 3 (.seq (.region true [oM 27 7,
   o1 28 (.cpy 5),
   oM 29 6,
   oM 30 8,
   oB 31 .add 29 30,
   o1 32 (.ixo 28 5 (.t 31) 1),
   o1 33 (.ld 32 5 1 true),
   o1 34 (.cv .u64 (.t 33)),
   oM 35 0,
   oM 36 6,
   o1 37 (.ixa 35 (.t 36) 1),
   o1 38 (.ld 37 37 1 true),
   o1 39 (.cv .u64 (.t 38)),
   oM 40 1,
   oM 41 8,
   o1 42 (.ixa 40 (.t 41) 1),
   o1 43 (.ld 42 42 1 true),
   o1 44 (.cv .u64 (.t 43)),
   oB 45 .mul 39 44,
   oB 46 .add 34 45,
   oB 47 .add 27 46,
   oM 7 47])
  (.seq (.region false [o1 48 (.cpy 5),
   oM 49 6,
   oM 50 8,
   oB 51 .add 49 50,
   oM 52 7,
   o1 53 (.cv .u32 (.t 52)),
   o1 54 (.ixo 48 5 (.t 51) 1),
   oN (.st 54 5 1 (.t 53))])
  (.region false [oM 55 7,
   o1 56 (.bin .shr (.t 55) (.c (.int .u64 32))),
   oM 7 56]))))
  (.region false [oM 25 8,
   o1 26 (.bin .add (.t 25) (.c (.int .i64 1))),
   oM 8 26]))))))
  (.region false [o1 57 (.cpy 5),
   oM 58 6,
   oM 59 1,
   o1 60 (.len (.t 59)),
   oB 61 .add 58 60,
   oM 62 7,
   o1 63 (.cv .u32 (.t 62)),
   o1 64 (.ixo 57 5 (.t 61) 1),
   oN (.st 64 5 1 (.t 63))]))))
  (.region false [oM 19 6,
   o1 20 (.bin .add (.t 19) (.c (.int .i64 1))),
   oM 6 20]))))))
  (.seq (.region false [o1 65 (.tra 5),
   o1 4 (.tra 65)])
  (.ret))))⟩
def Try.r105 : List (Nat × Nat) := [(28, 5), (32, 5), (48, 5), (54, 5), (57, 5), (64, 5)]
theorem Try.i105_ok : fnOk Try.prog Try.r105 Try.f105 Try.i105 = true := by kernel_rfl

def text_14a5d850_0 : List UInt8 := 0 :: 1 :: 2 :: 2 :: 3 :: 3 :: 3 :: 3 :: 4 :: 4 :: 4 :: 4 :: 4 :: 4 :: 4 :: 4 :: 5 :: 5 :: 5 :: 5 :: 5 :: 5 :: 5 :: 5 :: 5 :: 5 :: 5 :: 5 :: 5 :: 5 :: 5 :: 5 :: 6 :: 6 :: 6 :: 6 :: 6 :: 6 :: 6 :: 6 :: []
def text_14a5d850_1 : List UInt8 := 6 :: 6 :: 6 :: 6 :: 6 :: 6 :: 6 :: 6 :: 6 :: 6 :: 6 :: 6 :: 6 :: 6 :: 6 :: 6 :: 6 :: 6 :: 6 :: 6 :: 6 :: 6 :: 6 :: 6 :: 7 :: 7 :: 7 :: 7 :: 7 :: 7 :: 7 :: 7 :: 7 :: 7 :: 7 :: 7 :: 7 :: 7 :: 7 :: 7 :: []
def text_14a5d850_2 : List UInt8 := 7 :: 7 :: 7 :: 7 :: 7 :: 7 :: 7 :: 7 :: 7 :: 7 :: 7 :: 7 :: 7 :: 7 :: 7 :: 7 :: 7 :: 7 :: 7 :: 7 :: 7 :: 7 :: 7 :: 7 :: 7 :: 7 :: 7 :: 7 :: 7 :: 7 :: 7 :: 7 :: 7 :: 7 :: 7 :: 7 :: 7 :: 7 :: 7 :: 7 :: []
def text_14a5d850_3 : List UInt8 := 7 :: 7 :: 7 :: 7 :: 7 :: 7 :: 7 :: 7 :: 8 :: 8 :: 8 :: 8 :: 8 :: 8 :: 8 :: 8 :: 8 :: 8 :: 8 :: 8 :: 8 :: 8 :: 8 :: 8 :: 8 :: 8 :: 8 :: 8 :: 8 :: 8 :: 8 :: 8 :: 8 :: 8 :: 8 :: 8 :: 8 :: 8 :: 8 :: 8 :: []
def text_14a5d850_4 : List UInt8 := 8 :: 8 :: 8 :: 8 :: 8 :: 8 :: 8 :: 8 :: 8 :: 8 :: 8 :: 8 :: 8 :: 8 :: 8 :: 8 :: 8 :: 8 :: 8 :: 8 :: 8 :: 8 :: 8 :: 8 :: 8 :: 8 :: 8 :: 8 :: 8 :: 8 :: 8 :: 8 :: 8 :: 8 :: 8 :: 8 :: 8 :: 8 :: 8 :: 8 :: []
def text_14a5d850_5 : List UInt8 := 8 :: 8 :: 8 :: 8 :: 8 :: 8 :: 8 :: 8 :: 8 :: 8 :: 8 :: 8 :: 8 :: 8 :: 8 :: 8 :: 8 :: 8 :: 8 :: 8 :: 8 :: 8 :: 8 :: 8 :: 8 :: 8 :: 8 :: 8 :: 8 :: 8 :: 8 :: 8 :: 8 :: 8 :: 8 :: 8 :: 8 :: 8 :: 8 :: 8 :: []
def text_14a5d850_6 : List UInt8 := 8 :: 8 :: 8 :: 8 :: 8 :: 8 :: 8 :: 8 :: 8 :: 8 :: 8 :: 8 :: 8 :: 8 :: 8 :: 8 :: []
def text_14a5d850 : ByteArray := ⟨(text_14a5d850_0 ++ text_14a5d850_1 ++ text_14a5d850_2 ++ text_14a5d850_3 ++ text_14a5d850_4 ++ text_14a5d850_5 ++ text_14a5d850_6).toArray⟩
/- math/bits.Len64 -/
def Try.i106 : IFunc := ⟨1, 25, [.tmp 2],
  .seq (.region false [o1 2 (.mov (.c (.int .i64 0)))])
  (.seq (.seq (.region false [oM 3 0,
   o1 4 (.bin .geq (.t 3) (.c (.int .u64 4294967296)))])
  (.cond (.t 4) (.seq (.region false [oM 5 0,
   o1 6 (.bin .shr (.t 5) (.c (.int .u64 32))),
   oM 0 6])
  (.region false [o1 2 (.mov (.c (.int .i64 32)))]))
  (.skip)))
  (.seq (.seq (.region false [oM 7 0,
   o1 8 (.bin .geq (.t 7) (.c (.int .u64 65536)))])
  (.cond (.t 8) (.seq (.region false [oM 9 0,
   o1 10 (.bin .shr (.t 9) (.c (.int .u64 16))),
   oM 0 10])
  (.region false [oM 11 2,
   o1 12 (.bin .add (.t 11) (.c (.int .i64 16))),
   oM 2 12]))
  (.skip)))
  (.seq (.seq (.region false [oM 13 0,
   o1 14 (.bin .geq (.t 13) (.c (.int .u64 256)))])
  (.cond (.t 14) (.seq (.region false [oM 15 0,
   o1 16 (.bin .shr (.t 15) (.c (.int .u64 8))),
   oM 0 16])
  (.region false [oM 17 2,
   o1 18 (.bin .add (.t 17) (.c (.int .i64 8))),
   oM 2 18]))
  (.skip)))
  (.seq (.region false [oM 19 2,
   oM 20 0,
   o1 21 (.cv .u8 (.t 20)),
   o1 22 (.six (.c (.str text_14a5d850)) (.t 21)),
   o1 23 (.cv .i64 (.t 22)),
   oB 24 .add 19 23,
   oM 2 24])
  (.ret)))))⟩
def Try.r106 : List (Nat × Nat) := []
theorem Try.i106_ok : fnOk Try.prog Try.r106 Try.f106 Try.i106 = true := by kernel_rfl

/- pinball/wide.addLimbs -/
def Try.i107 : IFunc := ⟨2, 58, [.tmp 4],
  .seq (.region false [o1 4 (.nlo 1)])
  (.seq (.seq (.region false [oM 9 0,
   o1 10 (.len (.t 9)),
   oM 11 1,
   o1 12 (.len (.t 11)),
   oB 13 .lss 10 12])
  (.cond (.t 13) (.region false [oM 14 1,
   oM 15 0,
   oM 0 14,
   oM 1 15])
  (.skip)))
  (.seq (.region false [oM 16 0,
   o1 17 (.len (.t 16)),
   o1 18 (.bin .add (.t 17) (.c (.int .i64 1))),
   o1 19 (.mks [.int .u32 0] (.t 18)),
   ⟨some 5, .tra 19, none, [43, 49, 51, 56]⟩])
  (.seq (.region false [o1 6 (.mov (.c (.int .u64 0)))])
  (.seq (.seq (.region false [oM 20 0,
   o1 21 (.len (.t 20)),
   o1 22 (.mov (.c (.int .i64 0)))])
  (.block 0 (.loop (.seq (.region false [oB 23 .lss 22 21])
  (.seq (.cond (.t 23) (.skip)
  (.exit 0))
  (.seq (.block 1 (.seq (.region false [oM 24 22,
   oM 7 24])
  (.seq (.region false [oM 25 0,
   oM 26 7,
   o1 27 (.ixa 25 (.t 26) 1),
   o1 28 (.ld 27 27 1 true),
   o1 29 (.cv .u64 (.t 28)),
   oM 30 6,
   oB 31 .add 29 30,
   oM 8 31])
  (.seq (.seq (.region false [oM 32 7,
   oM 33 1,
   o1 34 (.len (.t 33)),
   oB 35 .lss 32 34])
  (.cond (.t 35) (.region false [oM 36 8,
   oM 37 1,
   oM 38 7,
   o1 39 (.ixa 37 (.t 38) 1),
   o1 40 (.ld 39 39 1 true),
   o1 41 (.cv .u64 (.t 40)),
   oB 42 .add 36 41,
   oM 8 42])
  (.skip)))
  (.region false [o1 43 (.cpy 5),
   oM 44 7,
   oM 45 8,
   o1 46 (.cv .u32 (.t 45)),
   oM 47 8,
   o1 48 (.bin .shr (.t 47) (.c (.int .u64 32))),
   o1 49 (.ixo 43 5 (.t 44) 1),
   oN (.st 49 5 1 (.t 46)),
   oM 6 48])))))
  (.region false [o1 50 (.bin .add (.t 22) (.c (.int .i64 1))),
   oM 22 50])))))))
  (.seq (.region false [o1 51 (.cpy 5),
   oM 52 0,
   o1 53 (.len (.t 52)),
   oM 54 6,
   o1 55 (.cv .u32 (.t 54)),
   o1 56 (.ixo 51 5 (.t 53) 1),
   oN (.st 56 5 1 (.t 55))])
  (.seq (.region false [o1 57 (.tra 5),
   o1 4 (.tra 57)])
  (.ret)))))))⟩
def Try.r107 : List (Nat × Nat) := [(43, 5), (49, 5), (51, 5), (56, 5)]
theorem Try.i107_ok : fnOk Try.prog Try.r107 Try.f107 Try.i107 = true := by kernel_rfl

/- pinball/wide.cmpLimbs -/
def Try.i108 : IFunc := ⟨2, 41, [.tmp 4],
  .seq (.region false [o1 4 (.mov (.c (.int .i64 0)))])
  (.seq (.seq (.region false [oM 6 0,
   o1 7 (.len (.t 6)),
   oM 8 1,
   o1 9 (.len (.t 8)),
   oB 10 .neq 7 9])
  (.cond (.t 10) (.seq (.seq (.region false [oM 11 0,
   o1 12 (.len (.t 11)),
   oM 13 1,
   o1 14 (.len (.t 13)),
   oB 15 .lss 12 14])
  (.cond (.t 15) (.seq (.region false [o1 4 (.mov (.c (.int .i64 (-1))))])
  (.ret))
  (.skip)))
  (.seq (.region false [o1 4 (.mov (.c (.int .i64 1)))])
  (.ret)))
  (.skip)))
  (.seq (.seq (.region false [oM 16 0,
   o1 17 (.len (.t 16)),
   o1 18 (.bin .sub (.t 17) (.c (.int .i64 1))),
   oM 5 18])
  (.block 0 (.loop (.seq (.seq (.region false [oM 19 5,
   o1 20 (.bin .geq (.t 19) (.c (.int .i64 0)))])
  (.cond (.t 20) (.skip)
  (.exit 0)))
  (.seq (.block 1 (.seq (.region true [oM 23 0,
   oM 24 5,
   o1 25 (.ixa 23 (.t 24) 1),
   o1 26 (.ld 25 25 1 true),
   oM 27 1,
   oM 28 5,
   o1 29 (.ixa 27 (.t 28) 1),
   o1 30 (.ld 29 29 1 true),
   oB 31 .neq 26 30])
  (.cond (.t 31) (.seq (.seq (.region true [oM 32 0,
   oM 33 5,
   o1 34 (.ixa 32 (.t 33) 1),
   o1 35 (.ld 34 34 1 true),
   oM 36 1,
   oM 37 5,
   o1 38 (.ixa 36 (.t 37) 1),
   o1 39 (.ld 38 38 1 true),
   oB 40 .lss 35 39])
  (.cond (.t 40) (.seq (.region false [o1 4 (.mov (.c (.int .i64 (-1))))])
  (.ret))
  (.skip)))
  (.seq (.region false [o1 4 (.mov (.c (.int .i64 1)))])
  (.ret)))
  (.skip))))
  (.region false [oM 21 5,
   o1 22 (.bin .sub (.t 21) (.c (.int .i64 1))),
   oM 5 22]))))))
  (.seq (.region false [o1 4 (.mov (.c (.int .i64 0)))])
  (.ret))))⟩
def Try.r108 : List (Nat × Nat) := []
theorem Try.i108_ok : fnOk Try.prog Try.r108 Try.f108 Try.i108 = true := by kernel_rfl

/- pinball/wide.subLimbs -/
def Try.i109 : IFunc := ⟨2, 44, [.tmp 4],
  .seq (.region false [o1 4 (.nlo 1)])
  (.seq (.region false [oM 9 0,
   o1 10 (.len (.t 9)),
   o1 11 (.mks [.int .u32 0] (.t 10)),
   ⟨some 5, .tra 11, none, [35, 41]⟩])
  (.seq (.region false [o1 6 (.mov (.c (.int .u64 0)))])
  (.seq (.seq (.region false [oM 12 0,
   o1 13 (.len (.t 12)),
   o1 14 (.mov (.c (.int .i64 0)))])
  (.block 0 (.loop (.seq (.region false [oB 15 .lss 14 13])
  (.seq (.cond (.t 15) (.skip)
  (.exit 0))
  (.seq (.block 1 (.seq (.region false [oM 16 14,
   oM 7 16])
  (.seq (.region false [oM 17 0,
   oM 18 7,
   o1 19 (.ixa 17 (.t 18) 1),
   o1 20 (.ld 19 19 1 true),
   o1 21 (.cv .u64 (.t 20)),
   oM 22 6,
   oB 23 .sub 21 22,
   oM 8 23])
  (.seq (.seq (.region false [oM 24 7,
   oM 25 1,
   o1 26 (.len (.t 25)),
   oB 27 .lss 24 26])
  (.cond (.t 27) (.region false [oM 28 8,
   oM 29 1,
   oM 30 7,
   o1 31 (.ixa 29 (.t 30) 1),
   o1 32 (.ld 31 31 1 true),
   o1 33 (.cv .u64 (.t 32)),
   oB 34 .sub 28 33,
   oM 8 34])
  (.skip)))
  (.region false [o1 35 (.cpy 5),
   oM 36 7,
   oM 37 8,
   o1 38 (.cv .u32 (.t 37)),
   oM 39 8,
   o1 40 (.bin .shr (.t 39) (.c (.int .u64 63))),
   o1 41 (.ixo 35 5 (.t 36) 1),
   oN (.st 41 5 1 (.t 38)),
   oM 6 40])))))
  (.region false [o1 42 (.bin .add (.t 14) (.c (.int .i64 1))),
   oM 14 42])))))))
  (.seq (.region false [o1 43 (.tra 5),
   o1 4 (.tra 43)])
  (.ret)))))⟩
def Try.r109 : List (Nat × Nat) := [(35, 5), (41, 5)]
theorem Try.i109_ok : fnOk Try.prog Try.r109 Try.f109 Try.i109 = true := by kernel_rfl

end Go.Proofs.Ythakfjlnhldehaa
