/- Functions of the seat in the intermediate language, printed by a program out of the translation, and that each is the program's own. -/
import Derived.Test.YthakfjlnhldehaaGreatProg
import Derived.Test.YthakfjlnhldehaaGreatAbs14
import Derived.KernelRfl
namespace Go.Proofs.YthakfjlnhldehaaGreat
open Go.Ai
set_option maxRecDepth 100000

/- pinball/pinballlaw11.WallPlaces -/
def Tryz.i3 : IFunc := ⟨3, 65, [.tmp 6],
  .seq (.region false [o1 3 (.box (.t 0) []),
   o1 6 (.mov (.c (.bool false)))])
  (.seq (.seq (.region false [oC 10 7 [],
   o1 11 (.un .not (.t 10))])
  (.cond (.t 11) (.seq (.region false [o1 6 (.mov (.c (.bool false)))])
  (.ret))
  (.skip)))
  (.seq (.seq (.region false [oM 12 1,
   o1 13 (.len (.t 12)),
   o1 14 (.bin .lss (.t 13) (.c (.int .i64 2)))])
  (.cond (.t 14) (.seq (.region false [oC 15 7 [],
   oM 6 15])
  (.ret))
  (.skip)))
  (.seq (.region true [oM 16 1,
   o1 17 (.ixa 16 (.c (.int .i64 0)) 2),
   o1 18 (.ld 17 17 2 false),
   oM 19 1,
   o1 20 (.ixa 19 (.c (.int .i64 1)) 2),
   o1 21 (.ld 20 20 2 false),
   o1 7 (.new [.int .i64 0, .int .i64 0] []),
   o1 8 (.new [.int .i64 0, .int .i64 0] []),
   oN (.st 7 7 2 (.t 18)),
   oN (.st 8 8 2 (.t 21))])
  (.seq (.region true [o1 22 (.ld 3 3 2 false),
   o1 23 (.ld 7 7 2 false),
   oM 24 2,
   oC 25 8 [22, 23, 24],
   o1 26 (.ld 3 3 2 false),
   o1 27 (.ld 7 7 2 false),
   oM 28 2,
   oC 29 9 [26, 27, 28],
   o1 30 (.eqb false (.t 25) (.t 29)),
   oM 31 30,
   oG 32 (.ld 3 3 2 false) 31 true,
   oG 33 (.ld 7 7 2 false) 31 true,
   oG 34 (.ld 8 8 2 false) 31 true,
   oG 35 (.mov (.t 2)) 31 true,
   oG 36 (.call 10 [.t 32, .t 33, .t 34, .t 35]) 31 true,
   oG 37 (.ld 3 3 2 false) 31 true,
   oG 38 (.ld 7 7 2 false) 31 true,
   oG 39 (.ld 8 8 2 false) 31 true,
   oG 40 (.mov (.t 2)) 31 true,
   oG 41 (.call 11 [.t 37, .t 38, .t 39, .t 40]) 31 true,
   oG 42 (.eqb false (.t 36) (.t 41)) 31 true,
   o1 43 (.pick (.t 31) (.t 42) (.c (.bool false))),
   oM 9 43])
  (.seq (.region true [oM 44 9,
   oM 45 44,
   oG 46 (.ld 3 3 2 false) 45 true,
   oG 47 (.ld 7 7 2 false) 45 true,
   oG 48 (.call 12 [.t 46, .t 47]) 45 true,
   oG 49 (.ld 3 3 2 false) 45 true,
   oG 50 (.ld 7 7 2 false) 45 true,
   oG 51 (.call 13 [.t 49, .t 50]) 45 true,
   oG 52 (.eqv false 2 (.t 48) (.t 51)) 45 true,
   o1 53 (.pick (.t 45) (.t 52) (.c (.bool false))),
   oM 54 53,
   oG 55 (.ld 3 3 2 false) 54 true,
   oG 56 (.ld 7 7 2 false) 54 true,
   oG 57 (.ld 8 8 2 false) 54 true,
   oG 58 (.call 14 [.t 55, .t 56, .t 57]) 54 true,
   oG 59 (.ld 3 3 2 false) 54 true,
   oG 60 (.ld 7 7 2 false) 54 true,
   oG 61 (.ld 8 8 2 false) 54 true,
   oG 62 (.call 15 [.t 59, .t 60, .t 61]) 54 true,
   oG 63 (.eqv false 2 (.t 58) (.t 62)) 54 true,
   o1 64 (.pick (.t 54) (.t 63) (.c (.bool false))),
   oM 6 64])
  (.ret))))))⟩
def Tryz.r3 : List (Nat × Nat) := []
theorem Tryz.i3_ok : fnOk Tryz.prog Tryz.r3 Tryz.f3 Tryz.i3 = true := by kernel_rfl

/- pinball/pinballlaw11.WallSamples -/
def Tryz.i4 : IFunc := ⟨3, 126, [.tmp 6],
  .seq (.region false [o1 3 (.box (.t 0) [45, 73, 87]),
   o1 6 (.mov (.c (.bool false)))])
  (.seq (.seq (.region false [oC 12 7 [],
   o1 13 (.un .not (.t 12))])
  (.cond (.t 13) (.seq (.region false [o1 6 (.mov (.c (.bool false)))])
  (.ret))
  (.skip)))
  (.seq (.seq (.region false [oM 14 1,
   o1 15 (.len (.t 14)),
   o1 16 (.bin .lss (.t 15) (.c (.int .i64 2))),
   oM 17 16,
   oG 18 (.ld 3 3 6 false) 17 false,
   oG 19 (.call 16 [.t 18]) 17 false,
   oG 20 (.un .not (.t 19)) 17 false,
   o1 21 (.pick (.t 17) (.c (.bool true)) (.t 20)),
   oM 22 21,
   oG 23 (.mov (.t 2)) 22 false,
   oG 24 (.bin .lss (.t 23) (.c (.int .i64 1))) 22 false,
   o1 25 (.pick (.t 22) (.c (.bool true)) (.t 24)),
   oM 26 25,
   oG 27 (.mov (.t 2)) 26 false,
   oG 28 (.bin .gtr (.t 27) (.c (.int .i64 524288))) 26 false,
   o1 29 (.pick (.t 26) (.c (.bool true)) (.t 28)),
   oM 30 29,
   oG 31 (.mov (.t 1)) 30 false,
   oG 32 (.ixa 31 (.c (.int .i64 0)) 2) 30 false,
   oG 33 (.ld 32 32 2 false) 30 false,
   oG 34 (.call 17 [.t 33]) 30 false,
   oG 35 (.un .not (.t 34)) 30 false,
   o1 36 (.pick (.t 30) (.c (.bool true)) (.t 35)),
   oM 37 36,
   oG 38 (.mov (.t 1)) 37 false,
   oG 39 (.ixa 38 (.c (.int .i64 1)) 2) 37 false,
   oG 40 (.ld 39 39 2 false) 37 false,
   oG 41 (.call 17 [.t 40]) 37 false,
   oG 42 (.un .not (.t 41)) 37 false,
   o1 43 (.pick (.t 37) (.c (.bool true)) (.t 42)),
   oM 44 43,
   oG 45 (.adr 3 3 0) 44 false,
   oG 46 (.ld 45 3 2 false) 44 false,
   oG 47 (.call 17 [.t 46]) 44 false,
   oG 48 (.un .not (.t 47)) 44 false,
   o1 49 (.pick (.t 44) (.c (.bool true)) (.t 48))])
  (.cond (.t 49) (.seq (.region false [oC 50 7 [],
   oM 6 50])
  (.ret))
  (.skip)))
  (.seq (.region false [o1 52 (.ld 3 3 6 false),
   oC 53 18 [52],
   oM 51 53,
   o1 54 (.ext (.t 51) 0),
   o1 55 (.ext (.t 51) 1),
   o1 7 (.new [.int .i64 0, .int .i64 0] []),
   o1 8 (.new [.int .i64 0, .int .i64 0] []),
   oN (.st 7 7 2 (.t 54)),
   oN (.st 8 8 2 (.t 55))])
  (.seq (.region true [o1 56 (.ld 3 3 6 false),
   oM 57 1,
   o1 58 (.ixa 57 (.c (.int .i64 0)) 2),
   o1 59 (.ld 58 58 2 false),
   oM 60 1,
   o1 61 (.ixa 60 (.c (.int .i64 1)) 2),
   o1 62 (.ld 61 61 2 false),
   oM 63 2,
   oC 64 19 [56, 59, 62, 63],
   o1 65 (.ld 3 3 6 false),
   oM 66 1,
   o1 67 (.ixa 66 (.c (.int .i64 1)) 2),
   o1 68 (.ld 67 67 2 false),
   oM 69 2,
   oC 70 20 [65, 68, 69],
   oM 9 64,
   oM 10 70])
  (.seq (.region true [oM 71 9,
   o1 72 (.call 21 [.t 71, .c (.int .i64 0)]),
   o1 73 (.adr 3 3 0),
   o1 74 (.ld 73 3 2 false),
   oM 75 1,
   o1 76 (.ixa 75 (.c (.int .i64 0)) 2),
   o1 77 (.ld 76 76 2 false),
   oM 78 1,
   o1 79 (.ixa 78 (.c (.int .i64 1)) 2),
   o1 80 (.ld 79 79 2 false),
   oM 81 2,
   oC 82 10 [74, 77, 80, 81],
   o1 83 (.eqb false (.t 72) (.t 82)),
   oM 84 83,
   oG 85 (.mov (.t 10)) 84 true,
   oG 86 (.call 21 [.t 85, .c (.int .i64 0)]) 84 true,
   oG 87 (.adr 3 3 0) 84 true,
   oG 88 (.ld 87 3 2 false) 84 true,
   oG 89 (.mov (.t 1)) 84 true,
   oG 90 (.ixa 89 (.c (.int .i64 1)) 2) 84 true,
   oG 91 (.ld 90 90 2 false) 84 true,
   oG 92 (.mov (.t 2)) 84 true,
   oG 93 (.call 8 [.t 88, .t 91, .t 92]) 84 true,
   oG 94 (.eqb false (.t 86) (.t 93)) 84 true,
   o1 95 (.pick (.t 84) (.t 94) (.c (.bool false))),
   oM 11 95])
  (.seq (.seq (.region false [o1 96 (.ld 7 7 2 false),
   oC 97 17 [96],
   o1 98 (.un .not (.t 97))])
  (.cond (.t 98) (.seq (.region false [oM 99 11,
   oM 6 99])
  (.ret))
  (.skip)))
  (.seq (.region true [oM 100 11,
   oM 101 100,
   oG 102 (.mov (.t 9)) 101 true,
   oG 103 (.call 21 [.t 102, .c (.int .i64 16)]) 101 true,
   oG 104 (.ld 7 7 2 false) 101 true,
   oG 105 (.mov (.t 1)) 101 true,
   oG 106 (.ixa 105 (.c (.int .i64 0)) 2) 101 true,
   oG 107 (.ld 106 106 2 false) 101 true,
   oG 108 (.mov (.t 1)) 101 true,
   oG 109 (.ixa 108 (.c (.int .i64 1)) 2) 101 true,
   oG 110 (.ld 109 109 2 false) 101 true,
   oG 111 (.mov (.t 2)) 101 true,
   oG 112 (.call 10 [.t 104, .t 107, .t 110, .t 111]) 101 true,
   oG 113 (.eqb false (.t 103) (.t 112)) 101 true,
   o1 114 (.pick (.t 101) (.t 113) (.c (.bool false))),
   oM 115 114,
   oG 116 (.mov (.t 10)) 115 true,
   oG 117 (.call 21 [.t 116, .c (.int .i64 16)]) 115 true,
   oG 118 (.ld 7 7 2 false) 115 true,
   oG 119 (.mov (.t 1)) 115 true,
   oG 120 (.ixa 119 (.c (.int .i64 1)) 2) 115 true,
   oG 121 (.ld 120 120 2 false) 115 true,
   oG 122 (.mov (.t 2)) 115 true,
   oG 123 (.call 8 [.t 118, .t 121, .t 122]) 115 true,
   oG 124 (.eqb false (.t 117) (.t 123)) 115 true,
   o1 125 (.pick (.t 115) (.t 124) (.c (.bool false))),
   oM 6 125])
  (.ret))))))))⟩
def Tryz.r4 : List (Nat × Nat) := [(45, 3), (73, 3), (87, 3)]
theorem Tryz.i4_ok : fnOk Tryz.prog Tryz.r4 Tryz.f4 Tryz.i4 = true := by kernel_rfl

/- pinball/pinballlaw11.WallNormals -/
def Tryz.i5 : IFunc := ⟨3, 128, [.tmp 6],
  .seq (.region false [o1 3 (.box (.t 0) [51, 54, 95, 100]),
   o1 6 (.mov (.c (.bool false)))])
  (.seq (.seq (.region false [oC 12 7 [],
   o1 13 (.un .not (.t 12))])
  (.cond (.t 13) (.seq (.region false [o1 6 (.mov (.c (.bool false)))])
  (.ret))
  (.skip)))
  (.seq (.seq (.region false [oM 14 1,
   o1 15 (.len (.t 14)),
   o1 16 (.bin .lss (.t 15) (.c (.int .i64 2))),
   oM 17 16,
   oG 18 (.ld 3 3 2 false) 17 false,
   oG 19 (.call 22 [.t 18]) 17 false,
   oG 20 (.un .not (.t 19)) 17 false,
   o1 21 (.pick (.t 17) (.c (.bool true)) (.t 20)),
   oM 22 21,
   oG 23 (.mov (.t 1)) 22 false,
   oG 24 (.ixa 23 (.c (.int .i64 0)) 2) 22 false,
   oG 25 (.ld 24 24 2 false) 22 false,
   oG 26 (.call 22 [.t 25]) 22 false,
   oG 27 (.un .not (.t 26)) 22 false,
   o1 28 (.pick (.t 22) (.c (.bool true)) (.t 27)),
   oM 29 28,
   oG 30 (.mov (.t 1)) 29 false,
   oG 31 (.ixa 30 (.c (.int .i64 1)) 2) 29 false,
   oG 32 (.ld 31 31 2 false) 29 false,
   oG 33 (.call 22 [.t 32]) 29 false,
   oG 34 (.un .not (.t 33)) 29 false,
   o1 35 (.pick (.t 29) (.c (.bool true)) (.t 34)),
   oM 36 35,
   oG 37 (.mov (.t 2)) 36 false,
   oG 38 (.bin .lss (.t 37) (.c (.int .i64 1))) 36 false,
   o1 39 (.pick (.t 36) (.c (.bool true)) (.t 38)),
   oM 40 39,
   oG 41 (.mov (.t 2)) 40 false,
   oG 42 (.bin .gtr (.t 41) (.c (.int .i64 4096))) 40 false,
   o1 43 (.pick (.t 40) (.c (.bool true)) (.t 42))])
  (.cond (.t 43) (.seq (.region false [oC 44 7 [],
   oM 6 44])
  (.ret))
  (.skip)))
  (.seq (.region true [oM 45 1,
   o1 46 (.ixa 45 (.c (.int .i64 0)) 2),
   o1 47 (.ld 46 46 2 false),
   oM 48 1,
   o1 49 (.ixa 48 (.c (.int .i64 1)) 2),
   o1 50 (.ld 49 49 2 false),
   o1 7 (.new [.int .i64 0, .int .i64 0] []),
   o1 8 (.new [.int .i64 0, .int .i64 0] []),
   oN (.st 7 7 2 (.t 47)),
   oN (.st 8 8 2 (.t 50))])
  (.seq (.region false [o1 51 (.adr 3 3 0),
   o1 52 (.ld 51 3 1 true),
   o1 53 (.bin .mul (.c (.int .i64 256)) (.t 52)),
   o1 54 (.adr 3 3 1),
   o1 55 (.ld 54 3 1 true),
   o1 56 (.bin .mul (.c (.int .i64 256)) (.t 55)),
   o1 57 (.bld [.int .i64 0, .int .i64 0] [(0, 1, .t 53), (1, 1, .t 56)]),
   o1 9 (.new [.int .i64 0, .int .i64 0] []),
   oN (.st 9 9 2 (.t 57))])
  (.seq (.region false [o1 58 (.ld 9 9 2 false),
   o1 59 (.ld 7 7 2 false),
   o1 60 (.ld 8 8 2 false),
   oC 61 14 [58, 59, 60],
   o1 10 (.new [.int .i64 0, .int .i64 0] [97, 102]),
   oN (.st 10 10 2 (.t 61))])
  (.seq (.seq (.region true [o1 62 (.ld 9 9 2 false),
   o1 63 (.ld 8 8 2 false),
   o1 64 (.ld 7 7 2 false),
   oC 65 14 [62, 63, 64],
   o1 66 (.ld 10 10 2 false),
   o1 67 (.eqv true 2 (.t 65) (.t 66)),
   oM 68 67,
   oG 69 (.ld 9 9 2 false) 68 false,
   oG 70 (.call 23 [.t 69]) 68 false,
   oG 71 (.ld 7 7 2 false) 68 false,
   oG 72 (.call 23 [.t 71]) 68 false,
   oG 73 (.ld 8 8 2 false) 68 false,
   oG 74 (.call 23 [.t 73]) 68 false,
   oG 75 (.call 14 [.t 70, .t 72, .t 74]) 68 false,
   oG 76 (.ld 10 10 2 false) 68 false,
   oG 77 (.call 23 [.t 76]) 68 false,
   oG 78 (.eqv true 2 (.t 75) (.t 77)) 68 false,
   o1 79 (.pick (.t 68) (.c (.bool true)) (.t 78)),
   oM 80 79,
   oG 81 (.ld 9 9 2 false) 80 false,
   oG 82 (.ld 7 7 2 false) 80 false,
   oG 83 (.call 12 [.t 81, .t 82]) 80 false,
   oG 84 (.ld 9 9 2 false) 80 false,
   oG 85 (.ld 7 7 2 false) 80 false,
   oG 86 (.ld 7 7 2 false) 80 false,
   oG 87 (.call 14 [.t 84, .t 85, .t 86]) 80 false,
   oG 88 (.eqv true 2 (.t 83) (.t 87)) 80 false,
   o1 89 (.pick (.t 80) (.c (.bool true)) (.t 88))])
  (.cond (.t 89) (.seq (.region false [o1 6 (.mov (.c (.bool false)))])
  (.ret))
  (.skip)))
  (.seq (.seq (.region false [o1 90 (.ld 3 3 2 false),
   o1 91 (.ld 7 7 2 false),
   o1 92 (.ld 8 8 2 false),
   oM 93 2,
   oC 94 10 [90, 91, 92, 93]])
  (.cond (.t 94) (.seq (.region false [o1 6 (.mov (.c (.bool true)))])
  (.ret))
  (.skip)))
  (.seq (.region false [o1 95 (.adr 3 3 0),
   o1 96 (.ld 95 3 1 true),
   o1 97 (.adr 10 10 0),
   o1 98 (.ld 97 10 1 true),
   oB 99 .add 96 98,
   o1 100 (.adr 3 3 1),
   o1 101 (.ld 100 3 1 true),
   o1 102 (.adr 10 10 1),
   o1 103 (.ld 102 10 1 true),
   oB 104 .add 101 103,
   o1 105 (.bld [.int .i64 0, .int .i64 0] [(0, 1, .t 99), (1, 1, .t 104)]),
   o1 11 (.new [.int .i64 0, .int .i64 0] []),
   oN (.st 11 11 2 (.t 105))])
  (.seq (.region false [o1 106 (.ld 10 10 2 false),
   o1 107 (.bld [.int .i64 0, .int .i64 0] []),
   o1 108 (.eqv true 2 (.t 106) (.t 107)),
   oM 109 108,
   oG 110 (.ld 10 10 2 false) 109 true,
   oG 111 (.ld 10 10 2 false) 109 true,
   oG 112 (.call 24 [.t 110, .t 111]) 109 true,
   oG 113 (.bin .gtr (.t 112) (.c (.int .i64 0))) 109 true,
   o1 114 (.pick (.t 109) (.t 113) (.c (.bool false))),
   oM 115 114,
   oG 116 (.ld 11 11 2 false) 115 true,
   oG 117 (.call 17 [.t 116]) 115 true,
   oG 118 (.un .not (.t 117)) 115 true,
   oG 119 (.mov (.t 118)) 115 true,
   oG 120 (.ld 11 11 2 false) 119 false,
   oG 121 (.ld 7 7 2 false) 119 false,
   oG 122 (.ld 8 8 2 false) 119 false,
   oG 123 (.mov (.t 2)) 119 false,
   oG 124 (.call 10 [.t 120, .t 121, .t 122, .t 123]) 119 false,
   oG 125 (.un .not (.t 124)) 119 false,
   oG 126 (.pick (.t 119) (.c (.bool true)) (.t 125)) 115 true,
   o1 127 (.pick (.t 115) (.t 126) (.c (.bool false))),
   oM 6 127])
  (.ret))))))))))⟩
def Tryz.r5 : List (Nat × Nat) := [(51, 3), (54, 3), (95, 3), (97, 10), (100, 3), (102, 10)]
theorem Tryz.i5_ok : fnOk Tryz.prog Tryz.r5 Tryz.f5 Tryz.i5 = true := by kernel_rfl

/- pinball/pinballlaw11.WallSets -/
def Tryz.i6 : IFunc := ⟨3, 135, [.tmp 6],
  .seq (.region false [o1 3 (.box (.t 0) []),
   o1 6 (.mov (.c (.bool false)))])
  (.seq (.seq (.region false [oC 12 7 [],
   o1 13 (.un .not (.t 12))])
  (.cond (.t 13) (.seq (.region false [o1 6 (.mov (.c (.bool false)))])
  (.ret))
  (.skip)))
  (.seq (.seq (.region false [oM 14 1,
   o1 15 (.len (.t 14)),
   o1 16 (.bin .lss (.t 15) (.c (.int .i64 2))),
   oM 17 16,
   oG 18 (.ld 3 3 2 false) 17 false,
   oG 19 (.call 17 [.t 18]) 17 false,
   oG 20 (.un .not (.t 19)) 17 false,
   o1 21 (.pick (.t 17) (.c (.bool true)) (.t 20)),
   oM 22 21,
   oG 23 (.mov (.t 1)) 22 false,
   oG 24 (.ixa 23 (.c (.int .i64 0)) 2) 22 false,
   oG 25 (.ld 24 24 2 false) 22 false,
   oG 26 (.call 17 [.t 25]) 22 false,
   oG 27 (.un .not (.t 26)) 22 false,
   o1 28 (.pick (.t 22) (.c (.bool true)) (.t 27)),
   oM 29 28,
   oG 30 (.mov (.t 1)) 29 false,
   oG 31 (.ixa 30 (.c (.int .i64 1)) 2) 29 false,
   oG 32 (.ld 31 31 2 false) 29 false,
   oG 33 (.call 17 [.t 32]) 29 false,
   oG 34 (.un .not (.t 33)) 29 false,
   o1 35 (.pick (.t 29) (.c (.bool true)) (.t 34)),
   oM 36 35,
   oG 37 (.mov (.t 2)) 36 false,
   oG 38 (.bin .lss (.t 37) (.c (.int .i64 2))) 36 false,
   o1 39 (.pick (.t 36) (.c (.bool true)) (.t 38)),
   oM 40 39,
   oG 41 (.mov (.t 2)) 40 false,
   oG 42 (.bin .gtr (.t 41) (.c (.int .i64 524288))) 40 false,
   o1 43 (.pick (.t 40) (.c (.bool true)) (.t 42))])
  (.cond (.t 43) (.seq (.region false [oC 44 7 [],
   oM 6 44])
  (.ret))
  (.skip)))
  (.seq (.region true [oM 45 1,
   o1 46 (.ixa 45 (.c (.int .i64 0)) 2),
   o1 47 (.ld 46 46 2 false),
   oM 48 1,
   o1 49 (.ixa 48 (.c (.int .i64 1)) 2),
   o1 50 (.ld 49 49 2 false),
   o1 7 (.new [.int .i64 0, .int .i64 0] [56, 62, 69, 77]),
   o1 8 (.new [.int .i64 0, .int .i64 0] [58, 64, 71, 79]),
   oN (.st 7 7 2 (.t 47)),
   oN (.st 8 8 2 (.t 50))])
  (.seq (.region false [o1 51 (.ld 3 3 2 false),
   o1 52 (.ld 7 7 2 false),
   o1 53 (.ld 8 8 2 false),
   oM 54 2,
   oC 55 10 [51, 52, 53, 54],
   oM 9 55])
  (.seq (.region false [o1 56 (.adr 7 7 0),
   o1 57 (.ld 56 7 1 true),
   o1 58 (.adr 8 8 0),
   o1 59 (.ld 58 8 1 true),
   oB 60 .add 57 59,
   o1 61 (.bin .quo (.t 60) (.c (.int .i64 2))),
   o1 62 (.adr 7 7 1),
   o1 63 (.ld 62 7 1 true),
   o1 64 (.adr 8 8 1),
   o1 65 (.ld 64 8 1 true),
   oB 66 .add 63 65,
   o1 67 (.bin .quo (.t 66) (.c (.int .i64 2))),
   o1 68 (.bld [.int .i64 0, .int .i64 0] [(0, 1, .t 61), (1, 1, .t 67)]),
   o1 10 (.new [.int .i64 0, .int .i64 0] []),
   oN (.st 10 10 2 (.t 68))])
  (.seq (.region false [o1 69 (.adr 7 7 0),
   o1 70 (.ld 69 7 1 true),
   o1 71 (.adr 8 8 0),
   o1 72 (.ld 71 8 1 true),
   oB 73 .add 70 72,
   o1 74 (.bin .rem (.t 73) (.c (.int .i64 2))),
   o1 75 (.bin .eql (.t 74) (.c (.int .i64 0))),
   oM 76 75,
   oG 77 (.adr 7 7 1) 76 true,
   oG 78 (.ld 77 7 1 true) 76 true,
   oG 79 (.adr 8 8 1) 76 true,
   oG 80 (.ld 79 8 1 true) 76 true,
   oG 81 (.bin .add (.t 78) (.t 80)) 76 true,
   oG 82 (.bin .rem (.t 81) (.c (.int .i64 2))) 76 true,
   oG 83 (.bin .eql (.t 82) (.c (.int .i64 0))) 76 true,
   o1 84 (.pick (.t 76) (.t 83) (.c (.bool false))),
   oM 11 84])
  (.seq (.seq (.region false [o1 85 (.ld 3 3 2 false),
   o1 86 (.ld 7 7 2 false),
   oM 87 2,
   oC 88 8 [85, 86, 87],
   oM 89 88,
   oG 90 (.ld 3 3 2 false) 89 false,
   oG 91 (.ld 8 8 2 false) 89 false,
   oG 92 (.mov (.t 2)) 89 false,
   oG 93 (.call 8 [.t 90, .t 91, .t 92]) 89 false,
   o1 94 (.pick (.t 89) (.c (.bool true)) (.t 93)),
   oM 95 94,
   oG 96 (.mov (.t 11)) 95 false,
   oG 97 (.mov (.t 96)) 95 false,
   oG 98 (.ld 3 3 2 false) 97 true,
   oG 99 (.ld 10 10 2 false) 97 true,
   oG 100 (.mov (.t 2)) 97 true,
   oG 101 (.call 8 [.t 98, .t 99, .t 100]) 97 true,
   oG 102 (.pick (.t 97) (.t 101) (.c (.bool false))) 95 false,
   o1 103 (.pick (.t 95) (.c (.bool true)) (.t 102)),
   oM 104 103,
   oG 105 (.ld 3 3 2 false) 104 false,
   oG 106 (.ld 7 7 2 false) 104 false,
   oG 107 (.ld 8 8 2 false) 104 false,
   oG 108 (.mov (.t 2)) 104 false,
   oG 109 (.bin .sub (.t 108) (.c (.int .i64 1))) 104 false,
   oG 110 (.call 10 [.t 105, .t 106, .t 107, .t 109]) 104 false,
   o1 111 (.pick (.t 104) (.c (.bool true)) (.t 110)),
   oM 112 111,
   oG 113 (.mov (.t 9)) 112 true,
   oG 114 (.un .not (.t 113)) 112 true,
   o1 115 (.pick (.t 112) (.t 114) (.c (.bool false)))])
  (.cond (.t 115) (.seq (.region false [o1 6 (.mov (.c (.bool false)))])
  (.ret))
  (.skip)))
  (.seq (.region true [oM 116 9,
   o1 117 (.ld 3 3 2 false),
   o1 118 (.ld 8 8 2 false),
   o1 119 (.ld 7 7 2 false),
   oM 120 2,
   oC 121 10 [117, 118, 119, 120],
   o1 122 (.eqb false (.t 116) (.t 121)),
   oM 123 122,
   oG 124 (.ld 3 3 2 false) 123 true,
   oG 125 (.ld 7 7 2 false) 123 true,
   oG 126 (.ld 7 7 2 false) 123 true,
   oG 127 (.mov (.t 2)) 123 true,
   oG 128 (.call 10 [.t 124, .t 125, .t 126, .t 127]) 123 true,
   oG 129 (.ld 3 3 2 false) 123 true,
   oG 130 (.ld 7 7 2 false) 123 true,
   oG 131 (.mov (.t 2)) 123 true,
   oG 132 (.call 8 [.t 129, .t 130, .t 131]) 123 true,
   oG 133 (.eqb false (.t 128) (.t 132)) 123 true,
   o1 134 (.pick (.t 123) (.t 133) (.c (.bool false))),
   oM 6 134])
  (.ret)))))))))⟩
def Tryz.r6 : List (Nat × Nat) := [(56, 7), (58, 8), (62, 7), (64, 8), (69, 7), (71, 8), (77, 7), (79, 8)]
theorem Tryz.i6_ok : fnOk Tryz.prog Tryz.r6 Tryz.f6 Tryz.i6 = true := by kernel_rfl

/- pinball/pinballlaw11.awake -/
def Tryz.i7 : IFunc := ⟨0, 58, [.tmp 0],
  .seq (.region false [o1 0 (.mov (.c (.bool false)))])
  (.seq (.region false [o1 6 (.bld [.int .i64 0, .int .i64 0] []),
   o1 7 (.bld [.int .i64 0, .int .i64 0] [(0, 1, .c (.int .i64 100))]),
   o1 1 (.new [.int .i64 0, .int .i64 0] []),
   o1 2 (.new [.int .i64 0, .int .i64 0] []),
   oN (.st 1 1 2 (.t 6)),
   oN (.st 2 2 2 (.t 7))])
  (.seq (.region false [o1 8 (.bld [.int .i64 0, .int .i64 0] [(0, 1, .c (.int .i64 50)), (1, 1, .c (.int .i64 150))]),
   o1 9 (.bld [.int .i64 0, .int .i64 0] [(1, 1, .c (.int .i64 (-100)))]),
   o1 10 (.bld [.int .i64 0, .int .i64 0, .int .i64 0, .int .i64 0, .int .i64 0, .int .i64 0] [(0, 2, .t 8), (2, 2, .t 9)]),
   o1 3 (.new [.int .i64 0, .int .i64 0, .int .i64 0, .int .i64 0, .int .i64 0, .int .i64 0] []),
   oN (.st 3 3 6 (.t 10))])
  (.seq (.region false [o1 12 (.ld 3 3 6 false),
   o1 13 (.ld 1 1 2 false),
   o1 14 (.ld 2 2 2 false),
   o1 15 (.call 19 [.t 12, .t 13, .t 14, .c (.int .i64 100)]),
   oC 16 25 [15],
   oM 11 16,
   o1 17 (.ext (.t 11) 0),
   o1 18 (.ext (.t 11) 1),
   o1 4 (.new [.sl 0 [], .bool false, .sl 0 [], .int .i64 0, .bool false, .sl 0 [], .int .i64 0] []),
   oN (.st 4 4 7 (.t 17)),
   oM 5 18])
  (.seq (.region false [o1 19 (.bld [.int .i64 0, .int .i64 0] [(0, 1, .c (.int .i64 50)), (1, 1, .c (.int .i64 9))]),
   o1 20 (.ld 1 1 2 false),
   o1 21 (.ld 2 2 2 false),
   o1 22 (.call 10 [.t 19, .t 20, .t 21, .c (.int .i64 10)]),
   oM 23 22,
   oG 24 (.bld [.int .i64 0, .int .i64 0] [(0, 1, .c (.int .i64 50)), (1, 1, .c (.int .i64 10))]) 23 true,
   oG 25 (.ld 1 1 2 false) 23 true,
   oG 26 (.ld 2 2 2 false) 23 true,
   oG 27 (.call 10 [.t 24, .t 25, .t 26, .c (.int .i64 10)]) 23 true,
   oG 28 (.un .not (.t 27)) 23 true,
   o1 29 (.pick (.t 23) (.t 28) (.c (.bool false))),
   oM 30 29,
   oG 31 (.bld [.int .i64 0, .int .i64 0] [(0, 1, .c (.int .i64 (-6))), (1, 1, .c (.int .i64 8))]) 30 true,
   oG 32 (.ld 1 1 2 false) 30 true,
   oG 33 (.ld 2 2 2 false) 30 true,
   oG 34 (.call 10 [.t 31, .t 32, .t 33, .c (.int .i64 10)]) 30 true,
   oG 35 (.un .not (.t 34)) 30 true,
   o1 36 (.pick (.t 30) (.t 35) (.c (.bool false))),
   oM 37 36,
   oG 38 (.bld [.int .i64 0, .int .i64 0] [(0, 1, .c (.int .i64 12800)), (1, 1, .c (.int .i64 2560))]) 37 true,
   oG 39 (.ld 1 1 2 false) 37 true,
   oG 40 (.ld 2 2 2 false) 37 true,
   oG 41 (.call 14 [.t 38, .t 39, .t 40]) 37 true,
   oG 42 (.bld [.int .i64 0, .int .i64 0] [(1, 1, .c (.int .i64 1))]) 37 true,
   oG 43 (.eqv false 2 (.t 41) (.t 42)) 37 true,
   o1 44 (.pick (.t 37) (.t 43) (.c (.bool false))),
   oM 45 44,
   oG 46 (.mov (.t 5)) 45 true,
   o1 47 (.pick (.t 45) (.t 46) (.c (.bool false))),
   oM 48 47,
   oG 49 (.ld 4 4 7 false) 48 true,
   oG 50 (.call 26 [.t 49]) 48 true,
   oG 51 (.bin .eql (.t 50) (.c (.int .i64 8))) 48 true,
   o1 52 (.pick (.t 48) (.t 51) (.c (.bool false))),
   oM 53 52,
   oG 54 (.bld [.int .i64 0, .int .i64 0] [(0, 1, .c (.int .i64 3)), (1, 1, .c (.int .i64 4))]) 53 true,
   oG 55 (.ld 1 1 2 false) 53 true,
   oG 56 (.call 8 [.t 54, .t 55, .c (.int .i64 6)]) 53 true,
   o1 57 (.pick (.t 53) (.t 56) (.c (.bool false))),
   oM 0 57])
  (.ret)))))⟩
def Tryz.r7 : List (Nat × Nat) := []
theorem Tryz.i7_ok : fnOk Tryz.prog Tryz.r7 Tryz.f7 Tryz.i7 = true := by kernel_rfl

/- pinball/wall.InDisc -/
def Tryz.i8 : IFunc := ⟨3, 36, [.tmp 6],
  .seq (.region false [o1 3 (.box (.t 0) []),
   o1 4 (.box (.t 1) []),
   o1 6 (.mov (.c (.bool false)))])
  (.seq (.seq (.region false [o1 8 (.ld 3 3 2 false),
   o1 9 (.bls 1 [.int .i64 0, .int .i64 0] [(0, 2, .t 8)]),
   o1 10 (.call 27 [.c (.int .i64 2097152), .t 9]),
   o1 11 (.un .not (.t 10)),
   oM 12 11,
   oG 13 (.ld 4 4 2 false) 12 false,
   oG 14 (.bls 1 [.int .i64 0, .int .i64 0] [(0, 2, .t 13)]) 12 false,
   oG 15 (.call 27 [.c (.int .i64 1048576), .t 14]) 12 false,
   oG 16 (.un .not (.t 15)) 12 false,
   o1 17 (.pick (.t 12) (.c (.bool true)) (.t 16)),
   oM 18 17,
   oG 19 (.mov (.t 2)) 18 false,
   oG 20 (.bin .lss (.t 19) (.c (.int .i64 1))) 18 false,
   o1 21 (.pick (.t 18) (.c (.bool true)) (.t 20)),
   oM 22 21,
   oG 23 (.mov (.t 2)) 22 false,
   oG 24 (.bin .gtr (.t 23) (.c (.int .i64 524288))) 22 false,
   o1 25 (.pick (.t 22) (.c (.bool true)) (.t 24))])
  (.cond (.t 25) (.seq (.region false [o1 6 (.mov (.c (.bool false)))])
  (.ret))
  (.skip)))
  (.seq (.region false [o1 26 (.ld 3 3 2 false),
   o1 27 (.ld 4 4 2 false),
   oC 28 28 [26, 27],
   o1 7 (.new [.int .i64 0, .int .i64 0] []),
   oN (.st 7 7 2 (.t 28))])
  (.seq (.region false [o1 29 (.ld 7 7 2 false),
   o1 30 (.ld 7 7 2 false),
   oC 31 24 [29, 30],
   oM 32 2,
   oM 33 2,
   oB 34 .mul 32 33,
   oB 35 .lss 31 34,
   oM 6 35])
  (.ret))))⟩
def Tryz.r8 : List (Nat × Nat) := []
theorem Tryz.i8_ok : fnOk Tryz.prog Tryz.r8 Tryz.f8 Tryz.i8 = true := by kernel_rfl

/- pinball/pinballref11.InDisc -/
def Tryz.i9 : IFunc := ⟨3, 34, [.tmp 6],
  .seq (.region false [o1 3 (.box (.t 0) []),
   o1 4 (.box (.t 1) []),
   o1 6 (.mov (.c (.bool false)))])
  (.seq (.seq (.region false [o1 8 (.ld 3 3 2 false),
   o1 9 (.call 29 [.t 8, .c (.int .i64 2097152)]),
   o1 10 (.un .not (.t 9)),
   oM 11 10,
   oG 12 (.ld 4 4 2 false) 11 false,
   oG 13 (.call 29 [.t 12, .c (.int .i64 1048576)]) 11 false,
   oG 14 (.un .not (.t 13)) 11 false,
   o1 15 (.pick (.t 11) (.c (.bool true)) (.t 14)),
   oM 16 15,
   oG 17 (.mov (.t 2)) 16 false,
   oG 18 (.bin .lss (.t 17) (.c (.int .i64 1))) 16 false,
   o1 19 (.pick (.t 16) (.c (.bool true)) (.t 18)),
   oM 20 19,
   oG 21 (.mov (.t 2)) 20 false,
   oG 22 (.bin .gtr (.t 21) (.c (.int .i64 524288))) 20 false,
   o1 23 (.pick (.t 20) (.c (.bool true)) (.t 22))])
  (.cond (.t 23) (.seq (.region false [o1 6 (.mov (.c (.bool false)))])
  (.ret))
  (.skip)))
  (.seq (.region false [o1 24 (.ld 3 3 2 false),
   o1 25 (.ld 4 4 2 false),
   oC 26 30 [24, 25],
   o1 7 (.new [.int .i64 0, .int .i64 0] []),
   oN (.st 7 7 2 (.t 26))])
  (.seq (.region false [o1 27 (.ld 7 7 2 false),
   o1 28 (.ld 7 7 2 false),
   oC 29 31 [27, 28],
   oM 30 2,
   oM 31 2,
   oB 32 .mul 30 31,
   oB 33 .lss 29 32,
   oM 6 33])
  (.ret))))⟩
def Tryz.r9 : List (Nat × Nat) := []
theorem Tryz.i9_ok : fnOk Tryz.prog Tryz.r9 Tryz.f9 Tryz.i9 = true := by kernel_rfl

/- pinball/wall.InCapsule -/
def Tryz.i10 : IFunc := ⟨4, 72, [.tmp 8],
  .seq (.region false [o1 4 (.box (.t 0) []),
   o1 5 (.box (.t 1) []),
   o1 6 (.box (.t 2) []),
   o1 8 (.mov (.c (.bool false)))])
  (.seq (.seq (.region false [o1 13 (.ld 4 4 2 false),
   o1 14 (.bls 1 [.int .i64 0, .int .i64 0] [(0, 2, .t 13)]),
   o1 15 (.call 27 [.c (.int .i64 2097152), .t 14]),
   o1 16 (.un .not (.t 15)),
   oM 17 16,
   oG 18 (.ld 5 5 2 false) 17 false,
   oG 19 (.ld 6 6 2 false) 17 false,
   oG 20 (.bls 2 [.int .i64 0, .int .i64 0, .int .i64 0, .int .i64 0] [(0, 2, .t 18), (2, 2, .t 19)]) 17 false,
   oG 21 (.call 27 [.c (.int .i64 1048576), .t 20]) 17 false,
   oG 22 (.un .not (.t 21)) 17 false,
   o1 23 (.pick (.t 17) (.c (.bool true)) (.t 22)),
   oM 24 23,
   oG 25 (.mov (.t 3)) 24 false,
   oG 26 (.bin .lss (.t 25) (.c (.int .i64 1))) 24 false,
   o1 27 (.pick (.t 24) (.c (.bool true)) (.t 26)),
   oM 28 27,
   oG 29 (.mov (.t 3)) 28 false,
   oG 30 (.bin .gtr (.t 29) (.c (.int .i64 524288))) 28 false,
   o1 31 (.pick (.t 28) (.c (.bool true)) (.t 30))])
  (.cond (.t 31) (.seq (.region false [o1 8 (.mov (.c (.bool false)))])
  (.ret))
  (.skip)))
  (.seq (.seq (.region false [o1 32 (.ld 4 4 2 false),
   o1 33 (.ld 5 5 2 false),
   oM 34 3,
   oC 35 8 [32, 33, 34],
   oM 36 35,
   oG 37 (.ld 4 4 2 false) 36 false,
   oG 38 (.ld 6 6 2 false) 36 false,
   oG 39 (.mov (.t 3)) 36 false,
   oG 40 (.call 8 [.t 37, .t 38, .t 39]) 36 false,
   o1 41 (.pick (.t 36) (.c (.bool true)) (.t 40))])
  (.cond (.t 41) (.seq (.region false [o1 8 (.mov (.c (.bool true)))])
  (.ret))
  (.skip)))
  (.seq (.region true [o1 42 (.ld 6 6 2 false),
   o1 43 (.ld 5 5 2 false),
   oC 44 28 [42, 43],
   o1 45 (.ld 4 4 2 false),
   o1 46 (.ld 5 5 2 false),
   oC 47 28 [45, 46],
   o1 9 (.new [.int .i64 0, .int .i64 0] []),
   o1 10 (.new [.int .i64 0, .int .i64 0] []),
   oN (.st 9 9 2 (.t 44)),
   oN (.st 10 10 2 (.t 47))])
  (.seq (.region false [o1 48 (.ld 10 10 2 false),
   o1 49 (.ld 9 9 2 false),
   oC 50 24 [48, 49],
   oM 11 50])
  (.seq (.seq (.region false [oM 51 11,
   o1 52 (.bin .leq (.t 51) (.c (.int .i64 0))),
   oM 53 52,
   oG 54 (.mov (.t 11)) 53 false,
   oG 55 (.ld 9 9 2 false) 53 false,
   oG 56 (.ld 9 9 2 false) 53 false,
   oG 57 (.call 24 [.t 55, .t 56]) 53 false,
   oG 58 (.bin .geq (.t 54) (.t 57)) 53 false,
   o1 59 (.pick (.t 53) (.c (.bool true)) (.t 58))])
  (.cond (.t 59) (.seq (.region false [o1 8 (.mov (.c (.bool false)))])
  (.ret))
  (.skip)))
  (.seq (.region false [o1 60 (.ld 9 9 2 false),
   o1 61 (.ld 10 10 2 false),
   oC 62 32 [60, 61],
   oM 12 62])
  (.seq (.region false [oM 63 12,
   oM 64 12,
   o1 65 (.un .neg (.t 64)),
   o1 66 (.mx [.t 63, .t 65]),
   oM 67 3,
   o1 68 (.ld 9 9 2 false),
   o1 69 (.ld 9 9 2 false),
   oC 70 24 [68, 69],
   oC 71 33 [66, 67, 70],
   oM 8 71])
  (.ret))))))))⟩
def Tryz.r10 : List (Nat × Nat) := []
theorem Tryz.i10_ok : fnOk Tryz.prog Tryz.r10 Tryz.f10 Tryz.i10 = true := by kernel_rfl

/- pinball/pinballref11.InCapsule -/
def Tryz.i11 : IFunc := ⟨4, 84, [.tmp 8],
  .seq (.region false [o1 4 (.box (.t 0) []),
   o1 5 (.box (.t 1) []),
   o1 6 (.box (.t 2) []),
   o1 8 (.mov (.c (.bool false)))])
  (.seq (.seq (.region false [o1 15 (.ld 4 4 2 false),
   o1 16 (.call 29 [.t 15, .c (.int .i64 2097152)]),
   o1 17 (.un .not (.t 16)),
   oM 18 17,
   oG 19 (.ld 5 5 2 false) 18 false,
   oG 20 (.call 29 [.t 19, .c (.int .i64 1048576)]) 18 false,
   oG 21 (.un .not (.t 20)) 18 false,
   o1 22 (.pick (.t 18) (.c (.bool true)) (.t 21)),
   oM 23 22,
   oG 24 (.ld 6 6 2 false) 23 false,
   oG 25 (.call 29 [.t 24, .c (.int .i64 1048576)]) 23 false,
   oG 26 (.un .not (.t 25)) 23 false,
   o1 27 (.pick (.t 23) (.c (.bool true)) (.t 26)),
   oM 28 27,
   oG 29 (.mov (.t 3)) 28 false,
   oG 30 (.bin .lss (.t 29) (.c (.int .i64 1))) 28 false,
   o1 31 (.pick (.t 28) (.c (.bool true)) (.t 30)),
   oM 32 31,
   oG 33 (.mov (.t 3)) 32 false,
   oG 34 (.bin .gtr (.t 33) (.c (.int .i64 524288))) 32 false,
   o1 35 (.pick (.t 32) (.c (.bool true)) (.t 34))])
  (.cond (.t 35) (.seq (.region false [o1 8 (.mov (.c (.bool false)))])
  (.ret))
  (.skip)))
  (.seq (.seq (.region false [o1 36 (.ld 4 4 2 false),
   o1 37 (.ld 5 5 2 false),
   oM 38 3,
   oC 39 9 [36, 37, 38],
   oM 40 39,
   oG 41 (.ld 4 4 2 false) 40 false,
   oG 42 (.ld 6 6 2 false) 40 false,
   oG 43 (.mov (.t 3)) 40 false,
   oG 44 (.call 9 [.t 41, .t 42, .t 43]) 40 false,
   o1 45 (.pick (.t 40) (.c (.bool true)) (.t 44))])
  (.cond (.t 45) (.seq (.region false [o1 8 (.mov (.c (.bool true)))])
  (.ret))
  (.skip)))
  (.seq (.region true [o1 46 (.ld 6 6 2 false),
   o1 47 (.ld 5 5 2 false),
   oC 48 30 [46, 47],
   o1 49 (.ld 4 4 2 false),
   o1 50 (.ld 5 5 2 false),
   oC 51 30 [49, 50],
   o1 9 (.new [.int .i64 0, .int .i64 0] []),
   o1 10 (.new [.int .i64 0, .int .i64 0] []),
   oN (.st 9 9 2 (.t 48)),
   oN (.st 10 10 2 (.t 51))])
  (.seq (.region true [o1 52 (.ld 9 9 2 false),
   o1 53 (.ld 9 9 2 false),
   oC 54 31 [52, 53],
   o1 55 (.ld 10 10 2 false),
   o1 56 (.ld 9 9 2 false),
   oC 57 31 [55, 56],
   oM 11 54,
   oM 12 57])
  (.seq (.region false [o1 58 (.ld 9 9 2 false),
   o1 59 (.ld 10 10 2 false),
   oC 60 35 [58, 59],
   oC 61 34 [60],
   o1 13 (.new [.bool false, .sl 0 []] []),
   oN (.st 13 13 2 (.t 61))])
  (.seq (.region false [oM 62 3,
   oC 63 34 [62],
   o1 14 (.new [.bool false, .sl 0 []] []),
   oN (.st 14 14 2 (.t 63))])
  (.seq (.region true [oM 64 12,
   o1 65 (.bin .gtr (.t 64) (.c (.int .i64 0))),
   oM 66 65,
   oG 67 (.mov (.t 12)) 66 true,
   oG 68 (.mov (.t 11)) 66 true,
   oG 69 (.bin .lss (.t 67) (.t 68)) 66 true,
   o1 70 (.pick (.t 66) (.t 69) (.c (.bool false))),
   oM 71 70,
   oG 72 (.ld 13 13 2 false) 71 true,
   oG 73 (.ld 13 13 2 false) 71 true,
   oG 74 (.call 37 [.t 72, .t 73]) 71 true,
   oG 75 (.ld 14 14 2 false) 71 true,
   oG 76 (.ld 14 14 2 false) 71 true,
   oG 77 (.call 37 [.t 75, .t 76]) 71 true,
   oG 78 (.mov (.t 11)) 71 true,
   oG 79 (.call 34 [.t 78]) 71 true,
   oG 80 (.call 37 [.t 77, .t 79]) 71 true,
   oG 81 (.call 36 [.t 74, .t 80]) 71 true,
   oG 82 (.bin .lss (.t 81) (.c (.int .i64 0))) 71 true,
   o1 83 (.pick (.t 71) (.t 82) (.c (.bool false))),
   oM 8 83])
  (.ret))))))))⟩
def Tryz.r11 : List (Nat × Nat) := []
theorem Tryz.i11_ok : fnOk Tryz.prog Tryz.r11 Tryz.f11 Tryz.i11 = true := by kernel_rfl

/- pinball/wall.DiscNormal -/
def Tryz.i12 : IFunc := ⟨2, 15, [.cell 4 2 false],
  .seq (.region false [o1 2 (.box (.t 0) []),
   o1 3 (.box (.t 1) []),
   o1 4 (.new [.int .i64 0, .int .i64 0] [])])
  (.seq (.seq (.region false [o1 5 (.ld 3 3 2 false),
   o1 6 (.bls 1 [.int .i64 0, .int .i64 0] [(0, 2, .t 5)]),
   o1 7 (.call 27 [.c (.int .i64 1048576), .t 6]),
   o1 8 (.un .not (.t 7))])
  (.cond (.t 8) (.seq (.region false [o1 9 (.bld [.int .i64 0, .int .i64 0] []),
   oN (.st 4 4 2 (.t 9))])
  (.ret))
  (.skip)))
  (.seq (.region true [o1 10 (.ld 2 2 2 false),
   o1 11 (.ld 3 3 2 false),
   o1 12 (.call 39 [.t 11, .c (.int .i64 256)]),
   oC 13 28 [10, 12],
   oC 14 38 [13],
   oN (.st 4 4 2 (.t 14))])
  (.ret)))⟩
def Tryz.r12 : List (Nat × Nat) := []
theorem Tryz.i12_ok : fnOk Tryz.prog Tryz.r12 Tryz.f12 Tryz.i12 = true := by kernel_rfl

/- pinball/pinballref11.DiscNormal -/
def Tryz.i13 : IFunc := ⟨2, 14, [.cell 4 2 false],
  .seq (.region false [o1 2 (.box (.t 0) []),
   o1 3 (.box (.t 1) []),
   o1 4 (.new [.int .i64 0, .int .i64 0] [])])
  (.seq (.seq (.region false [o1 5 (.ld 3 3 2 false),
   o1 6 (.call 29 [.t 5, .c (.int .i64 1048576)]),
   o1 7 (.un .not (.t 6))])
  (.cond (.t 7) (.seq (.region false [o1 8 (.bld [.int .i64 0, .int .i64 0] []),
   oN (.st 4 4 2 (.t 8))])
  (.ret))
  (.skip)))
  (.seq (.region true [o1 9 (.ld 2 2 2 false),
   o1 10 (.ld 3 3 2 false),
   o1 11 (.call 41 [.t 10, .c (.int .i64 256)]),
   oC 12 30 [9, 11],
   oC 13 40 [12],
   oN (.st 4 4 2 (.t 13))])
  (.ret)))⟩
def Tryz.r13 : List (Nat × Nat) := []
theorem Tryz.i13_ok : fnOk Tryz.prog Tryz.r13 Tryz.f13 Tryz.i13 = true := by kernel_rfl

/- pinball/wall.CapsuleNormal -/
def Tryz.i14 : IFunc := ⟨3, 61, [.cell 6 2 false],
  .seq (.region false [o1 3 (.box (.t 0) []),
   o1 4 (.box (.t 1) []),
   o1 5 (.box (.t 2) []),
   o1 6 (.new [.int .i64 0, .int .i64 0] [])])
  (.seq (.seq (.region false [o1 11 (.ld 4 4 2 false),
   o1 12 (.ld 5 5 2 false),
   o1 13 (.bls 2 [.int .i64 0, .int .i64 0, .int .i64 0, .int .i64 0] [(0, 2, .t 11), (2, 2, .t 12)]),
   o1 14 (.call 27 [.c (.int .i64 1048576), .t 13]),
   o1 15 (.un .not (.t 14))])
  (.cond (.t 15) (.seq (.region false [o1 16 (.bld [.int .i64 0, .int .i64 0] []),
   oN (.st 6 6 2 (.t 16))])
  (.ret))
  (.skip)))
  (.seq (.region true [o1 17 (.ld 5 5 2 false),
   o1 18 (.ld 4 4 2 false),
   oC 19 28 [17, 18],
   o1 20 (.ld 3 3 2 false),
   o1 21 (.ld 4 4 2 false),
   o1 22 (.call 39 [.t 21, .c (.int .i64 256)]),
   oC 23 28 [20, 22],
   o1 7 (.new [.int .i64 0, .int .i64 0] []),
   o1 8 (.new [.int .i64 0, .int .i64 0] []),
   oN (.st 7 7 2 (.t 19)),
   oN (.st 8 8 2 (.t 23))])
  (.seq (.region false [o1 24 (.ld 8 8 2 false),
   o1 25 (.ld 7 7 2 false),
   oC 26 24 [24, 25],
   oM 9 26])
  (.seq (.seq (.region false [o1 27 (.ld 7 7 2 false),
   o1 28 (.ld 8 8 2 false),
   oC 29 32 [27, 28],
   oM 10 29])
  (.block 0 (.seq (.region false [oM 31 9,
   o1 32 (.bin .leq (.t 31) (.c (.int .i64 0))),
   oM 30 32])
  (.cond (.t 30) (.seq (.region false [o1 33 (.ld 3 3 2 false),
   o1 34 (.ld 4 4 2 false),
   oC 35 12 [33, 34],
   oN (.st 6 6 2 (.t 35))])
  (.ret))
  (.seq (.region false [oM 37 9,
   o1 38 (.ld 7 7 2 false),
   o1 39 (.ld 7 7 2 false),
   oC 40 24 [38, 39],
   o1 41 (.bin .mul (.c (.int .i64 256)) (.t 40)),
   oB 42 .geq 37 41,
   oM 36 42])
  (.cond (.t 36) (.seq (.region false [o1 43 (.ld 3 3 2 false),
   o1 44 (.ld 5 5 2 false),
   oC 45 12 [43, 44],
   oN (.st 6 6 2 (.t 45))])
  (.ret))
  (.seq (.region false [oM 47 10,
   o1 48 (.bin .gtr (.t 47) (.c (.int .i64 0))),
   oM 46 48])
  (.cond (.t 46) (.seq (.region false [o1 49 (.ld 7 7 2 false),
   oC 50 43 [49],
   oC 51 42 [50],
   oN (.st 6 6 2 (.t 51))])
  (.ret))
  (.seq (.region false [oM 53 10,
   o1 54 (.bin .lss (.t 53) (.c (.int .i64 0))),
   oM 52 54])
  (.cond (.t 52) (.seq (.region false [o1 55 (.ld 4 4 2 false),
   o1 56 (.ld 5 5 2 false),
   oC 57 28 [55, 56],
   oC 58 43 [57],
   oC 59 42 [58],
   oN (.st 6 6 2 (.t 59))])
  (.ret))
  (.skip)))))))))))
  (.seq (.region false [o1 60 (.bld [.int .i64 0, .int .i64 0] []),
   oN (.st 6 6 2 (.t 60))])
  (.ret))))))⟩
def Tryz.r14 : List (Nat × Nat) := []
theorem Tryz.i14_ok : fnOk Tryz.prog Tryz.r14 Tryz.f14 Tryz.i14 = true := by kernel_rfl

/- pinball/pinballref11.CapsuleNormal -/
def Tryz.i15 : IFunc := ⟨3, 64, [.cell 6 2 false],
  .seq (.region false [o1 3 (.box (.t 0) []),
   o1 4 (.box (.t 1) []),
   o1 5 (.box (.t 2) []),
   o1 6 (.new [.int .i64 0, .int .i64 0] [])])
  (.seq (.seq (.region false [o1 12 (.ld 4 4 2 false),
   o1 13 (.call 29 [.t 12, .c (.int .i64 1048576)]),
   o1 14 (.un .not (.t 13)),
   oM 15 14,
   oG 16 (.ld 5 5 2 false) 15 false,
   oG 17 (.call 29 [.t 16, .c (.int .i64 1048576)]) 15 false,
   oG 18 (.un .not (.t 17)) 15 false,
   o1 19 (.pick (.t 15) (.c (.bool true)) (.t 18))])
  (.cond (.t 19) (.seq (.region false [o1 20 (.bld [.int .i64 0, .int .i64 0] []),
   oN (.st 6 6 2 (.t 20))])
  (.ret))
  (.skip)))
  (.seq (.region false [o1 21 (.ld 5 5 2 false),
   o1 22 (.ld 4 4 2 false),
   oC 23 30 [21, 22],
   o1 7 (.new [.int .i64 0, .int .i64 0] []),
   oN (.st 7 7 2 (.t 23))])
  (.seq (.region true [o1 24 (.ld 3 3 2 false),
   o1 25 (.ld 4 4 2 false),
   o1 26 (.call 41 [.t 25, .c (.int .i64 256)]),
   oC 27 30 [24, 26],
   o1 8 (.new [.int .i64 0, .int .i64 0] []),
   oN (.st 8 8 2 (.t 27))])
  (.seq (.region false [o1 28 (.ld 8 8 2 false),
   o1 29 (.ld 7 7 2 false),
   oC 30 31 [28, 29],
   oM 9 30])
  (.seq (.block 0 (.seq (.region false [oM 32 9,
   o1 33 (.bin .leq (.t 32) (.c (.int .i64 0))),
   oM 31 33])
  (.cond (.t 31) (.seq (.region false [o1 34 (.ld 3 3 2 false),
   o1 35 (.ld 4 4 2 false),
   oC 36 13 [34, 35],
   oN (.st 6 6 2 (.t 36))])
  (.ret))
  (.seq (.region false [oM 38 9,
   o1 39 (.ld 7 7 2 false),
   o1 40 (.ld 7 7 2 false),
   oC 41 31 [39, 40],
   o1 42 (.bin .mul (.c (.int .i64 256)) (.t 41)),
   oB 43 .geq 38 42,
   oM 37 43])
  (.cond (.t 37) (.seq (.region false [o1 44 (.ld 3 3 2 false),
   o1 45 (.ld 5 5 2 false),
   oC 46 13 [44, 45],
   oN (.st 6 6 2 (.t 46))])
  (.ret))
  (.skip))))))
  (.seq (.region false [o1 47 (.ld 7 7 2 false),
   o1 48 (.ld 8 8 2 false),
   oC 49 35 [47, 48],
   oM 10 49])
  (.seq (.region false [o1 50 (.ld 7 7 2 false),
   oC 51 44 [50],
   o1 11 (.new [.int .i64 0, .int .i64 0] []),
   oN (.st 11 11 2 (.t 51))])
  (.seq (.block 1 (.seq (.region false [oM 53 10,
   o1 54 (.bin .gtr (.t 53) (.c (.int .i64 0))),
   oM 52 54])
  (.cond (.t 52) (.seq (.region false [o1 55 (.ld 11 11 2 false),
   oC 56 45 [55],
   oN (.st 6 6 2 (.t 56))])
  (.ret))
  (.seq (.region false [oM 58 10,
   o1 59 (.bin .lss (.t 58) (.c (.int .i64 0))),
   oM 57 59])
  (.cond (.t 57) (.seq (.region false [o1 60 (.ld 11 11 2 false),
   o1 61 (.call 41 [.t 60, .c (.int .i64 (-1))]),
   oC 62 45 [61],
   oN (.st 6 6 2 (.t 62))])
  (.ret))
  (.skip))))))
  (.seq (.region false [o1 63 (.bld [.int .i64 0, .int .i64 0] []),
   oN (.st 6 6 2 (.t 63))])
  (.ret))))))))))⟩
def Tryz.r15 : List (Nat × Nat) := []
theorem Tryz.i15_ok : fnOk Tryz.prog Tryz.r15 Tryz.f15 Tryz.i15 = true := by kernel_rfl

/- pinball/pinballref10.Valid -/
def Tryz.i16 : IFunc := ⟨1, 16, [.tmp 2],
  .seq (.region false [o1 1 (.box (.t 0) [3, 7, 12]),
   o1 2 (.mov (.c (.bool false)))])
  (.seq (.region false [o1 3 (.adr 1 1 0),
   o1 4 (.ld 3 1 2 false),
   o1 5 (.call 46 [.t 4, .c (.int .i64 8388608)]),
   oM 6 5,
   oG 7 (.adr 1 1 2) 6 true,
   oG 8 (.ld 7 1 2 false) 6 true,
   oG 9 (.call 46 [.t 8, .c (.int .i64 262144)]) 6 true,
   o1 10 (.pick (.t 6) (.t 9) (.c (.bool false))),
   oM 11 10,
   oG 12 (.adr 1 1 4) 11 true,
   oG 13 (.ld 12 1 2 false) 11 true,
   oG 14 (.call 46 [.t 13, .c (.int .i64 4096)]) 11 true,
   o1 15 (.pick (.t 11) (.t 14) (.c (.bool false))),
   oM 2 15])
  (.ret))⟩
def Tryz.r16 : List (Nat × Nat) := [(3, 1), (7, 1), (12, 1)]
theorem Tryz.i16_ok : fnOk Tryz.prog Tryz.r16 Tryz.f16 Tryz.i16 = true := by kernel_rfl

/- pinball/pinballlaw11.near -/
def Tryz.i17 : IFunc := ⟨1, 21, [.tmp 2],
  .seq (.region false [o1 1 (.box (.t 0) [3, 7, 12, 17]),
   o1 2 (.mov (.c (.bool false)))])
  (.seq (.region false [o1 3 (.adr 1 1 0),
   o1 4 (.ld 3 1 1 true),
   o1 5 (.bin .geq (.t 4) (.c (.int .i64 (-1048576)))),
   oM 6 5,
   oG 7 (.adr 1 1 0) 6 true,
   oG 8 (.ld 7 1 1 true) 6 true,
   oG 9 (.bin .leq (.t 8) (.c (.int .i64 1048576))) 6 true,
   o1 10 (.pick (.t 6) (.t 9) (.c (.bool false))),
   oM 11 10,
   oG 12 (.adr 1 1 1) 11 true,
   oG 13 (.ld 12 1 1 true) 11 true,
   oG 14 (.bin .geq (.t 13) (.c (.int .i64 (-1048576)))) 11 true,
   o1 15 (.pick (.t 11) (.t 14) (.c (.bool false))),
   oM 16 15,
   oG 17 (.adr 1 1 1) 16 true,
   oG 18 (.ld 17 1 1 true) 16 true,
   oG 19 (.bin .leq (.t 18) (.c (.int .i64 1048576))) 16 true,
   o1 20 (.pick (.t 16) (.t 19) (.c (.bool false))),
   oM 2 20])
  (.ret))⟩
def Tryz.r17 : List (Nat × Nat) := [(3, 1), (7, 1), (12, 1), (17, 1)]
theorem Tryz.i17_ok : fnOk Tryz.prog Tryz.r17 Tryz.f17 Tryz.i17 = true := by kernel_rfl

/- pinball/pinballref10.End -/
def Tryz.i18 : IFunc := ⟨1, 49, [.cell 2 2 false, .cell 3 2 false],
  .seq (.region false [o1 1 (.box (.t 0) [9, 10, 12, 13, 16, 17, 20, 21, 23, 24, 27, 28, 32, 33, 35, 36, 40, 41, 43, 44]),
   o1 2 (.new [.int .i64 0, .int .i64 0] []),
   o1 3 (.new [.int .i64 0, .int .i64 0] [])])
  (.seq (.seq (.region false [o1 4 (.ld 1 1 6 false),
   oC 5 16 [4],
   o1 6 (.un .not (.t 5))])
  (.cond (.t 6) (.seq (.region false [o1 7 (.bld [.int .i64 0, .int .i64 0] []),
   o1 8 (.bld [.int .i64 0, .int .i64 0] []),
   oN (.st 2 2 2 (.t 7)),
   oN (.st 3 3 2 (.t 8))])
  (.ret))
  (.skip)))
  (.seq (.region true [o1 9 (.adr 1 1 0),
   o1 10 (.adr 9 1 0),
   o1 11 (.ld 10 1 1 true),
   o1 12 (.adr 1 1 2),
   o1 13 (.adr 12 1 0),
   o1 14 (.ld 13 1 1 true),
   oB 15 .add 11 14,
   o1 16 (.adr 1 1 4),
   o1 17 (.adr 16 1 0),
   o1 18 (.ld 17 1 1 true),
   oB 19 .add 15 18,
   o1 20 (.adr 1 1 0),
   o1 21 (.adr 20 1 1),
   o1 22 (.ld 21 1 1 true),
   o1 23 (.adr 1 1 2),
   o1 24 (.adr 23 1 1),
   o1 25 (.ld 24 1 1 true),
   oB 26 .add 22 25,
   o1 27 (.adr 1 1 4),
   o1 28 (.adr 27 1 1),
   o1 29 (.ld 28 1 1 true),
   oB 30 .add 26 29,
   o1 31 (.bld [.int .i64 0, .int .i64 0] [(0, 1, .t 19), (1, 1, .t 30)]),
   o1 32 (.adr 1 1 2),
   o1 33 (.adr 32 1 0),
   o1 34 (.ld 33 1 1 true),
   o1 35 (.adr 1 1 4),
   o1 36 (.adr 35 1 0),
   o1 37 (.ld 36 1 1 true),
   o1 38 (.bin .mul (.c (.int .i64 2)) (.t 37)),
   oB 39 .add 34 38,
   o1 40 (.adr 1 1 2),
   o1 41 (.adr 40 1 1),
   o1 42 (.ld 41 1 1 true),
   o1 43 (.adr 1 1 4),
   o1 44 (.adr 43 1 1),
   o1 45 (.ld 44 1 1 true),
   o1 46 (.bin .mul (.c (.int .i64 2)) (.t 45)),
   oB 47 .add 42 46,
   o1 48 (.bld [.int .i64 0, .int .i64 0] [(0, 1, .t 39), (1, 1, .t 47)]),
   oN (.st 2 2 2 (.t 31)),
   oN (.st 3 3 2 (.t 48))])
  (.ret)))⟩
def Tryz.r18 : List (Nat × Nat) := [(9, 1), (10, 1), (12, 1), (13, 1), (16, 1), (17, 1), (20, 1), (21, 1), (23, 1), (24, 1), (27, 1), (28, 1), (32, 1), (33, 1), (35, 1), (36, 1), (40, 1), (41, 1), (43, 1), (44, 1)]
theorem Tryz.i18_ok : fnOk Tryz.prog Tryz.r18 Tryz.f18 Tryz.i18 = true := by kernel_rfl

/- pinball/wall.Capsule -/
def Tryz.i19 : IFunc := ⟨4, 91, [.tmp 8],
  .seq (.region false [o1 4 (.box (.t 0) []),
   o1 5 (.box (.t 1) []),
   o1 6 (.box (.t 2) []),
   o1 8 (.mov (.c (.nil)))])
  (.seq (.region false [o1 17 (.ld 4 4 6 false),
   o1 18 (.ld 5 5 2 false),
   oM 19 3,
   o1 20 (.clo 20 [.t 17, .t 18, .t 19]),
   ⟨some 9, .tra 20, none, [21]⟩])
  (.seq (.seq (.region false [o1 21 (.cpy 9),
   o1 22 (.isn false 21 9),
   oM 23 22,
   oG 24 (.ld 6 6 2 false) 23 false,
   oG 25 (.bls 1 [.int .i64 0, .int .i64 0] [(0, 2, .t 24)]) 23 false,
   oG 26 (.call 27 [.c (.int .i64 1048576), .t 25]) 23 false,
   oG 27 (.un .not (.t 26)) 23 false,
   o1 28 (.pick (.t 23) (.c (.bool true)) (.t 27))])
  (.cond (.t 28) (.seq (.region false [o1 8 (.mov (.c (.nil)))])
  (.ret))
  (.skip)))
  (.seq (.seq (.region false [o1 29 (.ld 5 5 2 false),
   o1 30 (.ld 6 6 2 false),
   o1 31 (.eqv false 2 (.t 29) (.t 30))])
  (.cond (.t 31) (.seq (.region false [o1 32 (.tra 9),
   o1 8 (.tra 32)])
  (.ret))
  (.skip)))
  (.seq (.region false [o1 33 (.ld 6 6 2 false),
   o1 34 (.ld 5 5 2 false),
   oC 35 28 [33, 34],
   o1 10 (.new [.int .i64 0, .int .i64 0] [42, 45, 49, 52]),
   oN (.st 10 10 2 (.t 35))])
  (.seq (.region false [o1 37 (.ld 4 4 6 false),
   o1 38 (.ld 5 5 2 false),
   oC 39 47 [37, 38],
   oM 36 39,
   o1 40 (.ext (.t 36) 0),
   o1 41 (.ext (.t 36) 1),
   oM 11 40,
   oM 12 41])
  (.seq (.region true [o1 42 (.adr 10 10 0),
   o1 43 (.ld 42 10 1 true),
   oM 44 11,
   o1 45 (.adr 10 10 1),
   o1 46 (.ld 45 10 1 true),
   oM 47 12,
   oC 48 48 [43, 44, 46, 47],
   o1 49 (.adr 10 10 0),
   o1 50 (.ld 49 10 1 true),
   oM 51 12,
   o1 52 (.adr 10 10 1),
   o1 53 (.ld 52 10 1 true),
   o1 54 (.un .neg (.t 53)),
   oM 55 11,
   oC 56 48 [50, 51, 54, 55],
   oM 13 48,
   oM 14 56])
  (.seq (.region true [oM 57 3,
   oM 58 3,
   oB 59 .mul 57 58,
   o1 60 (.bls 1 [.int .i64 0] [(0, 1, .t 59)]),
   oC 61 50 [60],
   o1 62 (.ld 10 10 2 false),
   o1 63 (.ld 10 10 2 false),
   oC 64 24 [62, 63],
   o1 65 (.bls 1 [.int .i64 0] [(0, 1, .t 64)]),
   oC 66 50 [65],
   oC 67 49 [61, 66],
   oM 15 67])
  (.seq (.region false [oM 68 13,
   o1 69 (.ld 10 10 2 false),
   o1 70 (.ld 10 10 2 false),
   oC 71 24 [69, 70],
   o1 72 (.bls 1 [.int .i64 0] [(0, 1, .t 71)]),
   oC 73 50 [72],
   oM 74 13,
   oC 75 51 [73, 74],
   oM 76 15,
   oM 77 14,
   oM 78 14,
   oC 79 49 [77, 78],
   oC 80 51 [76, 79],
   o1 81 (.bls 3 [.sl 0 [], .sl 0 [], .sl 0 []] [(0, 1, .t 68), (1, 1, .t 75), (2, 1, .t 80)]),
   oM 16 81])
  (.seq (.region false [o1 82 (.tra 9),
   o1 83 (.ld 4 4 6 false),
   o1 84 (.ld 6 6 2 false),
   oM 85 3,
   oC 86 52 [83, 84, 85],
   o1 87 (.bls 1 [.sl 0 []] [(0, 1, .t 86)]),
   oM 88 16,
   o1 89 (.bls 2 [.sl 0 [], .sl 0 []] [(0, 1, .t 87), (1, 1, .t 88)]),
   o1 90 (.apd true (.t 82) (.t 89) 1),
   o1 8 (.tra 90)])
  (.ret))))))))))⟩
def Tryz.r19 : List (Nat × Nat) := [(21, 9), (42, 10), (45, 10), (49, 10), (52, 10)]
theorem Tryz.i19_ok : fnOk Tryz.prog Tryz.r19 Tryz.f19 Tryz.i19 = true := by kernel_rfl

/- pinball/wall.Disc -/
def Tryz.i20 : IFunc := ⟨3, 30, [.tmp 6],
  .seq (.region false [o1 3 (.box (.t 0) []),
   o1 4 (.box (.t 1) []),
   o1 6 (.mov (.c (.nil)))])
  (.seq (.seq (.region false [o1 7 (.ld 3 3 6 false),
   oC 8 53 [7],
   o1 9 (.un .not (.t 8)),
   oM 10 9,
   oG 11 (.ld 4 4 2 false) 10 false,
   oG 12 (.bls 1 [.int .i64 0, .int .i64 0] [(0, 2, .t 11)]) 10 false,
   oG 13 (.call 27 [.c (.int .i64 1048576), .t 12]) 10 false,
   oG 14 (.un .not (.t 13)) 10 false,
   o1 15 (.pick (.t 10) (.c (.bool true)) (.t 14)),
   oM 16 15,
   oG 17 (.mov (.t 2)) 16 false,
   oG 18 (.bin .lss (.t 17) (.c (.int .i64 1))) 16 false,
   o1 19 (.pick (.t 16) (.c (.bool true)) (.t 18)),
   oM 20 19,
   oG 21 (.mov (.t 2)) 20 false,
   oG 22 (.bin .gtr (.t 21) (.c (.int .i64 524288))) 20 false,
   o1 23 (.pick (.t 20) (.c (.bool true)) (.t 22))])
  (.cond (.t 23) (.seq (.region false [o1 6 (.mov (.c (.nil)))])
  (.ret))
  (.skip)))
  (.seq (.region false [o1 24 (.ld 3 3 6 false),
   o1 25 (.ld 4 4 2 false),
   oM 26 2,
   oC 27 52 [24, 25, 26],
   o1 28 (.bls 1 [.sl 0 []] [(0, 1, .t 27)]),
   o1 29 (.blo 1 1 [.sl 0 []] [(0, 1, .t 28)]),
   o1 6 (.tra 29)])
  (.ret)))⟩
def Tryz.r20 : List (Nat × Nat) := []
theorem Tryz.i20_ok : fnOk Tryz.prog Tryz.r20 Tryz.f20 Tryz.i20 = true := by kernel_rfl

/- pinball/pinballlaw11.at -/
def Tryz.i21 : IFunc := ⟨2, 42, [.tmp 4],
  .seq (.region false [o1 4 (.mov (.c (.bool false)))])
  (.seq (.seq (.region false [o1 5 (.mov (.c (.int .i64 0)))])
  (.block 0 (.loop (.seq (.seq (.region false [oM 9 5,
   oM 10 0,
   o1 11 (.len (.t 10)),
   oB 12 .lss 9 11])
  (.cond (.t 12) (.skip)
  (.exit 0)))
  (.seq (.block 1 (.seq (.region false [o1 6 (.mov (.c (.bool true)))])
  (.seq (.seq (.region false [o1 7 (.mov (.c (.int .i64 0)))])
  (.block 2 (.loop (.seq (.seq (.region false [oM 15 7,
   oM 16 0,
   oM 17 5,
   o1 18 (.ixa 16 (.t 17) 1),
   o1 19 (.ld 18 18 1 true),
   o1 20 (.len (.t 19)),
   oB 21 .lss 15 20])
  (.cond (.t 21) (.skip)
  (.exit 2)))
  (.seq (.block 3 (.seq (.region false [oM 24 0,
   oM 25 5,
   o1 26 (.ixa 24 (.t 25) 1),
   o1 27 (.ld 26 26 1 true),
   oM 28 7,
   o1 29 (.ixa 27 (.t 28) 1),
   o1 30 (.ld 29 29 1 true),
   oC 31 54 [30],
   oM 8 31])
  (.region false [oM 32 6,
   oM 33 32,
   oG 34 (.mov (.t 8)) 33 true,
   oG 35 (.mov (.t 1)) 33 true,
   oG 36 (.call 34 [.t 35]) 33 true,
   oG 37 (.call 56 [.t 34, .t 36, .c (.int .i64 4)]) 33 true,
   oG 38 (.call 55 [.t 37]) 33 true,
   oG 39 (.bin .gtr (.t 38) (.c (.int .i64 0))) 33 true,
   o1 40 (.pick (.t 33) (.t 39) (.c (.bool false))),
   oM 6 40])))
  (.region false [oM 22 7,
   o1 23 (.bin .add (.t 22) (.c (.int .i64 1))),
   oM 7 23]))))))
  (.seq (.region false [oM 41 6])
  (.cond (.t 41) (.seq (.region false [o1 4 (.mov (.c (.bool true)))])
  (.ret))
  (.skip))))))
  (.region false [oM 13 5,
   o1 14 (.bin .add (.t 13) (.c (.int .i64 1))),
   oM 5 14]))))))
  (.seq (.region false [o1 4 (.mov (.c (.bool false)))])
  (.ret)))⟩
def Tryz.r21 : List (Nat × Nat) := []
theorem Tryz.i21_ok : fnOk Tryz.prog Tryz.r21 Tryz.f21 Tryz.i21 = true := by kernel_rfl

/- pinball/pinballlaw11.close -/
def Tryz.i22 : IFunc := ⟨1, 21, [.tmp 2],
  .seq (.region false [o1 1 (.box (.t 0) [3, 7, 12, 17]),
   o1 2 (.mov (.c (.bool false)))])
  (.seq (.region false [o1 3 (.adr 1 1 0),
   o1 4 (.ld 3 1 1 true),
   o1 5 (.bin .geq (.t 4) (.c (.int .i64 (-10000)))),
   oM 6 5,
   oG 7 (.adr 1 1 0) 6 true,
   oG 8 (.ld 7 1 1 true) 6 true,
   oG 9 (.bin .leq (.t 8) (.c (.int .i64 10000))) 6 true,
   o1 10 (.pick (.t 6) (.t 9) (.c (.bool false))),
   oM 11 10,
   oG 12 (.adr 1 1 1) 11 true,
   oG 13 (.ld 12 1 1 true) 11 true,
   oG 14 (.bin .geq (.t 13) (.c (.int .i64 (-10000)))) 11 true,
   o1 15 (.pick (.t 11) (.t 14) (.c (.bool false))),
   oM 16 15,
   oG 17 (.adr 1 1 1) 16 true,
   oG 18 (.ld 17 1 1 true) 16 true,
   oG 19 (.bin .leq (.t 18) (.c (.int .i64 10000))) 16 true,
   o1 20 (.pick (.t 16) (.t 19) (.c (.bool false))),
   oM 2 20])
  (.ret))⟩
def Tryz.r22 : List (Nat × Nat) := [(3, 1), (7, 1), (12, 1), (17, 1)]
theorem Tryz.i22_ok : fnOk Tryz.prog Tryz.r22 Tryz.f22 Tryz.i22 = true := by kernel_rfl

/- pinball/pinballlaw11.flip -/
def Tryz.i23 : IFunc := ⟨1, 9, [.cell 2 2 false],
  .seq (.region false [o1 1 (.box (.t 0) [3, 6]),
   o1 2 (.new [.int .i64 0, .int .i64 0] [])])
  (.seq (.region false [o1 3 (.adr 1 1 0),
   o1 4 (.ld 3 1 1 true),
   o1 5 (.un .neg (.t 4)),
   o1 6 (.adr 1 1 1),
   o1 7 (.ld 6 1 1 true),
   o1 8 (.bld [.int .i64 0, .int .i64 0] [(0, 1, .t 5), (1, 1, .t 7)]),
   oN (.st 2 2 2 (.t 8))])
  (.ret))⟩
def Tryz.r23 : List (Nat × Nat) := [(3, 1), (6, 1)]
theorem Tryz.i23_ok : fnOk Tryz.prog Tryz.r23 Tryz.f23 Tryz.i23 = true := by kernel_rfl

/- pinball/vector.Dot -/
def Tryz.i24 : IFunc := ⟨2, 24, [.tmp 4],
  .seq (.region false [o1 2 (.box (.t 0) [13, 18]),
   o1 3 (.box (.t 1) [15, 20]),
   o1 4 (.mov (.c (.int .i64 0)))])
  (.seq (.seq (.region false [o1 5 (.ld 2 2 2 false),
   oC 6 57 [5],
   o1 7 (.un .not (.t 6)),
   oM 8 7,
   oG 9 (.ld 3 3 2 false) 8 false,
   oG 10 (.call 57 [.t 9]) 8 false,
   oG 11 (.un .not (.t 10)) 8 false,
   o1 12 (.pick (.t 8) (.c (.bool true)) (.t 11))])
  (.cond (.t 12) (.seq (.region false [o1 4 (.mov (.c (.int .i64 0)))])
  (.ret))
  (.skip)))
  (.seq (.region false [o1 13 (.adr 2 2 0),
   o1 14 (.ld 13 2 1 true),
   o1 15 (.adr 3 3 0),
   o1 16 (.ld 15 3 1 true),
   oB 17 .mul 14 16,
   o1 18 (.adr 2 2 1),
   o1 19 (.ld 18 2 1 true),
   o1 20 (.adr 3 3 1),
   o1 21 (.ld 20 3 1 true),
   oB 22 .mul 19 21,
   oB 23 .add 17 22,
   oM 4 23])
  (.ret)))⟩
def Tryz.r24 : List (Nat × Nat) := [(13, 2), (15, 3), (18, 2), (20, 3)]
theorem Tryz.i24_ok : fnOk Tryz.prog Tryz.r24 Tryz.f24 Tryz.i24 = true := by kernel_rfl

/- pinball/pinballref05.Of -/
def Tryz.i25 : IFunc := ⟨1, 38, [.cell 2 7 false, .tmp 3],
  .seq (.region false [o1 2 (.new [.sl 0 [], .bool false, .sl 0 [], .int .i64 0, .bool false, .sl 0 [], .int .i64 0] []),
   o1 3 (.mov (.c (.bool false)))])
  (.seq (.region false [o1 9 (.bld [.sl 0 [], .bool false, .sl 0 [], .int .i64 0, .bool false, .sl 0 [], .int .i64 0] []),
   o1 4 (.new [.sl 0 [], .bool false, .sl 0 [], .int .i64 0, .bool false, .sl 0 [], .int .i64 0] []),
   oN (.st 4 4 7 (.t 9)),
   o1 5 (.mov (.c (.bool false)))])
  (.seq (.seq (.region false [o1 6 (.mov (.c (.int .i64 0)))])
  (.block 0 (.loop (.seq (.seq (.region false [oM 10 6,
   oM 11 0,
   o1 12 (.len (.t 11)),
   oB 13 .lss 10 12])
  (.cond (.t 13) (.skip)
  (.exit 0)))
  (.seq (.block 1 (.seq (.region false [oM 17 0,
   oM 18 6,
   o1 19 (.ixa 17 (.t 18) 1),
   o1 20 (.ld 19 19 1 true),
   oC 21 58 [20],
   oM 16 21,
   o1 22 (.ext (.t 16) 0),
   o1 23 (.ext (.t 16) 1),
   o1 7 (.new [.sl 0 [], .bool false, .sl 0 [], .int .i64 0, .bool false, .sl 0 [], .int .i64 0] []),
   oN (.st 7 7 7 (.t 22)),
   oM 8 23])
  (.seq (.region false [oM 24 8,
   oM 25 24,
   oG 26 (.mov (.t 5)) 25 true,
   oG 27 (.un .not (.t 26)) 25 true,
   oG 28 (.mov (.t 27)) 25 true,
   oG 29 (.ld 7 7 7 false) 28 false,
   oG 30 (.ld 4 4 7 false) 28 false,
   oG 31 (.call 59 [.t 29, .t 30]) 28 false,
   oG 32 (.bin .lss (.t 31) (.c (.int .i64 0))) 28 false,
   oG 33 (.pick (.t 28) (.c (.bool true)) (.t 32)) 25 true,
   o1 34 (.pick (.t 25) (.t 33) (.c (.bool false)))])
  (.cond (.t 34) (.region false [o1 35 (.ld 7 7 7 false),
   oN (.st 4 4 7 (.t 35)),
   o1 5 (.mov (.c (.bool true)))])
  (.skip)))))
  (.region false [oM 14 6,
   o1 15 (.bin .add (.t 14) (.c (.int .i64 1))),
   oM 6 15]))))))
  (.seq (.region false [o1 36 (.ld 4 4 7 false),
   oM 37 5,
   oN (.st 2 2 7 (.t 36)),
   oM 3 37])
  (.ret))))⟩
def Tryz.r25 : List (Nat × Nat) := []
theorem Tryz.i25_ok : fnOk Tryz.prog Tryz.r25 Tryz.f25 Tryz.i25 = true := by kernel_rfl

/- pinball/pinballref05.Cell -/
def Tryz.i26 : IFunc := ⟨1, 23, [.tmp 2],
  .seq (.region false [o1 1 (.box (.t 0) []),
   o1 2 (.mov (.c (.int .i64 0)))])
  (.seq (.region false [o1 4 (.ld 1 1 7 false),
   o1 5 (.call 60 [.t 4, .c (.int .i64 4)]),
   o1 3 (.new [.bool false, .sl 0 []] [6, 10, 12, 18]),
   oN (.st 3 3 2 (.t 5))])
  (.seq (.seq (.region false [o1 6 (.adr 3 3 1),
   o1 7 (.ld 6 3 1 true),
   o1 8 (.len (.t 7)),
   o1 9 (.bin .eql (.t 8) (.c (.int .i64 0)))])
  (.cond (.t 9) (.seq (.region false [o1 2 (.mov (.c (.int .i64 0)))])
  (.ret))
  (.skip)))
  (.seq (.seq (.region false [o1 10 (.adr 3 3 0),
   o1 11 (.ld 10 3 1 true)])
  (.cond (.t 11) (.seq (.region false [o1 12 (.adr 3 3 1),
   o1 13 (.ld 12 3 1 true),
   o1 14 (.ixa 13 (.c (.int .i64 0)) 1),
   o1 15 (.ld 14 14 1 true),
   o1 16 (.cv .i64 (.t 15)),
   o1 17 (.un .neg (.t 16)),
   oM 2 17])
  (.ret))
  (.skip)))
  (.seq (.region false [o1 18 (.adr 3 3 1),
   o1 19 (.ld 18 3 1 true),
   o1 20 (.ixa 19 (.c (.int .i64 0)) 1),
   o1 21 (.ld 20 20 1 true),
   o1 22 (.cv .i64 (.t 21)),
   oM 2 22])
  (.ret)))))⟩
def Tryz.r26 : List (Nat × Nat) := [(6, 3), (10, 3), (12, 3), (18, 3)]
theorem Tryz.i26_ok : fnOk Tryz.prog Tryz.r26 Tryz.f26 Tryz.i26 = true := by kernel_rfl

/- pinball/wall.within -/
def Tryz.i27 : IFunc := ⟨2, 38, [.tmp 4],
  .seq (.region false [o1 4 (.mov (.c (.bool false)))])
  (.seq (.seq (.region false [oM 7 1,
   o1 8 (.len (.t 7)),
   o1 9 (.mov (.c (.int .i64 0)))])
  (.block 0 (.loop (.seq (.region false [oB 10 .lss 9 8])
  (.seq (.cond (.t 10) (.skip)
  (.exit 0))
  (.seq (.block 1 (.seq (.region false [o1 11 (.ixa 7 (.t 9) 2),
   o1 12 (.ld 11 11 2 false),
   o1 6 (.new [.int .i64 0, .int .i64 0] [13, 19, 25, 32]),
   oN (.st 6 6 2 (.t 12))])
  (.seq (.region false [o1 13 (.adr 6 6 0),
   o1 14 (.ld 13 6 1 true),
   oM 15 0,
   o1 16 (.un .neg (.t 15)),
   oB 17 .lss 14 16,
   oM 18 17,
   oG 19 (.adr 6 6 0) 18 false,
   oG 20 (.ld 19 6 1 true) 18 false,
   oG 21 (.mov (.t 0)) 18 false,
   oG 22 (.bin .gtr (.t 20) (.t 21)) 18 false,
   o1 23 (.pick (.t 18) (.c (.bool true)) (.t 22)),
   oM 24 23,
   oG 25 (.adr 6 6 1) 24 false,
   oG 26 (.ld 25 6 1 true) 24 false,
   oG 27 (.mov (.t 0)) 24 false,
   oG 28 (.un .neg (.t 27)) 24 false,
   oG 29 (.bin .lss (.t 26) (.t 28)) 24 false,
   o1 30 (.pick (.t 24) (.c (.bool true)) (.t 29)),
   oM 31 30,
   oG 32 (.adr 6 6 1) 31 false,
   oG 33 (.ld 32 6 1 true) 31 false,
   oG 34 (.mov (.t 0)) 31 false,
   oG 35 (.bin .gtr (.t 33) (.t 34)) 31 false,
   o1 36 (.pick (.t 31) (.c (.bool true)) (.t 35))])
  (.cond (.t 36) (.seq (.region false [o1 4 (.mov (.c (.bool false)))])
  (.ret))
  (.skip)))))
  (.region false [o1 37 (.bin .add (.t 9) (.c (.int .i64 1))),
   oM 9 37])))))))
  (.seq (.region false [o1 4 (.mov (.c (.bool true)))])
  (.ret)))⟩
def Tryz.r27 : List (Nat × Nat) := [(13, 6), (19, 6), (25, 6), (32, 6)]
theorem Tryz.i27_ok : fnOk Tryz.prog Tryz.r27 Tryz.f27 Tryz.i27 = true := by kernel_rfl

/- pinball/vector.Sub -/
def Tryz.i28 : IFunc := ⟨2, 26, [.cell 4 2 false],
  .seq (.region false [o1 2 (.box (.t 0) [14, 19]),
   o1 3 (.box (.t 1) [16, 21]),
   o1 4 (.new [.int .i64 0, .int .i64 0] [])])
  (.seq (.seq (.region false [o1 5 (.ld 2 2 2 false),
   oC 6 57 [5],
   o1 7 (.un .not (.t 6)),
   oM 8 7,
   oG 9 (.ld 3 3 2 false) 8 false,
   oG 10 (.call 57 [.t 9]) 8 false,
   oG 11 (.un .not (.t 10)) 8 false,
   o1 12 (.pick (.t 8) (.c (.bool true)) (.t 11))])
  (.cond (.t 12) (.seq (.region false [o1 13 (.bld [.int .i64 0, .int .i64 0] []),
   oN (.st 4 4 2 (.t 13))])
  (.ret))
  (.skip)))
  (.seq (.region false [o1 14 (.adr 2 2 0),
   o1 15 (.ld 14 2 1 true),
   o1 16 (.adr 3 3 0),
   o1 17 (.ld 16 3 1 true),
   oB 18 .sub 15 17,
   o1 19 (.adr 2 2 1),
   o1 20 (.ld 19 2 1 true),
   o1 21 (.adr 3 3 1),
   o1 22 (.ld 21 3 1 true),
   oB 23 .sub 20 22,
   o1 24 (.bld [.int .i64 0, .int .i64 0] [(0, 1, .t 18), (1, 1, .t 23)]),
   oC 25 61 [24],
   oN (.st 4 4 2 (.t 25))])
  (.ret)))⟩
def Tryz.r28 : List (Nat × Nat) := [(14, 2), (16, 3), (19, 2), (21, 3)]
theorem Tryz.i28_ok : fnOk Tryz.prog Tryz.r28 Tryz.f28 Tryz.i28 = true := by kernel_rfl

/- pinball/pinballref11.near -/
def Tryz.i29 : IFunc := ⟨2, 29, [.tmp 4],
  .seq (.region false [o1 2 (.box (.t 0) [5, 11, 17, 24]),
   o1 4 (.mov (.c (.bool false)))])
  (.seq (.region false [o1 5 (.adr 2 2 0),
   o1 6 (.ld 5 2 1 true),
   oM 7 1,
   o1 8 (.un .neg (.t 7)),
   oB 9 .geq 6 8,
   oM 10 9,
   oG 11 (.adr 2 2 0) 10 true,
   oG 12 (.ld 11 2 1 true) 10 true,
   oG 13 (.mov (.t 1)) 10 true,
   oG 14 (.bin .leq (.t 12) (.t 13)) 10 true,
   o1 15 (.pick (.t 10) (.t 14) (.c (.bool false))),
   oM 16 15,
   oG 17 (.adr 2 2 1) 16 true,
   oG 18 (.ld 17 2 1 true) 16 true,
   oG 19 (.mov (.t 1)) 16 true,
   oG 20 (.un .neg (.t 19)) 16 true,
   oG 21 (.bin .geq (.t 18) (.t 20)) 16 true,
   o1 22 (.pick (.t 16) (.t 21) (.c (.bool false))),
   oM 23 22,
   oG 24 (.adr 2 2 1) 23 true,
   oG 25 (.ld 24 2 1 true) 23 true,
   oG 26 (.mov (.t 1)) 23 true,
   oG 27 (.bin .leq (.t 25) (.t 26)) 23 true,
   o1 28 (.pick (.t 23) (.t 27) (.c (.bool false))),
   oM 4 28])
  (.ret))⟩
def Tryz.r29 : List (Nat × Nat) := [(5, 2), (11, 2), (17, 2), (24, 2)]
theorem Tryz.i29_ok : fnOk Tryz.prog Tryz.r29 Tryz.f29 Tryz.i29 = true := by kernel_rfl

/- pinball/pinballref06.Sub -/
def Tryz.i30 : IFunc := ⟨2, 26, [.cell 4 2 false],
  .seq (.region false [o1 2 (.box (.t 0) [14, 19]),
   o1 3 (.box (.t 1) [16, 21]),
   o1 4 (.new [.int .i64 0, .int .i64 0] [])])
  (.seq (.seq (.region false [o1 5 (.ld 2 2 2 false),
   oC 6 62 [5],
   o1 7 (.un .not (.t 6)),
   oM 8 7,
   oG 9 (.ld 3 3 2 false) 8 false,
   oG 10 (.call 62 [.t 9]) 8 false,
   oG 11 (.un .not (.t 10)) 8 false,
   o1 12 (.pick (.t 8) (.c (.bool true)) (.t 11))])
  (.cond (.t 12) (.seq (.region false [o1 13 (.bld [.int .i64 0, .int .i64 0] []),
   oN (.st 4 4 2 (.t 13))])
  (.ret))
  (.skip)))
  (.seq (.region false [o1 14 (.adr 2 2 0),
   o1 15 (.ld 14 2 1 true),
   o1 16 (.adr 3 3 0),
   o1 17 (.ld 16 3 1 true),
   oB 18 .sub 15 17,
   o1 19 (.adr 2 2 1),
   o1 20 (.ld 19 2 1 true),
   o1 21 (.adr 3 3 1),
   o1 22 (.ld 21 3 1 true),
   oB 23 .sub 20 22,
   o1 24 (.bld [.int .i64 0, .int .i64 0] [(0, 1, .t 18), (1, 1, .t 23)]),
   oC 25 63 [24],
   oN (.st 4 4 2 (.t 25))])
  (.ret)))⟩
def Tryz.r30 : List (Nat × Nat) := [(14, 2), (16, 3), (19, 2), (21, 3)]
theorem Tryz.i30_ok : fnOk Tryz.prog Tryz.r30 Tryz.f30 Tryz.i30 = true := by kernel_rfl

/- pinball/pinballref06.Dot -/
def Tryz.i31 : IFunc := ⟨2, 24, [.tmp 4],
  .seq (.region false [o1 2 (.box (.t 0) [13, 18]),
   o1 3 (.box (.t 1) [15, 20]),
   o1 4 (.mov (.c (.int .i64 0)))])
  (.seq (.seq (.region false [o1 5 (.ld 2 2 2 false),
   oC 6 62 [5],
   o1 7 (.un .not (.t 6)),
   oM 8 7,
   oG 9 (.ld 3 3 2 false) 8 false,
   oG 10 (.call 62 [.t 9]) 8 false,
   oG 11 (.un .not (.t 10)) 8 false,
   o1 12 (.pick (.t 8) (.c (.bool true)) (.t 11))])
  (.cond (.t 12) (.seq (.region false [o1 4 (.mov (.c (.int .i64 0)))])
  (.ret))
  (.skip)))
  (.seq (.region false [o1 13 (.adr 2 2 0),
   o1 14 (.ld 13 2 1 true),
   o1 15 (.adr 3 3 0),
   o1 16 (.ld 15 3 1 true),
   oB 17 .mul 14 16,
   o1 18 (.adr 2 2 1),
   o1 19 (.ld 18 2 1 true),
   o1 20 (.adr 3 3 1),
   o1 21 (.ld 20 3 1 true),
   oB 22 .mul 19 21,
   oB 23 .add 17 22,
   oM 4 23])
  (.ret)))⟩
def Tryz.r31 : List (Nat × Nat) := [(13, 2), (15, 3), (18, 2), (20, 3)]
theorem Tryz.i31_ok : fnOk Tryz.prog Tryz.r31 Tryz.f31 Tryz.i31 = true := by kernel_rfl

/- pinball/vector.Cross -/
def Tryz.i32 : IFunc := ⟨2, 24, [.tmp 4],
  .seq (.region false [o1 2 (.box (.t 0) [13, 18]),
   o1 3 (.box (.t 1) [15, 20]),
   o1 4 (.mov (.c (.int .i64 0)))])
  (.seq (.seq (.region false [o1 5 (.ld 2 2 2 false),
   oC 6 57 [5],
   o1 7 (.un .not (.t 6)),
   oM 8 7,
   oG 9 (.ld 3 3 2 false) 8 false,
   oG 10 (.call 57 [.t 9]) 8 false,
   oG 11 (.un .not (.t 10)) 8 false,
   o1 12 (.pick (.t 8) (.c (.bool true)) (.t 11))])
  (.cond (.t 12) (.seq (.region false [o1 4 (.mov (.c (.int .i64 0)))])
  (.ret))
  (.skip)))
  (.seq (.region false [o1 13 (.adr 2 2 0),
   o1 14 (.ld 13 2 1 true),
   o1 15 (.adr 3 3 1),
   o1 16 (.ld 15 3 1 true),
   oB 17 .mul 14 16,
   o1 18 (.adr 2 2 1),
   o1 19 (.ld 18 2 1 true),
   o1 20 (.adr 3 3 0),
   o1 21 (.ld 20 3 1 true),
   oB 22 .mul 19 21,
   oB 23 .sub 17 22,
   oM 4 23])
  (.ret)))⟩
def Tryz.r32 : List (Nat × Nat) := [(13, 2), (15, 3), (18, 2), (20, 3)]
theorem Tryz.i32_ok : fnOk Tryz.prog Tryz.r32 Tryz.f32 Tryz.i32 = true := by kernel_rfl

/- pinball/wall.below -/
def Tryz.i33 : IFunc := ⟨3, 42, [.tmp 6],
  .seq (.region false [o1 6 (.mov (.c (.bool false)))])
  (.seq (.region false [oM 12 0,
   o1 13 (.cv .u64 (.t 12)),
   oM 14 0,
   o1 15 (.cv .u64 (.t 14)),
   oC 16 64 [13, 15],
   oM 11 16,
   o1 17 (.ext (.t 11) 0),
   o1 18 (.ext (.t 11) 1),
   oM 7 17,
   oM 8 18])
  (.seq (.region false [oM 20 1,
   oM 21 1,
   oB 22 .mul 20 21,
   o1 23 (.cv .u64 (.t 22)),
   oM 24 2,
   o1 25 (.cv .u64 (.t 24)),
   oC 26 64 [23, 25],
   oM 19 26,
   o1 27 (.ext (.t 19) 0),
   o1 28 (.ext (.t 19) 1),
   oM 9 27,
   oM 10 28])
  (.seq (.region false [oM 29 7,
   oM 30 9,
   oB 31 .lss 29 30,
   oM 32 31,
   oG 33 (.mov (.t 7)) 32 false,
   oG 34 (.mov (.t 9)) 32 false,
   oG 35 (.bin .eql (.t 33) (.t 34)) 32 false,
   oG 36 (.mov (.t 35)) 32 false,
   oG 37 (.mov (.t 8)) 36 true,
   oG 38 (.mov (.t 10)) 36 true,
   oG 39 (.bin .lss (.t 37) (.t 38)) 36 true,
   oG 40 (.pick (.t 36) (.t 39) (.c (.bool false))) 32 false,
   o1 41 (.pick (.t 32) (.c (.bool true)) (.t 40)),
   oM 6 41])
  (.ret))))⟩
def Tryz.r33 : List (Nat × Nat) := []
theorem Tryz.i33_ok : fnOk Tryz.prog Tryz.r33 Tryz.f33 Tryz.i33 = true := by kernel_rfl

/- pinball/pinballref01.Of -/
def Tryz.i34 : IFunc := ⟨1, 19, [.cell 2 2 false],
  .seq (.region false [o1 2 (.new [.bool false, .sl 0 []] [])])
  (.seq (.region false [oM 4 0,
   o1 5 (.cv .u64 (.t 4)),
   oM 3 5])
  (.seq (.seq (.region false [oM 6 0,
   o1 7 (.bin .lss (.t 6) (.c (.int .i64 0)))])
  (.cond (.t 7) (.region false [oM 8 3,
   o1 9 (.un .neg (.t 8)),
   oM 3 9])
  (.skip)))
  (.seq (.region false [oM 10 0,
   o1 11 (.bin .lss (.t 10) (.c (.int .i64 0))),
   oM 12 3,
   o1 13 (.cv .u32 (.t 12)),
   oM 14 3,
   o1 15 (.bin .shr (.t 14) (.c (.int .u64 32))),
   o1 16 (.cv .u32 (.t 15)),
   o1 17 (.bls 2 [.int .u32 0, .int .u32 0] [(0, 1, .t 13), (1, 1, .t 16)]),
   oC 18 65 [11, 17],
   oN (.st 2 2 2 (.t 18))])
  (.ret))))⟩
def Tryz.r34 : List (Nat × Nat) := []
theorem Tryz.i34_ok : fnOk Tryz.prog Tryz.r34 Tryz.f34 Tryz.i34 = true := by kernel_rfl

/- pinball/pinballref06.Cross -/
def Tryz.i35 : IFunc := ⟨2, 24, [.tmp 4],
  .seq (.region false [o1 2 (.box (.t 0) [13, 18]),
   o1 3 (.box (.t 1) [15, 20]),
   o1 4 (.mov (.c (.int .i64 0)))])
  (.seq (.seq (.region false [o1 5 (.ld 2 2 2 false),
   oC 6 62 [5],
   o1 7 (.un .not (.t 6)),
   oM 8 7,
   oG 9 (.ld 3 3 2 false) 8 false,
   oG 10 (.call 62 [.t 9]) 8 false,
   oG 11 (.un .not (.t 10)) 8 false,
   o1 12 (.pick (.t 8) (.c (.bool true)) (.t 11))])
  (.cond (.t 12) (.seq (.region false [o1 4 (.mov (.c (.int .i64 0)))])
  (.ret))
  (.skip)))
  (.seq (.region false [o1 13 (.adr 2 2 0),
   o1 14 (.ld 13 2 1 true),
   o1 15 (.adr 3 3 1),
   o1 16 (.ld 15 3 1 true),
   oB 17 .mul 14 16,
   o1 18 (.adr 2 2 1),
   o1 19 (.ld 18 2 1 true),
   o1 20 (.adr 3 3 0),
   o1 21 (.ld 20 3 1 true),
   oB 22 .mul 19 21,
   oB 23 .sub 17 22,
   oM 4 23])
  (.ret)))⟩
def Tryz.r35 : List (Nat × Nat) := [(13, 2), (15, 3), (18, 2), (20, 3)]
theorem Tryz.i35_ok : fnOk Tryz.prog Tryz.r35 Tryz.f35 Tryz.i35 = true := by kernel_rfl

/- pinball/pinballref01.Cmp -/
def Tryz.i36 : IFunc := ⟨2, 32, [.tmp 4],
  .seq (.region false [o1 2 (.box (.t 0) [20]),
   o1 3 (.box (.t 1) [23]),
   o1 4 (.mov (.c (.int .i64 0)))])
  (.seq (.region true [o1 8 (.ld 2 2 2 false),
   oC 9 55 [8],
   o1 10 (.ld 3 3 2 false),
   oC 11 55 [10],
   oM 5 9,
   oM 6 11])
  (.seq (.block 0 (.seq (.region false [oM 13 5,
   oM 14 6,
   oB 15 .lss 13 14,
   oM 12 15])
  (.cond (.t 12) (.seq (.region false [o1 4 (.mov (.c (.int .i64 (-1))))])
  (.ret))
  (.seq (.region false [oM 17 5,
   oM 18 6,
   oB 19 .gtr 17 18,
   oM 16 19])
  (.cond (.t 16) (.seq (.region false [o1 4 (.mov (.c (.int .i64 1)))])
  (.ret))
  (.skip))))))
  (.seq (.region true [o1 20 (.adr 2 2 1),
   o1 21 (.ld 20 2 1 true),
   oC 22 67 [21],
   o1 23 (.adr 3 3 1),
   o1 24 (.ld 23 3 1 true),
   oC 25 67 [24],
   oC 26 66 [22, 25],
   oM 7 26])
  (.seq (.seq (.region false [oM 27 5,
   o1 28 (.bin .lss (.t 27) (.c (.int .i64 0)))])
  (.cond (.t 28) (.seq (.region false [oM 29 7,
   o1 30 (.un .neg (.t 29)),
   oM 4 30])
  (.ret))
  (.skip)))
  (.seq (.region false [oM 31 7,
   oM 4 31])
  (.ret))))))⟩
def Tryz.r36 : List (Nat × Nat) := [(20, 2), (23, 3)]
theorem Tryz.i36_ok : fnOk Tryz.prog Tryz.r36 Tryz.f36 Tryz.i36 = true := by kernel_rfl

/- pinball/pinballref01.Times -/
def Tryz.i37 : IFunc := ⟨2, 18, [.cell 4 2 false],
  .seq (.region false [o1 2 (.box (.t 0) [5, 10]),
   o1 3 (.box (.t 1) [7, 13]),
   o1 4 (.new [.bool false, .sl 0 []] [])])
  (.seq (.region true [o1 5 (.adr 2 2 0),
   o1 6 (.ld 5 2 1 true),
   o1 7 (.adr 3 3 0),
   o1 8 (.ld 7 3 1 true),
   o1 9 (.eqb true (.t 6) (.t 8)),
   o1 10 (.adr 2 2 1),
   o1 11 (.ld 10 2 1 true),
   oC 12 67 [11],
   o1 13 (.adr 3 3 1),
   o1 14 (.ld 13 3 1 true),
   oC 15 67 [14],
   oC 16 68 [12, 15],
   oC 17 65 [9, 16],
   oN (.st 4 4 2 (.t 17))])
  (.ret))⟩
def Tryz.r37 : List (Nat × Nat) := [(5, 2), (7, 3), (10, 2), (13, 3)]
theorem Tryz.i37_ok : fnOk Tryz.prog Tryz.r37 Tryz.f37 Tryz.i37 = true := by kernel_rfl

/- pinball/vector.Halve -/
def Tryz.i38 : IFunc := ⟨1, 27, [.cell 2 2 false],
  .seq (.region false [o1 1 (.box (.t 0) [7, 9, 12, 14, 19, 22]),
   o1 2 (.new [.int .i64 0, .int .i64 0] [])])
  (.seq (.seq (.region false [o1 3 (.ld 1 1 2 false),
   oC 4 57 [3],
   o1 5 (.un .not (.t 4))])
  (.cond (.t 5) (.seq (.region false [o1 6 (.bld [.int .i64 0, .int .i64 0] []),
   oN (.st 2 2 2 (.t 6))])
  (.ret))
  (.skip)))
  (.seq (.block 0 (.loop (.seq (.seq (.region false [o1 7 (.adr 1 1 0),
   o1 8 (.ld 7 1 1 true),
   o1 9 (.adr 1 1 0),
   o1 10 (.ld 9 1 1 true),
   o1 11 (.un .neg (.t 10)),
   o1 12 (.adr 1 1 1),
   o1 13 (.ld 12 1 1 true),
   o1 14 (.adr 1 1 1),
   o1 15 (.ld 14 1 1 true),
   o1 16 (.un .neg (.t 15)),
   o1 17 (.mx [.t 8, .t 11, .t 13, .t 16]),
   o1 18 (.bin .gtr (.t 17) (.c (.int .i64 2097152)))])
  (.cond (.t 18) (.skip)
  (.exit 0)))
  (.block 1 (.region false [o1 19 (.adr 1 1 0),
   o1 20 (.ld 19 1 1 true),
   o1 21 (.bin .quo (.t 20) (.c (.int .i64 2))),
   o1 22 (.adr 1 1 1),
   o1 23 (.ld 22 1 1 true),
   o1 24 (.bin .quo (.t 23) (.c (.int .i64 2))),
   o1 25 (.bld [.int .i64 0, .int .i64 0] [(0, 1, .t 21), (1, 1, .t 24)]),
   oN (.st 1 1 2 (.t 25))])))))
  (.seq (.region false [o1 26 (.ld 1 1 2 false),
   oN (.st 2 2 2 (.t 26))])
  (.ret))))⟩
def Tryz.r38 : List (Nat × Nat) := [(7, 1), (9, 1), (12, 1), (14, 1), (19, 1), (22, 1)]
theorem Tryz.i38_ok : fnOk Tryz.prog Tryz.r38 Tryz.f38 Tryz.i38 = true := by kernel_rfl

/- pinball/vector.Scale -/
def Tryz.i39 : IFunc := ⟨2, 32, [.cell 4 2 false],
  .seq (.region false [o1 2 (.box (.t 0) [22, 26]),
   o1 4 (.new [.int .i64 0, .int .i64 0] [])])
  (.seq (.seq (.region false [o1 5 (.ld 2 2 2 false),
   oC 6 57 [5],
   o1 7 (.un .not (.t 6)),
   oM 8 7,
   oG 9 (.ld 2 2 2 false) 8 false,
   oG 10 (.bld [.int .i64 0, .int .i64 0] []) 8 false,
   oG 11 (.eqv false 2 (.t 9) (.t 10)) 8 false,
   o1 12 (.pick (.t 8) (.c (.bool true)) (.t 11)),
   oM 13 12,
   oG 14 (.mov (.t 1)) 13 false,
   oG 15 (.bin .lss (.t 14) (.c (.int .i64 (-1073741824)))) 13 false,
   o1 16 (.pick (.t 13) (.c (.bool true)) (.t 15)),
   oM 17 16,
   oG 18 (.mov (.t 1)) 17 false,
   oG 19 (.bin .gtr (.t 18) (.c (.int .i64 1073741824))) 17 false,
   o1 20 (.pick (.t 17) (.c (.bool true)) (.t 19))])
  (.cond (.t 20) (.seq (.region false [o1 21 (.bld [.int .i64 0, .int .i64 0] []),
   oN (.st 4 4 2 (.t 21))])
  (.ret))
  (.skip)))
  (.seq (.region false [o1 22 (.adr 2 2 0),
   o1 23 (.ld 22 2 1 true),
   oM 24 1,
   oB 25 .mul 23 24,
   o1 26 (.adr 2 2 1),
   o1 27 (.ld 26 2 1 true),
   oM 28 1,
   oB 29 .mul 27 28,
   o1 30 (.bld [.int .i64 0, .int .i64 0] [(0, 1, .t 25), (1, 1, .t 29)]),
   oC 31 61 [30],
   oN (.st 4 4 2 (.t 31))])
  (.ret)))⟩
def Tryz.r39 : List (Nat × Nat) := [(22, 2), (26, 2)]
theorem Tryz.i39_ok : fnOk Tryz.prog Tryz.r39 Tryz.f39 Tryz.i39 = true := by kernel_rfl

/- pinball/pinballref06.Halve -/
def Tryz.i40 : IFunc := ⟨1, 31, [.cell 2 2 false],
  .seq (.region false [o1 1 (.box (.t 0) [7, 9, 15, 17, 23, 26]),
   o1 2 (.new [.int .i64 0, .int .i64 0] [])])
  (.seq (.seq (.region false [o1 3 (.ld 1 1 2 false),
   oC 4 62 [3],
   o1 5 (.un .not (.t 4))])
  (.cond (.t 5) (.seq (.region false [o1 6 (.bld [.int .i64 0, .int .i64 0] []),
   oN (.st 2 2 2 (.t 6))])
  (.ret))
  (.skip)))
  (.seq (.block 0 (.loop (.seq (.seq (.region false [o1 7 (.adr 1 1 0),
   o1 8 (.ld 7 1 1 true),
   o1 9 (.adr 1 1 0),
   o1 10 (.ld 9 1 1 true),
   o1 11 (.un .neg (.t 10)),
   o1 12 (.mx [.t 8, .t 11]),
   o1 13 (.bin .gtr (.t 12) (.c (.int .i64 2097152))),
   oM 14 13,
   oG 15 (.adr 1 1 1) 14 false,
   oG 16 (.ld 15 1 1 true) 14 false,
   oG 17 (.adr 1 1 1) 14 false,
   oG 18 (.ld 17 1 1 true) 14 false,
   oG 19 (.un .neg (.t 18)) 14 false,
   oG 20 (.mx [.t 16, .t 19]) 14 false,
   oG 21 (.bin .gtr (.t 20) (.c (.int .i64 2097152))) 14 false,
   o1 22 (.pick (.t 14) (.c (.bool true)) (.t 21))])
  (.cond (.t 22) (.skip)
  (.exit 0)))
  (.block 1 (.region false [o1 23 (.adr 1 1 0),
   o1 24 (.ld 23 1 1 true),
   o1 25 (.bin .quo (.t 24) (.c (.int .i64 2))),
   o1 26 (.adr 1 1 1),
   o1 27 (.ld 26 1 1 true),
   o1 28 (.bin .quo (.t 27) (.c (.int .i64 2))),
   o1 29 (.bld [.int .i64 0, .int .i64 0] [(0, 1, .t 25), (1, 1, .t 28)]),
   oN (.st 1 1 2 (.t 29))])))))
  (.seq (.region false [o1 30 (.ld 1 1 2 false),
   oN (.st 2 2 2 (.t 30))])
  (.ret))))⟩
def Tryz.r40 : List (Nat × Nat) := [(7, 1), (9, 1), (15, 1), (17, 1), (23, 1), (26, 1)]
theorem Tryz.i40_ok : fnOk Tryz.prog Tryz.r40 Tryz.f40 Tryz.i40 = true := by kernel_rfl

/- pinball/pinballref06.Scale -/
def Tryz.i41 : IFunc := ⟨2, 32, [.cell 4 2 false],
  .seq (.region false [o1 2 (.box (.t 0) [22, 26]),
   o1 4 (.new [.int .i64 0, .int .i64 0] [])])
  (.seq (.seq (.region false [o1 5 (.ld 2 2 2 false),
   oC 6 62 [5],
   o1 7 (.un .not (.t 6)),
   oM 8 7,
   oG 9 (.ld 2 2 2 false) 8 false,
   oG 10 (.bld [.int .i64 0, .int .i64 0] []) 8 false,
   oG 11 (.eqv false 2 (.t 9) (.t 10)) 8 false,
   o1 12 (.pick (.t 8) (.c (.bool true)) (.t 11)),
   oM 13 12,
   oG 14 (.mov (.t 1)) 13 false,
   oG 15 (.bin .gtr (.t 14) (.c (.int .i64 2147483648))) 13 false,
   o1 16 (.pick (.t 13) (.c (.bool true)) (.t 15)),
   oM 17 16,
   oG 18 (.mov (.t 1)) 17 false,
   oG 19 (.bin .lss (.t 18) (.c (.int .i64 (-2147483648)))) 17 false,
   o1 20 (.pick (.t 17) (.c (.bool true)) (.t 19))])
  (.cond (.t 20) (.seq (.region false [o1 21 (.bld [.int .i64 0, .int .i64 0] []),
   oN (.st 4 4 2 (.t 21))])
  (.ret))
  (.skip)))
  (.seq (.region false [o1 22 (.adr 2 2 0),
   o1 23 (.ld 22 2 1 true),
   oM 24 1,
   oB 25 .mul 23 24,
   o1 26 (.adr 2 2 1),
   o1 27 (.ld 26 2 1 true),
   oM 28 1,
   oB 29 .mul 27 28,
   o1 30 (.bld [.int .i64 0, .int .i64 0] [(0, 1, .t 25), (1, 1, .t 29)]),
   oC 31 63 [30],
   oN (.st 4 4 2 (.t 31))])
  (.ret)))⟩
def Tryz.r41 : List (Nat × Nat) := [(22, 2), (26, 2)]
theorem Tryz.i41_ok : fnOk Tryz.prog Tryz.r41 Tryz.f41 Tryz.i41 = true := by kernel_rfl

/- pinball/vector.Reduce -/
def Tryz.i42 : IFunc := ⟨1, 41, [.cell 2 2 false],
  .seq (.region false [o1 1 (.box (.t 0) [14, 16, 20, 22, 32, 36]),
   o1 2 (.new [.int .i64 0, .int .i64 0] [])])
  (.seq (.seq (.region false [o1 5 (.ld 1 1 2 false),
   oC 6 57 [5],
   o1 7 (.un .not (.t 6)),
   oM 8 7,
   oG 9 (.ld 1 1 2 false) 8 false,
   oG 10 (.bld [.int .i64 0, .int .i64 0] []) 8 false,
   oG 11 (.eqv false 2 (.t 9) (.t 10)) 8 false,
   o1 12 (.pick (.t 8) (.c (.bool true)) (.t 11))])
  (.cond (.t 12) (.seq (.region false [o1 13 (.bld [.int .i64 0, .int .i64 0] []),
   oN (.st 2 2 2 (.t 13))])
  (.ret))
  (.skip)))
  (.seq (.region true [o1 14 (.adr 1 1 0),
   o1 15 (.ld 14 1 1 true),
   o1 16 (.adr 1 1 0),
   o1 17 (.ld 16 1 1 true),
   o1 18 (.un .neg (.t 17)),
   o1 19 (.mx [.t 15, .t 18]),
   o1 20 (.adr 1 1 1),
   o1 21 (.ld 20 1 1 true),
   o1 22 (.adr 1 1 1),
   o1 23 (.ld 22 1 1 true),
   o1 24 (.un .neg (.t 23)),
   o1 25 (.mx [.t 21, .t 24]),
   oM 3 19,
   oM 4 25])
  (.seq (.block 0 (.loop (.seq (.seq (.region false [oM 26 4,
   o1 27 (.bin .gtr (.t 26) (.c (.int .i64 0)))])
  (.cond (.t 27) (.skip)
  (.exit 0)))
  (.block 1 (.region true [oM 28 4,
   oM 29 3,
   oM 30 4,
   oB 31 .rem 29 30,
   oM 3 28,
   oM 4 31])))))
  (.seq (.region true [o1 32 (.adr 1 1 0),
   o1 33 (.ld 32 1 1 true),
   oM 34 3,
   oB 35 .quo 33 34,
   o1 36 (.adr 1 1 1),
   o1 37 (.ld 36 1 1 true),
   oM 38 3,
   oB 39 .quo 37 38,
   o1 40 (.bld [.int .i64 0, .int .i64 0] [(0, 1, .t 35), (1, 1, .t 39)]),
   oN (.st 2 2 2 (.t 40))])
  (.ret)))))⟩
def Tryz.r42 : List (Nat × Nat) := [(14, 1), (16, 1), (20, 1), (22, 1), (32, 1), (36, 1)]
theorem Tryz.i42_ok : fnOk Tryz.prog Tryz.r42 Tryz.f42 Tryz.i42 = true := by kernel_rfl

/- pinball/vector.Perp -/
def Tryz.i43 : IFunc := ⟨1, 13, [.cell 2 2 false],
  .seq (.region false [o1 1 (.box (.t 0) [7, 10]),
   o1 2 (.new [.int .i64 0, .int .i64 0] [])])
  (.seq (.seq (.region false [o1 3 (.ld 1 1 2 false),
   oC 4 57 [3],
   o1 5 (.un .not (.t 4))])
  (.cond (.t 5) (.seq (.region false [o1 6 (.bld [.int .i64 0, .int .i64 0] []),
   oN (.st 2 2 2 (.t 6))])
  (.ret))
  (.skip)))
  (.seq (.region false [o1 7 (.adr 1 1 1),
   o1 8 (.ld 7 1 1 true),
   o1 9 (.un .neg (.t 8)),
   o1 10 (.adr 1 1 0),
   o1 11 (.ld 10 1 1 true),
   o1 12 (.bld [.int .i64 0, .int .i64 0] [(0, 1, .t 9), (1, 1, .t 11)]),
   oN (.st 2 2 2 (.t 12))])
  (.ret)))⟩
def Tryz.r43 : List (Nat × Nat) := [(7, 1), (10, 1)]
theorem Tryz.i43_ok : fnOk Tryz.prog Tryz.r43 Tryz.f43 Tryz.i43 = true := by kernel_rfl

/- pinball/pinballref06.Perp -/
def Tryz.i44 : IFunc := ⟨1, 13, [.cell 2 2 false],
  .seq (.region false [o1 1 (.box (.t 0) [7, 10]),
   o1 2 (.new [.int .i64 0, .int .i64 0] [])])
  (.seq (.seq (.region false [o1 3 (.ld 1 1 2 false),
   oC 4 62 [3],
   o1 5 (.un .not (.t 4))])
  (.cond (.t 5) (.seq (.region false [o1 6 (.bld [.int .i64 0, .int .i64 0] []),
   oN (.st 2 2 2 (.t 6))])
  (.ret))
  (.skip)))
  (.seq (.region false [o1 7 (.adr 1 1 1),
   o1 8 (.ld 7 1 1 true),
   o1 9 (.un .neg (.t 8)),
   o1 10 (.adr 1 1 0),
   o1 11 (.ld 10 1 1 true),
   o1 12 (.bld [.int .i64 0, .int .i64 0] [(0, 1, .t 9), (1, 1, .t 11)]),
   oN (.st 2 2 2 (.t 12))])
  (.ret)))⟩
def Tryz.r44 : List (Nat × Nat) := [(7, 1), (10, 1)]
theorem Tryz.i44_ok : fnOk Tryz.prog Tryz.r44 Tryz.f44 Tryz.i44 = true := by kernel_rfl

/- pinball/pinballref06.Reduce -/
def Tryz.i45 : IFunc := ⟨1, 41, [.cell 2 2 false],
  .seq (.region false [o1 1 (.box (.t 0) [14, 16, 20, 22, 32, 36]),
   o1 2 (.new [.int .i64 0, .int .i64 0] [])])
  (.seq (.seq (.region false [o1 5 (.ld 1 1 2 false),
   oC 6 62 [5],
   o1 7 (.un .not (.t 6)),
   oM 8 7,
   oG 9 (.ld 1 1 2 false) 8 false,
   oG 10 (.bld [.int .i64 0, .int .i64 0] []) 8 false,
   oG 11 (.eqv false 2 (.t 9) (.t 10)) 8 false,
   o1 12 (.pick (.t 8) (.c (.bool true)) (.t 11))])
  (.cond (.t 12) (.seq (.region false [o1 13 (.bld [.int .i64 0, .int .i64 0] []),
   oN (.st 2 2 2 (.t 13))])
  (.ret))
  (.skip)))
  (.seq (.region true [o1 14 (.adr 1 1 0),
   o1 15 (.ld 14 1 1 true),
   o1 16 (.adr 1 1 0),
   o1 17 (.ld 16 1 1 true),
   o1 18 (.un .neg (.t 17)),
   o1 19 (.mx [.t 15, .t 18]),
   o1 20 (.adr 1 1 1),
   o1 21 (.ld 20 1 1 true),
   o1 22 (.adr 1 1 1),
   o1 23 (.ld 22 1 1 true),
   o1 24 (.un .neg (.t 23)),
   o1 25 (.mx [.t 21, .t 24]),
   oM 3 19,
   oM 4 25])
  (.seq (.block 0 (.loop (.seq (.seq (.region false [oM 26 4,
   o1 27 (.bin .gtr (.t 26) (.c (.int .i64 0)))])
  (.cond (.t 27) (.skip)
  (.exit 0)))
  (.block 1 (.region true [oM 28 4,
   oM 29 3,
   oM 30 4,
   oB 31 .rem 29 30,
   oM 3 28,
   oM 4 31])))))
  (.seq (.region true [o1 32 (.adr 1 1 0),
   o1 33 (.ld 32 1 1 true),
   oM 34 3,
   oB 35 .quo 33 34,
   o1 36 (.adr 1 1 1),
   o1 37 (.ld 36 1 1 true),
   oM 38 3,
   oB 39 .quo 37 38,
   o1 40 (.bld [.int .i64 0, .int .i64 0] [(0, 1, .t 35), (1, 1, .t 39)]),
   oN (.st 2 2 2 (.t 40))])
  (.ret)))))⟩
def Tryz.r45 : List (Nat × Nat) := [(14, 1), (16, 1), (20, 1), (22, 1), (32, 1), (36, 1)]
theorem Tryz.i45_ok : fnOk Tryz.prog Tryz.r45 Tryz.f45 Tryz.i45 = true := by kernel_rfl

/- pinball/pinballref10.near -/
def Tryz.i46 : IFunc := ⟨2, 29, [.tmp 4],
  .seq (.region false [o1 2 (.box (.t 0) [5, 11, 17, 24]),
   o1 4 (.mov (.c (.bool false)))])
  (.seq (.region false [o1 5 (.adr 2 2 0),
   o1 6 (.ld 5 2 1 true),
   oM 7 1,
   o1 8 (.un .neg (.t 7)),
   oB 9 .geq 6 8,
   oM 10 9,
   oG 11 (.adr 2 2 0) 10 true,
   oG 12 (.ld 11 2 1 true) 10 true,
   oG 13 (.mov (.t 1)) 10 true,
   oG 14 (.bin .leq (.t 12) (.t 13)) 10 true,
   o1 15 (.pick (.t 10) (.t 14) (.c (.bool false))),
   oM 16 15,
   oG 17 (.adr 2 2 1) 16 true,
   oG 18 (.ld 17 2 1 true) 16 true,
   oG 19 (.mov (.t 1)) 16 true,
   oG 20 (.un .neg (.t 19)) 16 true,
   oG 21 (.bin .geq (.t 18) (.t 20)) 16 true,
   o1 22 (.pick (.t 16) (.t 21) (.c (.bool false))),
   oM 23 22,
   oG 24 (.adr 2 2 1) 23 true,
   oG 25 (.ld 24 2 1 true) 23 true,
   oG 26 (.mov (.t 1)) 23 true,
   oG 27 (.bin .leq (.t 25) (.t 26)) 23 true,
   o1 28 (.pick (.t 23) (.t 27) (.c (.bool false))),
   oM 4 28])
  (.ret))⟩
def Tryz.r46 : List (Nat × Nat) := [(5, 2), (11, 2), (17, 2), (24, 2)]
theorem Tryz.i46_ok : fnOk Tryz.prog Tryz.r46 Tryz.f46 Tryz.i46 = true := by kernel_rfl

/- pinball/wall.relative -/
def Tryz.i47 : IFunc := ⟨2, 23, [.tmp 4, .tmp 5],
  .seq (.region false [o1 2 (.box (.t 0) []),
   o1 3 (.box (.t 1) [12, 18]),
   o1 4 (.nlo 2),
   o1 5 (.nlo 2)])
  (.seq (.region false [o1 7 (.ld 2 2 6 false),
   oC 8 69 [7],
   oM 6 8,
   o1 9 (.ext (.t 6) 0),
   o1 10 (.ext (.t 6) 1),
   o1 4 (.tra 9),
   o1 5 (.tra 10)])
  (.seq (.region true [o1 11 (.frz 4),
   o1 12 (.adr 3 3 0),
   o1 13 (.ld 12 3 1 true),
   o1 14 (.bls 1 [.int .i64 0] [(0, 1, .t 13)]),
   oC 15 50 [14],
   o1 16 (.clo 51 [.t 11, .t 15]),
   o1 17 (.frz 5),
   o1 18 (.adr 3 3 1),
   o1 19 (.ld 18 3 1 true),
   o1 20 (.bls 1 [.int .i64 0] [(0, 1, .t 19)]),
   oC 21 50 [20],
   o1 22 (.clo 51 [.t 17, .t 21]),
   o1 4 (.tra 16),
   o1 5 (.tra 22)])
  (.ret)))⟩
def Tryz.r47 : List (Nat × Nat) := [(12, 3), (18, 3)]
theorem Tryz.i47_ok : fnOk Tryz.prog Tryz.r47 Tryz.f47 Tryz.i47 = true := by kernel_rfl

/- pinball/wall.linear -/
def Tryz.i48 : IFunc := ⟨4, 20, [.tmp 8],
  .seq (.region false [o1 8 (.nlo 2)])
  (.seq (.region false [oM 9 0,
   o1 10 (.bls 1 [.int .i64 0] [(0, 1, .t 9)]),
   oC 11 50 [10],
   oM 12 1,
   oC 13 49 [11, 12],
   oM 14 2,
   o1 15 (.bls 1 [.int .i64 0] [(0, 1, .t 14)]),
   oC 16 50 [15],
   oM 17 3,
   oC 18 49 [16, 17],
   o1 19 (.clo 70 [.t 13, .t 18]),
   o1 8 (.tra 19)])
  (.ret))⟩
def Tryz.r48 : List (Nat × Nat) := []
theorem Tryz.i48_ok : fnOk Tryz.prog Tryz.r48 Tryz.f48 Tryz.i48 = true := by kernel_rfl

/- pinball/algebra.Times -/
def Tryz.i49 : IFunc := ⟨2, 60, [.tmp 4],
  .seq (.region false [o1 4 (.nlo 2)])
  (.seq (.region false [oM 10 0,
   oC 11 71 [10],
   o1 12 (.bin .add (.t 11) (.c (.int .i64 1))),
   oM 13 1,
   oC 14 71 [13],
   o1 15 (.bin .add (.t 14) (.c (.int .i64 1))),
   oM 5 12,
   oM 6 15])
  (.seq (.seq (.region false [oM 16 5,
   o1 17 (.bin .eql (.t 16) (.c (.int .i64 0))),
   oM 18 17,
   oG 19 (.mov (.t 6)) 18 false,
   oG 20 (.bin .eql (.t 19) (.c (.int .i64 0))) 18 false,
   o1 21 (.pick (.t 18) (.c (.bool true)) (.t 20))])
  (.cond (.t 21) (.seq (.region false [o1 4 (.nlo 2)])
  (.ret))
  (.skip)))
  (.seq (.region false [oM 22 5,
   oM 23 6,
   oB 24 .add 22 23,
   o1 25 (.bin .sub (.t 24) (.c (.int .i64 1))),
   o1 26 (.mks [.bool false, .sl 0 []] (.t 25)),
   ⟨some 7, .tra 26, none, [37, 41, 45, 57]⟩])
  (.seq (.seq (.region false [o1 8 (.mov (.c (.int .i64 0)))])
  (.block 0 (.loop (.seq (.seq (.region false [oM 27 8,
   oM 28 5,
   oB 29 .lss 27 28])
  (.cond (.t 29) (.skip)
  (.exit 0)))
  (.seq (.block 1 (.seq (.region false [o1 9 (.mov (.c (.int .i64 0)))])
  (.block 2 (.loop (.seq (.seq (.region false [oM 32 9,
   oM 33 6,
   oB 34 .lss 32 33])
  (.cond (.t 34) (.skip)
  (.exit 2)))
  (.seq (.block 3 (.region true [o1 37 (.cpy 7),
   oM 38 8,
   oM 39 9,
   oB 40 .add 38 39,
   o1 41 (.cpy 7),
   oM 42 8,
   oM 43 9,
   oB 44 .add 42 43,
   o1 45 (.ixo 41 7 (.t 44) 2),
   o1 46 (.ld 45 7 2 false),
   oM 47 0,
   oM 48 8,
   o1 49 (.ixa 47 (.t 48) 2),
   o1 50 (.ld 49 49 2 false),
   oM 51 1,
   oM 52 9,
   o1 53 (.ixa 51 (.t 52) 2),
   o1 54 (.ld 53 53 2 false),
   oC 55 73 [50, 54],
   oC 56 72 [46, 55],
   o1 57 (.ixo 37 7 (.t 40) 2),
   oN (.st 57 7 2 (.t 56))]))
  (.region false [oM 35 9,
   o1 36 (.bin .add (.t 35) (.c (.int .i64 1))),
   oM 9 36])))))))
  (.region false [oM 30 8,
   o1 31 (.bin .add (.t 30) (.c (.int .i64 1))),
   oM 8 31]))))))
  (.seq (.region false [o1 58 (.frz 7),
   o1 59 (.clo 74 [.t 58]),
   o1 4 (.tra 59)])
  (.ret))))))⟩
def Tryz.r49 : List (Nat × Nat) := [(37, 7), (41, 7), (45, 7), (57, 7)]
theorem Tryz.i49_ok : fnOk Tryz.prog Tryz.r49 Tryz.f49 Tryz.i49 = true := by kernel_rfl

/- pinball/algebra.Ints -/
def Tryz.i50 : IFunc := ⟨1, 24, [.tmp 2],
  .seq (.region false [o1 2 (.nlo 2)])
  (.seq (.region false [oM 6 0,
   o1 7 (.len (.t 6)),
   o1 8 (.mks [.bool false, .sl 0 []] (.t 7)),
   ⟨some 3, .tra 8, none, [16, 20]⟩])
  (.seq (.seq (.region false [oM 9 0,
   o1 10 (.len (.t 9)),
   o1 11 (.mov (.c (.int .i64 0)))])
  (.block 0 (.loop (.seq (.region false [oB 12 .lss 11 10])
  (.seq (.cond (.t 12) (.skip)
  (.exit 0))
  (.seq (.block 1 (.seq (.region false [oM 13 11,
   o1 14 (.ixa 9 (.t 11) 1),
   o1 15 (.ld 14 14 1 true),
   oM 4 13,
   oM 5 15])
  (.region false [o1 16 (.cpy 3),
   oM 17 4,
   oM 18 5,
   oC 19 75 [18],
   o1 20 (.ixo 16 3 (.t 17) 2),
   oN (.st 20 3 2 (.t 19))])))
  (.region false [o1 21 (.bin .add (.t 11) (.c (.int .i64 1))),
   oM 11 21])))))))
  (.seq (.region false [o1 22 (.frz 3),
   o1 23 (.clo 74 [.t 22]),
   o1 2 (.tra 23)])
  (.ret))))⟩
def Tryz.r50 : List (Nat × Nat) := [(16, 3), (20, 3)]
theorem Tryz.i50_ok : fnOk Tryz.prog Tryz.r50 Tryz.f50 Tryz.i50 = true := by kernel_rfl

/- pinball/algebra.Minus -/
def Tryz.i51 : IFunc := ⟨2, 10, [.tmp 4],
  .seq (.region false [o1 4 (.nlo 2)])
  (.seq (.region false [oM 5 0,
   oM 6 1,
   oC 7 74 [6],
   oC 8 76 [7],
   o1 9 (.clo 70 [.t 5, .t 8]),
   o1 4 (.tra 9)])
  (.ret))⟩
def Tryz.r51 : List (Nat × Nat) := []
theorem Tryz.i51_ok : fnOk Tryz.prog Tryz.r51 Tryz.f51 Tryz.i51 = true := by kernel_rfl

/- pinball/wall.disc -/
def Tryz.i52 : IFunc := ⟨3, 19, [.tmp 6],
  .seq (.region false [o1 3 (.box (.t 0) []),
   o1 4 (.box (.t 1) []),
   o1 6 (.nlo 2)])
  (.seq (.region true [oM 7 2,
   oM 8 2,
   oB 9 .mul 7 8,
   o1 10 (.bls 1 [.int .i64 0] [(0, 1, .t 9)]),
   oC 11 50 [10],
   o1 12 (.ld 3 3 6 false),
   o1 13 (.ld 4 4 2 false),
   oC 14 47 [12, 13],
   o1 15 (.ext (.t 14) 0),
   o1 16 (.ext (.t 14) 1),
   oC 17 77 [15, 16],
   o1 18 (.clo 51 [.t 11, .t 17]),
   o1 6 (.tra 18)])
  (.ret))⟩
def Tryz.r52 : List (Nat × Nat) := []
theorem Tryz.i52_ok : fnOk Tryz.prog Tryz.r52 Tryz.f52 Tryz.i52 = true := by kernel_rfl

/- pinball/flight.Valid -/
def Tryz.i53 : IFunc := ⟨1, 16, [.tmp 2],
  .seq (.region false [o1 1 (.box (.t 0) [3, 7, 12]),
   o1 2 (.mov (.c (.bool false)))])
  (.seq (.region false [o1 3 (.adr 1 1 0),
   o1 4 (.ld 3 1 2 false),
   o1 5 (.call 78 [.t 4, .c (.int .i64 8388608)]),
   oM 6 5,
   oG 7 (.adr 1 1 2) 6 true,
   oG 8 (.ld 7 1 2 false) 6 true,
   oG 9 (.call 78 [.t 8, .c (.int .i64 262144)]) 6 true,
   o1 10 (.pick (.t 6) (.t 9) (.c (.bool false))),
   oM 11 10,
   oG 12 (.adr 1 1 4) 11 true,
   oG 13 (.ld 12 1 2 false) 11 true,
   oG 14 (.call 78 [.t 13, .c (.int .i64 4096)]) 11 true,
   o1 15 (.pick (.t 11) (.t 14) (.c (.bool false))),
   oM 2 15])
  (.ret))⟩
def Tryz.r53 : List (Nat × Nat) := [(3, 1), (7, 1), (12, 1)]
theorem Tryz.i53_ok : fnOk Tryz.prog Tryz.r53 Tryz.f53 Tryz.i53 = true := by kernel_rfl

/- pinball/pinballref02.Trim -/
def Tryz.i54 : IFunc := ⟨1, 35, [.tmp 2],
  .seq (.region false [o1 2 (.nlo 2)])
  (.seq (.region false [oM 6 0,
   o1 7 (.len (.t 6)),
   oM 3 7])
  (.seq (.block 0 (.loop (.seq (.seq (.region false [oM 8 3,
   o1 9 (.bin .gtr (.t 8) (.c (.int .i64 0))),
   oM 10 9,
   oG 11 (.mov (.t 0)) 10 true,
   oG 12 (.mov (.t 3)) 10 true,
   oG 13 (.bin .sub (.t 12) (.c (.int .i64 1))) 10 true,
   oG 14 (.ixa 11 (.t 13) 2) 10 true,
   oG 15 (.ld 14 14 2 false) 10 true,
   oG 16 (.call 55 [.t 15]) 10 true,
   oG 17 (.bin .eql (.t 16) (.c (.int .i64 0))) 10 true,
   o1 18 (.pick (.t 10) (.t 17) (.c (.bool false)))])
  (.cond (.t 18) (.skip)
  (.exit 0)))
  (.block 1 (.region false [oM 19 3,
   o1 20 (.bin .sub (.t 19) (.c (.int .i64 1))),
   oM 3 20])))))
  (.seq (.region false [o1 4 (.nlo 2)])
  (.seq (.seq (.region false [o1 5 (.mov (.c (.int .i64 0)))])
  (.block 2 (.loop (.seq (.seq (.region false [oM 21 5,
   oM 22 3,
   oB 23 .lss 21 22])
  (.cond (.t 23) (.skip)
  (.exit 2)))
  (.seq (.block 3 (.region false [o1 26 (.tra 4),
   oM 27 0,
   oM 28 5,
   o1 29 (.ixa 27 (.t 28) 2),
   o1 30 (.ld 29 29 2 false),
   oC 31 79 [30],
   o1 32 (.bls 1 [.bool false, .sl 0 []] [(0, 2, .t 31)]),
   o1 33 (.apd true (.t 26) (.t 32) 2),
   o1 4 (.tra 33)]))
  (.region false [oM 24 5,
   o1 25 (.bin .add (.t 24) (.c (.int .i64 1))),
   oM 5 25]))))))
  (.seq (.region false [o1 34 (.tra 4),
   o1 2 (.tra 34)])
  (.ret))))))⟩
def Tryz.r54 : List (Nat × Nat) := []
theorem Tryz.i54_ok : fnOk Tryz.prog Tryz.r54 Tryz.f54 Tryz.i54 = true := by kernel_rfl

/- pinball/pinballref01.Sign -/
def Tryz.i55 : IFunc := ⟨1, 12, [.tmp 2],
  .seq (.region false [o1 1 (.box (.t 0) [4, 10]),
   o1 2 (.mov (.c (.int .i64 0)))])
  (.seq (.block 0 (.seq (.region false [o1 4 (.adr 1 1 1),
   o1 5 (.ld 4 1 1 true),
   oC 6 67 [5],
   o1 7 (.len (.t 6)),
   o1 8 (.bin .eql (.t 7) (.c (.int .i64 0))),
   oM 3 8])
  (.cond (.t 3) (.seq (.region false [o1 2 (.mov (.c (.int .i64 0)))])
  (.ret))
  (.seq (.region false [o1 10 (.adr 1 1 0),
   o1 11 (.ld 10 1 1 true),
   oM 9 11])
  (.cond (.t 9) (.seq (.region false [o1 2 (.mov (.c (.int .i64 (-1))))])
  (.ret))
  (.skip))))))
  (.seq (.region false [o1 2 (.mov (.c (.int .i64 1)))])
  (.ret)))⟩
def Tryz.r55 : List (Nat × Nat) := [(4, 1), (10, 1)]
theorem Tryz.i55_ok : fnOk Tryz.prog Tryz.r55 Tryz.f55 Tryz.i55 = true := by kernel_rfl

/- pinball/pinballref02.Value -/
def Tryz.i56 : IFunc := ⟨3, 37, [.cell 6 2 false],
  .seq (.region false [o1 4 (.box (.t 1) []),
   o1 6 (.new [.bool false, .sl 0 []] [])])
  (.seq (.region false [oM 10 0,
   oC 11 54 [10],
   oM 7 11])
  (.seq (.region false [o1 12 (.bld [.bool false, .sl 0 []] []),
   o1 8 (.new [.bool false, .sl 0 []] []),
   oN (.st 8 8 2 (.t 12))])
  (.seq (.seq (.region false [oM 13 7,
   o1 14 (.len (.t 13)),
   o1 15 (.bin .sub (.t 14) (.c (.int .i64 1))),
   oM 9 15])
  (.block 0 (.loop (.seq (.seq (.region false [oM 16 9,
   o1 17 (.bin .geq (.t 16) (.c (.int .i64 0)))])
  (.cond (.t 17) (.skip)
  (.exit 0)))
  (.seq (.block 1 (.region true [o1 20 (.ld 8 8 2 false),
   o1 21 (.ld 4 4 2 false),
   oC 22 37 [20, 21],
   oM 23 7,
   oM 24 9,
   o1 25 (.ixa 23 (.t 24) 2),
   o1 26 (.ld 25 25 2 false),
   oM 27 2,
   oM 28 7,
   o1 29 (.len (.t 28)),
   o1 30 (.bin .sub (.t 29) (.c (.int .i64 1))),
   oM 31 9,
   oB 32 .sub 30 31,
   oB 33 .mul 27 32,
   oC 34 81 [26, 33],
   oC 35 80 [22, 34],
   oN (.st 8 8 2 (.t 35))]))
  (.region false [oM 18 9,
   o1 19 (.bin .sub (.t 18) (.c (.int .i64 1))),
   oM 9 19]))))))
  (.seq (.region false [o1 36 (.ld 8 8 2 false),
   oN (.st 6 6 2 (.t 36))])
  (.ret)))))⟩
def Tryz.r56 : List (Nat × Nat) := []
theorem Tryz.i56_ok : fnOk Tryz.prog Tryz.r56 Tryz.f56 Tryz.i56 = true := by kernel_rfl

/- pinball/vector.Small -/
def Tryz.i57 : IFunc := ⟨1, 21, [.tmp 2],
  .seq (.region false [o1 1 (.box (.t 0) [3, 7, 12, 17]),
   o1 2 (.mov (.c (.bool false)))])
  (.seq (.region false [o1 3 (.adr 1 1 0),
   o1 4 (.ld 3 1 1 true),
   o1 5 (.bin .geq (.t 4) (.c (.int .i64 (-1073741824)))),
   oM 6 5,
   oG 7 (.adr 1 1 0) 6 true,
   oG 8 (.ld 7 1 1 true) 6 true,
   oG 9 (.bin .leq (.t 8) (.c (.int .i64 1073741824))) 6 true,
   o1 10 (.pick (.t 6) (.t 9) (.c (.bool false))),
   oM 11 10,
   oG 12 (.adr 1 1 1) 11 true,
   oG 13 (.ld 12 1 1 true) 11 true,
   oG 14 (.bin .geq (.t 13) (.c (.int .i64 (-1073741824)))) 11 true,
   o1 15 (.pick (.t 11) (.t 14) (.c (.bool false))),
   oM 16 15,
   oG 17 (.adr 1 1 1) 16 true,
   oG 18 (.ld 17 1 1 true) 16 true,
   oG 19 (.bin .leq (.t 18) (.c (.int .i64 1073741824))) 16 true,
   o1 20 (.pick (.t 16) (.t 19) (.c (.bool false))),
   oM 2 20])
  (.ret))⟩
def Tryz.r57 : List (Nat × Nat) := [(3, 1), (7, 1), (12, 1), (17, 1)]
theorem Tryz.i57_ok : fnOk Tryz.prog Tryz.r57 Tryz.f57 Tryz.i57 = true := by kernel_rfl

/- pinball/pinballref05.Entry -/
def Tryz.i58 : IFunc := ⟨1, 46, [.cell 2 7 false, .tmp 3],
  .seq (.region false [o1 2 (.new [.sl 0 [], .bool false, .sl 0 [], .int .i64 0, .bool false, .sl 0 [], .int .i64 0] []),
   o1 3 (.mov (.c (.bool false)))])
  (.seq (.region false [o1 4 (.nlo 1)])
  (.seq (.region false [o1 5 (.nlo 1)])
  (.seq (.seq (.region false [o1 6 (.mov (.c (.int .i64 0)))])
  (.block 0 (.loop (.seq (.seq (.region false [oM 9 6,
   oM 10 0,
   o1 11 (.len (.t 10)),
   oB 12 .lss 9 11])
  (.cond (.t 12) (.skip)
  (.exit 0)))
  (.seq (.block 1 (.seq (.region false [o1 15 (.tra 5),
   oM 16 0,
   oM 17 6,
   o1 18 (.ixa 16 (.t 17) 1),
   o1 19 (.ld 18 18 1 true),
   oC 20 54 [19],
   o1 21 (.bls 1 [.sl 0 []] [(0, 1, .t 20)]),
   o1 22 (.apd true (.t 15) (.t 21) 1),
   o1 5 (.tra 22)])
  (.region false [o1 23 (.tra 4),
   oM 24 0,
   oM 25 6,
   o1 26 (.ixa 24 (.t 25) 1),
   o1 27 (.ld 26 26 1 true),
   oC 28 82 [27],
   o1 29 (.bls 1 [.sl 0 []] [(0, 1, .t 28)]),
   o1 30 (.apd true (.t 23) (.t 29) 1),
   o1 4 (.tra 30)])))
  (.region false [oM 13 6,
   o1 14 (.bin .add (.t 13) (.c (.int .i64 1))),
   oM 6 14]))))))
  (.seq (.seq (.region false [o1 32 (.frz 5),
   o1 33 (.frz 4),
   o1 34 (.call 83 [.t 32, .t 33, .c (.int .i64 0), .c (.int .i64 0)]),
   oM 31 34,
   o1 35 (.ext (.t 31) 0),
   o1 36 (.ext (.t 31) 1),
   o1 7 (.new [.sl 0 [], .bool false, .sl 0 [], .int .i64 0, .bool false, .sl 0 [], .int .i64 0] []),
   oN (.st 7 7 7 (.t 35)),
   oM 8 36])
  (.seq (.region false [oM 37 8,
   o1 38 (.bin .neq (.t 37) (.c (.int .i64 2)))])
  (.cond (.t 38) (.seq (.region false [o1 39 (.ld 7 7 7 false),
   oM 40 8,
   o1 41 (.bin .eql (.t 40) (.c (.int .i64 1))),
   oN (.st 2 2 7 (.t 39)),
   oM 3 41])
  (.ret))
  (.skip))))
  (.seq (.region false [oM 42 0,
   oC 43 84 [42],
   o1 44 (.ext (.t 43) 0),
   o1 45 (.ext (.t 43) 1),
   oN (.st 2 2 7 (.t 44)),
   oM 3 45])
  (.ret))))))⟩
def Tryz.r58 : List (Nat × Nat) := []
theorem Tryz.i58_ok : fnOk Tryz.prog Tryz.r58 Tryz.f58 Tryz.i58 = true := by kernel_rfl

/- pinball/pinballref04.Compare -/
def Tryz.i59 : IFunc := ⟨2, 87, [.tmp 4],
  .seq (.region false [o1 2 (.box (.t 0) [9, 18, 23, 25, 30, 49, 77]),
   o1 3 (.box (.t 1) [11, 16, 35, 37, 42, 51, 58, 65, 79]),
   o1 4 (.mov (.c (.int .i64 0)))])
  (.seq (.region false [o1 5 (.mov (.c (.int .i64 0)))])
  (.block 0 (.loop (.seq (.block 1 (.seq (.block 2 (.seq (.region false [o1 9 (.adr 2 2 4),
   o1 10 (.ld 9 2 3 false),
   o1 11 (.adr 3 3 1),
   o1 12 (.ld 11 3 3 false),
   oC 13 85 [10, 12],
   o1 14 (.bin .lss (.t 13) (.c (.int .i64 0))),
   oM 8 14])
  (.cond (.t 8) (.seq (.region false [o1 4 (.mov (.c (.int .i64 (-1))))])
  (.ret))
  (.seq (.region false [o1 16 (.adr 3 3 4),
   o1 17 (.ld 16 3 3 false),
   o1 18 (.adr 2 2 1),
   o1 19 (.ld 18 2 3 false),
   oC 20 85 [17, 19],
   o1 21 (.bin .lss (.t 20) (.c (.int .i64 0))),
   oM 15 21])
  (.cond (.t 15) (.seq (.region false [o1 4 (.mov (.c (.int .i64 1)))])
  (.ret))
  (.seq (.region false [o1 23 (.adr 2 2 1),
   o1 24 (.ld 23 2 3 false),
   o1 25 (.adr 2 2 4),
   o1 26 (.ld 25 2 3 false),
   oC 27 85 [24, 26],
   o1 28 (.bin .eql (.t 27) (.c (.int .i64 0))),
   oM 22 28])
  (.cond (.t 22) (.seq (.region false [o1 29 (.ld 3 3 7 false),
   o1 30 (.adr 2 2 1),
   o1 31 (.ld 30 2 3 false),
   oC 32 86 [29, 31],
   o1 33 (.un .neg (.t 32)),
   oM 4 33])
  (.ret))
  (.seq (.region false [o1 35 (.adr 3 3 1),
   o1 36 (.ld 35 3 3 false),
   o1 37 (.adr 3 3 4),
   o1 38 (.ld 37 3 3 false),
   oC 39 85 [36, 38],
   o1 40 (.bin .eql (.t 39) (.c (.int .i64 0))),
   oM 34 40])
  (.cond (.t 34) (.seq (.region false [o1 41 (.ld 2 2 7 false),
   o1 42 (.adr 3 3 1),
   o1 43 (.ld 42 3 3 false),
   oC 44 86 [41, 43],
   oM 4 44])
  (.ret))
  (.skip))))))))))
  (.seq (.seq (.region true [oM 45 5,
   o1 46 (.bin .eql (.t 45) (.c (.int .i64 8))),
   oM 47 46,
   oG 48 (.ld 2 2 7 false) 47 true,
   oG 49 (.adr 2 2 0) 47 true,
   oG 50 (.ld 49 2 1 true) 47 true,
   oG 51 (.adr 3 3 0) 47 true,
   oG 52 (.ld 51 3 1 true) 47 true,
   oG 53 (.call 88 [.t 50, .t 52]) 47 true,
   oG 54 (.call 87 [.t 48, .t 53]) 47 true,
   o1 55 (.pick (.t 47) (.t 54) (.c (.bool false))),
   oM 56 55,
   oG 57 (.ld 2 2 7 false) 56 true,
   oG 58 (.adr 3 3 1) 56 true,
   oG 59 (.ld 58 3 3 false) 56 true,
   oG 60 (.call 86 [.t 57, .t 59]) 56 true,
   oG 61 (.bin .gtr (.t 60) (.c (.int .i64 0))) 56 true,
   o1 62 (.pick (.t 56) (.t 61) (.c (.bool false))),
   oM 63 62,
   oG 64 (.ld 2 2 7 false) 63 true,
   oG 65 (.adr 3 3 4) 63 true,
   oG 66 (.ld 65 3 3 false) 63 true,
   oG 67 (.call 86 [.t 64, .t 66]) 63 true,
   oG 68 (.bin .leq (.t 67) (.c (.int .i64 0))) 63 true,
   o1 69 (.pick (.t 63) (.t 68) (.c (.bool false)))])
  (.cond (.t 69) (.seq (.region false [o1 4 (.mov (.c (.int .i64 0)))])
  (.ret))
  (.skip)))
  (.seq (.seq (.region false [oM 70 5,
   o1 71 (.bin .geq (.t 70) (.c (.int .i64 8))),
   oM 72 71,
   oG 73 (.ld 2 2 7 false) 72 true,
   oG 74 (.ld 3 3 7 false) 72 true,
   oG 75 (.call 89 [.t 73, .t 74]) 72 true,
   o1 76 (.pick (.t 72) (.t 75) (.c (.bool false)))])
  (.cond (.t 76) (.seq (.seq (.region false [o1 77 (.adr 2 2 1),
   o1 78 (.ld 77 2 3 false),
   o1 79 (.adr 3 3 1),
   o1 80 (.ld 79 3 3 false),
   oC 81 85 [78, 80],
   o1 82 (.bin .lss (.t 81) (.c (.int .i64 0)))])
  (.cond (.t 82) (.seq (.region false [o1 4 (.mov (.c (.int .i64 (-1))))])
  (.ret))
  (.skip)))
  (.seq (.region false [o1 4 (.mov (.c (.int .i64 1)))])
  (.ret)))
  (.skip)))
  (.region true [o1 83 (.ld 2 2 7 false),
   oC 84 90 [83],
   o1 85 (.ld 3 3 7 false),
   oC 86 90 [85],
   oN (.st 2 2 7 (.t 84)),
   oN (.st 3 3 7 (.t 86))])))))
  (.region false [oM 6 5,
   o1 7 (.bin .add (.t 6) (.c (.int .i64 1))),
   oM 5 7])))))⟩
def Tryz.r59 : List (Nat × Nat) := [(9, 2), (11, 3), (16, 3), (18, 2), (23, 2), (25, 2), (30, 2), (35, 3), (37, 3), (42, 3), (49, 2), (51, 3), (58, 3), (65, 3), (77, 2), (79, 3)]
theorem Tryz.i59_ok : fnOk Tryz.prog Tryz.r59 Tryz.f59 Tryz.i59 = true := by kernel_rfl

/- pinball/pinballref04.Below -/
def Tryz.i60 : IFunc := ⟨2, 49, [.cell 4 2 false],
  .seq (.region false [o1 2 (.box (.t 0) [10, 11, 15, 16, 19, 20, 24, 25]),
   o1 4 (.new [.bool false, .sl 0 []] [])])
  (.seq (.region false [o1 9 (.call 34 [.c (.int .i64 1)]),
   o1 5 (.new [.bool false, .sl 0 []] []),
   oN (.st 5 5 2 (.t 9))])
  (.seq (.region true [o1 10 (.adr 2 2 1),
   o1 11 (.adr 10 2 0),
   o1 12 (.ld 11 2 2 false),
   oM 13 1,
   oC 14 81 [12, 13],
   o1 15 (.adr 2 2 1),
   o1 16 (.adr 15 2 2),
   o1 17 (.ld 16 2 1 true),
   oC 18 91 [14, 17],
   o1 19 (.adr 2 2 4),
   o1 20 (.adr 19 2 0),
   o1 21 (.ld 20 2 2 false),
   oM 22 1,
   oC 23 81 [21, 22],
   o1 24 (.adr 2 2 4),
   o1 25 (.adr 24 2 2),
   o1 26 (.ld 25 2 1 true),
   oC 27 91 [23, 26],
   o1 6 (.new [.bool false, .sl 0 []] []),
   o1 7 (.new [.bool false, .sl 0 []] []),
   oN (.st 6 6 2 (.t 18)),
   oN (.st 7 7 2 (.t 27))])
  (.seq (.block 0 (.loop (.seq (.seq (.region false [o1 28 (.ld 6 6 2 false),
   o1 29 (.ld 7 7 2 false),
   oC 30 36 [28, 29],
   o1 31 (.bin .lss (.t 30) (.c (.int .i64 0)))])
  (.cond (.t 31) (.skip)
  (.exit 0)))
  (.block 1 (.seq (.region true [o1 32 (.ld 6 6 2 false),
   o1 33 (.ld 7 7 2 false),
   oC 34 80 [32, 33],
   o1 35 (.ld 5 5 2 false),
   oC 36 80 [34, 35],
   o1 37 (.call 91 [.t 36, .c (.int .i64 1)]),
   o1 8 (.new [.bool false, .sl 0 []] []),
   oN (.st 8 8 2 (.t 37))])
  (.seq (.region false [o1 38 (.ld 2 2 7 false),
   o1 39 (.ld 8 8 2 false),
   oM 40 1,
   o1 41 (.bld [.bool false, .sl 0 [], .int .i64 0] [(0, 2, .t 39), (2, 1, .t 40)]),
   oC 42 86 [38, 41],
   o1 43 (.bin .geq (.t 42) (.c (.int .i64 0)))])
  (.cond (.t 43) (.region false [o1 44 (.ld 8 8 2 false),
   oN (.st 6 6 2 (.t 44))])
  (.region false [o1 45 (.ld 8 8 2 false),
   o1 46 (.ld 5 5 2 false),
   oC 47 92 [45, 46],
   oN (.st 7 7 2 (.t 47))]))))))))
  (.seq (.region false [o1 48 (.ld 6 6 2 false),
   oN (.st 4 4 2 (.t 48))])
  (.ret)))))⟩
def Tryz.r60 : List (Nat × Nat) := [(10, 2), (11, 2), (15, 2), (16, 2), (19, 2), (20, 2), (24, 2), (25, 2)]
theorem Tryz.i60_ok : fnOk Tryz.prog Tryz.r60 Tryz.f60 Tryz.i60 = true := by kernel_rfl

/- pinball/vector.kept -/
def Tryz.i61 : IFunc := ⟨1, 8, [.cell 2 2 false],
  .seq (.region false [o1 1 (.box (.t 0) []),
   o1 2 (.new [.int .i64 0, .int .i64 0] [])])
  (.seq (.seq (.region false [o1 3 (.ld 1 1 2 false),
   oC 4 57 [3],
   o1 5 (.un .not (.t 4))])
  (.cond (.t 5) (.seq (.region false [o1 6 (.bld [.int .i64 0, .int .i64 0] []),
   oN (.st 2 2 2 (.t 6))])
  (.ret))
  (.skip)))
  (.seq (.region false [o1 7 (.ld 1 1 2 false),
   oN (.st 2 2 2 (.t 7))])
  (.ret)))⟩
def Tryz.r61 : List (Nat × Nat) := []
theorem Tryz.i61_ok : fnOk Tryz.prog Tryz.r61 Tryz.f61 Tryz.i61 = true := by kernel_rfl

/- pinball/pinballref06.Small -/
def Tryz.i62 : IFunc := ⟨1, 21, [.tmp 2],
  .seq (.region false [o1 1 (.box (.t 0) [3, 7, 12, 17]),
   o1 2 (.mov (.c (.bool false)))])
  (.seq (.region false [o1 3 (.adr 1 1 0),
   o1 4 (.ld 3 1 1 true),
   o1 5 (.bin .geq (.t 4) (.c (.int .i64 (-1073741824)))),
   oM 6 5,
   oG 7 (.adr 1 1 0) 6 true,
   oG 8 (.ld 7 1 1 true) 6 true,
   oG 9 (.bin .leq (.t 8) (.c (.int .i64 1073741824))) 6 true,
   o1 10 (.pick (.t 6) (.t 9) (.c (.bool false))),
   oM 11 10,
   oG 12 (.adr 1 1 1) 11 true,
   oG 13 (.ld 12 1 1 true) 11 true,
   oG 14 (.bin .geq (.t 13) (.c (.int .i64 (-1073741824)))) 11 true,
   o1 15 (.pick (.t 11) (.t 14) (.c (.bool false))),
   oM 16 15,
   oG 17 (.adr 1 1 1) 16 true,
   oG 18 (.ld 17 1 1 true) 16 true,
   oG 19 (.bin .leq (.t 18) (.c (.int .i64 1073741824))) 16 true,
   o1 20 (.pick (.t 16) (.t 19) (.c (.bool false))),
   oM 2 20])
  (.ret))⟩
def Tryz.r62 : List (Nat × Nat) := [(3, 1), (7, 1), (12, 1), (17, 1)]
theorem Tryz.i62_ok : fnOk Tryz.prog Tryz.r62 Tryz.f62 Tryz.i62 = true := by kernel_rfl

/- pinball/pinballref06.kept -/
def Tryz.i63 : IFunc := ⟨1, 7, [.cell 2 2 false],
  .seq (.region false [o1 1 (.box (.t 0) []),
   o1 2 (.new [.int .i64 0, .int .i64 0] [])])
  (.seq (.seq (.region false [o1 3 (.ld 1 1 2 false),
   oC 4 62 [3]])
  (.cond (.t 4) (.seq (.region false [o1 5 (.ld 1 1 2 false),
   oN (.st 2 2 2 (.t 5))])
  (.ret))
  (.skip)))
  (.seq (.region false [o1 6 (.bld [.int .i64 0, .int .i64 0] []),
   oN (.st 2 2 2 (.t 6))])
  (.ret)))⟩
def Tryz.r63 : List (Nat × Nat) := []
theorem Tryz.i63_ok : fnOk Tryz.prog Tryz.r63 Tryz.f63 Tryz.i63 = true := by kernel_rfl

/- math/bits.Mul64 -/
def Tryz.i64 : IFunc := ⟨2, 51, [.tmp 4, .tmp 5],
  .seq (.region false [o1 4 (.mov (.c (.int .u64 0))),
   o1 5 (.mov (.c (.int .u64 0)))])
  (.seq (.region false [oM 14 0,
   o1 15 (.bin .and (.t 14) (.c (.int .u64 4294967295))),
   oM 6 15])
  (.seq (.region false [oM 16 0,
   o1 17 (.bin .shr (.t 16) (.c (.int .u64 32))),
   oM 7 17])
  (.seq (.region false [oM 18 1,
   o1 19 (.bin .and (.t 18) (.c (.int .u64 4294967295))),
   oM 8 19])
  (.seq (.region false [oM 20 1,
   o1 21 (.bin .shr (.t 20) (.c (.int .u64 32))),
   oM 9 21])
  (.seq (.region false [oM 22 6,
   oM 23 8,
   oB 24 .mul 22 23,
   oM 10 24])
  (.seq (.region false [oM 25 7,
   oM 26 8,
   oB 27 .mul 25 26,
   oM 28 10,
   o1 29 (.bin .shr (.t 28) (.c (.int .u64 32))),
   oB 30 .add 27 29,
   oM 11 30])
  (.seq (.region false [oM 31 11,
   o1 32 (.bin .and (.t 31) (.c (.int .u64 4294967295))),
   oM 12 32])
  (.seq (.region false [oM 33 11,
   o1 34 (.bin .shr (.t 33) (.c (.int .u64 32))),
   oM 13 34])
  (.seq (.region false [oM 35 12,
   oM 36 6,
   oM 37 9,
   oB 38 .mul 36 37,
   oB 39 .add 35 38,
   oM 12 39])
  (.seq (.region false [oM 40 7,
   oM 41 9,
   oB 42 .mul 40 41,
   oM 43 13,
   oB 44 .add 42 43,
   oM 45 12,
   o1 46 (.bin .shr (.t 45) (.c (.int .u64 32))),
   oB 47 .add 44 46,
   oM 4 47])
  (.seq (.region false [oM 48 0,
   oM 49 1,
   oB 50 .mul 48 49,
   oM 5 50])
  (.ret))))))))))))⟩
def Tryz.r64 : List (Nat × Nat) := []
theorem Tryz.i64_ok : fnOk Tryz.prog Tryz.r64 Tryz.f64 Tryz.i64 = true := by kernel_rfl

/- pinball/pinballref01.make1 -/
def Tryz.i65 : IFunc := ⟨2, 16, [.cell 4 2 false],
  .seq (.region false [o1 4 (.new [.bool false, .sl 0 []] [])])
  (.seq (.region false [oM 6 1,
   oC 7 67 [6],
   oM 5 7])
  (.seq (.region false [oM 8 0,
   oM 9 8,
   oG 10 (.mov (.t 5)) 9 true,
   oG 11 (.len (.t 10)) 9 true,
   oG 12 (.bin .gtr (.t 11) (.c (.int .i64 0))) 9 true,
   o1 13 (.pick (.t 9) (.t 12) (.c (.bool false))),
   oM 14 5,
   o1 15 (.bld [.bool false, .sl 0 []] [(0, 1, .t 13), (1, 1, .t 14)]),
   oN (.st 4 4 2 (.t 15))])
  (.ret)))⟩
def Tryz.r65 : List (Nat × Nat) := []
theorem Tryz.i65_ok : fnOk Tryz.prog Tryz.r65 Tryz.f65 Tryz.i65 = true := by kernel_rfl

/- pinball/pinballref01.CmpMag -/
def Tryz.i66 : IFunc := ⟨2, 41, [.tmp 4],
  .seq (.region false [o1 4 (.mov (.c (.int .i64 0)))])
  (.seq (.seq (.region false [oM 6 0,
   o1 7 (.len (.t 6)),
   oM 8 1,
   o1 9 (.len (.t 8)),
   oB 10 .neq 7 9])
  (.cond (.t 10) (.seq (.seq (.region false [oM 11 0,
   o1 12 (.len (.t 11)),
   oM 13 1,
   o1 14 (.len (.t 13)),
   oB 15 .lss 12 14])
  (.cond (.t 15) (.seq (.region false [o1 4 (.mov (.c (.int .i64 (-1))))])
  (.ret))
  (.skip)))
  (.seq (.region false [o1 4 (.mov (.c (.int .i64 1)))])
  (.ret)))
  (.skip)))
  (.seq (.seq (.region false [oM 16 0,
   o1 17 (.len (.t 16)),
   o1 18 (.bin .sub (.t 17) (.c (.int .i64 1))),
   oM 5 18])
  (.block 0 (.loop (.seq (.seq (.region false [oM 19 5,
   o1 20 (.bin .geq (.t 19) (.c (.int .i64 0)))])
  (.cond (.t 20) (.skip)
  (.exit 0)))
  (.seq (.block 1 (.seq (.region true [oM 23 0,
   oM 24 5,
   o1 25 (.ixa 23 (.t 24) 1),
   o1 26 (.ld 25 25 1 true),
   oM 27 1,
   oM 28 5,
   o1 29 (.ixa 27 (.t 28) 1),
   o1 30 (.ld 29 29 1 true),
   oB 31 .neq 26 30])
  (.cond (.t 31) (.seq (.seq (.region true [oM 32 0,
   oM 33 5,
   o1 34 (.ixa 32 (.t 33) 1),
   o1 35 (.ld 34 34 1 true),
   oM 36 1,
   oM 37 5,
   o1 38 (.ixa 36 (.t 37) 1),
   o1 39 (.ld 38 38 1 true),
   oB 40 .lss 35 39])
  (.cond (.t 40) (.seq (.region false [o1 4 (.mov (.c (.int .i64 (-1))))])
  (.ret))
  (.skip)))
  (.seq (.region false [o1 4 (.mov (.c (.int .i64 1)))])
  (.ret)))
  (.skip))))
  (.region false [oM 21 5,
   o1 22 (.bin .sub (.t 21) (.c (.int .i64 1))),
   oM 5 22]))))))
  (.seq (.region false [o1 4 (.mov (.c (.int .i64 0)))])
  (.ret))))⟩
def Tryz.r66 : List (Nat × Nat) := []
theorem Tryz.i66_ok : fnOk Tryz.prog Tryz.r66 Tryz.f66 Tryz.i66 = true := by kernel_rfl

/- pinball/pinballref01.Mag -/
def Tryz.i67 : IFunc := ⟨1, 22, [.tmp 2],
  .seq (.region false [o1 2 (.nlo 1)])
  (.seq (.region false [oM 4 0,
   o1 5 (.len (.t 4)),
   oM 3 5])
  (.seq (.block 0 (.loop (.seq (.seq (.region false [oM 6 3,
   o1 7 (.bin .gtr (.t 6) (.c (.int .i64 0))),
   oM 8 7,
   oG 9 (.mov (.t 0)) 8 true,
   oG 10 (.mov (.t 3)) 8 true,
   oG 11 (.bin .sub (.t 10) (.c (.int .i64 1))) 8 true,
   oG 12 (.ixa 9 (.t 11) 1) 8 true,
   oG 13 (.ld 12 12 1 true) 8 true,
   oG 14 (.bin .eql (.t 13) (.c (.int .u32 0))) 8 true,
   o1 15 (.pick (.t 8) (.t 14) (.c (.bool false)))])
  (.cond (.t 15) (.skip)
  (.exit 0)))
  (.block 1 (.region false [oM 16 3,
   o1 17 (.bin .sub (.t 16) (.c (.int .i64 1))),
   oM 3 17])))))
  (.seq (.region false [oM 18 0,
   oM 19 3,
   o1 20 (.sli (.t 18) none (some (.t 19)) none 1),
   o1 21 (.apd true (.c (.nil)) (.t 20) 1),
   o1 2 (.tra 21)])
  (.ret))))⟩
def Tryz.r67 : List (Nat × Nat) := []
theorem Tryz.i67_ok : fnOk Tryz.prog Tryz.r67 Tryz.f67 Tryz.i67 = true := by kernel_rfl

/- pinball/pinballref01.mulMag -/
def Tryz.i68 : IFunc := ⟨2, 66, [.tmp 4],
  .seq (.region false [o1 4 (.nlo 1)])
  (.seq (.region false [oM 9 0,
   o1 10 (.len (.t 9)),
   oM 11 1,
   o1 12 (.len (.t 11)),
   oB 13 .add 10 12,
   o1 14 (.mks [.int .u32 0] (.t 13)),
   ⟨some 5, .tra 14, none, [28, 32, 48, 54, 57, 64]⟩])
  (.seq (.seq (.region false [o1 6 (.mov (.c (.int .i64 0)))])
  (.block 0 (.loop (.seq (.seq (.region false [oM 15 6,
   oM 16 0,
   o1 17 (.len (.t 16)),
   oB 18 .lss 15 17])
  (.cond (.t 18) (.skip)
  (.exit 0)))
  (.seq (.block 1 (.seq (.region false [o1 7 (.mov (.c (.int .u64 0)))])
  (.seq (.seq (.region false [o1 8 (.mov (.c (.int .i64 0)))])
  (.block 2 (.loop (.seq (.seq (.region false [oM 21 8,
   oM 22 1,
   o1 23 (.len (.t 22)),
   oB 24 .lss 21 23])
  (.cond (.t 24) (.skip)
  (.exit 2)))
  (.seq (.block 3 (.seq (.region true [oM 27 7,
   o1 28 (.cpy 5),
   oM 29 6,
   oM 30 8,
   oB 31 .add 29 30,
   o1 32 (.ixo 28 5 (.t 31) 1),
   o1 33 (.ld 32 5 1 true),
   o1 34 (.cv .u64 (.t 33)),
   oM 35 0,
   oM 36 6,
   o1 37 (.ixa 35 (.t 36) 1),
   o1 38 (.ld 37 37 1 true),
   o1 39 (.cv .u64 (.t 38)),
   oM 40 1,
   oM 41 8,
   o1 42 (.ixa 40 (.t 41) 1),
   o1 43 (.ld 42 42 1 true),
   o1 44 (.cv .u64 (.t 43)),
   oB 45 .mul 39 44,
   oB 46 .add 34 45,
   oB 47 .add 27 46,
   oM 7 47])
  (.seq (.region false [o1 48 (.cpy 5),
   oM 49 6,
   oM 50 8,
   oB 51 .add 49 50,
   oM 52 7,
   o1 53 (.cv .u32 (.t 52)),
   o1 54 (.ixo 48 5 (.t 51) 1),
   oN (.st 54 5 1 (.t 53))])
  (.region false [oM 55 7,
   o1 56 (.bin .shr (.t 55) (.c (.int .u64 32))),
   oM 7 56]))))
  (.region false [oM 25 8,
   o1 26 (.bin .add (.t 25) (.c (.int .i64 1))),
   oM 8 26]))))))
  (.region false [o1 57 (.cpy 5),
   oM 58 6,
   oM 59 1,
   o1 60 (.len (.t 59)),
   oB 61 .add 58 60,
   oM 62 7,
   o1 63 (.cv .u32 (.t 62)),
   o1 64 (.ixo 57 5 (.t 61) 1),
   oN (.st 64 5 1 (.t 63))]))))
  (.region false [oM 19 6,
   o1 20 (.bin .add (.t 19) (.c (.int .i64 1))),
   oM 6 20]))))))
  (.seq (.region false [o1 65 (.tra 5),
   o1 4 (.tra 65)])
  (.ret))))⟩
def Tryz.r68 : List (Nat × Nat) := [(28, 5), (32, 5), (48, 5), (54, 5), (57, 5), (64, 5)]
theorem Tryz.i68_ok : fnOk Tryz.prog Tryz.r68 Tryz.f68 Tryz.i68 = true := by kernel_rfl

/- pinball/flight.Polys -/
def Tryz.i69 : IFunc := ⟨1, 29, [.tmp 2, .tmp 3],
  .seq (.region false [o1 1 (.box (.t 0) [7, 8, 10, 11, 13, 14, 18, 19, 21, 22, 24, 25]),
   o1 2 (.nlo 2),
   o1 3 (.nlo 2)])
  (.seq (.seq (.region false [o1 4 (.ld 1 1 6 false),
   oC 5 53 [4],
   o1 6 (.un .not (.t 5))])
  (.cond (.t 6) (.seq (.region false [o1 2 (.nlo 2),
   o1 3 (.nlo 2)])
  (.ret))
  (.skip)))
  (.seq (.region true [o1 7 (.adr 1 1 0),
   o1 8 (.adr 7 1 0),
   o1 9 (.ld 8 1 1 true),
   o1 10 (.adr 1 1 2),
   o1 11 (.adr 10 1 0),
   o1 12 (.ld 11 1 1 true),
   o1 13 (.adr 1 1 4),
   o1 14 (.adr 13 1 0),
   o1 15 (.ld 14 1 1 true),
   o1 16 (.bls 3 [.int .i64 0, .int .i64 0, .int .i64 0] [(0, 1, .t 9), (1, 1, .t 12), (2, 1, .t 15)]),
   o1 17 (.clo 93 [.t 16]),
   o1 18 (.adr 1 1 0),
   o1 19 (.adr 18 1 1),
   o1 20 (.ld 19 1 1 true),
   o1 21 (.adr 1 1 2),
   o1 22 (.adr 21 1 1),
   o1 23 (.ld 22 1 1 true),
   o1 24 (.adr 1 1 4),
   o1 25 (.adr 24 1 1),
   o1 26 (.ld 25 1 1 true),
   o1 27 (.bls 3 [.int .i64 0, .int .i64 0, .int .i64 0] [(0, 1, .t 20), (1, 1, .t 23), (2, 1, .t 26)]),
   o1 28 (.clo 93 [.t 27]),
   o1 2 (.tra 17),
   o1 3 (.tra 28)])
  (.ret)))⟩
def Tryz.r69 : List (Nat × Nat) := [(7, 1), (8, 1), (10, 1), (11, 1), (13, 1), (14, 1), (18, 1), (19, 1), (21, 1), (22, 1), (24, 1), (25, 1)]
theorem Tryz.i69_ok : fnOk Tryz.prog Tryz.r69 Tryz.f69 Tryz.i69 = true := by kernel_rfl

/- pinball/algebra.Plus -/
def Tryz.i70 : IFunc := ⟨2, 52, [.tmp 4],
  .seq (.region false [o1 4 (.nlo 2)])
  (.seq (.region false [oM 9 0,
   oC 10 71 [9],
   o1 11 (.bin .add (.t 10) (.c (.int .i64 1))),
   oM 12 1,
   oC 13 71 [12],
   o1 14 (.bin .add (.t 13) (.c (.int .i64 1))),
   oM 5 11,
   oM 6 14])
  (.seq (.region false [oM 15 5,
   oM 16 6,
   o1 17 (.mx [.t 15, .t 16]),
   o1 18 (.mks [.bool false, .sl 0 []] (.t 17)),
   ⟨some 7, .tra 18, none, [19, 27, 33, 37, 39, 41, 48]⟩])
  (.seq (.seq (.region false [o1 19 (.cpy 7),
   o1 20 (.lno 19 7),
   o1 21 (.mov (.c (.int .i64 0)))])
  (.block 0 (.loop (.seq (.region false [oB 22 .lss 21 20])
  (.seq (.cond (.t 22) (.skip)
  (.exit 0))
  (.seq (.block 1 (.seq (.region false [oM 23 21,
   oM 8 23])
  (.seq (.seq (.region false [oM 24 8,
   oM 25 5,
   oB 26 .lss 24 25])
  (.cond (.t 26) (.region false [o1 27 (.cpy 7),
   oM 28 8,
   oM 29 0,
   oM 30 8,
   o1 31 (.ixa 29 (.t 30) 2),
   o1 32 (.ld 31 31 2 false),
   o1 33 (.ixo 27 7 (.t 28) 2),
   oN (.st 33 7 2 (.t 32))])
  (.skip)))
  (.seq (.region false [oM 34 8,
   oM 35 6,
   oB 36 .lss 34 35])
  (.cond (.t 36) (.region true [o1 37 (.cpy 7),
   oM 38 8,
   o1 39 (.cpy 7),
   oM 40 8,
   o1 41 (.ixo 39 7 (.t 40) 2),
   o1 42 (.ld 41 7 2 false),
   oM 43 1,
   oM 44 8,
   o1 45 (.ixa 43 (.t 44) 2),
   o1 46 (.ld 45 45 2 false),
   oC 47 72 [42, 46],
   o1 48 (.ixo 37 7 (.t 38) 2),
   oN (.st 48 7 2 (.t 47))])
  (.skip))))))
  (.region false [o1 49 (.bin .add (.t 21) (.c (.int .i64 1))),
   oM 21 49])))))))
  (.seq (.region false [o1 50 (.frz 7),
   o1 51 (.clo 74 [.t 50]),
   o1 4 (.tra 51)])
  (.ret)))))⟩
def Tryz.r70 : List (Nat × Nat) := [(19, 7), (27, 7), (33, 7), (37, 7), (39, 7), (41, 7), (48, 7)]
theorem Tryz.i70_ok : fnOk Tryz.prog Tryz.r70 Tryz.f70 Tryz.i70 = true := by kernel_rfl

/- pinball/algebra.Degree -/
def Tryz.i71 : IFunc := ⟨1, 20, [.tmp 2],
  .seq (.region false [o1 2 (.mov (.c (.int .i64 0)))])
  (.seq (.region false [oM 4 0,
   o1 5 (.len (.t 4)),
   o1 6 (.bin .sub (.t 5) (.c (.int .i64 1))),
   oM 3 6])
  (.seq (.block 0 (.loop (.seq (.seq (.region false [oM 7 3,
   o1 8 (.bin .geq (.t 7) (.c (.int .i64 0))),
   oM 9 8,
   oG 10 (.mov (.t 0)) 9 true,
   oG 11 (.mov (.t 3)) 9 true,
   oG 12 (.ixa 10 (.t 11) 2) 9 true,
   oG 13 (.ld 12 12 2 false) 9 true,
   oG 14 (.call 94 [.t 13]) 9 true,
   oG 15 (.bin .eql (.t 14) (.c (.int .i64 0))) 9 true,
   o1 16 (.pick (.t 9) (.t 15) (.c (.bool false)))])
  (.cond (.t 16) (.skip)
  (.exit 0)))
  (.block 1 (.region false [oM 17 3,
   o1 18 (.bin .sub (.t 17) (.c (.int .i64 1))),
   oM 3 18])))))
  (.seq (.region false [oM 19 3,
   oM 2 19])
  (.ret))))⟩
def Tryz.r71 : List (Nat × Nat) := []
theorem Tryz.i71_ok : fnOk Tryz.prog Tryz.r71 Tryz.f71 Tryz.i71 = true := by kernel_rfl

/- pinball/wide.Add -/
def Tryz.i72 : IFunc := ⟨2, 24, [.cell 4 2 false],
  .seq (.region false [o1 2 (.box (.t 0) []),
   o1 3 (.box (.t 1) []),
   o1 4 (.new [.bool false, .sl 0 []] [])])
  (.seq (.region false [o1 10 (.ld 2 2 2 false),
   oC 11 95 [10],
   oM 9 11,
   o1 12 (.ext (.t 9) 0),
   o1 13 (.ext (.t 9) 1),
   oM 5 12,
   oM 6 13])
  (.seq (.region false [o1 15 (.ld 3 3 2 false),
   oC 16 95 [15],
   oM 14 16,
   o1 17 (.ext (.t 14) 0),
   o1 18 (.ext (.t 14) 1),
   oM 7 17,
   oM 8 18])
  (.seq (.region false [oM 19 5,
   oM 20 6,
   oM 21 7,
   oM 22 8,
   oC 23 96 [19, 20, 21, 22],
   oN (.st 4 4 2 (.t 23))])
  (.ret))))⟩
def Tryz.r72 : List (Nat × Nat) := []
theorem Tryz.i72_ok : fnOk Tryz.prog Tryz.r72 Tryz.f72 Tryz.i72 = true := by kernel_rfl

/- pinball/wide.Mul -/
def Tryz.i73 : IFunc := ⟨2, 94, [.cell 4 2 false],
  .seq (.region false [o1 2 (.box (.t 0) []),
   o1 3 (.box (.t 1) []),
   o1 4 (.new [.bool false, .sl 0 []] [])])
  (.seq (.region false [o1 17 (.ld 2 2 2 false),
   oC 18 95 [17],
   oM 16 18,
   o1 19 (.ext (.t 16) 0),
   o1 20 (.ext (.t 16) 1),
   oM 5 19,
   oM 6 20])
  (.seq (.region false [o1 22 (.ld 3 3 2 false),
   oC 23 95 [22],
   oM 21 23,
   o1 24 (.ext (.t 21) 0),
   o1 25 (.ext (.t 21) 1),
   oM 7 24,
   oM 8 25])
  (.seq (.seq (.region false [oM 26 6,
   o1 27 (.len (.t 26)),
   o1 28 (.bin .eql (.t 27) (.c (.int .i64 0))),
   oM 29 28,
   oG 30 (.mov (.t 8)) 29 false,
   oG 31 (.len (.t 30)) 29 false,
   oG 32 (.bin .eql (.t 31) (.c (.int .i64 0))) 29 false,
   o1 33 (.pick (.t 29) (.c (.bool true)) (.t 32))])
  (.cond (.t 33) (.seq (.region false [o1 34 (.bld [.bool false, .sl 0 []] []),
   oN (.st 4 4 2 (.t 34))])
  (.ret))
  (.skip)))
  (.seq (.region false [oM 35 6,
   o1 36 (.len (.t 35)),
   oM 37 8,
   o1 38 (.len (.t 37)),
   oB 39 .add 36 38,
   o1 40 (.mks [.int .u32 0] (.t 39)),
   ⟨some 9, .tra 40, none, [60, 64, 70, 78, 80, 87]⟩])
  (.seq (.seq (.region false [oM 41 6,
   o1 42 (.len (.t 41)),
   o1 43 (.mov (.c (.int .i64 0)))])
  (.block 0 (.loop (.seq (.region false [oB 44 .lss 43 42])
  (.seq (.cond (.t 44) (.skip)
  (.exit 0))
  (.seq (.block 1 (.seq (.region false [oM 45 43,
   o1 46 (.ixa 41 (.t 43) 1),
   o1 47 (.ld 46 46 1 true),
   oM 10 45,
   oM 11 47])
  (.seq (.region false [o1 12 (.mov (.c (.int .u64 0)))])
  (.seq (.seq (.region false [oM 48 8,
   o1 49 (.len (.t 48)),
   o1 50 (.mov (.c (.int .i64 0)))])
  (.block 2 (.loop (.seq (.region false [oB 51 .lss 50 49])
  (.seq (.cond (.t 51) (.skip)
  (.exit 2))
  (.seq (.block 3 (.seq (.region false [oM 52 50,
   o1 53 (.ixa 48 (.t 50) 1),
   o1 54 (.ld 53 53 1 true),
   oM 13 52,
   oM 14 54])
  (.seq (.region false [oM 55 11,
   o1 56 (.cv .u64 (.t 55)),
   oM 57 14,
   o1 58 (.cv .u64 (.t 57)),
   oB 59 .mul 56 58,
   o1 60 (.cpy 9),
   oM 61 10,
   oM 62 13,
   oB 63 .add 61 62,
   o1 64 (.ixo 60 9 (.t 63) 1),
   o1 65 (.ld 64 9 1 true),
   o1 66 (.cv .u64 (.t 65)),
   oB 67 .add 59 66,
   oM 68 12,
   oB 69 .add 67 68,
   oM 15 69])
  (.region false [o1 70 (.cpy 9),
   oM 71 10,
   oM 72 13,
   oB 73 .add 71 72,
   oM 74 15,
   o1 75 (.cv .u32 (.t 74)),
   oM 76 15,
   o1 77 (.bin .shr (.t 76) (.c (.int .u64 32))),
   o1 78 (.ixo 70 9 (.t 73) 1),
   oN (.st 78 9 1 (.t 75)),
   oM 12 77]))))
  (.region false [o1 79 (.bin .add (.t 50) (.c (.int .i64 1))),
   oM 50 79])))))))
  (.region false [o1 80 (.cpy 9),
   oM 81 10,
   oM 82 8,
   o1 83 (.len (.t 82)),
   oB 84 .add 81 83,
   oM 85 12,
   o1 86 (.cv .u32 (.t 85)),
   o1 87 (.ixo 80 9 (.t 84) 1),
   oN (.st 87 9 1 (.t 86))])))))
  (.region false [o1 88 (.bin .add (.t 43) (.c (.int .i64 1))),
   oM 43 88])))))))
  (.seq (.region false [oM 89 5,
   oM 90 7,
   o1 91 (.eqb true (.t 89) (.t 90)),
   o1 92 (.frz 9),
   oC 93 97 [91, 92],
   oN (.st 4 4 2 (.t 93))])
  (.ret)))))))⟩
def Tryz.r73 : List (Nat × Nat) := [(60, 9), (64, 9), (70, 9), (78, 9), (80, 9), (87, 9)]
theorem Tryz.i73_ok : fnOk Tryz.prog Tryz.r73 Tryz.f73 Tryz.i73 = true := by kernel_rfl

/- pinball/algebra.Trim -/
def Tryz.i74 : IFunc := ⟨1, 28, [.tmp 2],
  .seq (.region false [o1 2 (.nlo 2)])
  (.seq (.region false [oM 6 0,
   oC 7 71 [6],
   o1 8 (.bin .add (.t 7) (.c (.int .i64 1))),
   oM 3 8])
  (.seq (.seq (.region false [oM 9 3,
   o1 10 (.bin .eql (.t 9) (.c (.int .i64 0)))])
  (.cond (.t 10) (.seq (.region false [o1 2 (.nlo 2)])
  (.ret))
  (.skip)))
  (.seq (.region false [oM 11 3,
   o1 12 (.mks [.bool false, .sl 0 []] (.t 11)),
   ⟨some 4, .tra 12, none, [13, 18, 25]⟩])
  (.seq (.seq (.region false [o1 13 (.cpy 4),
   o1 14 (.lno 13 4),
   o1 15 (.mov (.c (.int .i64 0)))])
  (.block 0 (.loop (.seq (.region false [oB 16 .lss 15 14])
  (.seq (.cond (.t 16) (.skip)
  (.exit 0))
  (.seq (.block 1 (.seq (.region false [oM 17 15,
   oM 5 17])
  (.region false [o1 18 (.cpy 4),
   oM 19 5,
   oM 20 0,
   oM 21 5,
   o1 22 (.ixa 20 (.t 21) 2),
   o1 23 (.ld 22 22 2 false),
   oC 24 98 [23],
   o1 25 (.ixo 18 4 (.t 19) 2),
   oN (.st 25 4 2 (.t 24))])))
  (.region false [o1 26 (.bin .add (.t 15) (.c (.int .i64 1))),
   oM 15 26])))))))
  (.seq (.region false [o1 27 (.tra 4),
   o1 2 (.tra 27)])
  (.ret))))))⟩
def Tryz.r74 : List (Nat × Nat) := [(13, 4), (18, 4), (25, 4)]
theorem Tryz.i74_ok : fnOk Tryz.prog Tryz.r74 Tryz.f74 Tryz.i74 = true := by kernel_rfl

/- pinball/wide.Of -/
def Tryz.i75 : IFunc := ⟨1, 19, [.cell 2 2 false],
  .seq (.region false [o1 2 (.new [.bool false, .sl 0 []] [])])
  (.seq (.region false [oM 4 0,
   o1 5 (.cv .u64 (.t 4)),
   oM 3 5])
  (.seq (.seq (.region false [oM 6 0,
   o1 7 (.bin .lss (.t 6) (.c (.int .i64 0)))])
  (.cond (.t 7) (.region false [oM 8 3,
   o1 9 (.un .neg (.t 8)),
   oM 3 9])
  (.skip)))
  (.seq (.region false [oM 10 0,
   o1 11 (.bin .lss (.t 10) (.c (.int .i64 0))),
   oM 12 3,
   o1 13 (.cv .u32 (.t 12)),
   oM 14 3,
   o1 15 (.bin .shr (.t 14) (.c (.int .u64 32))),
   o1 16 (.cv .u32 (.t 15)),
   o1 17 (.bls 2 [.int .u32 0, .int .u32 0] [(0, 1, .t 13), (1, 1, .t 16)]),
   oC 18 97 [11, 17],
   oN (.st 2 2 2 (.t 18))])
  (.ret))))⟩
def Tryz.r75 : List (Nat × Nat) := []
theorem Tryz.i75_ok : fnOk Tryz.prog Tryz.r75 Tryz.f75 Tryz.i75 = true := by kernel_rfl

/- pinball/algebra.Negative -/
def Tryz.i76 : IFunc := ⟨1, 23, [.tmp 2],
  .seq (.region false [o1 2 (.nlo 2)])
  (.seq (.region false [oM 5 0,
   o1 6 (.len (.t 5)),
   o1 7 (.mks [.bool false, .sl 0 []] (.t 6)),
   ⟨some 3, .tra 7, none, [13, 20]⟩])
  (.seq (.seq (.region false [oM 8 0,
   o1 9 (.len (.t 8)),
   o1 10 (.mov (.c (.int .i64 0)))])
  (.block 0 (.loop (.seq (.region false [oB 11 .lss 10 9])
  (.seq (.cond (.t 11) (.skip)
  (.exit 0))
  (.seq (.block 1 (.seq (.region false [oM 12 10,
   oM 4 12])
  (.region false [o1 13 (.cpy 3),
   oM 14 4,
   oM 15 0,
   oM 16 4,
   o1 17 (.ixa 15 (.t 16) 2),
   o1 18 (.ld 17 17 2 false),
   oC 19 99 [18],
   o1 20 (.ixo 13 3 (.t 14) 2),
   oN (.st 20 3 2 (.t 19))])))
  (.region false [o1 21 (.bin .add (.t 10) (.c (.int .i64 1))),
   oM 10 21])))))))
  (.seq (.region false [o1 22 (.tra 3),
   o1 2 (.tra 22)])
  (.ret))))⟩
def Tryz.r76 : List (Nat × Nat) := [(13, 3), (20, 3)]
theorem Tryz.i76_ok : fnOk Tryz.prog Tryz.r76 Tryz.f76 Tryz.i76 = true := by kernel_rfl

/- pinball/wall.square -/
def Tryz.i77 : IFunc := ⟨2, 12, [.tmp 4],
  .seq (.region false [o1 4 (.nlo 2)])
  (.seq (.region false [oM 5 0,
   oM 6 0,
   oC 7 49 [5, 6],
   oM 8 1,
   oM 9 1,
   oC 10 49 [8, 9],
   o1 11 (.clo 70 [.t 7, .t 10]),
   o1 4 (.tra 11)])
  (.ret))⟩
def Tryz.r77 : List (Nat × Nat) := []
theorem Tryz.i77_ok : fnOk Tryz.prog Tryz.r77 Tryz.f77 Tryz.i77 = true := by kernel_rfl

/- pinball/flight.within -/
def Tryz.i78 : IFunc := ⟨2, 29, [.tmp 4],
  .seq (.region false [o1 2 (.box (.t 0) [5, 11, 17, 24]),
   o1 4 (.mov (.c (.bool false)))])
  (.seq (.region false [o1 5 (.adr 2 2 0),
   o1 6 (.ld 5 2 1 true),
   oM 7 1,
   o1 8 (.un .neg (.t 7)),
   oB 9 .geq 6 8,
   oM 10 9,
   oG 11 (.adr 2 2 0) 10 true,
   oG 12 (.ld 11 2 1 true) 10 true,
   oG 13 (.mov (.t 1)) 10 true,
   oG 14 (.bin .leq (.t 12) (.t 13)) 10 true,
   o1 15 (.pick (.t 10) (.t 14) (.c (.bool false))),
   oM 16 15,
   oG 17 (.adr 2 2 1) 16 true,
   oG 18 (.ld 17 2 1 true) 16 true,
   oG 19 (.mov (.t 1)) 16 true,
   oG 20 (.un .neg (.t 19)) 16 true,
   oG 21 (.bin .geq (.t 18) (.t 20)) 16 true,
   o1 22 (.pick (.t 16) (.t 21) (.c (.bool false))),
   oM 23 22,
   oG 24 (.adr 2 2 1) 23 true,
   oG 25 (.ld 24 2 1 true) 23 true,
   oG 26 (.mov (.t 1)) 23 true,
   oG 27 (.bin .leq (.t 25) (.t 26)) 23 true,
   o1 28 (.pick (.t 23) (.t 27) (.c (.bool false))),
   oM 4 28])
  (.ret))⟩
def Tryz.r78 : List (Nat × Nat) := [(5, 2), (11, 2), (17, 2), (24, 2)]
theorem Tryz.i78_ok : fnOk Tryz.prog Tryz.r78 Tryz.f78 Tryz.i78 = true := by kernel_rfl

/- pinball/pinballref01.Trim -/
def Tryz.i79 : IFunc := ⟨1, 8, [.cell 2 2 false],
  .seq (.region false [o1 1 (.box (.t 0) [3, 5]),
   o1 2 (.new [.bool false, .sl 0 []] [])])
  (.seq (.region false [o1 3 (.adr 1 1 0),
   o1 4 (.ld 3 1 1 true),
   o1 5 (.adr 1 1 1),
   o1 6 (.ld 5 1 1 true),
   oC 7 65 [4, 6],
   oN (.st 2 2 2 (.t 7))])
  (.ret))⟩
def Tryz.r79 : List (Nat × Nat) := [(3, 1), (5, 1)]
theorem Tryz.i79_ok : fnOk Tryz.prog Tryz.r79 Tryz.f79 Tryz.i79 = true := by kernel_rfl

/- pinball/pinballref01.Plus -/
def Tryz.i80 : IFunc := ⟨2, 42, [.cell 4 2 false],
  .seq (.region false [o1 2 (.box (.t 0) [7, 14, 19, 30]),
   o1 3 (.box (.t 1) [10, 16, 36]),
   o1 4 (.new [.bool false, .sl 0 []] [])])
  (.seq (.region true [o1 7 (.adr 2 2 1),
   o1 8 (.ld 7 2 1 true),
   oC 9 67 [8],
   o1 10 (.adr 3 3 1),
   o1 11 (.ld 10 3 1 true),
   oC 12 67 [11],
   oM 5 9,
   oM 6 12])
  (.seq (.block 0 (.seq (.region false [o1 14 (.adr 2 2 0),
   o1 15 (.ld 14 2 1 true),
   o1 16 (.adr 3 3 0),
   o1 17 (.ld 16 3 1 true),
   o1 18 (.eqb false (.t 15) (.t 17)),
   oM 13 18])
  (.cond (.t 13) (.seq (.region true [o1 19 (.adr 2 2 0),
   o1 20 (.ld 19 2 1 true),
   oM 21 5,
   oM 22 6,
   oC 23 100 [21, 22],
   oC 24 65 [20, 23],
   oN (.st 4 4 2 (.t 24))])
  (.ret))
  (.seq (.region false [oM 26 5,
   oM 27 6,
   oC 28 66 [26, 27],
   o1 29 (.bin .geq (.t 28) (.c (.int .i64 0))),
   oM 25 29])
  (.cond (.t 25) (.seq (.region true [o1 30 (.adr 2 2 0),
   o1 31 (.ld 30 2 1 true),
   oM 32 5,
   oM 33 6,
   oC 34 101 [32, 33],
   oC 35 65 [31, 34],
   oN (.st 4 4 2 (.t 35))])
  (.ret))
  (.skip))))))
  (.seq (.region true [o1 36 (.adr 3 3 0),
   o1 37 (.ld 36 3 1 true),
   oM 38 6,
   oM 39 5,
   oC 40 101 [38, 39],
   oC 41 65 [37, 40],
   oN (.st 4 4 2 (.t 41))])
  (.ret))))⟩
def Tryz.r80 : List (Nat × Nat) := [(7, 2), (10, 3), (14, 2), (16, 3), (19, 2), (30, 2), (36, 3)]
theorem Tryz.i80_ok : fnOk Tryz.prog Tryz.r80 Tryz.f80 Tryz.i80 = true := by kernel_rfl

/- pinball/pinballref01.Up -/
def Tryz.i81 : IFunc := ⟨2, 51, [.cell 4 2 false],
  .seq (.region false [o1 2 (.box (.t 0) [17, 44]),
   o1 4 (.new [.bool false, .sl 0 []] [])])
  (.seq (.region false [oM 11 1,
   o1 12 (.bin .quo (.t 11) (.c (.int .i64 32))),
   o1 13 (.mks [.int .u32 0] (.t 12)),
   o1 5 (.tra 13)])
  (.seq (.region false [o1 6 (.mov (.c (.int .u32 0)))])
  (.seq (.region false [oM 14 1,
   o1 15 (.bin .rem (.t 14) (.c (.int .i64 32))),
   o1 16 (.cv .u64 (.t 15)),
   oM 7 16])
  (.seq (.region false [o1 17 (.adr 2 2 1),
   o1 18 (.ld 17 2 1 true),
   oC 19 67 [18],
   oM 8 19])
  (.seq (.seq (.region false [o1 9 (.mov (.c (.int .i64 0)))])
  (.block 0 (.loop (.seq (.seq (.region false [oM 20 9,
   oM 21 8,
   o1 22 (.len (.t 21)),
   oB 23 .lss 20 22])
  (.cond (.t 23) (.skip)
  (.exit 0)))
  (.seq (.block 1 (.seq (.region false [oM 26 8,
   oM 27 9,
   o1 28 (.ixa 26 (.t 27) 1),
   o1 29 (.ld 28 28 1 true),
   o1 30 (.cv .u64 (.t 29)),
   oM 31 7,
   oB 32 .shl 30 31,
   oM 33 6,
   o1 34 (.cv .u64 (.t 33)),
   oB 35 .or 32 34,
   oM 10 35])
  (.seq (.region false [o1 36 (.tra 5),
   oM 37 10,
   o1 38 (.cv .u32 (.t 37)),
   o1 39 (.bls 1 [.int .u32 0] [(0, 1, .t 38)]),
   o1 40 (.apd true (.t 36) (.t 39) 1),
   o1 5 (.tra 40)])
  (.region false [oM 41 10,
   o1 42 (.bin .shr (.t 41) (.c (.int .u64 32))),
   o1 43 (.cv .u32 (.t 42)),
   oM 6 43]))))
  (.region false [oM 24 9,
   o1 25 (.bin .add (.t 24) (.c (.int .i64 1))),
   oM 9 25]))))))
  (.seq (.region true [o1 44 (.adr 2 2 0),
   o1 45 (.ld 44 2 1 true),
   o1 46 (.tra 5),
   oM 47 6,
   o1 48 (.bls 1 [.int .u32 0] [(0, 1, .t 47)]),
   o1 49 (.apd false (.t 46) (.t 48) 1),
   oC 50 65 [45, 49],
   oN (.st 4 4 2 (.t 50))])
  (.ret)))))))⟩
def Tryz.r81 : List (Nat × Nat) := [(17, 2), (44, 2)]
theorem Tryz.i81_ok : fnOk Tryz.prog Tryz.r81 Tryz.f81 Tryz.i81 = true := by kernel_rfl

/- pinball/pinballref05.Bernstein -/
def Tryz.i82 : IFunc := ⟨1, 65, [.tmp 2],
  .seq (.region false [o1 2 (.nlo 2)])
  (.seq (.region false [oM 11 0,
   oC 12 54 [11],
   oM 3 12])
  (.seq (.region false [oM 13 3,
   o1 14 (.len (.t 13)),
   o1 15 (.bin .sub (.t 14) (.c (.int .i64 1))),
   oM 4 15])
  (.seq (.region false [o1 5 (.mov (.c (.int .i64 1)))])
  (.seq (.seq (.region false [o1 6 (.mov (.c (.int .i64 0)))])
  (.block 0 (.loop (.seq (.seq (.region false [oM 16 6,
   oM 17 4,
   oB 18 .leq 16 17])
  (.cond (.t 18) (.skip)
  (.exit 0)))
  (.seq (.block 1 (.region false [oM 21 5,
   oM 22 4,
   oM 23 6,
   oC 24 102 [22, 23],
   oB 25 .mul 21 24,
   oM 26 5,
   oM 27 4,
   oM 28 6,
   oC 29 102 [27, 28],
   oC 30 103 [26, 29],
   oB 31 .quo 25 30,
   oM 5 31]))
  (.region false [oM 19 6,
   o1 20 (.bin .add (.t 19) (.c (.int .i64 1))),
   oM 6 20]))))))
  (.seq (.region false [o1 7 (.nlo 2)])
  (.seq (.seq (.region false [o1 8 (.mov (.c (.int .i64 0)))])
  (.block 2 (.loop (.seq (.seq (.region false [oM 32 8,
   oM 33 4,
   oB 34 .leq 32 33])
  (.cond (.t 34) (.skip)
  (.exit 2)))
  (.seq (.block 3 (.seq (.region false [o1 37 (.bld [.bool false, .sl 0 []] []),
   o1 9 (.new [.bool false, .sl 0 []] []),
   oN (.st 9 9 2 (.t 37))])
  (.seq (.seq (.region false [o1 10 (.mov (.c (.int .i64 0)))])
  (.block 4 (.loop (.seq (.seq (.region false [oM 38 10,
   oM 39 8,
   oB 40 .leq 38 39])
  (.cond (.t 40) (.skip)
  (.exit 4)))
  (.seq (.block 5 (.region true [o1 43 (.ld 9 9 2 false),
   oM 44 8,
   oM 45 10,
   oC 46 102 [44, 45],
   oM 47 5,
   oM 48 4,
   oM 49 10,
   oC 50 102 [48, 49],
   oB 51 .quo 47 50,
   oB 52 .mul 46 51,
   oC 53 34 [52],
   oM 54 3,
   oM 55 10,
   o1 56 (.ixa 54 (.t 55) 2),
   o1 57 (.ld 56 56 2 false),
   oC 58 37 [53, 57],
   oC 59 80 [43, 58],
   oN (.st 9 9 2 (.t 59))]))
  (.region false [oM 41 10,
   o1 42 (.bin .add (.t 41) (.c (.int .i64 1))),
   oM 10 42]))))))
  (.region false [o1 60 (.tra 7),
   o1 61 (.ld 9 9 2 false),
   o1 62 (.bls 1 [.bool false, .sl 0 []] [(0, 2, .t 61)]),
   o1 63 (.apd true (.t 60) (.t 62) 2),
   o1 7 (.tra 63)]))))
  (.region false [oM 35 8,
   o1 36 (.bin .add (.t 35) (.c (.int .i64 1))),
   oM 8 36]))))))
  (.seq (.region false [o1 64 (.tra 7),
   o1 2 (.tra 64)])
  (.ret))))))))⟩
def Tryz.r82 : List (Nat × Nat) := []
theorem Tryz.i82_ok : fnOk Tryz.prog Tryz.r82 Tryz.f82 Tryz.i82 = true := by kernel_rfl

/- pinball/pinballref05.quick -/
def Tryz.i83 : IFunc := ⟨4, 152, [.cell 8 7 false, .tmp 9],
  .seq (.region false [o1 8 (.new [.sl 0 [], .bool false, .sl 0 [], .int .i64 0, .bool false, .sl 0 [], .int .i64 0] []),
   o1 9 (.mov (.c (.int .i64 0)))])
  (.seq (.region false [o1 10 (.mov (.c (.bool true))),
   o1 11 (.mov (.c (.int .i64 0))),
   o1 12 (.mov (.c (.int .i64 0)))])
  (.seq (.seq (.region false [o1 13 (.mov (.c (.int .i64 0)))])
  (.block 0 (.loop (.seq (.seq (.region false [oM 24 13,
   oM 25 1,
   o1 26 (.len (.t 25)),
   oB 27 .lss 24 26])
  (.cond (.t 27) (.skip)
  (.exit 0)))
  (.seq (.block 1 (.seq (.region false [oM 31 1,
   oM 32 13,
   o1 33 (.ixa 31 (.t 32) 1),
   o1 34 (.ld 33 33 1 true),
   oC 35 104 [34],
   oM 30 35,
   o1 36 (.ext (.t 30) 0),
   o1 37 (.ext (.t 30) 1),
   o1 38 (.ext (.t 30) 2),
   oM 14 36,
   oM 15 37,
   oM 16 38])
  (.seq (.seq (.region false [oM 39 16,
   o1 40 (.un .not (.t 39))])
  (.cond (.t 40) (.seq (.region false [o1 41 (.bld [.sl 0 [], .bool false, .sl 0 [], .int .i64 0, .bool false, .sl 0 [], .int .i64 0] []),
   oN (.st 8 8 7 (.t 41)),
   o1 9 (.mov (.c (.int .i64 0)))])
  (.ret))
  (.skip)))
  (.seq (.region false [oM 42 10,
   oM 43 42,
   oG 44 (.mov (.t 14)) 43 true,
   oG 45 (.bin .gtr (.t 44) (.c (.int .i64 0))) 43 true,
   o1 46 (.pick (.t 43) (.t 45) (.c (.bool false))),
   oM 10 46])
  (.seq (.region false [oM 47 15,
   o1 48 (.bin .gtr (.t 47) (.c (.int .i64 0))),
   oM 49 48,
   oG 50 (.mov (.t 14)) 49 false,
   oG 51 (.bin .lss (.t 50) (.c (.int .i64 0))) 49 false,
   o1 52 (.pick (.t 49) (.c (.bool true)) (.t 51))])
  (.cond (.t 52) (.seq (.region false [oM 53 11,
   o1 54 (.bin .add (.t 53) (.c (.int .i64 1))),
   oM 55 13,
   oM 11 54,
   oM 12 55])
  (.seq (.region true [oM 56 15,
   o1 57 (.bin .neq (.t 56) (.c (.int .i64 1))),
   oM 58 57,
   oG 59 (.mov (.t 14)) 58 false,
   oG 60 (.bin .gtr (.t 59) (.c (.int .i64 0))) 58 false,
   o1 61 (.pick (.t 58) (.c (.bool true)) (.t 60)),
   oM 62 61,
   oG 63 (.mov (.t 1)) 62 false,
   oG 64 (.mov (.t 13)) 62 false,
   oG 65 (.ixa 63 (.t 64) 1) 62 false,
   oG 66 (.ld 65 65 1 true) 62 false,
   oG 67 (.mov (.t 1)) 62 false,
   oG 68 (.mov (.t 13)) 62 false,
   oG 69 (.ixa 67 (.t 68) 1) 62 false,
   oG 70 (.ld 69 69 1 true) 62 false,
   oG 71 (.len (.t 70)) 62 false,
   oG 72 (.bin .sub (.t 71) (.c (.int .i64 1))) 62 false,
   oG 73 (.ixa 66 (.t 72) 2) 62 false,
   oG 74 (.ld 73 73 2 false) 62 false,
   oG 75 (.call 55 [.t 74]) 62 false,
   oG 76 (.bin .eql (.t 75) (.c (.int .i64 0))) 62 false,
   o1 77 (.pick (.t 62) (.c (.bool true)) (.t 76))])
  (.cond (.t 77) (.region false [oM 78 1,
   o1 79 (.len (.t 78)),
   o1 80 (.bin .add (.t 79) (.c (.int .i64 2))),
   oM 11 80])
  (.skip))))
  (.skip)))))))
  (.region false [oM 28 13,
   o1 29 (.bin .add (.t 28) (.c (.int .i64 1))),
   oM 13 29]))))))
  (.seq (.seq (.region false [oM 81 10])
  (.cond (.t 81) (.seq (.region false [oM 82 2,
   oC 83 34 [82],
   oM 84 3,
   o1 85 (.bld [.bool false, .sl 0 [], .int .i64 0] [(0, 2, .t 83), (2, 1, .t 84)]),
   oC 86 105 [85],
   oN (.st 8 8 7 (.t 86)),
   o1 9 (.mov (.c (.int .i64 1)))])
  (.ret))
  (.skip)))
  (.seq (.seq (.region false [oM 87 11,
   o1 88 (.bin .eql (.t 87) (.c (.int .i64 1)))])
  (.cond (.t 88) (.seq (.region true [oM 89 0,
   oM 90 12,
   o1 91 (.ixa 89 (.t 90) 1),
   o1 92 (.ld 91 91 1 true),
   oM 93 2,
   oC 94 34 [93],
   oM 95 3,
   o1 96 (.bld [.bool false, .sl 0 [], .int .i64 0] [(0, 2, .t 94), (2, 1, .t 95)]),
   oM 97 2,
   o1 98 (.bin .add (.t 97) (.c (.int .i64 1))),
   oC 99 34 [98],
   oM 100 3,
   o1 101 (.bld [.bool false, .sl 0 [], .int .i64 0] [(0, 2, .t 99), (2, 1, .t 100)]),
   o1 102 (.bld [.sl 0 [], .bool false, .sl 0 [], .int .i64 0, .bool false, .sl 0 [], .int .i64 0] [(0, 1, .t 92), (1, 3, .t 96), (4, 3, .t 101)]),
   oN (.st 8 8 7 (.t 102)),
   o1 9 (.mov (.c (.int .i64 1)))])
  (.ret))
  (.skip)))
  (.seq (.seq (.region false [oM 103 3,
   o1 104 (.bin .eql (.t 103) (.c (.int .i64 10)))])
  (.cond (.t 104) (.seq (.region false [o1 105 (.bld [.sl 0 [], .bool false, .sl 0 [], .int .i64 0, .bool false, .sl 0 [], .int .i64 0] []),
   oN (.st 8 8 7 (.t 105)),
   o1 9 (.mov (.c (.int .i64 2)))])
  (.ret))
  (.skip)))
  (.seq (.region false [o1 17 (.nlo 1),
   o1 18 (.nlo 1)])
  (.seq (.seq (.region false [o1 19 (.mov (.c (.int .i64 0)))])
  (.block 2 (.loop (.seq (.seq (.region false [oM 106 19,
   oM 107 1,
   o1 108 (.len (.t 107)),
   oB 109 .lss 106 108])
  (.cond (.t 109) (.skip)
  (.exit 2)))
  (.seq (.block 3 (.seq (.region false [oM 113 1,
   oM 114 19,
   o1 115 (.ixa 113 (.t 114) 1),
   o1 116 (.ld 115 115 1 true),
   oC 117 106 [116],
   oM 112 117,
   o1 118 (.ext (.t 112) 0),
   o1 119 (.ext (.t 112) 1),
   oM 20 118,
   oM 21 119])
  (.region false [o1 120 (.tra 17),
   oM 121 20,
   o1 122 (.bls 1 [.sl 0 []] [(0, 1, .t 121)]),
   o1 123 (.apd true (.t 120) (.t 122) 1),
   o1 124 (.tra 18),
   oM 125 21,
   o1 126 (.bls 1 [.sl 0 []] [(0, 1, .t 125)]),
   o1 127 (.apd true (.t 124) (.t 126) 1),
   o1 17 (.tra 123),
   o1 18 (.tra 127)])))
  (.region false [oM 110 19,
   o1 111 (.bin .add (.t 110) (.c (.int .i64 1))),
   oM 19 111]))))))
  (.seq (.region false [oM 129 0,
   o1 130 (.frz 17),
   oM 131 2,
   o1 132 (.bin .mul (.c (.int .i64 2)) (.t 131)),
   oM 133 3,
   o1 134 (.bin .add (.t 133) (.c (.int .i64 1))),
   oC 135 83 [129, 130, 132, 134],
   oM 128 135,
   o1 136 (.ext (.t 128) 0),
   o1 137 (.ext (.t 128) 1),
   o1 22 (.new [.sl 0 [], .bool false, .sl 0 [], .int .i64 0, .bool false, .sl 0 [], .int .i64 0] []),
   oN (.st 22 22 7 (.t 136)),
   oM 23 137])
  (.seq (.seq (.region false [oM 138 23,
   o1 139 (.bin .neq (.t 138) (.c (.int .i64 0)))])
  (.cond (.t 139) (.seq (.region false [o1 140 (.ld 22 22 7 false),
   oM 141 23,
   oN (.st 8 8 7 (.t 140)),
   oM 9 141])
  (.ret))
  (.skip)))
  (.seq (.region false [oM 142 0,
   o1 143 (.frz 18),
   oM 144 2,
   o1 145 (.bin .mul (.c (.int .i64 2)) (.t 144)),
   o1 146 (.bin .add (.t 145) (.c (.int .i64 1))),
   oM 147 3,
   o1 148 (.bin .add (.t 147) (.c (.int .i64 1))),
   oC 149 83 [142, 143, 146, 148],
   o1 150 (.ext (.t 149) 0),
   o1 151 (.ext (.t 149) 1),
   oN (.st 8 8 7 (.t 150)),
   oM 9 151])
  (.ret)))))))))))⟩
def Tryz.r83 : List (Nat × Nat) := []
theorem Tryz.i83_ok : fnOk Tryz.prog Tryz.r83 Tryz.f83 Tryz.i83 = true := by kernel_rfl

/- pinball/pinballref05.exact -/
def Tryz.i84 : IFunc := ⟨1, 51, [.cell 2 7 false, .tmp 3],
  .seq (.region false [o1 2 (.new [.sl 0 [], .bool false, .sl 0 [], .int .i64 0, .bool false, .sl 0 [], .int .i64 0] []),
   o1 3 (.mov (.c (.bool false)))])
  (.seq (.region false [oM 9 0,
   oC 10 107 [9],
   oM 4 10])
  (.seq (.region false [o1 11 (.bld [.sl 0 [], .bool false, .sl 0 [], .int .i64 0, .bool false, .sl 0 [], .int .i64 0] []),
   o1 5 (.new [.sl 0 [], .bool false, .sl 0 [], .int .i64 0, .bool false, .sl 0 [], .int .i64 0] []),
   oN (.st 5 5 7 (.t 11))])
  (.seq (.seq (.region false [o1 6 (.mov (.c (.int .i64 0)))])
  (.block 0 (.loop (.seq (.seq (.region false [oM 12 6,
   oM 13 4,
   o1 14 (.len (.t 13)),
   oB 15 .leq 12 14])
  (.cond (.t 15) (.skip)
  (.exit 0)))
  (.seq (.block 1 (.seq (.region false [o1 18 (.bld [.sl 0 [], .bool false, .sl 0 [], .int .i64 0, .bool false, .sl 0 [], .int .i64 0] []),
   oM 19 6,
   oM 20 4,
   o1 21 (.len (.t 20)),
   oB 22 .lss 19 21,
   o1 7 (.new [.sl 0 [], .bool false, .sl 0 [], .int .i64 0, .bool false, .sl 0 [], .int .i64 0] []),
   oN (.st 7 7 7 (.t 18)),
   oM 8 22])
  (.seq (.seq (.region false [oM 23 8])
  (.cond (.t 23) (.region false [oM 24 4,
   oM 25 6,
   o1 26 (.ixa 24 (.t 25) 7),
   o1 27 (.ld 26 26 7 false),
   oN (.st 7 7 7 (.t 27))])
  (.skip)))
  (.seq (.seq (.region true [oM 28 6,
   o1 29 (.bin .gtr (.t 28) (.c (.int .i64 0))),
   oM 30 29,
   oG 31 (.ld 5 5 7 false) 30 true,
   oG 32 (.call 108 [.c (.int .i64 1)]) 30 true,
   oG 33 (.call 86 [.t 31, .t 32]) 30 true,
   oG 34 (.bin .geq (.t 33) (.c (.int .i64 0))) 30 true,
   o1 35 (.pick (.t 30) (.t 34) (.c (.bool false)))])
  (.cond (.t 35) (.exit 0)
  (.skip)))
  (.seq (.seq (.region false [oM 36 0,
   o1 37 (.ld 5 5 7 false),
   oM 38 6,
   o1 39 (.bin .gtr (.t 38) (.c (.int .i64 0))),
   o1 40 (.ld 7 7 7 false),
   oM 41 8,
   oC 42 110 [37, 39, 40, 41],
   oC 43 109 [36, 42]])
  (.cond (.t 43) (.seq (.seq (.region false [oM 44 6,
   o1 45 (.bin .eql (.t 44) (.c (.int .i64 0)))])
  (.cond (.t 45) (.seq (.region false [o1 46 (.call 108 [.c (.int .i64 0)]),
   oC 47 105 [46],
   oN (.st 2 2 7 (.t 47)),
   o1 3 (.mov (.c (.bool true)))])
  (.ret))
  (.skip)))
  (.seq (.region false [o1 48 (.ld 5 5 7 false),
   oN (.st 2 2 7 (.t 48)),
   o1 3 (.mov (.c (.bool true)))])
  (.ret)))
  (.skip)))
  (.region false [o1 49 (.ld 7 7 7 false),
   oN (.st 5 5 7 (.t 49))]))))))
  (.region false [oM 16 6,
   o1 17 (.bin .add (.t 16) (.c (.int .i64 1))),
   oM 6 17]))))))
  (.seq (.region false [o1 50 (.bld [.sl 0 [], .bool false, .sl 0 [], .int .i64 0, .bool false, .sl 0 [], .int .i64 0] []),
   oN (.st 2 2 7 (.t 50)),
   o1 3 (.mov (.c (.bool false)))])
  (.ret)))))⟩
def Tryz.r84 : List (Nat × Nat) := []
theorem Tryz.i84_ok : fnOk Tryz.prog Tryz.r84 Tryz.f84 Tryz.i84 = true := by kernel_rfl

/- pinball/pinballref03.Compare -/
def Tryz.i85 : IFunc := ⟨2, 16, [.tmp 4],
  .seq (.region false [o1 2 (.box (.t 0) [5, 12]),
   o1 3 (.box (.t 1) [7, 10]),
   o1 4 (.mov (.c (.int .i64 0)))])
  (.seq (.region true [o1 5 (.adr 2 2 0),
   o1 6 (.ld 5 2 2 false),
   o1 7 (.adr 3 3 2),
   o1 8 (.ld 7 3 1 true),
   oC 9 81 [6, 8],
   o1 10 (.adr 3 3 0),
   o1 11 (.ld 10 3 2 false),
   o1 12 (.adr 2 2 2),
   o1 13 (.ld 12 2 1 true),
   oC 14 81 [11, 13],
   oC 15 36 [9, 14],
   oM 4 15])
  (.ret))⟩
def Tryz.r85 : List (Nat × Nat) := [(5, 2), (7, 3), (10, 3), (12, 2)]
theorem Tryz.i85_ok : fnOk Tryz.prog Tryz.r85 Tryz.f85 Tryz.i85 = true := by kernel_rfl

/- pinball/pinballref04.With -/
def Tryz.i86 : IFunc := ⟨2, 60, [.tmp 4],
  .seq (.region false [o1 2 (.box (.t 0) [10, 14, 18, 20, 32, 40, 42, 43, 45, 46]),
   o1 3 (.box (.t 1) [34, 36]),
   o1 4 (.mov (.c (.int .i64 0)))])
  (.seq (.region true [o1 9 (.ld 3 3 3 false),
   o1 10 (.adr 2 2 1),
   o1 11 (.ld 10 2 3 false),
   oC 12 85 [9, 11],
   o1 13 (.ld 3 3 3 false),
   o1 14 (.adr 2 2 4),
   o1 15 (.ld 14 2 3 false),
   oC 16 85 [13, 15],
   oM 5 12,
   oM 6 16])
  (.seq (.block 0 (.seq (.region false [o1 18 (.adr 2 2 1),
   o1 19 (.ld 18 2 3 false),
   o1 20 (.adr 2 2 4),
   o1 21 (.ld 20 2 3 false),
   oC 22 85 [19, 21],
   o1 23 (.bin .eql (.t 22) (.c (.int .i64 0))),
   oM 17 23])
  (.cond (.t 17) (.seq (.region false [oM 24 5,
   o1 25 (.un .neg (.t 24)),
   oM 4 25])
  (.ret))
  (.seq (.region false [oM 27 5,
   o1 28 (.bin .leq (.t 27) (.c (.int .i64 0))),
   oM 26 28])
  (.cond (.t 26) (.seq (.region false [o1 4 (.mov (.c (.int .i64 1)))])
  (.ret))
  (.seq (.region false [oM 30 6,
   o1 31 (.bin .gtr (.t 30) (.c (.int .i64 0))),
   oM 29 31])
  (.cond (.t 29) (.seq (.region false [o1 4 (.mov (.c (.int .i64 (-1))))])
  (.ret))
  (.skip))))))))
  (.seq (.region false [o1 32 (.adr 2 2 0),
   o1 33 (.ld 32 2 1 true),
   o1 34 (.adr 3 3 0),
   o1 35 (.ld 34 3 2 false),
   o1 36 (.adr 3 3 2),
   o1 37 (.ld 36 3 1 true),
   oC 38 56 [33, 35, 37],
   oC 39 55 [38],
   oM 7 39])
  (.seq (.region false [o1 40 (.adr 2 2 0),
   o1 41 (.ld 40 2 1 true),
   o1 42 (.adr 2 2 4),
   o1 43 (.adr 42 2 0),
   o1 44 (.ld 43 2 2 false),
   o1 45 (.adr 2 2 4),
   o1 46 (.adr 45 2 2),
   o1 47 (.ld 46 2 1 true),
   oC 48 56 [41, 44, 47],
   oC 49 55 [48],
   oM 8 49])
  (.seq (.block 1 (.seq (.region false [oM 51 7,
   o1 52 (.bin .eql (.t 51) (.c (.int .i64 0))),
   oM 50 52])
  (.cond (.t 50) (.seq (.region false [o1 4 (.mov (.c (.int .i64 0)))])
  (.ret))
  (.seq (.region false [oM 54 8,
   o1 55 (.bin .eql (.t 54) (.c (.int .i64 0))),
   oM 53 55])
  (.cond (.t 53) (.seq (.region false [o1 4 (.mov (.c (.int .i64 1)))])
  (.ret))
  (.seq (.region false [oM 57 7,
   oM 58 8,
   oB 59 .eql 57 58,
   oM 56 59])
  (.cond (.t 56) (.seq (.region false [o1 4 (.mov (.c (.int .i64 (-1))))])
  (.ret))
  (.skip))))))))
  (.seq (.region false [o1 4 (.mov (.c (.int .i64 1)))])
  (.ret)))))))⟩
def Tryz.r86 : List (Nat × Nat) := [(10, 2), (14, 2), (18, 2), (20, 2), (32, 2), (34, 3), (36, 3), (40, 2), (42, 2), (43, 2), (45, 2), (46, 2)]
theorem Tryz.i86_ok : fnOk Tryz.prog Tryz.r86 Tryz.f86 Tryz.i86 = true := by kernel_rfl

/- pinball/pinballref04.within -/
def Tryz.i87 : IFunc := ⟨2, 25, [.tmp 4],
  .seq (.region false [o1 2 (.box (.t 0) [8, 10, 15, 19, 21]),
   o1 4 (.mov (.c (.bool false)))])
  (.seq (.seq (.region false [oM 5 1,
   o1 6 (.len (.t 5)),
   o1 7 (.bin .lss (.t 6) (.c (.int .i64 2)))])
  (.cond (.t 7) (.seq (.region false [o1 4 (.mov (.c (.bool false)))])
  (.ret))
  (.skip)))
  (.seq (.seq (.region false [o1 8 (.adr 2 2 1),
   o1 9 (.ld 8 2 3 false),
   o1 10 (.adr 2 2 4),
   o1 11 (.ld 10 2 3 false),
   oC 12 85 [9, 11],
   o1 13 (.bin .eql (.t 12) (.c (.int .i64 0)))])
  (.cond (.t 13) (.seq (.region false [oM 14 1,
   o1 15 (.adr 2 2 1),
   o1 16 (.ld 15 2 3 false),
   oC 17 111 [14, 16],
   oM 4 17])
  (.ret))
  (.skip)))
  (.seq (.region false [oM 18 1,
   o1 19 (.adr 2 2 1),
   o1 20 (.ld 19 2 3 false),
   o1 21 (.adr 2 2 4),
   o1 22 (.ld 21 2 3 false),
   oC 23 112 [18, 20, 22],
   o1 24 (.bin .eql (.t 23) (.c (.int .i64 1))),
   oM 4 24])
  (.ret))))⟩
def Tryz.r87 : List (Nat × Nat) := [(8, 2), (10, 2), (15, 2), (19, 2), (21, 2)]
theorem Tryz.i87_ok : fnOk Tryz.prog Tryz.r87 Tryz.f87 Tryz.i87 = true := by kernel_rfl

/- pinball/pinballref02.Common -/
def Tryz.i88 : IFunc := ⟨2, 22, [.tmp 4],
  .seq (.region false [o1 4 (.nlo 2)])
  (.seq (.region false [oM 8 0,
   oC 9 113 [8],
   oM 10 1,
   oC 11 113 [10],
   oM 5 9,
   oM 6 11])
  (.seq (.block 0 (.loop (.seq (.seq (.region false [oM 12 6,
   o1 13 (.len (.t 12)),
   o1 14 (.bin .gtr (.t 13) (.c (.int .i64 0)))])
  (.cond (.t 14) (.skip)
  (.exit 0)))
  (.block 1 (.seq (.region false [oM 15 5,
   oM 16 6,
   oC 17 114 [15, 16],
   oM 7 17])
  (.region false [oM 18 6,
   oM 19 7,
   oM 5 18,
   oM 6 19]))))))
  (.seq (.region false [oM 20 5,
   o1 21 (.clo 115 [.t 20]),
   o1 4 (.tra 21)])
  (.ret))))⟩
def Tryz.r88 : List (Nat × Nat) := []
theorem Tryz.i88_ok : fnOk Tryz.prog Tryz.r88 Tryz.f88 Tryz.i88 = true := by kernel_rfl

/- pinball/pinballref04.apart -/
def Tryz.i89 : IFunc := ⟨2, 19, [.tmp 4],
  .seq (.region false [o1 2 (.box (.t 0) [5, 14]),
   o1 3 (.box (.t 1) [7, 12]),
   o1 4 (.mov (.c (.bool false)))])
  (.seq (.region false [o1 5 (.adr 2 2 4),
   o1 6 (.ld 5 2 3 false),
   o1 7 (.adr 3 3 1),
   o1 8 (.ld 7 3 3 false),
   oC 9 85 [6, 8],
   o1 10 (.bin .leq (.t 9) (.c (.int .i64 0))),
   oM 11 10,
   oG 12 (.adr 3 3 4) 11 false,
   oG 13 (.ld 12 3 3 false) 11 false,
   oG 14 (.adr 2 2 1) 11 false,
   oG 15 (.ld 14 2 3 false) 11 false,
   oG 16 (.call 85 [.t 13, .t 15]) 11 false,
   oG 17 (.bin .leq (.t 16) (.c (.int .i64 0))) 11 false,
   o1 18 (.pick (.t 11) (.c (.bool true)) (.t 17)),
   oM 4 18])
  (.ret))⟩
def Tryz.r89 : List (Nat × Nat) := [(5, 2), (7, 3), (12, 3), (14, 2)]
theorem Tryz.i89_ok : fnOk Tryz.prog Tryz.r89 Tryz.f89 Tryz.i89 = true := by kernel_rfl

/- pinball/pinballref04.Halve -/
def Tryz.i90 : IFunc := ⟨1, 32, [.cell 2 7 false],
  .seq (.region false [o1 1 (.box (.t 0) [4, 6, 11, 13, 20, 22, 26, 29]),
   o1 2 (.new [.sl 0 [], .bool false, .sl 0 [], .int .i64 0, .bool false, .sl 0 [], .int .i64 0] [])])
  (.seq (.seq (.region false [o1 4 (.adr 1 1 1),
   o1 5 (.ld 4 1 3 false),
   o1 6 (.adr 1 1 4),
   o1 7 (.ld 6 1 3 false),
   oC 8 85 [5, 7],
   o1 9 (.bin .eql (.t 8) (.c (.int .i64 0)))])
  (.cond (.t 9) (.seq (.region false [o1 10 (.ld 1 1 7 false),
   oN (.st 2 2 7 (.t 10))])
  (.ret))
  (.skip)))
  (.seq (.region false [o1 11 (.adr 1 1 1),
   o1 12 (.ld 11 1 3 false),
   o1 13 (.adr 1 1 4),
   o1 14 (.ld 13 1 3 false),
   oC 15 116 [12, 14],
   o1 3 (.new [.bool false, .sl 0 [], .int .i64 0] []),
   oN (.st 3 3 3 (.t 15))])
  (.seq (.seq (.region false [o1 16 (.ld 1 1 7 false),
   o1 17 (.ld 3 3 3 false),
   oC 18 86 [16, 17],
   o1 19 (.bin .leq (.t 18) (.c (.int .i64 0)))])
  (.cond (.t 19) (.seq (.region false [o1 20 (.adr 1 1 0),
   o1 21 (.ld 20 1 1 true),
   o1 22 (.adr 1 1 1),
   o1 23 (.ld 22 1 3 false),
   o1 24 (.ld 3 3 3 false),
   o1 25 (.bld [.sl 0 [], .bool false, .sl 0 [], .int .i64 0, .bool false, .sl 0 [], .int .i64 0] [(0, 1, .t 21), (1, 3, .t 23), (4, 3, .t 24)]),
   oN (.st 2 2 7 (.t 25))])
  (.ret))
  (.skip)))
  (.seq (.region false [o1 26 (.adr 1 1 0),
   o1 27 (.ld 26 1 1 true),
   o1 28 (.ld 3 3 3 false),
   o1 29 (.adr 1 1 4),
   o1 30 (.ld 29 1 3 false),
   o1 31 (.bld [.sl 0 [], .bool false, .sl 0 [], .int .i64 0, .bool false, .sl 0 [], .int .i64 0] [(0, 1, .t 27), (1, 3, .t 28), (4, 3, .t 30)]),
   oN (.st 2 2 7 (.t 31))])
  (.ret)))))⟩
def Tryz.r90 : List (Nat × Nat) := [(4, 1), (6, 1), (11, 1), (13, 1), (20, 1), (22, 1), (26, 1), (29, 1)]
theorem Tryz.i90_ok : fnOk Tryz.prog Tryz.r90 Tryz.f90 Tryz.i90 = true := by kernel_rfl

/- pinball/pinballref01.Down -/
def Tryz.i91 : IFunc := ⟨2, 104, [.cell 4 2 false],
  .seq (.region false [o1 2 (.box (.t 0) [13, 91, 95]),
   o1 4 (.new [.bool false, .sl 0 []] [])])
  (.seq (.region false [o1 13 (.adr 2 2 1),
   o1 14 (.ld 13 2 1 true),
   oC 15 67 [14],
   oM 5 15])
  (.seq (.region false [o1 6 (.nlo 1)])
  (.seq (.region false [o1 7 (.mov (.c (.bool false)))])
  (.seq (.seq (.region false [o1 8 (.mov (.c (.int .i64 0)))])
  (.block 0 (.loop (.seq (.seq (.region false [oM 16 8,
   oM 17 5,
   o1 18 (.len (.t 17)),
   oB 19 .lss 16 18,
   oM 20 19,
   oG 21 (.mov (.t 8)) 20 true,
   oG 22 (.mov (.t 1)) 20 true,
   oG 23 (.bin .quo (.t 22) (.c (.int .i64 32))) 20 true,
   oG 24 (.bin .lss (.t 21) (.t 23)) 20 true,
   o1 25 (.pick (.t 20) (.t 24) (.c (.bool false)))])
  (.cond (.t 25) (.skip)
  (.exit 0)))
  (.seq (.block 1 (.region false [oM 28 7,
   oM 29 28,
   oG 30 (.mov (.t 5)) 29 false,
   oG 31 (.mov (.t 8)) 29 false,
   oG 32 (.ixa 30 (.t 31) 1) 29 false,
   oG 33 (.ld 32 32 1 true) 29 false,
   oG 34 (.bin .neq (.t 33) (.c (.int .u32 0))) 29 false,
   o1 35 (.pick (.t 29) (.c (.bool true)) (.t 34)),
   oM 7 35]))
  (.region false [oM 26 8,
   o1 27 (.bin .add (.t 26) (.c (.int .i64 1))),
   oM 8 27]))))))
  (.seq (.region false [oM 36 1,
   o1 37 (.bin .rem (.t 36) (.c (.int .i64 32))),
   o1 38 (.cv .u64 (.t 37)),
   oM 9 38])
  (.seq (.seq (.region false [oM 39 1,
   o1 40 (.bin .quo (.t 39) (.c (.int .i64 32))),
   oM 10 40])
  (.block 2 (.loop (.seq (.seq (.region false [oM 41 10,
   oM 42 5,
   o1 43 (.len (.t 42)),
   oB 44 .lss 41 43])
  (.cond (.t 44) (.skip)
  (.exit 2)))
  (.seq (.block 3 (.seq (.region false [oM 47 5,
   oM 48 10,
   o1 49 (.ixa 47 (.t 48) 1),
   o1 50 (.ld 49 49 1 true),
   o1 51 (.cv .u64 (.t 50)),
   oM 11 51])
  (.seq (.seq (.region false [oM 52 10,
   o1 53 (.bin .add (.t 52) (.c (.int .i64 1))),
   oM 54 5,
   o1 55 (.len (.t 54)),
   oB 56 .lss 53 55])
  (.cond (.t 56) (.region false [oM 57 11,
   oM 58 5,
   oM 59 10,
   o1 60 (.bin .add (.t 59) (.c (.int .i64 1))),
   o1 61 (.ixa 58 (.t 60) 1),
   o1 62 (.ld 61 61 1 true),
   o1 63 (.cv .u64 (.t 62)),
   o1 64 (.bin .shl (.t 63) (.c (.int .u64 32))),
   oB 65 .or 57 64,
   oM 11 65])
  (.skip)))
  (.region false [o1 66 (.tra 6),
   oM 67 11,
   oM 68 9,
   oB 69 .shr 67 68,
   o1 70 (.cv .u32 (.t 69)),
   o1 71 (.bls 1 [.int .u32 0] [(0, 1, .t 70)]),
   o1 72 (.apd true (.t 66) (.t 71) 1),
   o1 6 (.tra 72)]))))
  (.region false [oM 45 10,
   o1 46 (.bin .add (.t 45) (.c (.int .i64 1))),
   oM 10 46]))))))
  (.seq (.seq (.region false [oM 73 1,
   o1 74 (.bin .quo (.t 73) (.c (.int .i64 32))),
   oM 75 5,
   o1 76 (.len (.t 75)),
   oB 77 .lss 74 76])
  (.cond (.t 77) (.region false [oM 78 7,
   oM 79 78,
   oG 80 (.mov (.t 5)) 79 false,
   oG 81 (.mov (.t 1)) 79 false,
   oG 82 (.bin .quo (.t 81) (.c (.int .i64 32))) 79 false,
   oG 83 (.ixa 80 (.t 82) 1) 79 false,
   oG 84 (.ld 83 83 1 true) 79 false,
   oG 85 (.mov (.t 9)) 79 false,
   oG 86 (.bin .shl (.c (.int .u32 1)) (.t 85)) 79 false,
   oG 87 (.bin .sub (.t 86) (.c (.int .u32 1))) 79 false,
   oG 88 (.bin .and (.t 84) (.t 87)) 79 false,
   oG 89 (.bin .neq (.t 88) (.c (.int .u32 0))) 79 false,
   o1 90 (.pick (.t 79) (.c (.bool true)) (.t 89)),
   oM 7 90])
  (.skip)))
  (.seq (.region false [o1 91 (.adr 2 2 0),
   o1 92 (.ld 91 2 1 true),
   o1 93 (.frz 6),
   oC 94 65 [92, 93],
   o1 12 (.new [.bool false, .sl 0 []] []),
   oN (.st 12 12 2 (.t 94))])
  (.seq (.seq (.region false [o1 95 (.adr 2 2 0),
   o1 96 (.ld 95 2 1 true),
   oM 97 96,
   oG 98 (.mov (.t 7)) 97 true,
   o1 99 (.pick (.t 97) (.t 98) (.c (.bool false)))])
  (.cond (.t 99) (.seq (.region true [o1 100 (.ld 12 12 2 false),
   o1 101 (.call 34 [.c (.int .i64 1)]),
   oC 102 92 [100, 101],
   oN (.st 4 4 2 (.t 102))])
  (.ret))
  (.skip)))
  (.seq (.region false [o1 103 (.ld 12 12 2 false),
   oN (.st 4 4 2 (.t 103))])
  (.ret)))))))))))⟩
def Tryz.r91 : List (Nat × Nat) := [(13, 2), (91, 2), (95, 2)]
theorem Tryz.i91_ok : fnOk Tryz.prog Tryz.r91 Tryz.f91 Tryz.i91 = true := by kernel_rfl

/- pinball/pinballref01.Minus -/
def Tryz.i92 : IFunc := ⟨2, 9, [.cell 4 2 false],
  .seq (.region false [o1 2 (.box (.t 0) []),
   o1 3 (.box (.t 1) []),
   o1 4 (.new [.bool false, .sl 0 []] [])])
  (.seq (.region true [o1 5 (.ld 2 2 2 false),
   o1 6 (.ld 3 3 2 false),
   oC 7 117 [6],
   oC 8 80 [5, 7],
   oN (.st 4 4 2 (.t 8))])
  (.ret))⟩
def Tryz.r92 : List (Nat × Nat) := []
theorem Tryz.i92_ok : fnOk Tryz.prog Tryz.r92 Tryz.f92 Tryz.i92 = true := by kernel_rfl

/- pinball/poly.Of -/
def Tryz.i93 : IFunc := ⟨1, 5, [.tmp 2],
  .seq (.region false [o1 2 (.nlo 2)])
  (.seq (.region false [oM 3 0,
   o1 4 (.clo 50 [.t 3]),
   o1 2 (.tra 4)])
  (.ret))⟩
def Tryz.r93 : List (Nat × Nat) := []
theorem Tryz.i93_ok : fnOk Tryz.prog Tryz.r93 Tryz.f93 Tryz.i93 = true := by kernel_rfl

/- pinball/wide.Sign -/
def Tryz.i94 : IFunc := ⟨1, 16, [.tmp 2],
  .seq (.region false [o1 1 (.box (.t 0) []),
   o1 2 (.mov (.c (.int .i64 0)))])
  (.seq (.region false [o1 6 (.ld 1 1 2 false),
   oC 7 95 [6],
   oM 5 7,
   o1 8 (.ext (.t 5) 0),
   o1 9 (.ext (.t 5) 1),
   oM 3 8,
   oM 4 9])
  (.seq (.block 0 (.seq (.region false [oM 11 4,
   o1 12 (.len (.t 11)),
   o1 13 (.bin .eql (.t 12) (.c (.int .i64 0))),
   oM 10 13])
  (.cond (.t 10) (.seq (.region false [o1 2 (.mov (.c (.int .i64 0)))])
  (.ret))
  (.seq (.region false [oM 15 3,
   oM 14 15])
  (.cond (.t 14) (.seq (.region false [o1 2 (.mov (.c (.int .i64 (-1))))])
  (.ret))
  (.skip))))))
  (.seq (.region false [o1 2 (.mov (.c (.int .i64 1)))])
  (.ret))))⟩
def Tryz.r94 : List (Nat × Nat) := []
theorem Tryz.i94_ok : fnOk Tryz.prog Tryz.r94 Tryz.f94 Tryz.i94 = true := by kernel_rfl

/- pinball/wide.limbs -/
def Tryz.i95 : IFunc := ⟨1, 31, [.tmp 2, .tmp 3],
  .seq (.region false [o1 1 (.box (.t 0) [5, 11, 21, 27]),
   o1 2 (.mov (.c (.bool false))),
   o1 3 (.nlo 1)])
  (.seq (.region false [o1 5 (.adr 1 1 1),
   o1 6 (.ld 5 1 1 true),
   o1 7 (.len (.t 6)),
   oM 4 7])
  (.seq (.block 0 (.loop (.seq (.seq (.region false [oM 8 4,
   o1 9 (.bin .gtr (.t 8) (.c (.int .i64 0))),
   oM 10 9,
   oG 11 (.adr 1 1 1) 10 true,
   oG 12 (.ld 11 1 1 true) 10 true,
   oG 13 (.mov (.t 4)) 10 true,
   oG 14 (.bin .sub (.t 13) (.c (.int .i64 1))) 10 true,
   oG 15 (.ixa 12 (.t 14) 1) 10 true,
   oG 16 (.ld 15 15 1 true) 10 true,
   oG 17 (.bin .eql (.t 16) (.c (.int .u32 0))) 10 true,
   o1 18 (.pick (.t 10) (.t 17) (.c (.bool false)))])
  (.cond (.t 18) (.skip)
  (.exit 0)))
  (.block 1 (.region false [oM 19 4,
   o1 20 (.bin .sub (.t 19) (.c (.int .i64 1))),
   oM 4 20])))))
  (.seq (.region true [o1 21 (.adr 1 1 0),
   o1 22 (.ld 21 1 1 true),
   oM 23 22,
   oG 24 (.mov (.t 4)) 23 true,
   oG 25 (.bin .gtr (.t 24) (.c (.int .i64 0))) 23 true,
   o1 26 (.pick (.t 23) (.t 25) (.c (.bool false))),
   o1 27 (.adr 1 1 1),
   o1 28 (.ld 27 1 1 true),
   oM 29 4,
   o1 30 (.sli (.t 28) none (some (.t 29)) none 1),
   oM 2 26,
   o1 3 (.tra 30)])
  (.ret))))⟩
def Tryz.r95 : List (Nat × Nat) := [(5, 1), (11, 1), (21, 1), (27, 1)]
theorem Tryz.i95_ok : fnOk Tryz.prog Tryz.r95 Tryz.f95 Tryz.i95 = true := by kernel_rfl

/- pinball/wide.sum -/
def Tryz.i96 : IFunc := ⟨4, 31, [.cell 8 2 false],
  .seq (.region false [o1 8 (.new [.bool false, .sl 0 []] [])])
  (.seq (.seq (.region false [oM 9 0,
   oM 10 2,
   o1 11 (.eqb false (.t 9) (.t 10))])
  (.cond (.t 11) (.seq (.region false [oM 12 0,
   oM 13 1,
   oM 14 3,
   oC 15 118 [13, 14],
   oC 16 97 [12, 15],
   oN (.st 8 8 2 (.t 16))])
  (.ret))
  (.skip)))
  (.seq (.seq (.region false [oM 17 1,
   oM 18 3,
   oC 19 119 [17, 18],
   o1 20 (.bin .geq (.t 19) (.c (.int .i64 0)))])
  (.cond (.t 20) (.seq (.region false [oM 21 0,
   oM 22 1,
   oM 23 3,
   oC 24 120 [22, 23],
   oC 25 97 [21, 24],
   oN (.st 8 8 2 (.t 25))])
  (.ret))
  (.skip)))
  (.seq (.region false [oM 26 2,
   oM 27 3,
   oM 28 1,
   oC 29 120 [27, 28],
   oC 30 97 [26, 29],
   oN (.st 8 8 2 (.t 30))])
  (.ret))))⟩
def Tryz.r96 : List (Nat × Nat) := []
theorem Tryz.i96_ok : fnOk Tryz.prog Tryz.r96 Tryz.f96 Tryz.i96 = true := by kernel_rfl

/- pinball/wide.made -/
def Tryz.i97 : IFunc := ⟨2, 29, [.cell 4 2 false],
  .seq (.region false [o1 4 (.new [.bool false, .sl 0 []] [])])
  (.seq (.region false [oM 6 1,
   o1 7 (.len (.t 6)),
   oM 5 7])
  (.seq (.block 0 (.loop (.seq (.seq (.region false [oM 8 5,
   o1 9 (.bin .gtr (.t 8) (.c (.int .i64 0))),
   oM 10 9,
   oG 11 (.mov (.t 1)) 10 true,
   oG 12 (.mov (.t 5)) 10 true,
   oG 13 (.bin .sub (.t 12) (.c (.int .i64 1))) 10 true,
   oG 14 (.ixa 11 (.t 13) 1) 10 true,
   oG 15 (.ld 14 14 1 true) 10 true,
   oG 16 (.bin .eql (.t 15) (.c (.int .u32 0))) 10 true,
   o1 17 (.pick (.t 10) (.t 16) (.c (.bool false)))])
  (.cond (.t 17) (.skip)
  (.exit 0)))
  (.block 1 (.region false [oM 18 5,
   o1 19 (.bin .sub (.t 18) (.c (.int .i64 1))),
   oM 5 19])))))
  (.seq (.seq (.region false [oM 20 5,
   o1 21 (.bin .eql (.t 20) (.c (.int .i64 0)))])
  (.cond (.t 21) (.seq (.region false [o1 22 (.bld [.bool false, .sl 0 []] []),
   oN (.st 4 4 2 (.t 22))])
  (.ret))
  (.skip)))
  (.seq (.region false [oM 23 0,
   oM 24 1,
   oM 25 5,
   oM 26 5,
   o1 27 (.sli (.t 24) none (some (.t 25)) (some (.t 26)) 1),
   o1 28 (.bld [.bool false, .sl 0 []] [(0, 1, .t 23), (1, 1, .t 27)]),
   oN (.st 4 4 2 (.t 28))])
  (.ret)))))⟩
def Tryz.r97 : List (Nat × Nat) := []
theorem Tryz.i97_ok : fnOk Tryz.prog Tryz.r97 Tryz.f97 Tryz.i97 = true := by kernel_rfl

/- pinball/wide.Trim -/
def Tryz.i98 : IFunc := ⟨1, 14, [.cell 2 2 false],
  .seq (.region false [o1 1 (.box (.t 0) []),
   o1 2 (.new [.bool false, .sl 0 []] [])])
  (.seq (.region false [o1 6 (.ld 1 1 2 false),
   oC 7 95 [6],
   oM 5 7,
   o1 8 (.ext (.t 5) 0),
   o1 9 (.ext (.t 5) 1),
   oM 3 8,
   oM 4 9])
  (.seq (.region false [oM 10 3,
   oM 11 4,
   o1 12 (.apd false (.c (.nil)) (.t 11) 1),
   oC 13 97 [10, 12],
   oN (.st 2 2 2 (.t 13))])
  (.ret)))⟩
def Tryz.r98 : List (Nat × Nat) := []
theorem Tryz.i98_ok : fnOk Tryz.prog Tryz.r98 Tryz.f98 Tryz.i98 = true := by kernel_rfl

/- pinball/wide.Neg -/
def Tryz.i99 : IFunc := ⟨1, 15, [.cell 2 2 false],
  .seq (.region false [o1 1 (.box (.t 0) []),
   o1 2 (.new [.bool false, .sl 0 []] [])])
  (.seq (.region false [o1 6 (.ld 1 1 2 false),
   oC 7 95 [6],
   oM 5 7,
   o1 8 (.ext (.t 5) 0),
   o1 9 (.ext (.t 5) 1),
   oM 3 8,
   oM 4 9])
  (.seq (.region false [oM 10 3,
   o1 11 (.un .not (.t 10)),
   oM 12 4,
   o1 13 (.apd false (.c (.nil)) (.t 12) 1),
   oC 14 97 [11, 13],
   oN (.st 2 2 2 (.t 14))])
  (.ret)))⟩
def Tryz.r99 : List (Nat × Nat) := []
theorem Tryz.i99_ok : fnOk Tryz.prog Tryz.r99 Tryz.f99 Tryz.i99 = true := by kernel_rfl

/- pinball/pinballref01.addMag -/
def Tryz.i100 : IFunc := ⟨2, 54, [.tmp 4],
  .seq (.region false [o1 4 (.nlo 1)])
  (.seq (.region false [o1 5 (.nlo 1)])
  (.seq (.region false [o1 6 (.mov (.c (.int .u64 0)))])
  (.seq (.seq (.region false [o1 7 (.mov (.c (.int .i64 0)))])
  (.block 0 (.loop (.seq (.seq (.region false [oM 8 7,
   oM 9 0,
   o1 10 (.len (.t 9)),
   oB 11 .lss 8 10,
   oM 12 11,
   oG 13 (.mov (.t 7)) 12 false,
   oG 14 (.mov (.t 1)) 12 false,
   oG 15 (.len (.t 14)) 12 false,
   oG 16 (.bin .lss (.t 13) (.t 15)) 12 false,
   o1 17 (.pick (.t 12) (.c (.bool true)) (.t 16)),
   oM 18 17,
   oG 19 (.mov (.t 6)) 18 false,
   oG 20 (.bin .gtr (.t 19) (.c (.int .u64 0))) 18 false,
   o1 21 (.pick (.t 18) (.c (.bool true)) (.t 20))])
  (.cond (.t 21) (.skip)
  (.exit 0)))
  (.seq (.block 1 (.seq (.seq (.region false [oM 24 7,
   oM 25 0,
   o1 26 (.len (.t 25)),
   oB 27 .lss 24 26])
  (.cond (.t 27) (.region false [oM 28 6,
   oM 29 0,
   oM 30 7,
   o1 31 (.ixa 29 (.t 30) 1),
   o1 32 (.ld 31 31 1 true),
   o1 33 (.cv .u64 (.t 32)),
   oB 34 .add 28 33,
   oM 6 34])
  (.skip)))
  (.seq (.seq (.region false [oM 35 7,
   oM 36 1,
   o1 37 (.len (.t 36)),
   oB 38 .lss 35 37])
  (.cond (.t 38) (.region false [oM 39 6,
   oM 40 1,
   oM 41 7,
   o1 42 (.ixa 40 (.t 41) 1),
   o1 43 (.ld 42 42 1 true),
   o1 44 (.cv .u64 (.t 43)),
   oB 45 .add 39 44,
   oM 6 45])
  (.skip)))
  (.seq (.region false [o1 46 (.tra 5),
   oM 47 6,
   o1 48 (.cv .u32 (.t 47)),
   o1 49 (.bls 1 [.int .u32 0] [(0, 1, .t 48)]),
   o1 50 (.apd true (.t 46) (.t 49) 1),
   o1 5 (.tra 50)])
  (.region false [oM 51 6,
   o1 52 (.bin .shr (.t 51) (.c (.int .u64 32))),
   oM 6 52])))))
  (.region false [oM 22 7,
   o1 23 (.bin .add (.t 22) (.c (.int .i64 1))),
   oM 7 23]))))))
  (.seq (.region false [o1 53 (.tra 5),
   o1 4 (.tra 53)])
  (.ret)))))⟩
def Tryz.r100 : List (Nat × Nat) := []
theorem Tryz.i100_ok : fnOk Tryz.prog Tryz.r100 Tryz.f100 Tryz.i100 = true := by kernel_rfl

/- pinball/pinballref01.subMag -/
def Tryz.i101 : IFunc := ⟨2, 42, [.tmp 4],
  .seq (.region false [o1 4 (.nlo 1)])
  (.seq (.region false [o1 5 (.nlo 1)])
  (.seq (.region false [o1 6 (.mov (.c (.int .u64 0)))])
  (.seq (.seq (.region false [o1 7 (.mov (.c (.int .i64 0)))])
  (.block 0 (.loop (.seq (.seq (.region false [oM 10 7,
   oM 11 0,
   o1 12 (.len (.t 11)),
   oB 13 .lss 10 12])
  (.cond (.t 13) (.skip)
  (.exit 0)))
  (.seq (.block 1 (.seq (.region false [o1 8 (.mov (.c (.int .u64 0)))])
  (.seq (.seq (.region false [oM 16 7,
   oM 17 1,
   o1 18 (.len (.t 17)),
   oB 19 .lss 16 18])
  (.cond (.t 19) (.region false [oM 20 1,
   oM 21 7,
   o1 22 (.ixa 20 (.t 21) 1),
   o1 23 (.ld 22 22 1 true),
   o1 24 (.cv .u64 (.t 23)),
   oM 8 24])
  (.skip)))
  (.seq (.region false [oM 25 0,
   oM 26 7,
   o1 27 (.ixa 25 (.t 26) 1),
   o1 28 (.ld 27 27 1 true),
   o1 29 (.cv .u64 (.t 28)),
   oM 30 8,
   oB 31 .sub 29 30,
   oM 32 6,
   oB 33 .sub 31 32,
   oM 9 33])
  (.seq (.region false [o1 34 (.tra 5),
   oM 35 9,
   o1 36 (.cv .u32 (.t 35)),
   o1 37 (.bls 1 [.int .u32 0] [(0, 1, .t 36)]),
   o1 38 (.apd true (.t 34) (.t 37) 1),
   o1 5 (.tra 38)])
  (.region false [oM 39 9,
   o1 40 (.bin .shr (.t 39) (.c (.int .u64 63))),
   oM 6 40]))))))
  (.region false [oM 14 7,
   o1 15 (.bin .add (.t 14) (.c (.int .i64 1))),
   oM 7 15]))))))
  (.seq (.region false [o1 41 (.tra 5),
   o1 4 (.tra 41)])
  (.ret)))))⟩
def Tryz.r101 : List (Nat × Nat) := []
theorem Tryz.i101_ok : fnOk Tryz.prog Tryz.r101 Tryz.f101 Tryz.i101 = true := by kernel_rfl

/- pinball/pinballref05.choose -/
def Tryz.i102 : IFunc := ⟨2, 21, [.tmp 4],
  .seq (.region false [o1 4 (.mov (.c (.int .i64 0)))])
  (.seq (.region false [o1 5 (.mov (.c (.int .i64 1)))])
  (.seq (.seq (.region false [o1 6 (.mov (.c (.int .i64 0)))])
  (.block 0 (.loop (.seq (.seq (.region false [oM 7 6,
   oM 8 1,
   oB 9 .lss 7 8])
  (.cond (.t 9) (.skip)
  (.exit 0)))
  (.seq (.block 1 (.region false [oM 12 5,
   oM 13 0,
   oM 14 6,
   oB 15 .sub 13 14,
   oB 16 .mul 12 15,
   oM 17 6,
   o1 18 (.bin .add (.t 17) (.c (.int .i64 1))),
   oB 19 .quo 16 18,
   oM 5 19]))
  (.region false [oM 10 6,
   o1 11 (.bin .add (.t 10) (.c (.int .i64 1))),
   oM 6 11]))))))
  (.seq (.region false [oM 20 5,
   oM 4 20])
  (.ret))))⟩
def Tryz.r102 : List (Nat × Nat) := []
theorem Tryz.i102_ok : fnOk Tryz.prog Tryz.r102 Tryz.f102 Tryz.i102 = true := by kernel_rfl

/- pinball/pinballref05.common -/
def Tryz.i103 : IFunc := ⟨2, 12, [.tmp 4],
  .seq (.region false [o1 4 (.mov (.c (.int .i64 0)))])
  (.seq (.block 0 (.loop (.seq (.seq (.region false [oM 5 1,
   o1 6 (.bin .gtr (.t 5) (.c (.int .i64 0)))])
  (.cond (.t 6) (.skip)
  (.exit 0)))
  (.block 1 (.region true [oM 7 1,
   oM 8 0,
   oM 9 1,
   oB 10 .rem 8 9,
   oM 0 7,
   oM 1 10])))))
  (.seq (.region false [oM 11 0,
   oM 4 11])
  (.ret)))⟩
def Tryz.r103 : List (Nat × Nat) := []
theorem Tryz.i103_ok : fnOk Tryz.prog Tryz.r103 Tryz.f103 Tryz.i103 = true := by kernel_rfl

/- pinball/pinballref05.shape -/
def Tryz.i104 : IFunc := ⟨1, 45, [.tmp 2, .tmp 3, .tmp 4],
  .seq (.region false [o1 2 (.mov (.c (.int .i64 0))),
   o1 3 (.mov (.c (.int .i64 0))),
   o1 4 (.mov (.c (.bool false)))])
  (.seq (.region false [o1 5 (.mov (.c (.int .i64 0))),
   o1 6 (.mov (.c (.int .i64 0))),
   o1 7 (.mov (.c (.int .i64 0)))])
  (.seq (.region false [o1 8 (.mov (.c (.bool false)))])
  (.seq (.seq (.region false [o1 9 (.mov (.c (.int .i64 0)))])
  (.block 0 (.loop (.seq (.seq (.region false [oM 11 9,
   oM 12 0,
   o1 13 (.len (.t 12)),
   oB 14 .lss 11 13])
  (.cond (.t 14) (.skip)
  (.exit 0)))
  (.seq (.block 1 (.seq (.region false [oM 17 0,
   oM 18 9,
   o1 19 (.ixa 17 (.t 18) 2),
   o1 20 (.ld 19 19 2 false),
   oC 21 55 [20],
   oM 10 21])
  (.seq (.seq (.region false [oM 22 10,
   o1 23 (.bin .eql (.t 22) (.c (.int .i64 0)))])
  (.cond (.t 23) (.exit 1)
  (.skip)))
  (.seq (.seq (.region false [oM 24 5,
   o1 25 (.bin .eql (.t 24) (.c (.int .i64 0)))])
  (.cond (.t 25) (.region false [oM 26 10,
   oM 5 26])
  (.skip)))
  (.seq (.seq (.region false [oM 27 6,
   o1 28 (.bin .neq (.t 27) (.c (.int .i64 0))),
   oM 29 28,
   oG 30 (.mov (.t 10)) 29 true,
   oG 31 (.mov (.t 6)) 29 true,
   oG 32 (.bin .neq (.t 30) (.t 31)) 29 true,
   o1 33 (.pick (.t 29) (.t 32) (.c (.bool false)))])
  (.cond (.t 33) (.region false [oM 34 7,
   o1 35 (.bin .add (.t 34) (.c (.int .i64 1))),
   oM 7 35])
  (.skip)))
  (.seq (.region false [oM 36 10,
   oM 6 36])
  (.region false [oM 37 8,
   oM 38 37,
   oG 39 (.mov (.t 10)) 38 false,
   oG 40 (.bin .gtr (.t 39) (.c (.int .i64 0))) 38 false,
   o1 41 (.pick (.t 38) (.c (.bool true)) (.t 40)),
   oM 8 41])))))))
  (.region false [oM 15 9,
   o1 16 (.bin .add (.t 15) (.c (.int .i64 1))),
   oM 9 16]))))))
  (.seq (.region false [oM 42 5,
   oM 43 7,
   oM 44 8,
   oM 2 42,
   oM 3 43,
   oM 4 44])
  (.ret)))))⟩
def Tryz.r104 : List (Nat × Nat) := []
theorem Tryz.i104_ok : fnOk Tryz.prog Tryz.r104 Tryz.f104 Tryz.i104 = true := by kernel_rfl

/- pinball/pinballref04.Exact -/
def Tryz.i105 : IFunc := ⟨1, 19, [.cell 2 7 false],
  .seq (.region false [o1 1 (.box (.t 0) []),
   o1 2 (.new [.sl 0 [], .bool false, .sl 0 [], .int .i64 0, .bool false, .sl 0 [], .int .i64 0] [])])
  (.seq (.region false [o1 5 (.ld 1 1 3 false),
   oC 6 121 [5],
   o1 3 (.new [.bool false, .sl 0 [], .int .i64 0] [7, 11]),
   oN (.st 3 3 3 (.t 6))])
  (.seq (.region true [o1 7 (.adr 3 3 0),
   o1 8 (.ld 7 3 2 false),
   oC 9 117 [8],
   o1 10 (.call 34 [.c (.int .i64 1)]),
   o1 11 (.adr 3 3 2),
   o1 12 (.ld 11 3 1 true),
   oC 13 81 [10, 12],
   o1 14 (.bls 2 [.bool false, .sl 0 [], .bool false, .sl 0 []] [(0, 2, .t 9), (2, 2, .t 13)]),
   oM 4 14])
  (.seq (.region false [oM 15 4,
   o1 16 (.ld 3 3 3 false),
   o1 17 (.ld 3 3 3 false),
   o1 18 (.bld [.sl 0 [], .bool false, .sl 0 [], .int .i64 0, .bool false, .sl 0 [], .int .i64 0] [(0, 1, .t 15), (1, 3, .t 16), (4, 3, .t 17)]),
   oN (.st 2 2 7 (.t 18))])
  (.ret))))⟩
def Tryz.r105 : List (Nat × Nat) := [(7, 3), (11, 3)]
theorem Tryz.i105_ok : fnOk Tryz.prog Tryz.r105 Tryz.f105 Tryz.i105 = true := by kernel_rfl

/- pinball/pinballref05.halves -/
def Tryz.i106 : IFunc := ⟨1, 74, [.tmp 2, .tmp 3],
  .seq (.region false [o1 2 (.nlo 2),
   o1 3 (.nlo 2)])
  (.seq (.region false [oM 10 0,
   o1 11 (.len (.t 10)),
   o1 12 (.bin .sub (.t 11) (.c (.int .i64 1))),
   oM 4 12])
  (.seq (.region false [oM 13 0,
   o1 14 (.apd true (.c (.nil)) (.t 13) 2),
   ⟨some 5, .tra 14, none, [28, 29, 40, 44, 59, 61, 63, 65, 68, 71]⟩])
  (.seq (.region true [oM 15 4,
   o1 16 (.bin .add (.t 15) (.c (.int .i64 1))),
   o1 17 (.mks [.bool false, .sl 0 []] (.t 16)),
   oM 18 4,
   o1 19 (.bin .add (.t 18) (.c (.int .i64 1))),
   o1 20 (.mks [.bool false, .sl 0 []] (.t 19)),
   ⟨some 6, .tra 17, none, [26, 35]⟩,
   ⟨some 7, .tra 20, none, [36, 50]⟩])
  (.seq (.seq (.region false [o1 8 (.mov (.c (.int .i64 0)))])
  (.block 0 (.loop (.seq (.seq (.region false [oM 21 8,
   oM 22 4,
   oB 23 .leq 21 22])
  (.cond (.t 23) (.skip)
  (.exit 0)))
  (.seq (.block 1 (.seq (.region false [o1 26 (.cpy 6),
   oM 27 8,
   o1 28 (.cpy 5),
   o1 29 (.ixo 28 5 (.c (.int .i64 0)) 2),
   o1 30 (.ld 29 5 2 false),
   oM 31 4,
   oM 32 8,
   oB 33 .sub 31 32,
   oC 34 81 [30, 33],
   o1 35 (.ixo 26 6 (.t 27) 2),
   oN (.st 35 6 2 (.t 34))])
  (.seq (.region false [o1 36 (.cpy 7),
   oM 37 4,
   oM 38 8,
   oB 39 .sub 37 38,
   o1 40 (.cpy 5),
   oM 41 4,
   oM 42 8,
   oB 43 .sub 41 42,
   o1 44 (.ixo 40 5 (.t 43) 2),
   o1 45 (.ld 44 5 2 false),
   oM 46 4,
   oM 47 8,
   oB 48 .sub 46 47,
   oC 49 81 [45, 48],
   o1 50 (.ixo 36 7 (.t 39) 2),
   oN (.st 50 7 2 (.t 49))])
  (.seq (.region false [o1 9 (.mov (.c (.int .i64 0)))])
  (.block 2 (.loop (.seq (.seq (.region false [oM 51 9,
   o1 52 (.bin .add (.t 51) (.c (.int .i64 1))),
   oM 53 4,
   oM 54 8,
   oB 55 .sub 53 54,
   oB 56 .leq 52 55])
  (.cond (.t 56) (.skip)
  (.exit 2)))
  (.seq (.block 3 (.region true [o1 59 (.cpy 5),
   oM 60 9,
   o1 61 (.cpy 5),
   oM 62 9,
   o1 63 (.ixo 61 5 (.t 62) 2),
   o1 64 (.ld 63 5 2 false),
   o1 65 (.cpy 5),
   oM 66 9,
   o1 67 (.bin .add (.t 66) (.c (.int .i64 1))),
   o1 68 (.ixo 65 5 (.t 67) 2),
   o1 69 (.ld 68 5 2 false),
   oC 70 80 [64, 69],
   o1 71 (.ixo 59 5 (.t 60) 2),
   oN (.st 71 5 2 (.t 70))]))
  (.region false [oM 57 9,
   o1 58 (.bin .add (.t 57) (.c (.int .i64 1))),
   oM 9 58])))))))))
  (.region false [oM 24 8,
   o1 25 (.bin .add (.t 24) (.c (.int .i64 1))),
   oM 8 25]))))))
  (.seq (.region false [o1 72 (.tra 6),
   o1 73 (.tra 7),
   o1 2 (.tra 72),
   o1 3 (.tra 73)])
  (.ret))))))⟩
def Tryz.r106 : List (Nat × Nat) := [(26, 6), (28, 5), (29, 5), (35, 6), (36, 7), (40, 5), (44, 5), (50, 7), (59, 5), (61, 5), (63, 5), (65, 5), (68, 5), (71, 5)]
theorem Tryz.i106_ok : fnOk Tryz.prog Tryz.r106 Tryz.f106 Tryz.i106 = true := by kernel_rfl

/- pinball/pinballref05.Times -/
def Tryz.i107 : IFunc := ⟨1, 75, [.tmp 2],
  .seq (.region false [o1 2 (.nlo 7)])
  (.seq (.region false [o1 3 (.mov (.c (.sl 0 [])))])
  (.seq (.seq (.region false [o1 4 (.mov (.c (.int .i64 0)))])
  (.block 0 (.loop (.seq (.seq (.region false [oM 10 4,
   oM 11 0,
   o1 12 (.len (.t 11)),
   oB 13 .lss 10 12])
  (.cond (.t 13) (.skip)
  (.exit 0)))
  (.seq (.block 1 (.seq (.seq (.region false [oM 16 0,
   oM 17 4,
   o1 18 (.ixa 16 (.t 17) 1),
   o1 19 (.ld 18 18 1 true),
   oC 20 122 [19],
   o1 21 (.bin .lss (.t 20) (.c (.int .i64 1)))])
  (.cond (.t 21) (.exit 1)
  (.skip)))
  (.seq (.region true [oM 22 0,
   oM 23 4,
   o1 24 (.ixa 22 (.t 23) 1),
   o1 25 (.ld 24 24 1 true),
   o1 26 (.call 108 [.c (.int .i64 0)]),
   o1 27 (.call 108 [.c (.int .i64 1)]),
   oC 28 123 [25, 26, 27],
   oM 5 28])
  (.seq (.region false [o1 6 (.mov (.c (.int .i64 0)))])
  (.block 2 (.loop (.seq (.seq (.region false [oM 29 6,
   oM 30 5,
   o1 31 (.len (.t 30)),
   oB 32 .lss 29 31])
  (.cond (.t 32) (.skip)
  (.exit 2)))
  (.seq (.block 3 (.seq (.region false [o1 7 (.mov (.c (.int .i64 0))),
   o1 8 (.mov (.c (.bool false)))])
  (.seq (.block 4 (.loop (.seq (.seq (.region false [oM 35 7,
   oM 36 3,
   o1 37 (.len (.t 36)),
   oB 38 .lss 35 37,
   oM 39 38,
   oG 40 (.mov (.t 8)) 39 true,
   oG 41 (.un .not (.t 40)) 39 true,
   o1 42 (.pick (.t 39) (.t 41) (.c (.bool false)))])
  (.cond (.t 42) (.skip)
  (.exit 4)))
  (.block 5 (.seq (.region true [oM 43 3,
   oM 44 7,
   o1 45 (.ixa 43 (.t 44) 7),
   o1 46 (.ld 45 45 7 false),
   oM 47 5,
   oM 48 6,
   o1 49 (.ixa 47 (.t 48) 7),
   o1 50 (.ld 49 49 7 false),
   oC 51 59 [46, 50],
   oM 9 51])
  (.seq (.region false [oM 52 9,
   o1 53 (.bin .eql (.t 52) (.c (.int .i64 0))),
   oM 8 53])
  (.seq (.seq (.region false [oM 54 9,
   o1 55 (.bin .geq (.t 54) (.c (.int .i64 0)))])
  (.cond (.t 55) (.exit 4)
  (.skip)))
  (.region false [oM 56 7,
   o1 57 (.bin .add (.t 56) (.c (.int .i64 1))),
   oM 7 57]))))))))
  (.seq (.region false [oM 58 8,
   o1 59 (.un .not (.t 58))])
  (.cond (.t 59) (.region true [oM 60 3,
   oM 61 7,
   o1 62 (.sli (.t 60) none (some (.t 61)) none 7),
   o1 63 (.apd true (.c (.nil)) (.t 62) 7),
   oM 64 5,
   oM 65 6,
   o1 66 (.ixa 64 (.t 65) 7),
   o1 67 (.ld 66 66 7 false),
   o1 68 (.bls 1 [.sl 0 [], .bool false, .sl 0 [], .int .i64 0, .bool false, .sl 0 [], .int .i64 0] [(0, 7, .t 67)]),
   o1 69 (.apd true (.t 63) (.t 68) 7),
   oM 70 3,
   oM 71 7,
   o1 72 (.sli (.t 70) (some (.t 71)) none none 7),
   o1 73 (.apd false (.t 69) (.t 72) 7),
   oM 3 73])
  (.skip))))))
  (.region false [oM 33 6,
   o1 34 (.bin .add (.t 33) (.c (.int .i64 1))),
   oM 6 34])))))))))
  (.region false [oM 14 4,
   o1 15 (.bin .add (.t 14) (.c (.int .i64 1))),
   oM 4 15]))))))
  (.seq (.region false [oM 74 3,
   o1 2 (.tra 74)])
  (.ret))))⟩
def Tryz.r107 : List (Nat × Nat) := []
theorem Tryz.i107_ok : fnOk Tryz.prog Tryz.r107 Tryz.f107 Tryz.i107 = true := by kernel_rfl

/- pinball/pinballref05.number -/
def Tryz.i108 : IFunc := ⟨1, 6, [.cell 2 3 false],
  .seq (.region false [o1 2 (.new [.bool false, .sl 0 [], .int .i64 0] [])])
  (.seq (.region false [oM 3 0,
   oC 4 34 [3],
   o1 5 (.bld [.bool false, .sl 0 [], .int .i64 0] [(0, 2, .t 4)]),
   oN (.st 2 2 3 (.t 5))])
  (.ret))⟩
def Tryz.r108 : List (Nat × Nat) := []
theorem Tryz.i108_ok : fnOk Tryz.prog Tryz.r108 Tryz.f108 Tryz.i108 = true := by kernel_rfl

/- pinball/pinballref05.positive -/
def Tryz.i109 : IFunc := ⟨2, 26, [.tmp 4],
  .seq (.region false [o1 3 (.box (.t 1) [19, 21]),
   o1 4 (.mov (.c (.bool false)))])
  (.seq (.seq (.region false [o1 5 (.mov (.c (.int .i64 0)))])
  (.block 0 (.loop (.seq (.seq (.region false [oM 7 5,
   oM 8 0,
   o1 9 (.len (.t 8)),
   oB 10 .lss 7 9])
  (.cond (.t 10) (.skip)
  (.exit 0)))
  (.seq (.block 1 (.seq (.region false [oM 13 0,
   oM 14 5,
   o1 15 (.ixa 13 (.t 14) 1),
   o1 16 (.ld 15 15 1 true),
   oC 17 54 [16],
   oM 6 17])
  (.seq (.region false [oM 18 6,
   o1 19 (.adr 3 3 0),
   o1 20 (.ld 19 3 2 false),
   o1 21 (.adr 3 3 2),
   o1 22 (.ld 21 3 1 true),
   oC 23 56 [18, 20, 22],
   oC 24 55 [23],
   o1 25 (.bin .leq (.t 24) (.c (.int .i64 0)))])
  (.cond (.t 25) (.seq (.region false [o1 4 (.mov (.c (.bool false)))])
  (.ret))
  (.skip)))))
  (.region false [oM 11 5,
   o1 12 (.bin .add (.t 11) (.c (.int .i64 1))),
   oM 5 12]))))))
  (.seq (.region false [o1 4 (.mov (.c (.bool true)))])
  (.ret)))⟩
def Tryz.r109 : List (Nat × Nat) := [(19, 3), (21, 3)]
theorem Tryz.i109_ok : fnOk Tryz.prog Tryz.r109 Tryz.f109 Tryz.i109 = true := by kernel_rfl

/- pinball/pinballref05.between -/
def Tryz.i110 : IFunc := ⟨4, 30, [.cell 8 3 false],
  .seq (.region false [o1 4 (.box (.t 0) [14]),
   o1 6 (.box (.t 2) [17]),
   o1 8 (.new [.bool false, .sl 0 [], .int .i64 0] [])])
  (.block 0 (.loop (.block 1 (.seq (.region false [o1 11 (.call 108 [.c (.int .i64 0)]),
   o1 12 (.call 108 [.c (.int .i64 1)]),
   o1 9 (.new [.bool false, .sl 0 [], .int .i64 0] []),
   o1 10 (.new [.bool false, .sl 0 [], .int .i64 0] []),
   oN (.st 9 9 3 (.t 11)),
   oN (.st 10 10 3 (.t 12))])
  (.seq (.seq (.region false [oM 13 1])
  (.cond (.t 13) (.region false [o1 14 (.adr 4 4 4),
   o1 15 (.ld 14 4 3 false),
   oN (.st 9 9 3 (.t 15))])
  (.skip)))
  (.seq (.seq (.region false [oM 16 3])
  (.cond (.t 16) (.region false [o1 17 (.adr 6 6 1),
   o1 18 (.ld 17 6 3 false),
   oN (.st 10 10 3 (.t 18))])
  (.skip)))
  (.seq (.seq (.region false [o1 19 (.ld 9 9 3 false),
   o1 20 (.ld 10 10 3 false),
   oC 21 85 [19, 20],
   o1 22 (.bin .lss (.t 21) (.c (.int .i64 0)))])
  (.cond (.t 22) (.seq (.region false [o1 23 (.ld 9 9 3 false),
   o1 24 (.ld 10 10 3 false),
   oC 25 116 [23, 24],
   oN (.st 8 8 3 (.t 25))])
  (.ret))
  (.skip)))
  (.region true [o1 26 (.ld 4 4 7 false),
   oC 27 90 [26],
   o1 28 (.ld 6 6 7 false),
   oC 29 90 [28],
   oN (.st 4 4 7 (.t 27)),
   oN (.st 6 6 7 (.t 29))]))))))))⟩
def Tryz.r110 : List (Nat × Nat) := [(14, 4), (17, 6)]
theorem Tryz.i110_ok : fnOk Tryz.prog Tryz.r110 Tryz.f110 Tryz.i110 = true := by kernel_rfl

/- pinball/pinballref04.zero -/
def Tryz.i111 : IFunc := ⟨2, 13, [.tmp 4],
  .seq (.region false [o1 3 (.box (.t 1) [6, 8]),
   o1 4 (.mov (.c (.bool false)))])
  (.seq (.region false [oM 5 0,
   o1 6 (.adr 3 3 0),
   o1 7 (.ld 6 3 2 false),
   o1 8 (.adr 3 3 2),
   o1 9 (.ld 8 3 1 true),
   oC 10 56 [5, 7, 9],
   oC 11 55 [10],
   o1 12 (.bin .eql (.t 11) (.c (.int .i64 0))),
   oM 4 12])
  (.ret))⟩
def Tryz.r111 : List (Nat × Nat) := [(6, 3), (8, 3)]
theorem Tryz.i111_ok : fnOk Tryz.prog Tryz.r111 Tryz.f111 Tryz.i111 = true := by kernel_rfl

/- pinball/pinballref03.Roots -/
def Tryz.i112 : IFunc := ⟨3, 17, [.tmp 6],
  .seq (.region false [o1 4 (.box (.t 1) []),
   o1 5 (.box (.t 2) []),
   o1 6 (.mov (.c (.int .i64 0)))])
  (.seq (.region false [oM 8 0,
   oC 9 124 [8],
   oM 7 9])
  (.seq (.region true [oM 10 7,
   o1 11 (.ld 4 4 3 false),
   oC 12 125 [10, 11],
   oM 13 7,
   o1 14 (.ld 5 5 3 false),
   oC 15 125 [13, 14],
   oB 16 .sub 12 15,
   oM 6 16])
  (.ret)))⟩
def Tryz.r112 : List (Nat × Nat) := []
theorem Tryz.i112_ok : fnOk Tryz.prog Tryz.r112 Tryz.f112 Tryz.i112 = true := by kernel_rfl

/- pinball/pinballref02.Prim -/
def Tryz.i113 : IFunc := ⟨1, 34, [.tmp 2],
  .seq (.region false [o1 2 (.nlo 2)])
  (.seq (.region false [oM 8 0,
   oC 9 126 [8],
   o1 3 (.new [.bool false, .sl 0 []] []),
   oN (.st 3 3 2 (.t 9))])
  (.seq (.seq (.region false [o1 10 (.ld 3 3 2 false),
   oC 11 55 [10],
   o1 12 (.bin .eql (.t 11) (.c (.int .i64 0)))])
  (.cond (.t 12) (.seq (.region false [o1 2 (.nlo 2)])
  (.ret))
  (.skip)))
  (.seq (.region false [o1 4 (.nlo 2)])
  (.seq (.seq (.region false [o1 5 (.mov (.c (.int .i64 0)))])
  (.block 0 (.loop (.seq (.seq (.region false [oM 13 5,
   oM 14 0,
   o1 15 (.len (.t 14)),
   oB 16 .lss 13 15])
  (.cond (.t 16) (.skip)
  (.exit 0)))
  (.seq (.block 1 (.seq (.region true [oM 20 0,
   oM 21 5,
   o1 22 (.ixa 20 (.t 21) 2),
   o1 23 (.ld 22 22 2 false),
   o1 24 (.ld 3 3 2 false),
   oC 25 127 [23, 24],
   oM 19 25,
   o1 26 (.ext (.t 19) 0),
   o1 27 (.ext (.t 19) 1),
   o1 6 (.new [.bool false, .sl 0 []] []),
   o1 7 (.new [.bool false, .sl 0 []] []),
   oN (.st 6 6 2 (.t 26)),
   oN (.st 7 7 2 (.t 27))])
  (.region false [o1 28 (.tra 4),
   o1 29 (.ld 6 6 2 false),
   o1 30 (.bls 1 [.bool false, .sl 0 []] [(0, 2, .t 29)]),
   o1 31 (.apd true (.t 28) (.t 30) 2),
   o1 4 (.tra 31)])))
  (.region false [oM 17 5,
   o1 18 (.bin .add (.t 17) (.c (.int .i64 1))),
   oM 5 18]))))))
  (.seq (.region false [o1 32 (.frz 4),
   o1 33 (.clo 54 [.t 32]),
   o1 2 (.tra 33)])
  (.ret))))))⟩
def Tryz.r113 : List (Nat × Nat) := []
theorem Tryz.i113_ok : fnOk Tryz.prog Tryz.r113 Tryz.f113 Tryz.i113 = true := by kernel_rfl

/- pinball/pinballref02.Rest -/
def Tryz.i114 : IFunc := ⟨2, 80, [.tmp 4],
  .seq (.region false [o1 4 (.nlo 2)])
  (.seq (.region false [oM 13 0,
   oC 14 113 [13],
   oM 15 1,
   oC 16 54 [15],
   oM 5 14,
   oM 6 16])
  (.seq (.region false [oM 17 6,
   oM 18 6,
   o1 19 (.len (.t 18)),
   o1 20 (.bin .sub (.t 19) (.c (.int .i64 1))),
   o1 21 (.ixa 17 (.t 20) 2),
   o1 22 (.ld 21 21 2 false),
   o1 7 (.new [.bool false, .sl 0 []] [51]),
   oN (.st 7 7 2 (.t 22))])
  (.seq (.block 0 (.loop (.seq (.seq (.region false [oM 23 5,
   o1 24 (.len (.t 23)),
   oM 25 6,
   o1 26 (.len (.t 25)),
   oB 27 .geq 24 26])
  (.cond (.t 27) (.skip)
  (.exit 0)))
  (.block 1 (.seq (.region false [oM 28 5,
   oM 29 5,
   o1 30 (.len (.t 29)),
   o1 31 (.bin .sub (.t 30) (.c (.int .i64 1))),
   o1 32 (.ixa 28 (.t 31) 2),
   o1 33 (.ld 32 32 2 false),
   o1 8 (.new [.bool false, .sl 0 []] []),
   oN (.st 8 8 2 (.t 33))])
  (.seq (.seq (.region false [o1 34 (.ld 7 7 2 false),
   oC 35 55 [34],
   o1 36 (.bin .lss (.t 35) (.c (.int .i64 0)))])
  (.cond (.t 36) (.region false [o1 37 (.ld 8 8 2 false),
   oC 38 117 [37],
   oN (.st 8 8 2 (.t 38))])
  (.skip)))
  (.seq (.region false [oM 39 5,
   o1 40 (.len (.t 39)),
   oM 41 6,
   o1 42 (.len (.t 41)),
   oB 43 .sub 40 42,
   oM 9 43])
  (.seq (.region false [o1 10 (.nlo 2)])
  (.seq (.seq (.region false [o1 11 (.mov (.c (.int .i64 0)))])
  (.block 2 (.loop (.seq (.seq (.region false [oM 44 11,
   oM 45 5,
   o1 46 (.len (.t 45)),
   o1 47 (.bin .sub (.t 46) (.c (.int .i64 1))),
   oB 48 .lss 44 47])
  (.cond (.t 48) (.skip)
  (.exit 2)))
  (.seq (.block 3 (.seq (.region true [o1 51 (.adr 7 7 1),
   o1 52 (.ld 51 7 1 true),
   o1 53 (.bld [.bool false, .sl 0 []] [(1, 1, .t 52)]),
   oM 54 5,
   oM 55 11,
   o1 56 (.ixa 54 (.t 55) 2),
   o1 57 (.ld 56 56 2 false),
   oC 58 37 [53, 57],
   o1 12 (.new [.bool false, .sl 0 []] []),
   oN (.st 12 12 2 (.t 58))])
  (.seq (.seq (.region false [oM 59 11,
   oM 60 9,
   oB 61 .geq 59 60])
  (.cond (.t 61) (.region true [o1 62 (.ld 12 12 2 false),
   o1 63 (.ld 8 8 2 false),
   oM 64 6,
   oM 65 11,
   oM 66 9,
   oB 67 .sub 65 66,
   o1 68 (.ixa 64 (.t 67) 2),
   o1 69 (.ld 68 68 2 false),
   oC 70 37 [63, 69],
   oC 71 92 [62, 70],
   oN (.st 12 12 2 (.t 71))])
  (.skip)))
  (.region false [o1 72 (.tra 10),
   o1 73 (.ld 12 12 2 false),
   o1 74 (.bls 1 [.bool false, .sl 0 []] [(0, 2, .t 73)]),
   o1 75 (.apd true (.t 72) (.t 74) 2),
   o1 10 (.tra 75)]))))
  (.region false [oM 49 11,
   o1 50 (.bin .add (.t 49) (.c (.int .i64 1))),
   oM 11 50]))))))
  (.region false [o1 76 (.frz 10),
   oC 77 54 [76],
   oC 78 113 [77],
   oM 5 78]))))))))))
  (.seq (.region false [oM 79 5,
   o1 4 (.tra 79)])
  (.ret)))))⟩
def Tryz.r114 : List (Nat × Nat) := [(51, 7)]
theorem Tryz.i114_ok : fnOk Tryz.prog Tryz.r114 Tryz.f114 Tryz.i114 = true := by kernel_rfl

/- pinball/pinballref02.positive -/
def Tryz.i115 : IFunc := ⟨1, 19, [.tmp 2],
  .seq (.region false [o1 2 (.nlo 2)])
  (.seq (.seq (.region false [oM 3 0,
   o1 4 (.len (.t 3)),
   o1 5 (.bin .gtr (.t 4) (.c (.int .i64 0))),
   oM 6 5,
   oG 7 (.mov (.t 0)) 6 true,
   oG 8 (.mov (.t 0)) 6 true,
   oG 9 (.len (.t 8)) 6 true,
   oG 10 (.bin .sub (.t 9) (.c (.int .i64 1))) 6 true,
   oG 11 (.ixa 7 (.t 10) 2) 6 true,
   oG 12 (.ld 11 11 2 false) 6 true,
   oG 13 (.call 55 [.t 12]) 6 true,
   oG 14 (.bin .lss (.t 13) (.c (.int .i64 0))) 6 true,
   o1 15 (.pick (.t 6) (.t 14) (.c (.bool false)))])
  (.cond (.t 15) (.seq (.region false [oM 16 0,
   o1 17 (.clo 128 [.t 16]),
   o1 2 (.tra 17)])
  (.ret))
  (.skip)))
  (.seq (.region false [oM 18 0,
   o1 2 (.tra 18)])
  (.ret)))⟩
def Tryz.r115 : List (Nat × Nat) := []
theorem Tryz.i115_ok : fnOk Tryz.prog Tryz.r115 Tryz.f115 Tryz.i115 = true := by kernel_rfl

/- pinball/pinballref03.Half -/
def Tryz.i116 : IFunc := ⟨2, 32, [.cell 4 3 false],
  .seq (.region false [o1 2 (.box (.t 0) [7, 12, 15]),
   o1 3 (.box (.t 1) [9, 19, 22]),
   o1 4 (.new [.bool false, .sl 0 [], .int .i64 0] [])])
  (.seq (.region false [o1 7 (.adr 2 2 2),
   o1 8 (.ld 7 2 1 true),
   o1 9 (.adr 3 3 2),
   o1 10 (.ld 9 3 1 true),
   o1 11 (.mx [.t 8, .t 10]),
   oM 5 11])
  (.seq (.region true [o1 12 (.adr 2 2 0),
   o1 13 (.ld 12 2 2 false),
   oM 14 5,
   o1 15 (.adr 2 2 2),
   o1 16 (.ld 15 2 1 true),
   oB 17 .sub 14 16,
   oC 18 81 [13, 17],
   o1 19 (.adr 3 3 0),
   o1 20 (.ld 19 3 2 false),
   oM 21 5,
   o1 22 (.adr 3 3 2),
   o1 23 (.ld 22 3 1 true),
   oB 24 .sub 21 23,
   oC 25 81 [20, 24],
   oC 26 80 [18, 25],
   o1 6 (.new [.bool false, .sl 0 []] []),
   oN (.st 6 6 2 (.t 26))])
  (.seq (.region false [o1 27 (.ld 6 6 2 false),
   oM 28 5,
   o1 29 (.bin .add (.t 28) (.c (.int .i64 1))),
   o1 30 (.bld [.bool false, .sl 0 [], .int .i64 0] [(0, 2, .t 27), (2, 1, .t 29)]),
   oC 31 121 [30],
   oN (.st 4 4 3 (.t 31))])
  (.ret))))⟩
def Tryz.r116 : List (Nat × Nat) := [(7, 2), (9, 3), (12, 2), (15, 2), (19, 3), (22, 3)]
theorem Tryz.i116_ok : fnOk Tryz.prog Tryz.r116 Tryz.f116 Tryz.i116 = true := by kernel_rfl

/- pinball/pinballref01.Neg -/
def Tryz.i117 : IFunc := ⟨1, 9, [.cell 2 2 false],
  .seq (.region false [o1 1 (.box (.t 0) [3, 6]),
   o1 2 (.new [.bool false, .sl 0 []] [])])
  (.seq (.region false [o1 3 (.adr 1 1 0),
   o1 4 (.ld 3 1 1 true),
   o1 5 (.un .not (.t 4)),
   o1 6 (.adr 1 1 1),
   o1 7 (.ld 6 1 1 true),
   oC 8 65 [5, 7],
   oN (.st 2 2 2 (.t 8))])
  (.ret))⟩
def Tryz.r117 : List (Nat × Nat) := [(3, 1), (6, 1)]
theorem Tryz.i117_ok : fnOk Tryz.prog Tryz.r117 Tryz.f117 Tryz.i117 = true := by kernel_rfl

/- pinball/wide.addLimbs -/
def Tryz.i118 : IFunc := ⟨2, 58, [.tmp 4],
  .seq (.region false [o1 4 (.nlo 1)])
  (.seq (.seq (.region false [oM 9 0,
   o1 10 (.len (.t 9)),
   oM 11 1,
   o1 12 (.len (.t 11)),
   oB 13 .lss 10 12])
  (.cond (.t 13) (.region false [oM 14 1,
   oM 15 0,
   oM 0 14,
   oM 1 15])
  (.skip)))
  (.seq (.region false [oM 16 0,
   o1 17 (.len (.t 16)),
   o1 18 (.bin .add (.t 17) (.c (.int .i64 1))),
   o1 19 (.mks [.int .u32 0] (.t 18)),
   ⟨some 5, .tra 19, none, [43, 49, 51, 56]⟩])
  (.seq (.region false [o1 6 (.mov (.c (.int .u64 0)))])
  (.seq (.seq (.region false [oM 20 0,
   o1 21 (.len (.t 20)),
   o1 22 (.mov (.c (.int .i64 0)))])
  (.block 0 (.loop (.seq (.region false [oB 23 .lss 22 21])
  (.seq (.cond (.t 23) (.skip)
  (.exit 0))
  (.seq (.block 1 (.seq (.region false [oM 24 22,
   oM 7 24])
  (.seq (.region false [oM 25 0,
   oM 26 7,
   o1 27 (.ixa 25 (.t 26) 1),
   o1 28 (.ld 27 27 1 true),
   o1 29 (.cv .u64 (.t 28)),
   oM 30 6,
   oB 31 .add 29 30,
   oM 8 31])
  (.seq (.seq (.region false [oM 32 7,
   oM 33 1,
   o1 34 (.len (.t 33)),
   oB 35 .lss 32 34])
  (.cond (.t 35) (.region false [oM 36 8,
   oM 37 1,
   oM 38 7,
   o1 39 (.ixa 37 (.t 38) 1),
   o1 40 (.ld 39 39 1 true),
   o1 41 (.cv .u64 (.t 40)),
   oB 42 .add 36 41,
   oM 8 42])
  (.skip)))
  (.region false [o1 43 (.cpy 5),
   oM 44 7,
   oM 45 8,
   o1 46 (.cv .u32 (.t 45)),
   oM 47 8,
   o1 48 (.bin .shr (.t 47) (.c (.int .u64 32))),
   o1 49 (.ixo 43 5 (.t 44) 1),
   oN (.st 49 5 1 (.t 46)),
   oM 6 48])))))
  (.region false [o1 50 (.bin .add (.t 22) (.c (.int .i64 1))),
   oM 22 50])))))))
  (.seq (.region false [o1 51 (.cpy 5),
   oM 52 0,
   o1 53 (.len (.t 52)),
   oM 54 6,
   o1 55 (.cv .u32 (.t 54)),
   o1 56 (.ixo 51 5 (.t 53) 1),
   oN (.st 56 5 1 (.t 55))])
  (.seq (.region false [o1 57 (.tra 5),
   o1 4 (.tra 57)])
  (.ret)))))))⟩
def Tryz.r118 : List (Nat × Nat) := [(43, 5), (49, 5), (51, 5), (56, 5)]
theorem Tryz.i118_ok : fnOk Tryz.prog Tryz.r118 Tryz.f118 Tryz.i118 = true := by kernel_rfl

/- pinball/wide.cmpLimbs -/
def Tryz.i119 : IFunc := ⟨2, 41, [.tmp 4],
  .seq (.region false [o1 4 (.mov (.c (.int .i64 0)))])
  (.seq (.seq (.region false [oM 6 0,
   o1 7 (.len (.t 6)),
   oM 8 1,
   o1 9 (.len (.t 8)),
   oB 10 .neq 7 9])
  (.cond (.t 10) (.seq (.seq (.region false [oM 11 0,
   o1 12 (.len (.t 11)),
   oM 13 1,
   o1 14 (.len (.t 13)),
   oB 15 .lss 12 14])
  (.cond (.t 15) (.seq (.region false [o1 4 (.mov (.c (.int .i64 (-1))))])
  (.ret))
  (.skip)))
  (.seq (.region false [o1 4 (.mov (.c (.int .i64 1)))])
  (.ret)))
  (.skip)))
  (.seq (.seq (.region false [oM 16 0,
   o1 17 (.len (.t 16)),
   o1 18 (.bin .sub (.t 17) (.c (.int .i64 1))),
   oM 5 18])
  (.block 0 (.loop (.seq (.seq (.region false [oM 19 5,
   o1 20 (.bin .geq (.t 19) (.c (.int .i64 0)))])
  (.cond (.t 20) (.skip)
  (.exit 0)))
  (.seq (.block 1 (.seq (.region true [oM 23 0,
   oM 24 5,
   o1 25 (.ixa 23 (.t 24) 1),
   o1 26 (.ld 25 25 1 true),
   oM 27 1,
   oM 28 5,
   o1 29 (.ixa 27 (.t 28) 1),
   o1 30 (.ld 29 29 1 true),
   oB 31 .neq 26 30])
  (.cond (.t 31) (.seq (.seq (.region true [oM 32 0,
   oM 33 5,
   o1 34 (.ixa 32 (.t 33) 1),
   o1 35 (.ld 34 34 1 true),
   oM 36 1,
   oM 37 5,
   o1 38 (.ixa 36 (.t 37) 1),
   o1 39 (.ld 38 38 1 true),
   oB 40 .lss 35 39])
  (.cond (.t 40) (.seq (.region false [o1 4 (.mov (.c (.int .i64 (-1))))])
  (.ret))
  (.skip)))
  (.seq (.region false [o1 4 (.mov (.c (.int .i64 1)))])
  (.ret)))
  (.skip))))
  (.region false [oM 21 5,
   o1 22 (.bin .sub (.t 21) (.c (.int .i64 1))),
   oM 5 22]))))))
  (.seq (.region false [o1 4 (.mov (.c (.int .i64 0)))])
  (.ret))))⟩
def Tryz.r119 : List (Nat × Nat) := []
theorem Tryz.i119_ok : fnOk Tryz.prog Tryz.r119 Tryz.f119 Tryz.i119 = true := by kernel_rfl

/- pinball/wide.subLimbs -/
def Tryz.i120 : IFunc := ⟨2, 44, [.tmp 4],
  .seq (.region false [o1 4 (.nlo 1)])
  (.seq (.region false [oM 9 0,
   o1 10 (.len (.t 9)),
   o1 11 (.mks [.int .u32 0] (.t 10)),
   ⟨some 5, .tra 11, none, [35, 41]⟩])
  (.seq (.region false [o1 6 (.mov (.c (.int .u64 0)))])
  (.seq (.seq (.region false [oM 12 0,
   o1 13 (.len (.t 12)),
   o1 14 (.mov (.c (.int .i64 0)))])
  (.block 0 (.loop (.seq (.region false [oB 15 .lss 14 13])
  (.seq (.cond (.t 15) (.skip)
  (.exit 0))
  (.seq (.block 1 (.seq (.region false [oM 16 14,
   oM 7 16])
  (.seq (.region false [oM 17 0,
   oM 18 7,
   o1 19 (.ixa 17 (.t 18) 1),
   o1 20 (.ld 19 19 1 true),
   o1 21 (.cv .u64 (.t 20)),
   oM 22 6,
   oB 23 .sub 21 22,
   oM 8 23])
  (.seq (.seq (.region false [oM 24 7,
   oM 25 1,
   o1 26 (.len (.t 25)),
   oB 27 .lss 24 26])
  (.cond (.t 27) (.region false [oM 28 8,
   oM 29 1,
   oM 30 7,
   o1 31 (.ixa 29 (.t 30) 1),
   o1 32 (.ld 31 31 1 true),
   o1 33 (.cv .u64 (.t 32)),
   oB 34 .sub 28 33,
   oM 8 34])
  (.skip)))
  (.region false [o1 35 (.cpy 5),
   oM 36 7,
   oM 37 8,
   o1 38 (.cv .u32 (.t 37)),
   oM 39 8,
   o1 40 (.bin .shr (.t 39) (.c (.int .u64 63))),
   o1 41 (.ixo 35 5 (.t 36) 1),
   oN (.st 41 5 1 (.t 38)),
   oM 6 40])))))
  (.region false [o1 42 (.bin .add (.t 14) (.c (.int .i64 1))),
   oM 14 42])))))))
  (.seq (.region false [o1 43 (.tra 5),
   o1 4 (.tra 43)])
  (.ret)))))⟩
def Tryz.r120 : List (Nat × Nat) := [(35, 5), (41, 5)]
theorem Tryz.i120_ok : fnOk Tryz.prog Tryz.r120 Tryz.f120 Tryz.i120 = true := by kernel_rfl

/- pinball/pinballref03.Reduce -/
def Tryz.i121 : IFunc := ⟨1, 33, [.cell 2 3 false],
  .seq (.region false [o1 1 (.box (.t 0) [5, 8]),
   o1 2 (.new [.bool false, .sl 0 [], .int .i64 0] [])])
  (.seq (.region true [o1 5 (.adr 1 1 0),
   o1 6 (.ld 5 1 2 false),
   oC 7 79 [6],
   o1 8 (.adr 1 1 2),
   o1 9 (.ld 8 1 1 true),
   o1 3 (.new [.bool false, .sl 0 []] [13, 18]),
   oN (.st 3 3 2 (.t 7)),
   oM 4 9])
  (.seq (.block 0 (.loop (.seq (.seq (.region false [oM 10 4,
   o1 11 (.bin .gtr (.t 10) (.c (.int .i64 0))),
   oM 12 11,
   oG 13 (.adr 3 3 1) 12 true,
   oG 14 (.ld 13 3 1 true) 12 true,
   oG 15 (.len (.t 14)) 12 true,
   oG 16 (.bin .eql (.t 15) (.c (.int .i64 0))) 12 true,
   oG 17 (.mov (.t 16)) 12 true,
   oG 18 (.adr 3 3 1) 17 false,
   oG 19 (.ld 18 3 1 true) 17 false,
   oG 20 (.ixa 19 (.c (.int .i64 0)) 1) 17 false,
   oG 21 (.ld 20 20 1 true) 17 false,
   oG 22 (.bin .and (.t 21) (.c (.int .u32 1))) 17 false,
   oG 23 (.bin .eql (.t 22) (.c (.int .u32 0))) 17 false,
   oG 24 (.pick (.t 17) (.c (.bool true)) (.t 23)) 12 true,
   o1 25 (.pick (.t 12) (.t 24) (.c (.bool false)))])
  (.cond (.t 25) (.skip)
  (.exit 0)))
  (.block 1 (.region false [o1 26 (.ld 3 3 2 false),
   o1 27 (.call 91 [.t 26, .c (.int .i64 1)]),
   oM 28 4,
   o1 29 (.bin .sub (.t 28) (.c (.int .i64 1))),
   oN (.st 3 3 2 (.t 27)),
   oM 4 29])))))
  (.seq (.region false [o1 30 (.ld 3 3 2 false),
   oM 31 4,
   o1 32 (.bld [.bool false, .sl 0 [], .int .i64 0] [(0, 2, .t 30), (2, 1, .t 31)]),
   oN (.st 2 2 3 (.t 32))])
  (.ret))))⟩
def Tryz.r121 : List (Nat × Nat) := [(5, 1), (8, 1), (13, 3), (18, 3)]
theorem Tryz.i121_ok : fnOk Tryz.prog Tryz.r121 Tryz.f121 Tryz.i121 = true := by kernel_rfl

/- pinball/pinballref02.Degree -/
def Tryz.i122 : IFunc := ⟨1, 7, [.tmp 2],
  .seq (.region false [o1 2 (.mov (.c (.int .i64 0)))])
  (.seq (.region false [oM 3 0,
   oC 4 54 [3],
   o1 5 (.len (.t 4)),
   o1 6 (.bin .sub (.t 5) (.c (.int .i64 1))),
   oM 2 6])
  (.ret))⟩
def Tryz.r122 : List (Nat × Nat) := []
theorem Tryz.i122_ok : fnOk Tryz.prog Tryz.r122 Tryz.f122 Tryz.i122 = true := by kernel_rfl

/- pinball/pinballref04.List -/
def Tryz.i123 : IFunc := ⟨3, 29, [.tmp 6],
  .seq (.region false [o1 4 (.box (.t 1) []),
   o1 5 (.box (.t 2) []),
   o1 6 (.nlo 7)])
  (.seq (.region false [oM 8 0,
   oC 9 124 [8],
   oM 7 9])
  (.seq (.seq (.region false [oM 10 7,
   o1 11 (.len (.t 10)),
   o1 12 (.bin .lss (.t 11) (.c (.int .i64 2))),
   oM 13 12,
   oG 14 (.ld 4 4 3 false) 13 false,
   oG 15 (.ld 5 5 3 false) 13 false,
   oG 16 (.call 85 [.t 14, .t 15]) 13 false,
   oG 17 (.bin .geq (.t 16) (.c (.int .i64 0))) 13 false,
   o1 18 (.pick (.t 13) (.c (.bool true)) (.t 17))])
  (.cond (.t 18) (.seq (.region false [o1 6 (.nlo 7)])
  (.ret))
  (.skip)))
  (.seq (.region true [oM 19 7,
   o1 20 (.ld 4 4 3 false),
   o1 21 (.ld 5 5 3 false),
   oM 22 7,
   o1 23 (.ld 4 4 3 false),
   oC 24 125 [22, 23],
   oM 25 7,
   o1 26 (.ld 5 5 3 false),
   oC 27 125 [25, 26],
   o1 28 (.clo 129 [.c (.sl 0 []), .t 19, .t 20, .t 21, .t 24, .t 27]),
   o1 6 (.tra 28)])
  (.ret))))⟩
def Tryz.r123 : List (Nat × Nat) := []
theorem Tryz.i123_ok : fnOk Tryz.prog Tryz.r123 Tryz.f123 Tryz.i123 = true := by kernel_rfl

/- pinball/pinballref03.Sequence -/
def Tryz.i124 : IFunc := ⟨1, 33, [.tmp 2],
  .seq (.region false [o1 2 (.nlo 1)])
  (.seq (.region false [oM 6 0,
   oC 7 130 [6],
   oM 3 7])
  (.seq (.seq (.region false [oM 8 3,
   o1 9 (.len (.t 8)),
   o1 10 (.bin .eql (.t 9) (.c (.int .i64 0)))])
  (.cond (.t 10) (.seq (.region false [o1 2 (.nlo 1)])
  (.ret))
  (.skip)))
  (.seq (.region false [oM 11 3,
   o1 12 (.blo 1 1 [.sl 0 []] [(0, 1, .t 11)]),
   ⟨some 4, .tra 12, none, [23, 24, 27]⟩])
  (.seq (.region false [oM 13 3,
   oC 14 131 [13],
   oC 15 113 [14],
   oM 5 15])
  (.seq (.block 0 (.loop (.seq (.seq (.region false [oM 16 5,
   o1 17 (.len (.t 16)),
   o1 18 (.bin .gtr (.t 17) (.c (.int .i64 0)))])
  (.cond (.t 18) (.skip)
  (.exit 0)))
  (.block 1 (.seq (.region false [o1 19 (.tra 4),
   oM 20 5,
   o1 21 (.bls 1 [.sl 0 []] [(0, 1, .t 20)]),
   o1 22 (.apd true (.t 19) (.t 21) 1),
   ⟨some 4, .tra 22, none, [23, 24, 27]⟩])
  (.region false [o1 23 (.cpy 4),
   o1 24 (.cpy 4),
   o1 25 (.lno 24 4),
   o1 26 (.bin .sub (.t 25) (.c (.int .i64 2))),
   o1 27 (.ixo 23 4 (.t 26) 1),
   o1 28 (.ld 27 4 1 true),
   oM 29 5,
   oC 30 114 [28, 29],
   oC 31 128 [30],
   oM 5 31]))))))
  (.seq (.region false [o1 32 (.tra 4),
   o1 2 (.tra 32)])
  (.ret)))))))⟩
def Tryz.r124 : List (Nat × Nat) := [(23, 4), (24, 4), (27, 4)]
theorem Tryz.i124_ok : fnOk Tryz.prog Tryz.r124 Tryz.f124 Tryz.i124 = true := by kernel_rfl

/- pinball/pinballref03.Variations -/
def Tryz.i125 : IFunc := ⟨2, 42, [.tmp 4],
  .seq (.region false [o1 3 (.box (.t 1) [19, 21]),
   o1 4 (.mov (.c (.int .i64 0)))])
  (.seq (.region false [o1 5 (.mov (.c (.int .i64 0))),
   o1 6 (.mov (.c (.int .i64 0)))])
  (.seq (.seq (.region false [o1 7 (.mov (.c (.int .i64 0)))])
  (.block 0 (.loop (.seq (.seq (.region false [oM 9 7,
   oM 10 0,
   o1 11 (.len (.t 10)),
   oB 12 .lss 9 11])
  (.cond (.t 12) (.skip)
  (.exit 0)))
  (.seq (.block 1 (.seq (.region true [oM 15 0,
   oM 16 7,
   o1 17 (.ixa 15 (.t 16) 1),
   o1 18 (.ld 17 17 1 true),
   o1 19 (.adr 3 3 0),
   o1 20 (.ld 19 3 2 false),
   o1 21 (.adr 3 3 2),
   o1 22 (.ld 21 3 1 true),
   oC 23 56 [18, 20, 22],
   oC 24 55 [23],
   oM 8 24])
  (.seq (.seq (.region false [oM 25 8,
   o1 26 (.bin .neq (.t 25) (.c (.int .i64 0))),
   oM 27 26,
   oG 28 (.mov (.t 6)) 27 true,
   oG 29 (.bin .neq (.t 28) (.c (.int .i64 0))) 27 true,
   o1 30 (.pick (.t 27) (.t 29) (.c (.bool false))),
   oM 31 30,
   oG 32 (.mov (.t 8)) 31 true,
   oG 33 (.mov (.t 6)) 31 true,
   oG 34 (.bin .neq (.t 32) (.t 33)) 31 true,
   o1 35 (.pick (.t 31) (.t 34) (.c (.bool false)))])
  (.cond (.t 35) (.region false [oM 36 5,
   o1 37 (.bin .add (.t 36) (.c (.int .i64 1))),
   oM 5 37])
  (.skip)))
  (.seq (.region false [oM 38 8,
   o1 39 (.bin .neq (.t 38) (.c (.int .i64 0)))])
  (.cond (.t 39) (.region false [oM 40 8,
   oM 6 40])
  (.skip))))))
  (.region false [oM 13 7,
   o1 14 (.bin .add (.t 13) (.c (.int .i64 1))),
   oM 7 14]))))))
  (.seq (.region false [oM 41 5,
   oM 4 41])
  (.ret))))⟩
def Tryz.r125 : List (Nat × Nat) := [(19, 3), (21, 3)]
theorem Tryz.i125_ok : fnOk Tryz.prog Tryz.r125 Tryz.f125 Tryz.i125 = true := by kernel_rfl

/- pinball/pinballref02.Inner -/
def Tryz.i126 : IFunc := ⟨1, 19, [.cell 2 2 false],
  .seq (.region false [o1 2 (.new [.bool false, .sl 0 []] [])])
  (.seq (.region false [o1 5 (.bld [.bool false, .sl 0 []] []),
   o1 3 (.new [.bool false, .sl 0 []] []),
   oN (.st 3 3 2 (.t 5))])
  (.seq (.seq (.region false [o1 4 (.mov (.c (.int .i64 0)))])
  (.block 0 (.loop (.seq (.seq (.region false [oM 6 4,
   oM 7 0,
   o1 8 (.len (.t 7)),
   oB 9 .lss 6 8])
  (.cond (.t 9) (.skip)
  (.exit 0)))
  (.seq (.block 1 (.region true [o1 12 (.ld 3 3 2 false),
   oM 13 0,
   oM 14 4,
   o1 15 (.ixa 13 (.t 14) 2),
   o1 16 (.ld 15 15 2 false),
   oC 17 132 [12, 16],
   oN (.st 3 3 2 (.t 17))]))
  (.region false [oM 10 4,
   o1 11 (.bin .add (.t 10) (.c (.int .i64 1))),
   oM 4 11]))))))
  (.seq (.region false [o1 18 (.ld 3 3 2 false),
   oN (.st 2 2 2 (.t 18))])
  (.ret))))⟩
def Tryz.r126 : List (Nat × Nat) := []
theorem Tryz.i126_ok : fnOk Tryz.prog Tryz.r126 Tryz.f126 Tryz.i126 = true := by kernel_rfl

/- pinball/pinballref01.Div -/
def Tryz.i127 : IFunc := ⟨2, 29, [.cell 4 2 false, .cell 5 2 false],
  .seq (.region false [o1 2 (.box (.t 0) [9, 18, 25]),
   o1 3 (.box (.t 1) [12, 20]),
   o1 4 (.new [.bool false, .sl 0 []] []),
   o1 5 (.new [.bool false, .sl 0 []] [])])
  (.seq (.region true [o1 9 (.adr 2 2 1),
   o1 10 (.ld 9 2 1 true),
   oC 11 67 [10],
   o1 12 (.adr 3 3 1),
   o1 13 (.ld 12 3 1 true),
   oC 14 67 [13],
   oC 15 133 [11, 14],
   oM 8 15,
   o1 16 (.ext (.t 8) 0),
   o1 17 (.ext (.t 8) 1),
   oM 6 16,
   oM 7 17])
  (.seq (.region true [o1 18 (.adr 2 2 0),
   o1 19 (.ld 18 2 1 true),
   o1 20 (.adr 3 3 0),
   o1 21 (.ld 20 3 1 true),
   o1 22 (.eqb true (.t 19) (.t 21)),
   oM 23 6,
   oC 24 65 [22, 23],
   o1 25 (.adr 2 2 0),
   o1 26 (.ld 25 2 1 true),
   oM 27 7,
   oC 28 65 [26, 27],
   oN (.st 4 4 2 (.t 24)),
   oN (.st 5 5 2 (.t 28))])
  (.ret)))⟩
def Tryz.r127 : List (Nat × Nat) := [(9, 2), (12, 3), (18, 2), (20, 3), (25, 2)]
theorem Tryz.i127_ok : fnOk Tryz.prog Tryz.r127 Tryz.f127 Tryz.i127 = true := by kernel_rfl

/- pinball/pinballref02.Neg -/
def Tryz.i128 : IFunc := ⟨1, 21, [.tmp 2],
  .seq (.region false [o1 2 (.nlo 2)])
  (.seq (.region false [o1 3 (.nlo 2)])
  (.seq (.seq (.region false [o1 4 (.mov (.c (.int .i64 0)))])
  (.block 0 (.loop (.seq (.seq (.region false [oM 5 4,
   oM 6 0,
   o1 7 (.len (.t 6)),
   oB 8 .lss 5 7])
  (.cond (.t 8) (.skip)
  (.exit 0)))
  (.seq (.block 1 (.region false [o1 11 (.tra 3),
   oM 12 0,
   oM 13 4,
   o1 14 (.ixa 12 (.t 13) 2),
   o1 15 (.ld 14 14 2 false),
   oC 16 117 [15],
   o1 17 (.bls 1 [.bool false, .sl 0 []] [(0, 2, .t 16)]),
   o1 18 (.apd true (.t 11) (.t 17) 2),
   o1 3 (.tra 18)]))
  (.region false [oM 9 4,
   o1 10 (.bin .add (.t 9) (.c (.int .i64 1))),
   oM 4 10]))))))
  (.seq (.region false [o1 19 (.frz 3),
   o1 20 (.clo 54 [.t 19]),
   o1 2 (.tra 20)])
  (.ret))))⟩
def Tryz.r128 : List (Nat × Nat) := []
theorem Tryz.i128_ok : fnOk Tryz.prog Tryz.r128 Tryz.f128 Tryz.i128 = true := by kernel_rfl

/- pinball/pinballref04.split -/
def Tryz.i129 : IFunc := ⟨6, 51, [.tmp 12],
  .seq (.region false [o1 8 (.box (.t 2) []),
   o1 9 (.box (.t 3) []),
   o1 12 (.nlo 7)])
  (.seq (.seq (.region false [oM 15 4,
   oM 16 5,
   oB 17 .eql 15 16])
  (.cond (.t 17) (.seq (.region false [o1 18 (.tra 0),
   o1 12 (.tra 18)])
  (.ret))
  (.skip)))
  (.seq (.seq (.region false [oM 19 4,
   oM 20 5,
   oB 21 .sub 19 20,
   o1 22 (.bin .eql (.t 21) (.c (.int .i64 1)))])
  (.cond (.t 22) (.seq (.region true [o1 23 (.tra 0),
   oM 24 1,
   o1 25 (.ixa 24 (.c (.int .i64 0)) 1),
   o1 26 (.ld 25 25 1 true),
   o1 27 (.ld 8 8 3 false),
   o1 28 (.ld 9 9 3 false),
   o1 29 (.bld [.sl 0 [], .bool false, .sl 0 [], .int .i64 0, .bool false, .sl 0 [], .int .i64 0] [(0, 1, .t 26), (1, 3, .t 27), (4, 3, .t 28)]),
   o1 30 (.bls 1 [.sl 0 [], .bool false, .sl 0 [], .int .i64 0, .bool false, .sl 0 [], .int .i64 0] [(0, 7, .t 29)]),
   o1 31 (.apd true (.t 23) (.t 30) 7),
   o1 12 (.tra 31)])
  (.ret))
  (.skip)))
  (.seq (.region false [o1 32 (.ld 8 8 3 false),
   o1 33 (.ld 9 9 3 false),
   oC 34 116 [32, 33],
   o1 13 (.new [.bool false, .sl 0 [], .int .i64 0] []),
   oN (.st 13 13 3 (.t 34))])
  (.seq (.region false [oM 35 1,
   o1 36 (.ld 13 13 3 false),
   oC 37 125 [35, 36],
   oM 14 37])
  (.seq (.region true [o1 38 (.frz 0),
   oM 39 1,
   o1 40 (.ld 8 8 3 false),
   o1 41 (.ld 13 13 3 false),
   oM 42 4,
   oM 43 14,
   oC 44 129 [38, 39, 40, 41, 42, 43],
   oM 45 1,
   o1 46 (.ld 13 13 3 false),
   o1 47 (.ld 9 9 3 false),
   oM 48 14,
   oM 49 5,
   o1 50 (.clo 129 [.t 44, .t 45, .t 46, .t 47, .t 48, .t 49]),
   o1 12 (.tra 50)])
  (.ret))))))⟩
def Tryz.r129 : List (Nat × Nat) := []
theorem Tryz.i129_ok : fnOk Tryz.prog Tryz.r129 Tryz.f129 Tryz.i129 = true := by kernel_rfl

/- pinball/pinballref02.Simple -/
def Tryz.i130 : IFunc := ⟨1, 19, [.tmp 2],
  .seq (.region false [o1 2 (.nlo 2)])
  (.seq (.region false [oM 5 0,
   oC 6 113 [5],
   oC 7 115 [6],
   oM 3 7])
  (.seq (.seq (.region false [oM 8 3,
   o1 9 (.len (.t 8)),
   o1 10 (.bin .leq (.t 9) (.c (.int .i64 1)))])
  (.cond (.t 10) (.seq (.region false [oM 11 3,
   o1 2 (.tra 11)])
  (.ret))
  (.skip)))
  (.seq (.region false [oM 12 3,
   oM 13 3,
   oC 14 131 [13],
   oC 15 88 [12, 14],
   oM 4 15])
  (.seq (.region false [oM 16 3,
   oM 17 4,
   o1 18 (.clo 134 [.t 16, .t 17]),
   o1 2 (.tra 18)])
  (.ret)))))⟩
def Tryz.r130 : List (Nat × Nat) := []
theorem Tryz.i130_ok : fnOk Tryz.prog Tryz.r130 Tryz.f130 Tryz.i130 = true := by kernel_rfl

/- pinball/pinballref02.Derivative -/
def Tryz.i131 : IFunc := ⟨1, 23, [.tmp 2],
  .seq (.region false [o1 2 (.nlo 2)])
  (.seq (.region false [o1 3 (.nlo 2)])
  (.seq (.seq (.region false [o1 4 (.mov (.c (.int .i64 1)))])
  (.block 0 (.loop (.seq (.seq (.region false [oM 5 4,
   oM 6 0,
   o1 7 (.len (.t 6)),
   oB 8 .lss 5 7])
  (.cond (.t 8) (.skip)
  (.exit 0)))
  (.seq (.block 1 (.region true [o1 11 (.tra 3),
   oM 12 4,
   oC 13 34 [12],
   oM 14 0,
   oM 15 4,
   o1 16 (.ixa 14 (.t 15) 2),
   o1 17 (.ld 16 16 2 false),
   oC 18 37 [13, 17],
   o1 19 (.bls 1 [.bool false, .sl 0 []] [(0, 2, .t 18)]),
   o1 20 (.apd true (.t 11) (.t 19) 2),
   o1 3 (.tra 20)]))
  (.region false [oM 9 4,
   o1 10 (.bin .add (.t 9) (.c (.int .i64 1))),
   oM 4 10]))))))
  (.seq (.region false [o1 21 (.frz 3),
   o1 22 (.clo 54 [.t 21]),
   o1 2 (.tra 22)])
  (.ret))))⟩
def Tryz.r131 : List (Nat × Nat) := []
theorem Tryz.i131_ok : fnOk Tryz.prog Tryz.r131 Tryz.f131 Tryz.i131 = true := by kernel_rfl

/- pinball/pinballref01.Common -/
def Tryz.i132 : IFunc := ⟨2, 27, [.cell 4 2 false],
  .seq (.region false [o1 2 (.box (.t 0) [9]),
   o1 3 (.box (.t 1) [12]),
   o1 4 (.new [.bool false, .sl 0 []] [])])
  (.seq (.region true [o1 9 (.adr 2 2 1),
   o1 10 (.ld 9 2 1 true),
   o1 11 (.call 65 [.c (.bool false), .t 10]),
   o1 12 (.adr 3 3 1),
   o1 13 (.ld 12 3 1 true),
   o1 14 (.call 65 [.c (.bool false), .t 13]),
   o1 5 (.new [.bool false, .sl 0 []] []),
   o1 6 (.new [.bool false, .sl 0 []] []),
   oN (.st 5 5 2 (.t 11)),
   oN (.st 6 6 2 (.t 14))])
  (.seq (.block 0 (.loop (.seq (.seq (.region false [o1 15 (.ld 6 6 2 false),
   oC 16 55 [15],
   o1 17 (.bin .neq (.t 16) (.c (.int .i64 0)))])
  (.cond (.t 17) (.skip)
  (.exit 0)))
  (.block 1 (.seq (.region false [o1 19 (.ld 5 5 2 false),
   o1 20 (.ld 6 6 2 false),
   oC 21 127 [19, 20],
   oM 18 21,
   o1 22 (.ext (.t 18) 0),
   o1 23 (.ext (.t 18) 1),
   o1 7 (.new [.bool false, .sl 0 []] []),
   o1 8 (.new [.bool false, .sl 0 []] []),
   oN (.st 7 7 2 (.t 22)),
   oN (.st 8 8 2 (.t 23))])
  (.region true [o1 24 (.ld 6 6 2 false),
   o1 25 (.ld 8 8 2 false),
   oN (.st 5 5 2 (.t 24)),
   oN (.st 6 6 2 (.t 25))]))))))
  (.seq (.region false [o1 26 (.ld 5 5 2 false),
   oN (.st 4 4 2 (.t 26))])
  (.ret))))⟩
def Tryz.r132 : List (Nat × Nat) := [(9, 2), (12, 3)]
theorem Tryz.i132_ok : fnOk Tryz.prog Tryz.r132 Tryz.f132 Tryz.i132 = true := by kernel_rfl

/- pinball/pinballref01.divMag -/
def Tryz.i133 : IFunc := ⟨2, 307, [.tmp 4, .tmp 5],
  .seq (.region false [o1 4 (.nlo 1),
   o1 5 (.nlo 1)])
  (.seq (.seq (.region false [oM 25 0,
   oM 26 1,
   oC 27 66 [25, 26],
   o1 28 (.bin .lss (.t 27) (.c (.int .i64 0)))])
  (.cond (.t 28) (.seq (.region false [oM 29 0,
   o1 4 (.nlo 1),
   o1 5 (.tra 29)])
  (.ret))
  (.skip)))
  (.seq (.seq (.region false [oM 30 1,
   o1 31 (.len (.t 30)),
   o1 32 (.bin .eql (.t 31) (.c (.int .i64 1)))])
  (.cond (.t 32) (.seq (.region false [oM 33 0,
   o1 34 (.len (.t 33)),
   o1 35 (.mks [.int .u32 0] (.t 34)),
   ⟨some 6, .tra 35, none, [51, 60]⟩])
  (.seq (.region false [o1 7 (.mov (.c (.int .u64 0)))])
  (.seq (.seq (.region false [oM 36 0,
   o1 37 (.len (.t 36)),
   o1 38 (.bin .sub (.t 37) (.c (.int .i64 1))),
   oM 8 38])
  (.block 0 (.loop (.seq (.seq (.region false [oM 39 8,
   o1 40 (.bin .geq (.t 39) (.c (.int .i64 0)))])
  (.cond (.t 40) (.skip)
  (.exit 0)))
  (.seq (.block 1 (.seq (.region false [oM 43 7,
   o1 44 (.bin .shl (.t 43) (.c (.int .u64 32))),
   oM 45 0,
   oM 46 8,
   o1 47 (.ixa 45 (.t 46) 1),
   o1 48 (.ld 47 47 1 true),
   o1 49 (.cv .u64 (.t 48)),
   oB 50 .or 44 49,
   oM 7 50])
  (.seq (.region false [o1 51 (.cpy 6),
   oM 52 8,
   oM 53 7,
   oM 54 1,
   o1 55 (.ixa 54 (.c (.int .i64 0)) 1),
   o1 56 (.ld 55 55 1 true),
   o1 57 (.cv .u64 (.t 56)),
   oB 58 .quo 53 57,
   o1 59 (.cv .u32 (.t 58)),
   o1 60 (.ixo 51 6 (.t 52) 1),
   oN (.st 60 6 1 (.t 59))])
  (.region false [oM 61 7,
   oM 62 1,
   o1 63 (.ixa 62 (.c (.int .i64 0)) 1),
   o1 64 (.ld 63 63 1 true),
   o1 65 (.cv .u64 (.t 64)),
   oB 66 .rem 61 65,
   oM 7 66]))))
  (.region false [oM 41 8,
   o1 42 (.bin .sub (.t 41) (.c (.int .i64 1))),
   oM 8 42]))))))
  (.seq (.region false [o1 67 (.frz 6),
   o1 68 (.clo 67 [.t 67]),
   oM 69 7,
   o1 70 (.cv .u32 (.t 69)),
   o1 71 (.bls 1 [.int .u32 0] [(0, 1, .t 70)]),
   o1 72 (.clo 67 [.t 71]),
   o1 4 (.tra 68),
   o1 5 (.tra 72)])
  (.ret)))))
  (.skip)))
  (.seq (.region false [o1 9 (.mov (.c (.int .i64 0)))])
  (.seq (.block 2 (.loop (.seq (.seq (.region false [oM 73 1,
   oM 74 1,
   o1 75 (.len (.t 74)),
   o1 76 (.bin .sub (.t 75) (.c (.int .i64 1))),
   o1 77 (.ixa 73 (.t 76) 1),
   o1 78 (.ld 77 77 1 true),
   oM 79 9,
   o1 80 (.cv .u64 (.t 79)),
   oB 81 .shl 78 80,
   o1 82 (.bin .and (.t 81) (.c (.int .u32 2147483648))),
   o1 83 (.bin .eql (.t 82) (.c (.int .u32 0)))])
  (.cond (.t 83) (.skip)
  (.exit 2)))
  (.block 3 (.region false [oM 84 9,
   o1 85 (.bin .add (.t 84) (.c (.int .i64 1))),
   oM 9 85])))))
  (.seq (.region false [oM 86 1,
   o1 87 (.bld [.bool false, .sl 0 []] [(1, 1, .t 86)]),
   oM 88 9,
   oC 89 81 [87, 88],
   o1 90 (.fld (.t 89) 1 1 true),
   oM 10 90])
  (.seq (.region false [oM 91 0,
   o1 92 (.bld [.bool false, .sl 0 []] [(1, 1, .t 91)]),
   oM 93 9,
   oC 94 81 [92, 93],
   o1 95 (.fld (.t 94) 1 1 true),
   o1 96 (.bls 2 [.int .u32 0, .int .u32 0] [(0, 1, .c (.int .u32 0)), (1, 1, .c (.int .u32 0))]),
   o1 97 (.apd true (.t 95) (.t 96) 1),
   ⟨some 11, .tra 97, none, [109, 114, 123, 127, 131, 136, 172, 177, 210, 214, 222, 228, 233, 237, 244, 250, 262, 266, 276, 282, 285, 289, 294]⟩])
  (.seq (.region false [o1 98 (.frz 11),
   oM 99 0,
   o1 100 (.len (.t 99)),
   o1 101 (.bin .add (.t 100) (.c (.int .i64 1))),
   oM 102 1,
   o1 103 (.len (.t 102)),
   o1 104 (.bin .add (.t 103) (.c (.int .i64 1))),
   o1 105 (.mx [.t 101, .t 104]),
   o1 106 (.sli (.t 98) none (some (.t 105)) none 1),
   ⟨some 11, .tra 106, none, [109, 114, 123, 127, 131, 136, 172, 177, 210, 214, 222, 228, 233, 237, 244, 250, 262, 266, 276, 282, 285, 289, 294]⟩])
  (.seq (.region false [oM 107 10,
   o1 108 (.len (.t 107)),
   oM 12 108])
  (.seq (.region false [o1 109 (.cpy 11),
   o1 110 (.lno 109 11),
   oM 111 12,
   oB 112 .sub 110 111,
   o1 113 (.mks [.int .u32 0] (.t 112)),
   ⟨some 13, .tra 113, none, [295, 299]⟩])
  (.seq (.seq (.region false [o1 114 (.cpy 11),
   o1 115 (.lno 114 11),
   oM 116 12,
   oB 117 .sub 115 116,
   o1 118 (.bin .sub (.t 117) (.c (.int .i64 1))),
   oM 14 118])
  (.block 4 (.loop (.seq (.seq (.region false [oM 119 14,
   o1 120 (.bin .geq (.t 119) (.c (.int .i64 0)))])
  (.cond (.t 120) (.skip)
  (.exit 4)))
  (.seq (.block 5 (.seq (.region true [o1 123 (.cpy 11),
   oM 124 14,
   oM 125 12,
   oB 126 .add 124 125,
   o1 127 (.ixo 123 11 (.t 126) 1),
   o1 128 (.ld 127 11 1 true),
   o1 129 (.cv .u64 (.t 128)),
   o1 130 (.bin .shl (.t 129) (.c (.int .u64 32))),
   o1 131 (.cpy 11),
   oM 132 14,
   oM 133 12,
   oB 134 .add 132 133,
   o1 135 (.bin .sub (.t 134) (.c (.int .i64 1))),
   o1 136 (.ixo 131 11 (.t 135) 1),
   o1 137 (.ld 136 11 1 true),
   o1 138 (.cv .u64 (.t 137)),
   oB 139 .or 130 138,
   oM 15 139])
  (.seq (.region true [oM 140 15,
   oM 141 10,
   oM 142 12,
   o1 143 (.bin .sub (.t 142) (.c (.int .i64 1))),
   o1 144 (.ixa 141 (.t 143) 1),
   o1 145 (.ld 144 144 1 true),
   o1 146 (.cv .u64 (.t 145)),
   oB 147 .quo 140 146,
   oM 148 15,
   oM 149 10,
   oM 150 12,
   o1 151 (.bin .sub (.t 150) (.c (.int .i64 1))),
   o1 152 (.ixa 149 (.t 151) 1),
   o1 153 (.ld 152 152 1 true),
   o1 154 (.cv .u64 (.t 153)),
   oB 155 .rem 148 154,
   oM 16 147,
   oM 17 155])
  (.seq (.block 6 (.loop (.seq (.seq (.region true [oM 156 16,
   o1 157 (.bin .geq (.t 156) (.c (.int .u64 4294967296))),
   oM 158 157,
   oG 159 (.mov (.t 17)) 158 false,
   oG 160 (.bin .lss (.t 159) (.c (.int .u64 4294967296))) 158 false,
   oG 161 (.mov (.t 160)) 158 false,
   oG 162 (.mov (.t 16)) 161 true,
   oG 163 (.mov (.t 10)) 161 true,
   oG 164 (.mov (.t 12)) 161 true,
   oG 165 (.bin .sub (.t 164) (.c (.int .i64 2))) 161 true,
   oG 166 (.ixa 163 (.t 165) 1) 161 true,
   oG 167 (.ld 166 166 1 true) 161 true,
   oG 168 (.cv .u64 (.t 167)) 161 true,
   oG 169 (.bin .mul (.t 162) (.t 168)) 161 true,
   oG 170 (.mov (.t 17)) 161 true,
   oG 171 (.bin .shl (.t 170) (.c (.int .u64 32))) 161 true,
   oG 172 (.cpy 11) 161 true,
   oG 173 (.mov (.t 14)) 161 true,
   oG 174 (.mov (.t 12)) 161 true,
   oG 175 (.bin .add (.t 173) (.t 174)) 161 true,
   oG 176 (.bin .sub (.t 175) (.c (.int .i64 2))) 161 true,
   oG 177 (.ixo 172 11 (.t 176) 1) 161 true,
   oG 178 (.ld 177 11 1 true) 161 true,
   oG 179 (.cv .u64 (.t 178)) 161 true,
   oG 180 (.bin .or (.t 171) (.t 179)) 161 true,
   oG 181 (.bin .gtr (.t 169) (.t 180)) 161 true,
   oG 182 (.pick (.t 161) (.t 181) (.c (.bool false))) 158 false,
   o1 183 (.pick (.t 158) (.c (.bool true)) (.t 182))])
  (.cond (.t 183) (.skip)
  (.exit 6)))
  (.block 7 (.seq (.region false [oM 184 16,
   o1 185 (.bin .sub (.t 184) (.c (.int .u64 1))),
   oM 16 185])
  (.seq (.region false [oM 186 17,
   oM 187 10,
   oM 188 12,
   o1 189 (.bin .sub (.t 188) (.c (.int .i64 1))),
   o1 190 (.ixa 187 (.t 189) 1),
   o1 191 (.ld 190 190 1 true),
   o1 192 (.cv .u64 (.t 191)),
   oB 193 .add 186 192,
   oM 17 193])
  (.seq (.region false [oM 194 17,
   o1 195 (.bin .geq (.t 194) (.c (.int .u64 4294967296)))])
  (.cond (.t 195) (.exit 6)
  (.skip)))))))))
  (.seq (.region false [o1 18 (.mov (.c (.int .u64 0))),
   o1 19 (.mov (.c (.int .u64 0)))])
  (.seq (.seq (.region false [o1 20 (.mov (.c (.int .i64 0)))])
  (.block 8 (.loop (.seq (.seq (.region false [oM 196 20,
   oM 197 12,
   oB 198 .lss 196 197])
  (.cond (.t 198) (.skip)
  (.exit 8)))
  (.seq (.block 9 (.seq (.region false [oM 201 19,
   oM 202 16,
   oM 203 10,
   oM 204 20,
   o1 205 (.ixa 203 (.t 204) 1),
   o1 206 (.ld 205 205 1 true),
   o1 207 (.cv .u64 (.t 206)),
   oB 208 .mul 202 207,
   oB 209 .add 201 208,
   oM 19 209])
  (.seq (.region false [o1 210 (.cpy 11),
   oM 211 20,
   oM 212 14,
   oB 213 .add 211 212,
   o1 214 (.ixo 210 11 (.t 213) 1),
   o1 215 (.ld 214 11 1 true),
   o1 216 (.cv .u64 (.t 215)),
   oM 217 19,
   o1 218 (.bin .and (.t 217) (.c (.int .u64 4294967295))),
   oB 219 .sub 216 218,
   oM 220 18,
   oB 221 .sub 219 220,
   oM 21 221])
  (.seq (.region false [o1 222 (.cpy 11),
   oM 223 20,
   oM 224 14,
   oB 225 .add 223 224,
   oM 226 21,
   o1 227 (.cv .u32 (.t 226)),
   o1 228 (.ixo 222 11 (.t 225) 1),
   oN (.st 228 11 1 (.t 227))])
  (.seq (.region false [oM 229 21,
   o1 230 (.bin .shr (.t 229) (.c (.int .u64 63))),
   oM 18 230])
  (.region false [oM 231 19,
   o1 232 (.bin .shr (.t 231) (.c (.int .u64 32))),
   oM 19 232]))))))
  (.region false [oM 199 20,
   o1 200 (.bin .add (.t 199) (.c (.int .i64 1))),
   oM 20 200]))))))
  (.seq (.region false [o1 233 (.cpy 11),
   oM 234 14,
   oM 235 12,
   oB 236 .add 234 235,
   o1 237 (.ixo 233 11 (.t 236) 1),
   o1 238 (.ld 237 11 1 true),
   o1 239 (.cv .u64 (.t 238)),
   oM 240 19,
   oB 241 .sub 239 240,
   oM 242 18,
   oB 243 .sub 241 242,
   oM 22 243])
  (.seq (.region false [o1 244 (.cpy 11),
   oM 245 14,
   oM 246 12,
   oB 247 .add 245 246,
   oM 248 22,
   o1 249 (.cv .u32 (.t 248)),
   o1 250 (.ixo 244 11 (.t 247) 1),
   oN (.st 250 11 1 (.t 249))])
  (.seq (.seq (.region false [oM 251 22,
   o1 252 (.bin .shr (.t 251) (.c (.int .u64 63))),
   o1 253 (.bin .neq (.t 252) (.c (.int .u64 0)))])
  (.cond (.t 253) (.seq (.region false [oM 254 16,
   o1 255 (.bin .sub (.t 254) (.c (.int .u64 1))),
   oM 16 255])
  (.seq (.region false [o1 23 (.mov (.c (.int .u64 0)))])
  (.seq (.seq (.region false [o1 24 (.mov (.c (.int .i64 0)))])
  (.block 10 (.loop (.seq (.seq (.region false [oM 256 24,
   oM 257 12,
   oB 258 .lss 256 257])
  (.cond (.t 258) (.skip)
  (.exit 10)))
  (.seq (.block 11 (.seq (.region true [oM 261 23,
   o1 262 (.cpy 11),
   oM 263 24,
   oM 264 14,
   oB 265 .add 263 264,
   o1 266 (.ixo 262 11 (.t 265) 1),
   o1 267 (.ld 266 11 1 true),
   o1 268 (.cv .u64 (.t 267)),
   oM 269 10,
   oM 270 24,
   o1 271 (.ixa 269 (.t 270) 1),
   o1 272 (.ld 271 271 1 true),
   o1 273 (.cv .u64 (.t 272)),
   oB 274 .add 268 273,
   oB 275 .add 261 274,
   oM 23 275])
  (.seq (.region false [o1 276 (.cpy 11),
   oM 277 24,
   oM 278 14,
   oB 279 .add 277 278,
   oM 280 23,
   o1 281 (.cv .u32 (.t 280)),
   o1 282 (.ixo 276 11 (.t 279) 1),
   oN (.st 282 11 1 (.t 281))])
  (.region false [oM 283 23,
   o1 284 (.bin .shr (.t 283) (.c (.int .u64 32))),
   oM 23 284]))))
  (.region false [oM 259 24,
   o1 260 (.bin .add (.t 259) (.c (.int .i64 1))),
   oM 24 260]))))))
  (.region false [o1 285 (.cpy 11),
   oM 286 14,
   oM 287 12,
   oB 288 .add 286 287,
   o1 289 (.ixo 285 11 (.t 288) 1),
   o1 290 (.ld 289 11 1 true),
   oM 291 23,
   o1 292 (.cv .u32 (.t 291)),
   oB 293 .add 290 292,
   o1 294 (.ixo 285 11 (.t 288) 1),
   oN (.st 294 11 1 (.t 293))]))))
  (.skip)))
  (.region false [o1 295 (.cpy 13),
   oM 296 14,
   oM 297 16,
   o1 298 (.cv .u32 (.t 297)),
   o1 299 (.ixo 295 13 (.t 296) 1),
   oN (.st 299 13 1 (.t 298))]))))))))))
  (.region false [oM 121 14,
   o1 122 (.bin .sub (.t 121) (.c (.int .i64 1))),
   oM 14 122]))))))
  (.seq (.region false [o1 300 (.frz 13),
   o1 301 (.clo 67 [.t 300]),
   o1 302 (.frz 11),
   o1 303 (.bld [.bool false, .sl 0 []] [(1, 1, .t 302)]),
   oM 304 9,
   oC 305 91 [303, 304],
   o1 306 (.fld (.t 305) 1 1 true),
   o1 4 (.tra 301),
   o1 5 (.tra 306)])
  (.ret))))))))))))⟩
def Tryz.r133 : List (Nat × Nat) := [(51, 6), (60, 6), (109, 11), (114, 11), (123, 11), (127, 11), (131, 11), (136, 11), (172, 11), (177, 11), (210, 11), (214, 11), (222, 11), (228, 11), (233, 11), (237, 11), (244, 11), (250, 11), (262, 11), (266, 11), (276, 11), (282, 11), (285, 11), (289, 11), (294, 11), (295, 13), (299, 13)]
theorem Tryz.i133_ok : fnOk Tryz.prog Tryz.r133 Tryz.f133 Tryz.i133 = true := by kernel_rfl

/- pinball/pinballref02.Over -/
def Tryz.i134 : IFunc := ⟨2, 103, [.tmp 4],
  .seq (.region false [o1 4 (.nlo 2)])
  (.seq (.region false [oM 15 0,
   oC 16 54 [15],
   oM 17 1,
   oC 18 54 [17],
   oM 5 16,
   oM 6 18])
  (.seq (.region false [oM 19 6,
   oM 20 6,
   o1 21 (.len (.t 20)),
   o1 22 (.bin .sub (.t 21) (.c (.int .i64 1))),
   o1 23 (.ixa 19 (.t 22) 2),
   o1 24 (.ld 23 23 2 false),
   o1 7 (.new [.bool false, .sl 0 []] []),
   oN (.st 7 7 2 (.t 24))])
  (.seq (.region false [oM 25 5,
   o1 26 (.len (.t 25)),
   oM 27 6,
   o1 28 (.len (.t 27)),
   oB 29 .sub 26 28,
   o1 30 (.bin .add (.t 29) (.c (.int .i64 1))),
   o1 31 (.mks [.bool false, .sl 0 []] (.t 30)),
   ⟨some 8, .tra 31, none, [49, 54, 56, 58, 62, 63, 66]⟩])
  (.seq (.block 0 (.loop (.seq (.seq (.region false [oM 32 5,
   o1 33 (.len (.t 32)),
   oM 34 6,
   o1 35 (.len (.t 34)),
   oB 36 .geq 33 35])
  (.cond (.t 36) (.skip)
  (.exit 0)))
  (.block 1 (.seq (.region false [oM 37 5,
   oM 38 5,
   o1 39 (.len (.t 38)),
   o1 40 (.bin .sub (.t 39) (.c (.int .i64 1))),
   o1 41 (.ixa 37 (.t 40) 2),
   o1 42 (.ld 41 41 2 false),
   o1 9 (.new [.bool false, .sl 0 []] []),
   oN (.st 9 9 2 (.t 42))])
  (.seq (.region false [oM 43 5,
   o1 44 (.len (.t 43)),
   oM 45 6,
   o1 46 (.len (.t 45)),
   oB 47 .sub 44 46,
   oM 10 47])
  (.seq (.seq (.region false [o1 11 (.mov (.c (.int .i64 0)))])
  (.block 2 (.loop (.seq (.seq (.region false [oM 48 11,
   o1 49 (.cpy 8),
   o1 50 (.lno 49 8),
   oB 51 .lss 48 50])
  (.cond (.t 51) (.skip)
  (.exit 2)))
  (.seq (.block 3 (.region true [o1 54 (.cpy 8),
   oM 55 11,
   o1 56 (.cpy 8),
   oM 57 11,
   o1 58 (.ixo 56 8 (.t 57) 2),
   o1 59 (.ld 58 8 2 false),
   o1 60 (.ld 7 7 2 false),
   oC 61 37 [59, 60],
   o1 62 (.ixo 54 8 (.t 55) 2),
   oN (.st 62 8 2 (.t 61))]))
  (.region false [oM 52 11,
   o1 53 (.bin .add (.t 52) (.c (.int .i64 1))),
   oM 11 53]))))))
  (.seq (.region false [o1 63 (.cpy 8),
   oM 64 10,
   o1 65 (.ld 9 9 2 false),
   o1 66 (.ixo 63 8 (.t 64) 2),
   oN (.st 66 8 2 (.t 65))])
  (.seq (.region false [o1 12 (.nlo 2)])
  (.seq (.seq (.region false [o1 13 (.mov (.c (.int .i64 0)))])
  (.block 4 (.loop (.seq (.seq (.region false [oM 67 13,
   oM 68 5,
   o1 69 (.len (.t 68)),
   o1 70 (.bin .sub (.t 69) (.c (.int .i64 1))),
   oB 71 .lss 67 70])
  (.cond (.t 71) (.skip)
  (.exit 4)))
  (.seq (.block 5 (.seq (.region true [o1 74 (.ld 7 7 2 false),
   oM 75 5,
   oM 76 13,
   o1 77 (.ixa 75 (.t 76) 2),
   o1 78 (.ld 77 77 2 false),
   oC 79 37 [74, 78],
   o1 14 (.new [.bool false, .sl 0 []] []),
   oN (.st 14 14 2 (.t 79))])
  (.seq (.seq (.region false [oM 80 13,
   oM 81 10,
   oB 82 .geq 80 81])
  (.cond (.t 82) (.region true [o1 83 (.ld 14 14 2 false),
   o1 84 (.ld 9 9 2 false),
   oM 85 6,
   oM 86 13,
   oM 87 10,
   oB 88 .sub 86 87,
   o1 89 (.ixa 85 (.t 88) 2),
   o1 90 (.ld 89 89 2 false),
   oC 91 37 [84, 90],
   oC 92 92 [83, 91],
   oN (.st 14 14 2 (.t 92))])
  (.skip)))
  (.region false [o1 93 (.tra 12),
   o1 94 (.ld 14 14 2 false),
   o1 95 (.bls 1 [.bool false, .sl 0 []] [(0, 2, .t 94)]),
   o1 96 (.apd true (.t 93) (.t 95) 2),
   o1 12 (.tra 96)]))))
  (.region false [oM 72 13,
   o1 73 (.bin .add (.t 72) (.c (.int .i64 1))),
   oM 13 73]))))))
  (.region false [o1 97 (.frz 12),
   oC 98 54 [97],
   oM 5 98])))))))))))
  (.seq (.region false [o1 99 (.frz 8),
   oC 100 54 [99],
   oC 101 113 [100],
   o1 102 (.clo 115 [.t 101]),
   o1 4 (.tra 102)])
  (.ret))))))⟩
def Tryz.r134 : List (Nat × Nat) := [(49, 8), (54, 8), (56, 8), (58, 8), (62, 8), (63, 8), (66, 8)]
theorem Tryz.i134_ok : fnOk Tryz.prog Tryz.r134 Tryz.f134 Tryz.i134 = true := by kernel_rfl

end Go.Proofs.YthakfjlnhldehaaGreat
