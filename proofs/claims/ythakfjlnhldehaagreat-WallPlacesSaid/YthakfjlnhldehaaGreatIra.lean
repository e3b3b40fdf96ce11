/- Functions of the seat in the intermediate language, printed by a program out of the translation, and that each is the program's own. -/
import Derived.Test.YthakfjlnhldehaaGreatProg
import Derived.Test.YthakfjlnhldehaaGreatAbs14
import Derived.KernelRfl
namespace Go.Proofs.YthakfjlnhldehaaGreat
open Go.Ai
set_option maxRecDepth 100000

/- pinball/pinballlaw11.WallPlaces -/
def Tryz.i3 : IFunc := ⟨3, 65, [.tmp 6],
  .seq (.region false [⟨some 3, .box (.t 0) [], none, []⟩,
   ⟨some 6, .mov (.c (.bool false)), none, []⟩])
  (.seq (.seq (.region false [⟨some 10, .call 7 [], none, []⟩,
   ⟨some 11, .un .not (.t 10), none, []⟩])
  (.cond (.t 11) (.seq (.region false [⟨some 6, .mov (.c (.bool false)), none, []⟩])
  (.ret))
  (.skip)))
  (.seq (.seq (.region false [⟨some 12, .mov (.t 1), none, []⟩,
   ⟨some 13, .len (.t 12), none, []⟩,
   ⟨some 14, .bin .lss (.t 13) (.c (.int .i64 2)), none, []⟩])
  (.cond (.t 14) (.seq (.region false [⟨some 15, .call 7 [], none, []⟩,
   ⟨some 6, .mov (.t 15), none, []⟩])
  (.ret))
  (.skip)))
  (.seq (.region true [⟨some 16, .mov (.t 1), none, []⟩,
   ⟨some 17, .ixa 16 (.c (.int .i64 0)) 2, none, []⟩,
   ⟨some 18, .ld 17 17 2 false, none, []⟩,
   ⟨some 19, .mov (.t 1), none, []⟩,
   ⟨some 20, .ixa 19 (.c (.int .i64 1)) 2, none, []⟩,
   ⟨some 21, .ld 20 20 2 false, none, []⟩,
   ⟨some 7, .new [.int .i64 0, .int .i64 0] [], none, []⟩,
   ⟨some 8, .new [.int .i64 0, .int .i64 0] [], none, []⟩,
   ⟨none, .st 7 7 2 (.t 18), none, []⟩,
   ⟨none, .st 8 8 2 (.t 21), none, []⟩])
  (.seq (.region true [⟨some 22, .ld 3 3 2 false, none, []⟩,
   ⟨some 23, .ld 7 7 2 false, none, []⟩,
   ⟨some 24, .mov (.t 2), none, []⟩,
   ⟨some 25, .call 8 [.t 22, .t 23, .t 24], none, []⟩,
   ⟨some 26, .ld 3 3 2 false, none, []⟩,
   ⟨some 27, .ld 7 7 2 false, none, []⟩,
   ⟨some 28, .mov (.t 2), none, []⟩,
   ⟨some 29, .call 9 [.t 26, .t 27, .t 28], none, []⟩,
   ⟨some 30, .eqb false (.t 25) (.t 29), none, []⟩,
   ⟨some 31, .mov (.t 30), none, []⟩,
   ⟨some 32, .ld 3 3 2 false, some (31, true), []⟩,
   ⟨some 33, .ld 7 7 2 false, some (31, true), []⟩,
   ⟨some 34, .ld 8 8 2 false, some (31, true), []⟩,
   ⟨some 35, .mov (.t 2), some (31, true), []⟩,
   ⟨some 36, .call 10 [.t 32, .t 33, .t 34, .t 35], some (31, true), []⟩,
   ⟨some 37, .ld 3 3 2 false, some (31, true), []⟩,
   ⟨some 38, .ld 7 7 2 false, some (31, true), []⟩,
   ⟨some 39, .ld 8 8 2 false, some (31, true), []⟩,
   ⟨some 40, .mov (.t 2), some (31, true), []⟩,
   ⟨some 41, .call 11 [.t 37, .t 38, .t 39, .t 40], some (31, true), []⟩,
   ⟨some 42, .eqb false (.t 36) (.t 41), some (31, true), []⟩,
   ⟨some 43, .pick (.t 31) (.t 42) (.c (.bool false)), none, []⟩,
   ⟨some 9, .mov (.t 43), none, []⟩])
  (.seq (.region true [⟨some 44, .mov (.t 9), none, []⟩,
   ⟨some 45, .mov (.t 44), none, []⟩,
   ⟨some 46, .ld 3 3 2 false, some (45, true), []⟩,
   ⟨some 47, .ld 7 7 2 false, some (45, true), []⟩,
   ⟨some 48, .call 12 [.t 46, .t 47], some (45, true), []⟩,
   ⟨some 49, .ld 3 3 2 false, some (45, true), []⟩,
   ⟨some 50, .ld 7 7 2 false, some (45, true), []⟩,
   ⟨some 51, .call 13 [.t 49, .t 50], some (45, true), []⟩,
   ⟨some 52, .eqv false 2 (.t 48) (.t 51), some (45, true), []⟩,
   ⟨some 53, .pick (.t 45) (.t 52) (.c (.bool false)), none, []⟩,
   ⟨some 54, .mov (.t 53), none, []⟩,
   ⟨some 55, .ld 3 3 2 false, some (54, true), []⟩,
   ⟨some 56, .ld 7 7 2 false, some (54, true), []⟩,
   ⟨some 57, .ld 8 8 2 false, some (54, true), []⟩,
   ⟨some 58, .call 14 [.t 55, .t 56, .t 57], some (54, true), []⟩,
   ⟨some 59, .ld 3 3 2 false, some (54, true), []⟩,
   ⟨some 60, .ld 7 7 2 false, some (54, true), []⟩,
   ⟨some 61, .ld 8 8 2 false, some (54, true), []⟩,
   ⟨some 62, .call 15 [.t 59, .t 60, .t 61], some (54, true), []⟩,
   ⟨some 63, .eqv false 2 (.t 58) (.t 62), some (54, true), []⟩,
   ⟨some 64, .pick (.t 54) (.t 63) (.c (.bool false)), none, []⟩,
   ⟨some 6, .mov (.t 64), none, []⟩])
  (.ret))))))⟩
def Tryz.r3 : List (Nat × Nat) := []
theorem Tryz.i3_ok : fnOk Tryz.prog Tryz.r3 Tryz.f3 Tryz.i3 = true := by kernel_rfl

/- pinball/pinballlaw11.WallSamples -/
def Tryz.i4 : IFunc := ⟨3, 126, [.tmp 6],
  .seq (.region false [⟨some 3, .box (.t 0) [45, 73, 87], none, []⟩,
   ⟨some 6, .mov (.c (.bool false)), none, []⟩])
  (.seq (.seq (.region false [⟨some 12, .call 7 [], none, []⟩,
   ⟨some 13, .un .not (.t 12), none, []⟩])
  (.cond (.t 13) (.seq (.region false [⟨some 6, .mov (.c (.bool false)), none, []⟩])
  (.ret))
  (.skip)))
  (.seq (.seq (.region false [⟨some 14, .mov (.t 1), none, []⟩,
   ⟨some 15, .len (.t 14), none, []⟩,
   ⟨some 16, .bin .lss (.t 15) (.c (.int .i64 2)), none, []⟩,
   ⟨some 17, .mov (.t 16), none, []⟩,
   ⟨some 18, .ld 3 3 6 false, some (17, false), []⟩,
   ⟨some 19, .call 16 [.t 18], some (17, false), []⟩,
   ⟨some 20, .un .not (.t 19), some (17, false), []⟩,
   ⟨some 21, .pick (.t 17) (.c (.bool true)) (.t 20), none, []⟩,
   ⟨some 22, .mov (.t 21), none, []⟩,
   ⟨some 23, .mov (.t 2), some (22, false), []⟩,
   ⟨some 24, .bin .lss (.t 23) (.c (.int .i64 1)), some (22, false), []⟩,
   ⟨some 25, .pick (.t 22) (.c (.bool true)) (.t 24), none, []⟩,
   ⟨some 26, .mov (.t 25), none, []⟩,
   ⟨some 27, .mov (.t 2), some (26, false), []⟩,
   ⟨some 28, .bin .gtr (.t 27) (.c (.int .i64 524288)), some (26, false), []⟩,
   ⟨some 29, .pick (.t 26) (.c (.bool true)) (.t 28), none, []⟩,
   ⟨some 30, .mov (.t 29), none, []⟩,
   ⟨some 31, .mov (.t 1), some (30, false), []⟩,
   ⟨some 32, .ixa 31 (.c (.int .i64 0)) 2, some (30, false), []⟩,
   ⟨some 33, .ld 32 32 2 false, some (30, false), []⟩,
   ⟨some 34, .call 17 [.t 33], some (30, false), []⟩,
   ⟨some 35, .un .not (.t 34), some (30, false), []⟩,
   ⟨some 36, .pick (.t 30) (.c (.bool true)) (.t 35), none, []⟩,
   ⟨some 37, .mov (.t 36), none, []⟩,
   ⟨some 38, .mov (.t 1), some (37, false), []⟩,
   ⟨some 39, .ixa 38 (.c (.int .i64 1)) 2, some (37, false), []⟩,
   ⟨some 40, .ld 39 39 2 false, some (37, false), []⟩,
   ⟨some 41, .call 17 [.t 40], some (37, false), []⟩,
   ⟨some 42, .un .not (.t 41), some (37, false), []⟩,
   ⟨some 43, .pick (.t 37) (.c (.bool true)) (.t 42), none, []⟩,
   ⟨some 44, .mov (.t 43), none, []⟩,
   ⟨some 45, .adr 3 3 0, some (44, false), []⟩,
   ⟨some 46, .ld 45 3 2 false, some (44, false), []⟩,
   ⟨some 47, .call 17 [.t 46], some (44, false), []⟩,
   ⟨some 48, .un .not (.t 47), some (44, false), []⟩,
   ⟨some 49, .pick (.t 44) (.c (.bool true)) (.t 48), none, []⟩])
  (.cond (.t 49) (.seq (.region false [⟨some 50, .call 7 [], none, []⟩,
   ⟨some 6, .mov (.t 50), none, []⟩])
  (.ret))
  (.skip)))
  (.seq (.region false [⟨some 52, .ld 3 3 6 false, none, []⟩,
   ⟨some 53, .call 18 [.t 52], none, []⟩,
   ⟨some 51, .mov (.t 53), none, []⟩,
   ⟨some 54, .ext (.t 51) 0, none, []⟩,
   ⟨some 55, .ext (.t 51) 1, none, []⟩,
   ⟨some 7, .new [.int .i64 0, .int .i64 0] [], none, []⟩,
   ⟨some 8, .new [.int .i64 0, .int .i64 0] [], none, []⟩,
   ⟨none, .st 7 7 2 (.t 54), none, []⟩,
   ⟨none, .st 8 8 2 (.t 55), none, []⟩])
  (.seq (.region true [⟨some 56, .ld 3 3 6 false, none, []⟩,
   ⟨some 57, .mov (.t 1), none, []⟩,
   ⟨some 58, .ixa 57 (.c (.int .i64 0)) 2, none, []⟩,
   ⟨some 59, .ld 58 58 2 false, none, []⟩,
   ⟨some 60, .mov (.t 1), none, []⟩,
   ⟨some 61, .ixa 60 (.c (.int .i64 1)) 2, none, []⟩,
   ⟨some 62, .ld 61 61 2 false, none, []⟩,
   ⟨some 63, .mov (.t 2), none, []⟩,
   ⟨some 64, .call 19 [.t 56, .t 59, .t 62, .t 63], none, []⟩,
   ⟨some 65, .ld 3 3 6 false, none, []⟩,
   ⟨some 66, .mov (.t 1), none, []⟩,
   ⟨some 67, .ixa 66 (.c (.int .i64 1)) 2, none, []⟩,
   ⟨some 68, .ld 67 67 2 false, none, []⟩,
   ⟨some 69, .mov (.t 2), none, []⟩,
   ⟨some 70, .call 20 [.t 65, .t 68, .t 69], none, []⟩,
   ⟨some 9, .mov (.t 64), none, []⟩,
   ⟨some 10, .mov (.t 70), none, []⟩])
  (.seq (.region true [⟨some 71, .mov (.t 9), none, []⟩,
   ⟨some 72, .call 21 [.t 71, .c (.int .i64 0)], none, []⟩,
   ⟨some 73, .adr 3 3 0, none, []⟩,
   ⟨some 74, .ld 73 3 2 false, none, []⟩,
   ⟨some 75, .mov (.t 1), none, []⟩,
   ⟨some 76, .ixa 75 (.c (.int .i64 0)) 2, none, []⟩,
   ⟨some 77, .ld 76 76 2 false, none, []⟩,
   ⟨some 78, .mov (.t 1), none, []⟩,
   ⟨some 79, .ixa 78 (.c (.int .i64 1)) 2, none, []⟩,
   ⟨some 80, .ld 79 79 2 false, none, []⟩,
   ⟨some 81, .mov (.t 2), none, []⟩,
   ⟨some 82, .call 10 [.t 74, .t 77, .t 80, .t 81], none, []⟩,
   ⟨some 83, .eqb false (.t 72) (.t 82), none, []⟩,
   ⟨some 84, .mov (.t 83), none, []⟩,
   ⟨some 85, .mov (.t 10), some (84, true), []⟩,
   ⟨some 86, .call 21 [.t 85, .c (.int .i64 0)], some (84, true), []⟩,
   ⟨some 87, .adr 3 3 0, some (84, true), []⟩,
   ⟨some 88, .ld 87 3 2 false, some (84, true), []⟩,
   ⟨some 89, .mov (.t 1), some (84, true), []⟩,
   ⟨some 90, .ixa 89 (.c (.int .i64 1)) 2, some (84, true), []⟩,
   ⟨some 91, .ld 90 90 2 false, some (84, true), []⟩,
   ⟨some 92, .mov (.t 2), some (84, true), []⟩,
   ⟨some 93, .call 8 [.t 88, .t 91, .t 92], some (84, true), []⟩,
   ⟨some 94, .eqb false (.t 86) (.t 93), some (84, true), []⟩,
   ⟨some 95, .pick (.t 84) (.t 94) (.c (.bool false)), none, []⟩,
   ⟨some 11, .mov (.t 95), none, []⟩])
  (.seq (.seq (.region false [⟨some 96, .ld 7 7 2 false, none, []⟩,
   ⟨some 97, .call 17 [.t 96], none, []⟩,
   ⟨some 98, .un .not (.t 97), none, []⟩])
  (.cond (.t 98) (.seq (.region false [⟨some 99, .mov (.t 11), none, []⟩,
   ⟨some 6, .mov (.t 99), none, []⟩])
  (.ret))
  (.skip)))
  (.seq (.region true [⟨some 100, .mov (.t 11), none, []⟩,
   ⟨some 101, .mov (.t 100), none, []⟩,
   ⟨some 102, .mov (.t 9), some (101, true), []⟩,
   ⟨some 103, .call 21 [.t 102, .c (.int .i64 16)], some (101, true), []⟩,
   ⟨some 104, .ld 7 7 2 false, some (101, true), []⟩,
   ⟨some 105, .mov (.t 1), some (101, true), []⟩,
   ⟨some 106, .ixa 105 (.c (.int .i64 0)) 2, some (101, true), []⟩,
   ⟨some 107, .ld 106 106 2 false, some (101, true), []⟩,
   ⟨some 108, .mov (.t 1), some (101, true), []⟩,
   ⟨some 109, .ixa 108 (.c (.int .i64 1)) 2, some (101, true), []⟩,
   ⟨some 110, .ld 109 109 2 false, some (101, true), []⟩,
   ⟨some 111, .mov (.t 2), some (101, true), []⟩,
   ⟨some 112, .call 10 [.t 104, .t 107, .t 110, .t 111], some (101, true), []⟩,
   ⟨some 113, .eqb false (.t 103) (.t 112), some (101, true), []⟩,
   ⟨some 114, .pick (.t 101) (.t 113) (.c (.bool false)), none, []⟩,
   ⟨some 115, .mov (.t 114), none, []⟩,
   ⟨some 116, .mov (.t 10), some (115, true), []⟩,
   ⟨some 117, .call 21 [.t 116, .c (.int .i64 16)], some (115, true), []⟩,
   ⟨some 118, .ld 7 7 2 false, some (115, true), []⟩,
   ⟨some 119, .mov (.t 1), some (115, true), []⟩,
   ⟨some 120, .ixa 119 (.c (.int .i64 1)) 2, some (115, true), []⟩,
   ⟨some 121, .ld 120 120 2 false, some (115, true), []⟩,
   ⟨some 122, .mov (.t 2), some (115, true), []⟩,
   ⟨some 123, .call 8 [.t 118, .t 121, .t 122], some (115, true), []⟩,
   ⟨some 124, .eqb false (.t 117) (.t 123), some (115, true), []⟩,
   ⟨some 125, .pick (.t 115) (.t 124) (.c (.bool false)), none, []⟩,
   ⟨some 6, .mov (.t 125), none, []⟩])
  (.ret))))))))⟩
def Tryz.r4 : List (Nat × Nat) := [(45, 3), (73, 3), (87, 3)]
theorem Tryz.i4_ok : fnOk Tryz.prog Tryz.r4 Tryz.f4 Tryz.i4 = true := by kernel_rfl

/- pinball/pinballlaw11.WallNormals -/
def Tryz.i5 : IFunc := ⟨3, 128, [.tmp 6],
  .seq (.region false [⟨some 3, .box (.t 0) [51, 54, 95, 100], none, []⟩,
   ⟨some 6, .mov (.c (.bool false)), none, []⟩])
  (.seq (.seq (.region false [⟨some 12, .call 7 [], none, []⟩,
   ⟨some 13, .un .not (.t 12), none, []⟩])
  (.cond (.t 13) (.seq (.region false [⟨some 6, .mov (.c (.bool false)), none, []⟩])
  (.ret))
  (.skip)))
  (.seq (.seq (.region false [⟨some 14, .mov (.t 1), none, []⟩,
   ⟨some 15, .len (.t 14), none, []⟩,
   ⟨some 16, .bin .lss (.t 15) (.c (.int .i64 2)), none, []⟩,
   ⟨some 17, .mov (.t 16), none, []⟩,
   ⟨some 18, .ld 3 3 2 false, some (17, false), []⟩,
   ⟨some 19, .call 22 [.t 18], some (17, false), []⟩,
   ⟨some 20, .un .not (.t 19), some (17, false), []⟩,
   ⟨some 21, .pick (.t 17) (.c (.bool true)) (.t 20), none, []⟩,
   ⟨some 22, .mov (.t 21), none, []⟩,
   ⟨some 23, .mov (.t 1), some (22, false), []⟩,
   ⟨some 24, .ixa 23 (.c (.int .i64 0)) 2, some (22, false), []⟩,
   ⟨some 25, .ld 24 24 2 false, some (22, false), []⟩,
   ⟨some 26, .call 22 [.t 25], some (22, false), []⟩,
   ⟨some 27, .un .not (.t 26), some (22, false), []⟩,
   ⟨some 28, .pick (.t 22) (.c (.bool true)) (.t 27), none, []⟩,
   ⟨some 29, .mov (.t 28), none, []⟩,
   ⟨some 30, .mov (.t 1), some (29, false), []⟩,
   ⟨some 31, .ixa 30 (.c (.int .i64 1)) 2, some (29, false), []⟩,
   ⟨some 32, .ld 31 31 2 false, some (29, false), []⟩,
   ⟨some 33, .call 22 [.t 32], some (29, false), []⟩,
   ⟨some 34, .un .not (.t 33), some (29, false), []⟩,
   ⟨some 35, .pick (.t 29) (.c (.bool true)) (.t 34), none, []⟩,
   ⟨some 36, .mov (.t 35), none, []⟩,
   ⟨some 37, .mov (.t 2), some (36, false), []⟩,
   ⟨some 38, .bin .lss (.t 37) (.c (.int .i64 1)), some (36, false), []⟩,
   ⟨some 39, .pick (.t 36) (.c (.bool true)) (.t 38), none, []⟩,
   ⟨some 40, .mov (.t 39), none, []⟩,
   ⟨some 41, .mov (.t 2), some (40, false), []⟩,
   ⟨some 42, .bin .gtr (.t 41) (.c (.int .i64 4096)), some (40, false), []⟩,
   ⟨some 43, .pick (.t 40) (.c (.bool true)) (.t 42), none, []⟩])
  (.cond (.t 43) (.seq (.region false [⟨some 44, .call 7 [], none, []⟩,
   ⟨some 6, .mov (.t 44), none, []⟩])
  (.ret))
  (.skip)))
  (.seq (.region true [⟨some 45, .mov (.t 1), none, []⟩,
   ⟨some 46, .ixa 45 (.c (.int .i64 0)) 2, none, []⟩,
   ⟨some 47, .ld 46 46 2 false, none, []⟩,
   ⟨some 48, .mov (.t 1), none, []⟩,
   ⟨some 49, .ixa 48 (.c (.int .i64 1)) 2, none, []⟩,
   ⟨some 50, .ld 49 49 2 false, none, []⟩,
   ⟨some 7, .new [.int .i64 0, .int .i64 0] [], none, []⟩,
   ⟨some 8, .new [.int .i64 0, .int .i64 0] [], none, []⟩,
   ⟨none, .st 7 7 2 (.t 47), none, []⟩,
   ⟨none, .st 8 8 2 (.t 50), none, []⟩])
  (.seq (.region false [⟨some 51, .adr 3 3 0, none, []⟩,
   ⟨some 52, .ld 51 3 1 true, none, []⟩,
   ⟨some 53, .bin .mul (.c (.int .i64 256)) (.t 52), none, []⟩,
   ⟨some 54, .adr 3 3 1, none, []⟩,
   ⟨some 55, .ld 54 3 1 true, none, []⟩,
   ⟨some 56, .bin .mul (.c (.int .i64 256)) (.t 55), none, []⟩,
   ⟨some 57, .bld [.int .i64 0, .int .i64 0] [(0, 1, .t 53), (1, 1, .t 56)], none, []⟩,
   ⟨some 9, .new [.int .i64 0, .int .i64 0] [], none, []⟩,
   ⟨none, .st 9 9 2 (.t 57), none, []⟩])
  (.seq (.region false [⟨some 58, .ld 9 9 2 false, none, []⟩,
   ⟨some 59, .ld 7 7 2 false, none, []⟩,
   ⟨some 60, .ld 8 8 2 false, none, []⟩,
   ⟨some 61, .call 14 [.t 58, .t 59, .t 60], none, []⟩,
   ⟨some 10, .new [.int .i64 0, .int .i64 0] [97, 102], none, []⟩,
   ⟨none, .st 10 10 2 (.t 61), none, []⟩])
  (.seq (.seq (.region true [⟨some 62, .ld 9 9 2 false, none, []⟩,
   ⟨some 63, .ld 8 8 2 false, none, []⟩,
   ⟨some 64, .ld 7 7 2 false, none, []⟩,
   ⟨some 65, .call 14 [.t 62, .t 63, .t 64], none, []⟩,
   ⟨some 66, .ld 10 10 2 false, none, []⟩,
   ⟨some 67, .eqv true 2 (.t 65) (.t 66), none, []⟩,
   ⟨some 68, .mov (.t 67), none, []⟩,
   ⟨some 69, .ld 9 9 2 false, some (68, false), []⟩,
   ⟨some 70, .call 23 [.t 69], some (68, false), []⟩,
   ⟨some 71, .ld 7 7 2 false, some (68, false), []⟩,
   ⟨some 72, .call 23 [.t 71], some (68, false), []⟩,
   ⟨some 73, .ld 8 8 2 false, some (68, false), []⟩,
   ⟨some 74, .call 23 [.t 73], some (68, false), []⟩,
   ⟨some 75, .call 14 [.t 70, .t 72, .t 74], some (68, false), []⟩,
   ⟨some 76, .ld 10 10 2 false, some (68, false), []⟩,
   ⟨some 77, .call 23 [.t 76], some (68, false), []⟩,
   ⟨some 78, .eqv true 2 (.t 75) (.t 77), some (68, false), []⟩,
   ⟨some 79, .pick (.t 68) (.c (.bool true)) (.t 78), none, []⟩,
   ⟨some 80, .mov (.t 79), none, []⟩,
   ⟨some 81, .ld 9 9 2 false, some (80, false), []⟩,
   ⟨some 82, .ld 7 7 2 false, some (80, false), []⟩,
   ⟨some 83, .call 12 [.t 81, .t 82], some (80, false), []⟩,
   ⟨some 84, .ld 9 9 2 false, some (80, false), []⟩,
   ⟨some 85, .ld 7 7 2 false, some (80, false), []⟩,
   ⟨some 86, .ld 7 7 2 false, some (80, false), []⟩,
   ⟨some 87, .call 14 [.t 84, .t 85, .t 86], some (80, false), []⟩,
   ⟨some 88, .eqv true 2 (.t 83) (.t 87), some (80, false), []⟩,
   ⟨some 89, .pick (.t 80) (.c (.bool true)) (.t 88), none, []⟩])
  (.cond (.t 89) (.seq (.region false [⟨some 6, .mov (.c (.bool false)), none, []⟩])
  (.ret))
  (.skip)))
  (.seq (.seq (.region false [⟨some 90, .ld 3 3 2 false, none, []⟩,
   ⟨some 91, .ld 7 7 2 false, none, []⟩,
   ⟨some 92, .ld 8 8 2 false, none, []⟩,
   ⟨some 93, .mov (.t 2), none, []⟩,
   ⟨some 94, .call 10 [.t 90, .t 91, .t 92, .t 93], none, []⟩])
  (.cond (.t 94) (.seq (.region false [⟨some 6, .mov (.c (.bool true)), none, []⟩])
  (.ret))
  (.skip)))
  (.seq (.region false [⟨some 95, .adr 3 3 0, none, []⟩,
   ⟨some 96, .ld 95 3 1 true, none, []⟩,
   ⟨some 97, .adr 10 10 0, none, []⟩,
   ⟨some 98, .ld 97 10 1 true, none, []⟩,
   ⟨some 99, .bin .add (.t 96) (.t 98), none, []⟩,
   ⟨some 100, .adr 3 3 1, none, []⟩,
   ⟨some 101, .ld 100 3 1 true, none, []⟩,
   ⟨some 102, .adr 10 10 1, none, []⟩,
   ⟨some 103, .ld 102 10 1 true, none, []⟩,
   ⟨some 104, .bin .add (.t 101) (.t 103), none, []⟩,
   ⟨some 105, .bld [.int .i64 0, .int .i64 0] [(0, 1, .t 99), (1, 1, .t 104)], none, []⟩,
   ⟨some 11, .new [.int .i64 0, .int .i64 0] [], none, []⟩,
   ⟨none, .st 11 11 2 (.t 105), none, []⟩])
  (.seq (.region false [⟨some 106, .ld 10 10 2 false, none, []⟩,
   ⟨some 107, .bld [.int .i64 0, .int .i64 0] [], none, []⟩,
   ⟨some 108, .eqv true 2 (.t 106) (.t 107), none, []⟩,
   ⟨some 109, .mov (.t 108), none, []⟩,
   ⟨some 110, .ld 10 10 2 false, some (109, true), []⟩,
   ⟨some 111, .ld 10 10 2 false, some (109, true), []⟩,
   ⟨some 112, .call 24 [.t 110, .t 111], some (109, true), []⟩,
   ⟨some 113, .bin .gtr (.t 112) (.c (.int .i64 0)), some (109, true), []⟩,
   ⟨some 114, .pick (.t 109) (.t 113) (.c (.bool false)), none, []⟩,
   ⟨some 115, .mov (.t 114), none, []⟩,
   ⟨some 116, .ld 11 11 2 false, some (115, true), []⟩,
   ⟨some 117, .call 17 [.t 116], some (115, true), []⟩,
   ⟨some 118, .un .not (.t 117), some (115, true), []⟩,
   ⟨some 119, .mov (.t 118), some (115, true), []⟩,
   ⟨some 120, .ld 11 11 2 false, some (119, false), []⟩,
   ⟨some 121, .ld 7 7 2 false, some (119, false), []⟩,
   ⟨some 122, .ld 8 8 2 false, some (119, false), []⟩,
   ⟨some 123, .mov (.t 2), some (119, false), []⟩,
   ⟨some 124, .call 10 [.t 120, .t 121, .t 122, .t 123], some (119, false), []⟩,
   ⟨some 125, .un .not (.t 124), some (119, false), []⟩,
   ⟨some 126, .pick (.t 119) (.c (.bool true)) (.t 125), some (115, true), []⟩,
   ⟨some 127, .pick (.t 115) (.t 126) (.c (.bool false)), none, []⟩,
   ⟨some 6, .mov (.t 127), none, []⟩])
  (.ret))))))))))⟩
def Tryz.r5 : List (Nat × Nat) := [(51, 3), (54, 3), (95, 3), (97, 10), (100, 3), (102, 10)]
theorem Tryz.i5_ok : fnOk Tryz.prog Tryz.r5 Tryz.f5 Tryz.i5 = true := by kernel_rfl

/- pinball/pinballlaw11.WallSets -/
def Tryz.i6 : IFunc := ⟨3, 135, [.tmp 6],
  .seq (.region false [⟨some 3, .box (.t 0) [], none, []⟩,
   ⟨some 6, .mov (.c (.bool false)), none, []⟩])
  (.seq (.seq (.region false [⟨some 12, .call 7 [], none, []⟩,
   ⟨some 13, .un .not (.t 12), none, []⟩])
  (.cond (.t 13) (.seq (.region false [⟨some 6, .mov (.c (.bool false)), none, []⟩])
  (.ret))
  (.skip)))
  (.seq (.seq (.region false [⟨some 14, .mov (.t 1), none, []⟩,
   ⟨some 15, .len (.t 14), none, []⟩,
   ⟨some 16, .bin .lss (.t 15) (.c (.int .i64 2)), none, []⟩,
   ⟨some 17, .mov (.t 16), none, []⟩,
   ⟨some 18, .ld 3 3 2 false, some (17, false), []⟩,
   ⟨some 19, .call 17 [.t 18], some (17, false), []⟩,
   ⟨some 20, .un .not (.t 19), some (17, false), []⟩,
   ⟨some 21, .pick (.t 17) (.c (.bool true)) (.t 20), none, []⟩,
   ⟨some 22, .mov (.t 21), none, []⟩,
   ⟨some 23, .mov (.t 1), some (22, false), []⟩,
   ⟨some 24, .ixa 23 (.c (.int .i64 0)) 2, some (22, false), []⟩,
   ⟨some 25, .ld 24 24 2 false, some (22, false), []⟩,
   ⟨some 26, .call 17 [.t 25], some (22, false), []⟩,
   ⟨some 27, .un .not (.t 26), some (22, false), []⟩,
   ⟨some 28, .pick (.t 22) (.c (.bool true)) (.t 27), none, []⟩,
   ⟨some 29, .mov (.t 28), none, []⟩,
   ⟨some 30, .mov (.t 1), some (29, false), []⟩,
   ⟨some 31, .ixa 30 (.c (.int .i64 1)) 2, some (29, false), []⟩,
   ⟨some 32, .ld 31 31 2 false, some (29, false), []⟩,
   ⟨some 33, .call 17 [.t 32], some (29, false), []⟩,
   ⟨some 34, .un .not (.t 33), some (29, false), []⟩,
   ⟨some 35, .pick (.t 29) (.c (.bool true)) (.t 34), none, []⟩,
   ⟨some 36, .mov (.t 35), none, []⟩,
   ⟨some 37, .mov (.t 2), some (36, false), []⟩,
   ⟨some 38, .bin .lss (.t 37) (.c (.int .i64 2)), some (36, false), []⟩,
   ⟨some 39, .pick (.t 36) (.c (.bool true)) (.t 38), none, []⟩,
   ⟨some 40, .mov (.t 39), none, []⟩,
   ⟨some 41, .mov (.t 2), some (40, false), []⟩,
   ⟨some 42, .bin .gtr (.t 41) (.c (.int .i64 524288)), some (40, false), []⟩,
   ⟨some 43, .pick (.t 40) (.c (.bool true)) (.t 42), none, []⟩])
  (.cond (.t 43) (.seq (.region false [⟨some 44, .call 7 [], none, []⟩,
   ⟨some 6, .mov (.t 44), none, []⟩])
  (.ret))
  (.skip)))
  (.seq (.region true [⟨some 45, .mov (.t 1), none, []⟩,
   ⟨some 46, .ixa 45 (.c (.int .i64 0)) 2, none, []⟩,
   ⟨some 47, .ld 46 46 2 false, none, []⟩,
   ⟨some 48, .mov (.t 1), none, []⟩,
   ⟨some 49, .ixa 48 (.c (.int .i64 1)) 2, none, []⟩,
   ⟨some 50, .ld 49 49 2 false, none, []⟩,
   ⟨some 7, .new [.int .i64 0, .int .i64 0] [56, 62, 69, 77], none, []⟩,
   ⟨some 8, .new [.int .i64 0, .int .i64 0] [58, 64, 71, 79], none, []⟩,
   ⟨none, .st 7 7 2 (.t 47), none, []⟩,
   ⟨none, .st 8 8 2 (.t 50), none, []⟩])
  (.seq (.region false [⟨some 51, .ld 3 3 2 false, none, []⟩,
   ⟨some 52, .ld 7 7 2 false, none, []⟩,
   ⟨some 53, .ld 8 8 2 false, none, []⟩,
   ⟨some 54, .mov (.t 2), none, []⟩,
   ⟨some 55, .call 10 [.t 51, .t 52, .t 53, .t 54], none, []⟩,
   ⟨some 9, .mov (.t 55), none, []⟩])
  (.seq (.region false [⟨some 56, .adr 7 7 0, none, []⟩,
   ⟨some 57, .ld 56 7 1 true, none, []⟩,
   ⟨some 58, .adr 8 8 0, none, []⟩,
   ⟨some 59, .ld 58 8 1 true, none, []⟩,
   ⟨some 60, .bin .add (.t 57) (.t 59), none, []⟩,
   ⟨some 61, .bin .quo (.t 60) (.c (.int .i64 2)), none, []⟩,
   ⟨some 62, .adr 7 7 1, none, []⟩,
   ⟨some 63, .ld 62 7 1 true, none, []⟩,
   ⟨some 64, .adr 8 8 1, none, []⟩,
   ⟨some 65, .ld 64 8 1 true, none, []⟩,
   ⟨some 66, .bin .add (.t 63) (.t 65), none, []⟩,
   ⟨some 67, .bin .quo (.t 66) (.c (.int .i64 2)), none, []⟩,
   ⟨some 68, .bld [.int .i64 0, .int .i64 0] [(0, 1, .t 61), (1, 1, .t 67)], none, []⟩,
   ⟨some 10, .new [.int .i64 0, .int .i64 0] [], none, []⟩,
   ⟨none, .st 10 10 2 (.t 68), none, []⟩])
  (.seq (.region false [⟨some 69, .adr 7 7 0, none, []⟩,
   ⟨some 70, .ld 69 7 1 true, none, []⟩,
   ⟨some 71, .adr 8 8 0, none, []⟩,
   ⟨some 72, .ld 71 8 1 true, none, []⟩,
   ⟨some 73, .bin .add (.t 70) (.t 72), none, []⟩,
   ⟨some 74, .bin .rem (.t 73) (.c (.int .i64 2)), none, []⟩,
   ⟨some 75, .bin .eql (.t 74) (.c (.int .i64 0)), none, []⟩,
   ⟨some 76, .mov (.t 75), none, []⟩,
   ⟨some 77, .adr 7 7 1, some (76, true), []⟩,
   ⟨some 78, .ld 77 7 1 true, some (76, true), []⟩,
   ⟨some 79, .adr 8 8 1, some (76, true), []⟩,
   ⟨some 80, .ld 79 8 1 true, some (76, true), []⟩,
   ⟨some 81, .bin .add (.t 78) (.t 80), some (76, true), []⟩,
   ⟨some 82, .bin .rem (.t 81) (.c (.int .i64 2)), some (76, true), []⟩,
   ⟨some 83, .bin .eql (.t 82) (.c (.int .i64 0)), some (76, true), []⟩,
   ⟨some 84, .pick (.t 76) (.t 83) (.c (.bool false)), none, []⟩,
   ⟨some 11, .mov (.t 84), none, []⟩])
  (.seq (.seq (.region false [⟨some 85, .ld 3 3 2 false, none, []⟩,
   ⟨some 86, .ld 7 7 2 false, none, []⟩,
   ⟨some 87, .mov (.t 2), none, []⟩,
   ⟨some 88, .call 8 [.t 85, .t 86, .t 87], none, []⟩,
   ⟨some 89, .mov (.t 88), none, []⟩,
   ⟨some 90, .ld 3 3 2 false, some (89, false), []⟩,
   ⟨some 91, .ld 8 8 2 false, some (89, false), []⟩,
   ⟨some 92, .mov (.t 2), some (89, false), []⟩,
   ⟨some 93, .call 8 [.t 90, .t 91, .t 92], some (89, false), []⟩,
   ⟨some 94, .pick (.t 89) (.c (.bool true)) (.t 93), none, []⟩,
   ⟨some 95, .mov (.t 94), none, []⟩,
   ⟨some 96, .mov (.t 11), some (95, false), []⟩,
   ⟨some 97, .mov (.t 96), some (95, false), []⟩,
   ⟨some 98, .ld 3 3 2 false, some (97, true), []⟩,
   ⟨some 99, .ld 10 10 2 false, some (97, true), []⟩,
   ⟨some 100, .mov (.t 2), some (97, true), []⟩,
   ⟨some 101, .call 8 [.t 98, .t 99, .t 100], some (97, true), []⟩,
   ⟨some 102, .pick (.t 97) (.t 101) (.c (.bool false)), some (95, false), []⟩,
   ⟨some 103, .pick (.t 95) (.c (.bool true)) (.t 102), none, []⟩,
   ⟨some 104, .mov (.t 103), none, []⟩,
   ⟨some 105, .ld 3 3 2 false, some (104, false), []⟩,
   ⟨some 106, .ld 7 7 2 false, some (104, false), []⟩,
   ⟨some 107, .ld 8 8 2 false, some (104, false), []⟩,
   ⟨some 108, .mov (.t 2), some (104, false), []⟩,
   ⟨some 109, .bin .sub (.t 108) (.c (.int .i64 1)), some (104, false), []⟩,
   ⟨some 110, .call 10 [.t 105, .t 106, .t 107, .t 109], some (104, false), []⟩,
   ⟨some 111, .pick (.t 104) (.c (.bool true)) (.t 110), none, []⟩,
   ⟨some 112, .mov (.t 111), none, []⟩,
   ⟨some 113, .mov (.t 9), some (112, true), []⟩,
   ⟨some 114, .un .not (.t 113), some (112, true), []⟩,
   ⟨some 115, .pick (.t 112) (.t 114) (.c (.bool false)), none, []⟩])
  (.cond (.t 115) (.seq (.region false [⟨some 6, .mov (.c (.bool false)), none, []⟩])
  (.ret))
  (.skip)))
  (.seq (.region true [⟨some 116, .mov (.t 9), none, []⟩,
   ⟨some 117, .ld 3 3 2 false, none, []⟩,
   ⟨some 118, .ld 8 8 2 false, none, []⟩,
   ⟨some 119, .ld 7 7 2 false, none, []⟩,
   ⟨some 120, .mov (.t 2), none, []⟩,
   ⟨some 121, .call 10 [.t 117, .t 118, .t 119, .t 120], none, []⟩,
   ⟨some 122, .eqb false (.t 116) (.t 121), none, []⟩,
   ⟨some 123, .mov (.t 122), none, []⟩,
   ⟨some 124, .ld 3 3 2 false, some (123, true), []⟩,
   ⟨some 125, .ld 7 7 2 false, some (123, true), []⟩,
   ⟨some 126, .ld 7 7 2 false, some (123, true), []⟩,
   ⟨some 127, .mov (.t 2), some (123, true), []⟩,
   ⟨some 128, .call 10 [.t 124, .t 125, .t 126, .t 127], some (123, true), []⟩,
   ⟨some 129, .ld 3 3 2 false, some (123, true), []⟩,
   ⟨some 130, .ld 7 7 2 false, some (123, true), []⟩,
   ⟨some 131, .mov (.t 2), some (123, true), []⟩,
   ⟨some 132, .call 8 [.t 129, .t 130, .t 131], some (123, true), []⟩,
   ⟨some 133, .eqb false (.t 128) (.t 132), some (123, true), []⟩,
   ⟨some 134, .pick (.t 123) (.t 133) (.c (.bool false)), none, []⟩,
   ⟨some 6, .mov (.t 134), none, []⟩])
  (.ret)))))))))⟩
def Tryz.r6 : List (Nat × Nat) := [(56, 7), (58, 8), (62, 7), (64, 8), (69, 7), (71, 8), (77, 7), (79, 8)]
theorem Tryz.i6_ok : fnOk Tryz.prog Tryz.r6 Tryz.f6 Tryz.i6 = true := by kernel_rfl

/- pinball/pinballlaw11.awake -/
def Tryz.i7 : IFunc := ⟨0, 58, [.tmp 0],
  .seq (.region false [⟨some 0, .mov (.c (.bool false)), none, []⟩])
  (.seq (.region false [⟨some 6, .bld [.int .i64 0, .int .i64 0] [], none, []⟩,
   ⟨some 7, .bld [.int .i64 0, .int .i64 0] [(0, 1, .c (.int .i64 100))], none, []⟩,
   ⟨some 1, .new [.int .i64 0, .int .i64 0] [], none, []⟩,
   ⟨some 2, .new [.int .i64 0, .int .i64 0] [], none, []⟩,
   ⟨none, .st 1 1 2 (.t 6), none, []⟩,
   ⟨none, .st 2 2 2 (.t 7), none, []⟩])
  (.seq (.region false [⟨some 8, .bld [.int .i64 0, .int .i64 0] [(0, 1, .c (.int .i64 50)), (1, 1, .c (.int .i64 150))], none, []⟩,
   ⟨some 9, .bld [.int .i64 0, .int .i64 0] [(1, 1, .c (.int .i64 (-100)))], none, []⟩,
   ⟨some 10, .bld [.int .i64 0, .int .i64 0, .int .i64 0, .int .i64 0, .int .i64 0, .int .i64 0] [(0, 2, .t 8), (2, 2, .t 9)], none, []⟩,
   ⟨some 3, .new [.int .i64 0, .int .i64 0, .int .i64 0, .int .i64 0, .int .i64 0, .int .i64 0] [], none, []⟩,
   ⟨none, .st 3 3 6 (.t 10), none, []⟩])
  (.seq (.region false [⟨some 12, .ld 3 3 6 false, none, []⟩,
   ⟨some 13, .ld 1 1 2 false, none, []⟩,
   ⟨some 14, .ld 2 2 2 false, none, []⟩,
   ⟨some 15, .call 19 [.t 12, .t 13, .t 14, .c (.int .i64 100)], none, []⟩,
   ⟨some 16, .call 25 [.t 15], none, []⟩,
   ⟨some 11, .mov (.t 16), none, []⟩,
   ⟨some 17, .ext (.t 11) 0, none, []⟩,
   ⟨some 18, .ext (.t 11) 1, none, []⟩,
   ⟨some 4, .new [.sl 0 [], .bool false, .sl 0 [], .int .i64 0, .bool false, .sl 0 [], .int .i64 0] [], none, []⟩,
   ⟨none, .st 4 4 7 (.t 17), none, []⟩,
   ⟨some 5, .mov (.t 18), none, []⟩])
  (.seq (.region false [⟨some 19, .bld [.int .i64 0, .int .i64 0] [(0, 1, .c (.int .i64 50)), (1, 1, .c (.int .i64 9))], none, []⟩,
   ⟨some 20, .ld 1 1 2 false, none, []⟩,
   ⟨some 21, .ld 2 2 2 false, none, []⟩,
   ⟨some 22, .call 10 [.t 19, .t 20, .t 21, .c (.int .i64 10)], none, []⟩,
   ⟨some 23, .mov (.t 22), none, []⟩,
   ⟨some 24, .bld [.int .i64 0, .int .i64 0] [(0, 1, .c (.int .i64 50)), (1, 1, .c (.int .i64 10))], some (23, true), []⟩,
   ⟨some 25, .ld 1 1 2 false, some (23, true), []⟩,
   ⟨some 26, .ld 2 2 2 false, some (23, true), []⟩,
   ⟨some 27, .call 10 [.t 24, .t 25, .t 26, .c (.int .i64 10)], some (23, true), []⟩,
   ⟨some 28, .un .not (.t 27), some (23, true), []⟩,
   ⟨some 29, .pick (.t 23) (.t 28) (.c (.bool false)), none, []⟩,
   ⟨some 30, .mov (.t 29), none, []⟩,
   ⟨some 31, .bld [.int .i64 0, .int .i64 0] [(0, 1, .c (.int .i64 (-6))), (1, 1, .c (.int .i64 8))], some (30, true), []⟩,
   ⟨some 32, .ld 1 1 2 false, some (30, true), []⟩,
   ⟨some 33, .ld 2 2 2 false, some (30, true), []⟩,
   ⟨some 34, .call 10 [.t 31, .t 32, .t 33, .c (.int .i64 10)], some (30, true), []⟩,
   ⟨some 35, .un .not (.t 34), some (30, true), []⟩,
   ⟨some 36, .pick (.t 30) (.t 35) (.c (.bool false)), none, []⟩,
   ⟨some 37, .mov (.t 36), none, []⟩,
   ⟨some 38, .bld [.int .i64 0, .int .i64 0] [(0, 1, .c (.int .i64 12800)), (1, 1, .c (.int .i64 2560))], some (37, true), []⟩,
   ⟨some 39, .ld 1 1 2 false, some (37, true), []⟩,
   ⟨some 40, .ld 2 2 2 false, some (37, true), []⟩,
   ⟨some 41, .call 14 [.t 38, .t 39, .t 40], some (37, true), []⟩,
   ⟨some 42, .bld [.int .i64 0, .int .i64 0] [(1, 1, .c (.int .i64 1))], some (37, true), []⟩,
   ⟨some 43, .eqv false 2 (.t 41) (.t 42), some (37, true), []⟩,
   ⟨some 44, .pick (.t 37) (.t 43) (.c (.bool false)), none, []⟩,
   ⟨some 45, .mov (.t 44), none, []⟩,
   ⟨some 46, .mov (.t 5), some (45, true), []⟩,
   ⟨some 47, .pick (.t 45) (.t 46) (.c (.bool false)), none, []⟩,
   ⟨some 48, .mov (.t 47), none, []⟩,
   ⟨some 49, .ld 4 4 7 false, some (48, true), []⟩,
   ⟨some 50, .call 26 [.t 49], some (48, true), []⟩,
   ⟨some 51, .bin .eql (.t 50) (.c (.int .i64 8)), some (48, true), []⟩,
   ⟨some 52, .pick (.t 48) (.t 51) (.c (.bool false)), none, []⟩,
   ⟨some 53, .mov (.t 52), none, []⟩,
   ⟨some 54, .bld [.int .i64 0, .int .i64 0] [(0, 1, .c (.int .i64 3)), (1, 1, .c (.int .i64 4))], some (53, true), []⟩,
   ⟨some 55, .ld 1 1 2 false, some (53, true), []⟩,
   ⟨some 56, .call 8 [.t 54, .t 55, .c (.int .i64 6)], some (53, true), []⟩,
   ⟨some 57, .pick (.t 53) (.t 56) (.c (.bool false)), none, []⟩,
   ⟨some 0, .mov (.t 57), none, []⟩])
  (.ret)))))⟩
def Tryz.r7 : List (Nat × Nat) := []
theorem Tryz.i7_ok : fnOk Tryz.prog Tryz.r7 Tryz.f7 Tryz.i7 = true := by kernel_rfl

/- pinball/wall.InDisc -/
def Tryz.i8 : IFunc := ⟨3, 36, [.tmp 6],
  .seq (.region false [⟨some 3, .box (.t 0) [], none, []⟩,
   ⟨some 4, .box (.t 1) [], none, []⟩,
   ⟨some 6, .mov (.c (.bool false)), none, []⟩])
  (.seq (.seq (.region false [⟨some 8, .ld 3 3 2 false, none, []⟩,
   ⟨some 9, .bls 1 [.int .i64 0, .int .i64 0] [(0, 2, .t 8)], none, []⟩,
   ⟨some 10, .call 27 [.c (.int .i64 2097152), .t 9], none, []⟩,
   ⟨some 11, .un .not (.t 10), none, []⟩,
   ⟨some 12, .mov (.t 11), none, []⟩,
   ⟨some 13, .ld 4 4 2 false, some (12, false), []⟩,
   ⟨some 14, .bls 1 [.int .i64 0, .int .i64 0] [(0, 2, .t 13)], some (12, false), []⟩,
   ⟨some 15, .call 27 [.c (.int .i64 1048576), .t 14], some (12, false), []⟩,
   ⟨some 16, .un .not (.t 15), some (12, false), []⟩,
   ⟨some 17, .pick (.t 12) (.c (.bool true)) (.t 16), none, []⟩,
   ⟨some 18, .mov (.t 17), none, []⟩,
   ⟨some 19, .mov (.t 2), some (18, false), []⟩,
   ⟨some 20, .bin .lss (.t 19) (.c (.int .i64 1)), some (18, false), []⟩,
   ⟨some 21, .pick (.t 18) (.c (.bool true)) (.t 20), none, []⟩,
   ⟨some 22, .mov (.t 21), none, []⟩,
   ⟨some 23, .mov (.t 2), some (22, false), []⟩,
   ⟨some 24, .bin .gtr (.t 23) (.c (.int .i64 524288)), some (22, false), []⟩,
   ⟨some 25, .pick (.t 22) (.c (.bool true)) (.t 24), none, []⟩])
  (.cond (.t 25) (.seq (.region false [⟨some 6, .mov (.c (.bool false)), none, []⟩])
  (.ret))
  (.skip)))
  (.seq (.region false [⟨some 26, .ld 3 3 2 false, none, []⟩,
   ⟨some 27, .ld 4 4 2 false, none, []⟩,
   ⟨some 28, .call 28 [.t 26, .t 27], none, []⟩,
   ⟨some 7, .new [.int .i64 0, .int .i64 0] [], none, []⟩,
   ⟨none, .st 7 7 2 (.t 28), none, []⟩])
  (.seq (.region false [⟨some 29, .ld 7 7 2 false, none, []⟩,
   ⟨some 30, .ld 7 7 2 false, none, []⟩,
   ⟨some 31, .call 24 [.t 29, .t 30], none, []⟩,
   ⟨some 32, .mov (.t 2), none, []⟩,
   ⟨some 33, .mov (.t 2), none, []⟩,
   ⟨some 34, .bin .mul (.t 32) (.t 33), none, []⟩,
   ⟨some 35, .bin .lss (.t 31) (.t 34), none, []⟩,
   ⟨some 6, .mov (.t 35), none, []⟩])
  (.ret))))⟩
def Tryz.r8 : List (Nat × Nat) := []
theorem Tryz.i8_ok : fnOk Tryz.prog Tryz.r8 Tryz.f8 Tryz.i8 = true := by kernel_rfl

/- pinball/pinballref11.InDisc -/
def Tryz.i9 : IFunc := ⟨3, 34, [.tmp 6],
  .seq (.region false [⟨some 3, .box (.t 0) [], none, []⟩,
   ⟨some 4, .box (.t 1) [], none, []⟩,
   ⟨some 6, .mov (.c (.bool false)), none, []⟩])
  (.seq (.seq (.region false [⟨some 8, .ld 3 3 2 false, none, []⟩,
   ⟨some 9, .call 29 [.t 8, .c (.int .i64 2097152)], none, []⟩,
   ⟨some 10, .un .not (.t 9), none, []⟩,
   ⟨some 11, .mov (.t 10), none, []⟩,
   ⟨some 12, .ld 4 4 2 false, some (11, false), []⟩,
   ⟨some 13, .call 29 [.t 12, .c (.int .i64 1048576)], some (11, false), []⟩,
   ⟨some 14, .un .not (.t 13), some (11, false), []⟩,
   ⟨some 15, .pick (.t 11) (.c (.bool true)) (.t 14), none, []⟩,
   ⟨some 16, .mov (.t 15), none, []⟩,
   ⟨some 17, .mov (.t 2), some (16, false), []⟩,
   ⟨some 18, .bin .lss (.t 17) (.c (.int .i64 1)), some (16, false), []⟩,
   ⟨some 19, .pick (.t 16) (.c (.bool true)) (.t 18), none, []⟩,
   ⟨some 20, .mov (.t 19), none, []⟩,
   ⟨some 21, .mov (.t 2), some (20, false), []⟩,
   ⟨some 22, .bin .gtr (.t 21) (.c (.int .i64 524288)), some (20, false), []⟩,
   ⟨some 23, .pick (.t 20) (.c (.bool true)) (.t 22), none, []⟩])
  (.cond (.t 23) (.seq (.region false [⟨some 6, .mov (.c (.bool false)), none, []⟩])
  (.ret))
  (.skip)))
  (.seq (.region false [⟨some 24, .ld 3 3 2 false, none, []⟩,
   ⟨some 25, .ld 4 4 2 false, none, []⟩,
   ⟨some 26, .call 30 [.t 24, .t 25], none, []⟩,
   ⟨some 7, .new [.int .i64 0, .int .i64 0] [], none, []⟩,
   ⟨none, .st 7 7 2 (.t 26), none, []⟩])
  (.seq (.region false [⟨some 27, .ld 7 7 2 false, none, []⟩,
   ⟨some 28, .ld 7 7 2 false, none, []⟩,
   ⟨some 29, .call 31 [.t 27, .t 28], none, []⟩,
   ⟨some 30, .mov (.t 2), none, []⟩,
   ⟨some 31, .mov (.t 2), none, []⟩,
   ⟨some 32, .bin .mul (.t 30) (.t 31), none, []⟩,
   ⟨some 33, .bin .lss (.t 29) (.t 32), none, []⟩,
   ⟨some 6, .mov (.t 33), none, []⟩])
  (.ret))))⟩
def Tryz.r9 : List (Nat × Nat) := []
theorem Tryz.i9_ok : fnOk Tryz.prog Tryz.r9 Tryz.f9 Tryz.i9 = true := by kernel_rfl

/- pinball/wall.InCapsule -/
def Tryz.i10 : IFunc := ⟨4, 72, [.tmp 8],
  .seq (.region false [⟨some 4, .box (.t 0) [], none, []⟩,
   ⟨some 5, .box (.t 1) [], none, []⟩,
   ⟨some 6, .box (.t 2) [], none, []⟩,
   ⟨some 8, .mov (.c (.bool false)), none, []⟩])
  (.seq (.seq (.region false [⟨some 13, .ld 4 4 2 false, none, []⟩,
   ⟨some 14, .bls 1 [.int .i64 0, .int .i64 0] [(0, 2, .t 13)], none, []⟩,
   ⟨some 15, .call 27 [.c (.int .i64 2097152), .t 14], none, []⟩,
   ⟨some 16, .un .not (.t 15), none, []⟩,
   ⟨some 17, .mov (.t 16), none, []⟩,
   ⟨some 18, .ld 5 5 2 false, some (17, false), []⟩,
   ⟨some 19, .ld 6 6 2 false, some (17, false), []⟩,
   ⟨some 20, .bls 2 [.int .i64 0, .int .i64 0, .int .i64 0, .int .i64 0] [(0, 2, .t 18), (2, 2, .t 19)], some (17, false), []⟩,
   ⟨some 21, .call 27 [.c (.int .i64 1048576), .t 20], some (17, false), []⟩,
   ⟨some 22, .un .not (.t 21), some (17, false), []⟩,
   ⟨some 23, .pick (.t 17) (.c (.bool true)) (.t 22), none, []⟩,
   ⟨some 24, .mov (.t 23), none, []⟩,
   ⟨some 25, .mov (.t 3), some (24, false), []⟩,
   ⟨some 26, .bin .lss (.t 25) (.c (.int .i64 1)), some (24, false), []⟩,
   ⟨some 27, .pick (.t 24) (.c (.bool true)) (.t 26), none, []⟩,
   ⟨some 28, .mov (.t 27), none, []⟩,
   ⟨some 29, .mov (.t 3), some (28, false), []⟩,
   ⟨some 30, .bin .gtr (.t 29) (.c (.int .i64 524288)), some (28, false), []⟩,
   ⟨some 31, .pick (.t 28) (.c (.bool true)) (.t 30), none, []⟩])
  (.cond (.t 31) (.seq (.region false [⟨some 8, .mov (.c (.bool false)), none, []⟩])
  (.ret))
  (.skip)))
  (.seq (.seq (.region false [⟨some 32, .ld 4 4 2 false, none, []⟩,
   ⟨some 33, .ld 5 5 2 false, none, []⟩,
   ⟨some 34, .mov (.t 3), none, []⟩,
   ⟨some 35, .call 8 [.t 32, .t 33, .t 34], none, []⟩,
   ⟨some 36, .mov (.t 35), none, []⟩,
   ⟨some 37, .ld 4 4 2 false, some (36, false), []⟩,
   ⟨some 38, .ld 6 6 2 false, some (36, false), []⟩,
   ⟨some 39, .mov (.t 3), some (36, false), []⟩,
   ⟨some 40, .call 8 [.t 37, .t 38, .t 39], some (36, false), []⟩,
   ⟨some 41, .pick (.t 36) (.c (.bool true)) (.t 40), none, []⟩])
  (.cond (.t 41) (.seq (.region false [⟨some 8, .mov (.c (.bool true)), none, []⟩])
  (.ret))
  (.skip)))
  (.seq (.region true [⟨some 42, .ld 6 6 2 false, none, []⟩,
   ⟨some 43, .ld 5 5 2 false, none, []⟩,
   ⟨some 44, .call 28 [.t 42, .t 43], none, []⟩,
   ⟨some 45, .ld 4 4 2 false, none, []⟩,
   ⟨some 46, .ld 5 5 2 false, none, []⟩,
   ⟨some 47, .call 28 [.t 45, .t 46], none, []⟩,
   ⟨some 9, .new [.int .i64 0, .int .i64 0] [], none, []⟩,
   ⟨some 10, .new [.int .i64 0, .int .i64 0] [], none, []⟩,
   ⟨none, .st 9 9 2 (.t 44), none, []⟩,
   ⟨none, .st 10 10 2 (.t 47), none, []⟩])
  (.seq (.region false [⟨some 48, .ld 10 10 2 false, none, []⟩,
   ⟨some 49, .ld 9 9 2 false, none, []⟩,
   ⟨some 50, .call 24 [.t 48, .t 49], none, []⟩,
   ⟨some 11, .mov (.t 50), none, []⟩])
  (.seq (.seq (.region false [⟨some 51, .mov (.t 11), none, []⟩,
   ⟨some 52, .bin .leq (.t 51) (.c (.int .i64 0)), none, []⟩,
   ⟨some 53, .mov (.t 52), none, []⟩,
   ⟨some 54, .mov (.t 11), some (53, false), []⟩,
   ⟨some 55, .ld 9 9 2 false, some (53, false), []⟩,
   ⟨some 56, .ld 9 9 2 false, some (53, false), []⟩,
   ⟨some 57, .call 24 [.t 55, .t 56], some (53, false), []⟩,
   ⟨some 58, .bin .geq (.t 54) (.t 57), some (53, false), []⟩,
   ⟨some 59, .pick (.t 53) (.c (.bool true)) (.t 58), none, []⟩])
  (.cond (.t 59) (.seq (.region false [⟨some 8, .mov (.c (.bool false)), none, []⟩])
  (.ret))
  (.skip)))
  (.seq (.region false [⟨some 60, .ld 9 9 2 false, none, []⟩,
   ⟨some 61, .ld 10 10 2 false, none, []⟩,
   ⟨some 62, .call 32 [.t 60, .t 61], none, []⟩,
   ⟨some 12, .mov (.t 62), none, []⟩])
  (.seq (.region false [⟨some 63, .mov (.t 12), none, []⟩,
   ⟨some 64, .mov (.t 12), none, []⟩,
   ⟨some 65, .un .neg (.t 64), none, []⟩,
   ⟨some 66, .mx [.t 63, .t 65], none, []⟩,
   ⟨some 67, .mov (.t 3), none, []⟩,
   ⟨some 68, .ld 9 9 2 false, none, []⟩,
   ⟨some 69, .ld 9 9 2 false, none, []⟩,
   ⟨some 70, .call 24 [.t 68, .t 69], none, []⟩,
   ⟨some 71, .call 33 [.t 66, .t 67, .t 70], none, []⟩,
   ⟨some 8, .mov (.t 71), none, []⟩])
  (.ret))))))))⟩
def Tryz.r10 : List (Nat × Nat) := []
theorem Tryz.i10_ok : fnOk Tryz.prog Tryz.r10 Tryz.f10 Tryz.i10 = true := by kernel_rfl

/- pinball/pinballref11.InCapsule -/
def Tryz.i11 : IFunc := ⟨4, 84, [.tmp 8],
  .seq (.region false [⟨some 4, .box (.t 0) [], none, []⟩,
   ⟨some 5, .box (.t 1) [], none, []⟩,
   ⟨some 6, .box (.t 2) [], none, []⟩,
   ⟨some 8, .mov (.c (.bool false)), none, []⟩])
  (.seq (.seq (.region false [⟨some 15, .ld 4 4 2 false, none, []⟩,
   ⟨some 16, .call 29 [.t 15, .c (.int .i64 2097152)], none, []⟩,
   ⟨some 17, .un .not (.t 16), none, []⟩,
   ⟨some 18, .mov (.t 17), none, []⟩,
   ⟨some 19, .ld 5 5 2 false, some (18, false), []⟩,
   ⟨some 20, .call 29 [.t 19, .c (.int .i64 1048576)], some (18, false), []⟩,
   ⟨some 21, .un .not (.t 20), some (18, false), []⟩,
   ⟨some 22, .pick (.t 18) (.c (.bool true)) (.t 21), none, []⟩,
   ⟨some 23, .mov (.t 22), none, []⟩,
   ⟨some 24, .ld 6 6 2 false, some (23, false), []⟩,
   ⟨some 25, .call 29 [.t 24, .c (.int .i64 1048576)], some (23, false), []⟩,
   ⟨some 26, .un .not (.t 25), some (23, false), []⟩,
   ⟨some 27, .pick (.t 23) (.c (.bool true)) (.t 26), none, []⟩,
   ⟨some 28, .mov (.t 27), none, []⟩,
   ⟨some 29, .mov (.t 3), some (28, false), []⟩,
   ⟨some 30, .bin .lss (.t 29) (.c (.int .i64 1)), some (28, false), []⟩,
   ⟨some 31, .pick (.t 28) (.c (.bool true)) (.t 30), none, []⟩,
   ⟨some 32, .mov (.t 31), none, []⟩,
   ⟨some 33, .mov (.t 3), some (32, false), []⟩,
   ⟨some 34, .bin .gtr (.t 33) (.c (.int .i64 524288)), some (32, false), []⟩,
   ⟨some 35, .pick (.t 32) (.c (.bool true)) (.t 34), none, []⟩])
  (.cond (.t 35) (.seq (.region false [⟨some 8, .mov (.c (.bool false)), none, []⟩])
  (.ret))
  (.skip)))
  (.seq (.seq (.region false [⟨some 36, .ld 4 4 2 false, none, []⟩,
   ⟨some 37, .ld 5 5 2 false, none, []⟩,
   ⟨some 38, .mov (.t 3), none, []⟩,
   ⟨some 39, .call 9 [.t 36, .t 37, .t 38], none, []⟩,
   ⟨some 40, .mov (.t 39), none, []⟩,
   ⟨some 41, .ld 4 4 2 false, some (40, false), []⟩,
   ⟨some 42, .ld 6 6 2 false, some (40, false), []⟩,
   ⟨some 43, .mov (.t 3), some (40, false), []⟩,
   ⟨some 44, .call 9 [.t 41, .t 42, .t 43], some (40, false), []⟩,
   ⟨some 45, .pick (.t 40) (.c (.bool true)) (.t 44), none, []⟩])
  (.cond (.t 45) (.seq (.region false [⟨some 8, .mov (.c (.bool true)), none, []⟩])
  (.ret))
  (.skip)))
  (.seq (.region true [⟨some 46, .ld 6 6 2 false, none, []⟩,
   ⟨some 47, .ld 5 5 2 false, none, []⟩,
   ⟨some 48, .call 30 [.t 46, .t 47], none, []⟩,
   ⟨some 49, .ld 4 4 2 false, none, []⟩,
   ⟨some 50, .ld 5 5 2 false, none, []⟩,
   ⟨some 51, .call 30 [.t 49, .t 50], none, []⟩,
   ⟨some 9, .new [.int .i64 0, .int .i64 0] [], none, []⟩,
   ⟨some 10, .new [.int .i64 0, .int .i64 0] [], none, []⟩,
   ⟨none, .st 9 9 2 (.t 48), none, []⟩,
   ⟨none, .st 10 10 2 (.t 51), none, []⟩])
  (.seq (.region true [⟨some 52, .ld 9 9 2 false, none, []⟩,
   ⟨some 53, .ld 9 9 2 false, none, []⟩,
   ⟨some 54, .call 31 [.t 52, .t 53], none, []⟩,
   ⟨some 55, .ld 10 10 2 false, none, []⟩,
   ⟨some 56, .ld 9 9 2 false, none, []⟩,
   ⟨some 57, .call 31 [.t 55, .t 56], none, []⟩,
   ⟨some 11, .mov (.t 54), none, []⟩,
   ⟨some 12, .mov (.t 57), none, []⟩])
  (.seq (.region false [⟨some 58, .ld 9 9 2 false, none, []⟩,
   ⟨some 59, .ld 10 10 2 false, none, []⟩,
   ⟨some 60, .call 35 [.t 58, .t 59], none, []⟩,
   ⟨some 61, .call 34 [.t 60], none, []⟩,
   ⟨some 13, .new [.bool false, .sl 0 []] [], none, []⟩,
   ⟨none, .st 13 13 2 (.t 61), none, []⟩])
  (.seq (.region false [⟨some 62, .mov (.t 3), none, []⟩,
   ⟨some 63, .call 34 [.t 62], none, []⟩,
   ⟨some 14, .new [.bool false, .sl 0 []] [], none, []⟩,
   ⟨none, .st 14 14 2 (.t 63), none, []⟩])
  (.seq (.region true [⟨some 64, .mov (.t 12), none, []⟩,
   ⟨some 65, .bin .gtr (.t 64) (.c (.int .i64 0)), none, []⟩,
   ⟨some 66, .mov (.t 65), none, []⟩,
   ⟨some 67, .mov (.t 12), some (66, true), []⟩,
   ⟨some 68, .mov (.t 11), some (66, true), []⟩,
   ⟨some 69, .bin .lss (.t 67) (.t 68), some (66, true), []⟩,
   ⟨some 70, .pick (.t 66) (.t 69) (.c (.bool false)), none, []⟩,
   ⟨some 71, .mov (.t 70), none, []⟩,
   ⟨some 72, .ld 13 13 2 false, some (71, true), []⟩,
   ⟨some 73, .ld 13 13 2 false, some (71, true), []⟩,
   ⟨some 74, .call 37 [.t 72, .t 73], some (71, true), []⟩,
   ⟨some 75, .ld 14 14 2 false, some (71, true), []⟩,
   ⟨some 76, .ld 14 14 2 false, some (71, true), []⟩,
   ⟨some 77, .call 37 [.t 75, .t 76], some (71, true), []⟩,
   ⟨some 78, .mov (.t 11), some (71, true), []⟩,
   ⟨some 79, .call 34 [.t 78], some (71, true), []⟩,
   ⟨some 80, .call 37 [.t 77, .t 79], some (71, true), []⟩,
   ⟨some 81, .call 36 [.t 74, .t 80], some (71, true), []⟩,
   ⟨some 82, .bin .lss (.t 81) (.c (.int .i64 0)), some (71, true), []⟩,
   ⟨some 83, .pick (.t 71) (.t 82) (.c (.bool false)), none, []⟩,
   ⟨some 8, .mov (.t 83), none, []⟩])
  (.ret))))))))⟩
def Tryz.r11 : List (Nat × Nat) := []
theorem Tryz.i11_ok : fnOk Tryz.prog Tryz.r11 Tryz.f11 Tryz.i11 = true := by kernel_rfl

/- pinball/wall.DiscNormal -/
def Tryz.i12 : IFunc := ⟨2, 15, [.cell 4 2 false],
  .seq (.region false [⟨some 2, .box (.t 0) [], none, []⟩,
   ⟨some 3, .box (.t 1) [], none, []⟩,
   ⟨some 4, .new [.int .i64 0, .int .i64 0] [], none, []⟩])
  (.seq (.seq (.region false [⟨some 5, .ld 3 3 2 false, none, []⟩,
   ⟨some 6, .bls 1 [.int .i64 0, .int .i64 0] [(0, 2, .t 5)], none, []⟩,
   ⟨some 7, .call 27 [.c (.int .i64 1048576), .t 6], none, []⟩,
   ⟨some 8, .un .not (.t 7), none, []⟩])
  (.cond (.t 8) (.seq (.region false [⟨some 9, .bld [.int .i64 0, .int .i64 0] [], none, []⟩,
   ⟨none, .st 4 4 2 (.t 9), none, []⟩])
  (.ret))
  (.skip)))
  (.seq (.region true [⟨some 10, .ld 2 2 2 false, none, []⟩,
   ⟨some 11, .ld 3 3 2 false, none, []⟩,
   ⟨some 12, .call 39 [.t 11, .c (.int .i64 256)], none, []⟩,
   ⟨some 13, .call 28 [.t 10, .t 12], none, []⟩,
   ⟨some 14, .call 38 [.t 13], none, []⟩,
   ⟨none, .st 4 4 2 (.t 14), none, []⟩])
  (.ret)))⟩
def Tryz.r12 : List (Nat × Nat) := []
theorem Tryz.i12_ok : fnOk Tryz.prog Tryz.r12 Tryz.f12 Tryz.i12 = true := by kernel_rfl

/- pinball/pinballref11.DiscNormal -/
def Tryz.i13 : IFunc := ⟨2, 14, [.cell 4 2 false],
  .seq (.region false [⟨some 2, .box (.t 0) [], none, []⟩,
   ⟨some 3, .box (.t 1) [], none, []⟩,
   ⟨some 4, .new [.int .i64 0, .int .i64 0] [], none, []⟩])
  (.seq (.seq (.region false [⟨some 5, .ld 3 3 2 false, none, []⟩,
   ⟨some 6, .call 29 [.t 5, .c (.int .i64 1048576)], none, []⟩,
   ⟨some 7, .un .not (.t 6), none, []⟩])
  (.cond (.t 7) (.seq (.region false [⟨some 8, .bld [.int .i64 0, .int .i64 0] [], none, []⟩,
   ⟨none, .st 4 4 2 (.t 8), none, []⟩])
  (.ret))
  (.skip)))
  (.seq (.region true [⟨some 9, .ld 2 2 2 false, none, []⟩,
   ⟨some 10, .ld 3 3 2 false, none, []⟩,
   ⟨some 11, .call 41 [.t 10, .c (.int .i64 256)], none, []⟩,
   ⟨some 12, .call 30 [.t 9, .t 11], none, []⟩,
   ⟨some 13, .call 40 [.t 12], none, []⟩,
   ⟨none, .st 4 4 2 (.t 13), none, []⟩])
  (.ret)))⟩
def Tryz.r13 : List (Nat × Nat) := []
theorem Tryz.i13_ok : fnOk Tryz.prog Tryz.r13 Tryz.f13 Tryz.i13 = true := by kernel_rfl

/- pinball/wall.CapsuleNormal -/
def Tryz.i14 : IFunc := ⟨3, 61, [.cell 6 2 false],
  .seq (.region false [⟨some 3, .box (.t 0) [], none, []⟩,
   ⟨some 4, .box (.t 1) [], none, []⟩,
   ⟨some 5, .box (.t 2) [], none, []⟩,
   ⟨some 6, .new [.int .i64 0, .int .i64 0] [], none, []⟩])
  (.seq (.seq (.region false [⟨some 11, .ld 4 4 2 false, none, []⟩,
   ⟨some 12, .ld 5 5 2 false, none, []⟩,
   ⟨some 13, .bls 2 [.int .i64 0, .int .i64 0, .int .i64 0, .int .i64 0] [(0, 2, .t 11), (2, 2, .t 12)], none, []⟩,
   ⟨some 14, .call 27 [.c (.int .i64 1048576), .t 13], none, []⟩,
   ⟨some 15, .un .not (.t 14), none, []⟩])
  (.cond (.t 15) (.seq (.region false [⟨some 16, .bld [.int .i64 0, .int .i64 0] [], none, []⟩,
   ⟨none, .st 6 6 2 (.t 16), none, []⟩])
  (.ret))
  (.skip)))
  (.seq (.region true [⟨some 17, .ld 5 5 2 false, none, []⟩,
   ⟨some 18, .ld 4 4 2 false, none, []⟩,
   ⟨some 19, .call 28 [.t 17, .t 18], none, []⟩,
   ⟨some 20, .ld 3 3 2 false, none, []⟩,
   ⟨some 21, .ld 4 4 2 false, none, []⟩,
   ⟨some 22, .call 39 [.t 21, .c (.int .i64 256)], none, []⟩,
   ⟨some 23, .call 28 [.t 20, .t 22], none, []⟩,
   ⟨some 7, .new [.int .i64 0, .int .i64 0] [], none, []⟩,
   ⟨some 8, .new [.int .i64 0, .int .i64 0] [], none, []⟩,
   ⟨none, .st 7 7 2 (.t 19), none, []⟩,
   ⟨none, .st 8 8 2 (.t 23), none, []⟩])
  (.seq (.region false [⟨some 24, .ld 8 8 2 false, none, []⟩,
   ⟨some 25, .ld 7 7 2 false, none, []⟩,
   ⟨some 26, .call 24 [.t 24, .t 25], none, []⟩,
   ⟨some 9, .mov (.t 26), none, []⟩])
  (.seq (.seq (.region false [⟨some 27, .ld 7 7 2 false, none, []⟩,
   ⟨some 28, .ld 8 8 2 false, none, []⟩,
   ⟨some 29, .call 32 [.t 27, .t 28], none, []⟩,
   ⟨some 10, .mov (.t 29), none, []⟩])
  (.block 0 (.seq (.region false [⟨some 31, .mov (.t 9), none, []⟩,
   ⟨some 32, .bin .leq (.t 31) (.c (.int .i64 0)), none, []⟩,
   ⟨some 30, .mov (.t 32), none, []⟩])
  (.cond (.t 30) (.seq (.region false [⟨some 33, .ld 3 3 2 false, none, []⟩,
   ⟨some 34, .ld 4 4 2 false, none, []⟩,
   ⟨some 35, .call 12 [.t 33, .t 34], none, []⟩,
   ⟨none, .st 6 6 2 (.t 35), none, []⟩])
  (.ret))
  (.seq (.region false [⟨some 37, .mov (.t 9), none, []⟩,
   ⟨some 38, .ld 7 7 2 false, none, []⟩,
   ⟨some 39, .ld 7 7 2 false, none, []⟩,
   ⟨some 40, .call 24 [.t 38, .t 39], none, []⟩,
   ⟨some 41, .bin .mul (.c (.int .i64 256)) (.t 40), none, []⟩,
   ⟨some 42, .bin .geq (.t 37) (.t 41), none, []⟩,
   ⟨some 36, .mov (.t 42), none, []⟩])
  (.cond (.t 36) (.seq (.region false [⟨some 43, .ld 3 3 2 false, none, []⟩,
   ⟨some 44, .ld 5 5 2 false, none, []⟩,
   ⟨some 45, .call 12 [.t 43, .t 44], none, []⟩,
   ⟨none, .st 6 6 2 (.t 45), none, []⟩])
  (.ret))
  (.seq (.region false [⟨some 47, .mov (.t 10), none, []⟩,
   ⟨some 48, .bin .gtr (.t 47) (.c (.int .i64 0)), none, []⟩,
   ⟨some 46, .mov (.t 48), none, []⟩])
  (.cond (.t 46) (.seq (.region false [⟨some 49, .ld 7 7 2 false, none, []⟩,
   ⟨some 50, .call 43 [.t 49], none, []⟩,
   ⟨some 51, .call 42 [.t 50], none, []⟩,
   ⟨none, .st 6 6 2 (.t 51), none, []⟩])
  (.ret))
  (.seq (.region false [⟨some 53, .mov (.t 10), none, []⟩,
   ⟨some 54, .bin .lss (.t 53) (.c (.int .i64 0)), none, []⟩,
   ⟨some 52, .mov (.t 54), none, []⟩])
  (.cond (.t 52) (.seq (.region false [⟨some 55, .ld 4 4 2 false, none, []⟩,
   ⟨some 56, .ld 5 5 2 false, none, []⟩,
   ⟨some 57, .call 28 [.t 55, .t 56], none, []⟩,
   ⟨some 58, .call 43 [.t 57], none, []⟩,
   ⟨some 59, .call 42 [.t 58], none, []⟩,
   ⟨none, .st 6 6 2 (.t 59), none, []⟩])
  (.ret))
  (.skip)))))))))))
  (.seq (.region false [⟨some 60, .bld [.int .i64 0, .int .i64 0] [], none, []⟩,
   ⟨none, .st 6 6 2 (.t 60), none, []⟩])
  (.ret))))))⟩
def Tryz.r14 : List (Nat × Nat) := []
theorem Tryz.i14_ok : fnOk Tryz.prog Tryz.r14 Tryz.f14 Tryz.i14 = true := by kernel_rfl

/- pinball/pinballref11.CapsuleNormal -/
def Tryz.i15 : IFunc := ⟨3, 64, [.cell 6 2 false],
  .seq (.region false [⟨some 3, .box (.t 0) [], none, []⟩,
   ⟨some 4, .box (.t 1) [], none, []⟩,
   ⟨some 5, .box (.t 2) [], none, []⟩,
   ⟨some 6, .new [.int .i64 0, .int .i64 0] [], none, []⟩])
  (.seq (.seq (.region false [⟨some 12, .ld 4 4 2 false, none, []⟩,
   ⟨some 13, .call 29 [.t 12, .c (.int .i64 1048576)], none, []⟩,
   ⟨some 14, .un .not (.t 13), none, []⟩,
   ⟨some 15, .mov (.t 14), none, []⟩,
   ⟨some 16, .ld 5 5 2 false, some (15, false), []⟩,
   ⟨some 17, .call 29 [.t 16, .c (.int .i64 1048576)], some (15, false), []⟩,
   ⟨some 18, .un .not (.t 17), some (15, false), []⟩,
   ⟨some 19, .pick (.t 15) (.c (.bool true)) (.t 18), none, []⟩])
  (.cond (.t 19) (.seq (.region false [⟨some 20, .bld [.int .i64 0, .int .i64 0] [], none, []⟩,
   ⟨none, .st 6 6 2 (.t 20), none, []⟩])
  (.ret))
  (.skip)))
  (.seq (.region false [⟨some 21, .ld 5 5 2 false, none, []⟩,
   ⟨some 22, .ld 4 4 2 false, none, []⟩,
   ⟨some 23, .call 30 [.t 21, .t 22], none, []⟩,
   ⟨some 7, .new [.int .i64 0, .int .i64 0] [], none, []⟩,
   ⟨none, .st 7 7 2 (.t 23), none, []⟩])
  (.seq (.region true [⟨some 24, .ld 3 3 2 false, none, []⟩,
   ⟨some 25, .ld 4 4 2 false, none, []⟩,
   ⟨some 26, .call 41 [.t 25, .c (.int .i64 256)], none, []⟩,
   ⟨some 27, .call 30 [.t 24, .t 26], none, []⟩,
   ⟨some 8, .new [.int .i64 0, .int .i64 0] [], none, []⟩,
   ⟨none, .st 8 8 2 (.t 27), none, []⟩])
  (.seq (.region false [⟨some 28, .ld 8 8 2 false, none, []⟩,
   ⟨some 29, .ld 7 7 2 false, none, []⟩,
   ⟨some 30, .call 31 [.t 28, .t 29], none, []⟩,
   ⟨some 9, .mov (.t 30), none, []⟩])
  (.seq (.block 0 (.seq (.region false [⟨some 32, .mov (.t 9), none, []⟩,
   ⟨some 33, .bin .leq (.t 32) (.c (.int .i64 0)), none, []⟩,
   ⟨some 31, .mov (.t 33), none, []⟩])
  (.cond (.t 31) (.seq (.region false [⟨some 34, .ld 3 3 2 false, none, []⟩,
   ⟨some 35, .ld 4 4 2 false, none, []⟩,
   ⟨some 36, .call 13 [.t 34, .t 35], none, []⟩,
   ⟨none, .st 6 6 2 (.t 36), none, []⟩])
  (.ret))
  (.seq (.region false [⟨some 38, .mov (.t 9), none, []⟩,
   ⟨some 39, .ld 7 7 2 false, none, []⟩,
   ⟨some 40, .ld 7 7 2 false, none, []⟩,
   ⟨some 41, .call 31 [.t 39, .t 40], none, []⟩,
   ⟨some 42, .bin .mul (.c (.int .i64 256)) (.t 41), none, []⟩,
   ⟨some 43, .bin .geq (.t 38) (.t 42), none, []⟩,
   ⟨some 37, .mov (.t 43), none, []⟩])
  (.cond (.t 37) (.seq (.region false [⟨some 44, .ld 3 3 2 false, none, []⟩,
   ⟨some 45, .ld 5 5 2 false, none, []⟩,
   ⟨some 46, .call 13 [.t 44, .t 45], none, []⟩,
   ⟨none, .st 6 6 2 (.t 46), none, []⟩])
  (.ret))
  (.skip))))))
  (.seq (.region false [⟨some 47, .ld 7 7 2 false, none, []⟩,
   ⟨some 48, .ld 8 8 2 false, none, []⟩,
   ⟨some 49, .call 35 [.t 47, .t 48], none, []⟩,
   ⟨some 10, .mov (.t 49), none, []⟩])
  (.seq (.region false [⟨some 50, .ld 7 7 2 false, none, []⟩,
   ⟨some 51, .call 44 [.t 50], none, []⟩,
   ⟨some 11, .new [.int .i64 0, .int .i64 0] [], none, []⟩,
   ⟨none, .st 11 11 2 (.t 51), none, []⟩])
  (.seq (.block 1 (.seq (.region false [⟨some 53, .mov (.t 10), none, []⟩,
   ⟨some 54, .bin .gtr (.t 53) (.c (.int .i64 0)), none, []⟩,
   ⟨some 52, .mov (.t 54), none, []⟩])
  (.cond (.t 52) (.seq (.region false [⟨some 55, .ld 11 11 2 false, none, []⟩,
   ⟨some 56, .call 45 [.t 55], none, []⟩,
   ⟨none, .st 6 6 2 (.t 56), none, []⟩])
  (.ret))
  (.seq (.region false [⟨some 58, .mov (.t 10), none, []⟩,
   ⟨some 59, .bin .lss (.t 58) (.c (.int .i64 0)), none, []⟩,
   ⟨some 57, .mov (.t 59), none, []⟩])
  (.cond (.t 57) (.seq (.region false [⟨some 60, .ld 11 11 2 false, none, []⟩,
   ⟨some 61, .call 41 [.t 60, .c (.int .i64 (-1))], none, []⟩,
   ⟨some 62, .call 45 [.t 61], none, []⟩,
   ⟨none, .st 6 6 2 (.t 62), none, []⟩])
  (.ret))
  (.skip))))))
  (.seq (.region false [⟨some 63, .bld [.int .i64 0, .int .i64 0] [], none, []⟩,
   ⟨none, .st 6 6 2 (.t 63), none, []⟩])
  (.ret))))))))))⟩
def Tryz.r15 : List (Nat × Nat) := []
theorem Tryz.i15_ok : fnOk Tryz.prog Tryz.r15 Tryz.f15 Tryz.i15 = true := by kernel_rfl

/- pinball/pinballref10.Valid -/
def Tryz.i16 : IFunc := ⟨1, 16, [.tmp 2],
  .seq (.region false [⟨some 1, .box (.t 0) [3, 7, 12], none, []⟩,
   ⟨some 2, .mov (.c (.bool false)), none, []⟩])
  (.seq (.region false [⟨some 3, .adr 1 1 0, none, []⟩,
   ⟨some 4, .ld 3 1 2 false, none, []⟩,
   ⟨some 5, .call 46 [.t 4, .c (.int .i64 8388608)], none, []⟩,
   ⟨some 6, .mov (.t 5), none, []⟩,
   ⟨some 7, .adr 1 1 2, some (6, true), []⟩,
   ⟨some 8, .ld 7 1 2 false, some (6, true), []⟩,
   ⟨some 9, .call 46 [.t 8, .c (.int .i64 262144)], some (6, true), []⟩,
   ⟨some 10, .pick (.t 6) (.t 9) (.c (.bool false)), none, []⟩,
   ⟨some 11, .mov (.t 10), none, []⟩,
   ⟨some 12, .adr 1 1 4, some (11, true), []⟩,
   ⟨some 13, .ld 12 1 2 false, some (11, true), []⟩,
   ⟨some 14, .call 46 [.t 13, .c (.int .i64 4096)], some (11, true), []⟩,
   ⟨some 15, .pick (.t 11) (.t 14) (.c (.bool false)), none, []⟩,
   ⟨some 2, .mov (.t 15), none, []⟩])
  (.ret))⟩
def Tryz.r16 : List (Nat × Nat) := [(3, 1), (7, 1), (12, 1)]
theorem Tryz.i16_ok : fnOk Tryz.prog Tryz.r16 Tryz.f16 Tryz.i16 = true := by kernel_rfl

/- pinball/pinballlaw11.near -/
def Tryz.i17 : IFunc := ⟨1, 21, [.tmp 2],
  .seq (.region false [⟨some 1, .box (.t 0) [3, 7, 12, 17], none, []⟩,
   ⟨some 2, .mov (.c (.bool false)), none, []⟩])
  (.seq (.region false [⟨some 3, .adr 1 1 0, none, []⟩,
   ⟨some 4, .ld 3 1 1 true, none, []⟩,
   ⟨some 5, .bin .geq (.t 4) (.c (.int .i64 (-1048576))), none, []⟩,
   ⟨some 6, .mov (.t 5), none, []⟩,
   ⟨some 7, .adr 1 1 0, some (6, true), []⟩,
   ⟨some 8, .ld 7 1 1 true, some (6, true), []⟩,
   ⟨some 9, .bin .leq (.t 8) (.c (.int .i64 1048576)), some (6, true), []⟩,
   ⟨some 10, .pick (.t 6) (.t 9) (.c (.bool false)), none, []⟩,
   ⟨some 11, .mov (.t 10), none, []⟩,
   ⟨some 12, .adr 1 1 1, some (11, true), []⟩,
   ⟨some 13, .ld 12 1 1 true, some (11, true), []⟩,
   ⟨some 14, .bin .geq (.t 13) (.c (.int .i64 (-1048576))), some (11, true), []⟩,
   ⟨some 15, .pick (.t 11) (.t 14) (.c (.bool false)), none, []⟩,
   ⟨some 16, .mov (.t 15), none, []⟩,
   ⟨some 17, .adr 1 1 1, some (16, true), []⟩,
   ⟨some 18, .ld 17 1 1 true, some (16, true), []⟩,
   ⟨some 19, .bin .leq (.t 18) (.c (.int .i64 1048576)), some (16, true), []⟩,
   ⟨some 20, .pick (.t 16) (.t 19) (.c (.bool false)), none, []⟩,
   ⟨some 2, .mov (.t 20), none, []⟩])
  (.ret))⟩
def Tryz.r17 : List (Nat × Nat) := [(3, 1), (7, 1), (12, 1), (17, 1)]
theorem Tryz.i17_ok : fnOk Tryz.prog Tryz.r17 Tryz.f17 Tryz.i17 = true := by kernel_rfl

/- pinball/pinballref10.End -/
def Tryz.i18 : IFunc := ⟨1, 49, [.cell 2 2 false, .cell 3 2 false],
  .seq (.region false [⟨some 1, .box (.t 0) [9, 10, 12, 13, 16, 17, 20, 21, 23, 24, 27, 28, 32, 33, 35, 36, 40, 41, 43, 44], none, []⟩,
   ⟨some 2, .new [.int .i64 0, .int .i64 0] [], none, []⟩,
   ⟨some 3, .new [.int .i64 0, .int .i64 0] [], none, []⟩])
  (.seq (.seq (.region false [⟨some 4, .ld 1 1 6 false, none, []⟩,
   ⟨some 5, .call 16 [.t 4], none, []⟩,
   ⟨some 6, .un .not (.t 5), none, []⟩])
  (.cond (.t 6) (.seq (.region false [⟨some 7, .bld [.int .i64 0, .int .i64 0] [], none, []⟩,
   ⟨some 8, .bld [.int .i64 0, .int .i64 0] [], none, []⟩,
   ⟨none, .st 2 2 2 (.t 7), none, []⟩,
   ⟨none, .st 3 3 2 (.t 8), none, []⟩])
  (.ret))
  (.skip)))
  (.seq (.region true [⟨some 9, .adr 1 1 0, none, []⟩,
   ⟨some 10, .adr 9 1 0, none, []⟩,
   ⟨some 11, .ld 10 1 1 true, none, []⟩,
   ⟨some 12, .adr 1 1 2, none, []⟩,
   ⟨some 13, .adr 12 1 0, none, []⟩,
   ⟨some 14, .ld 13 1 1 true, none, []⟩,
   ⟨some 15, .bin .add (.t 11) (.t 14), none, []⟩,
   ⟨some 16, .adr 1 1 4, none, []⟩,
   ⟨some 17, .adr 16 1 0, none, []⟩,
   ⟨some 18, .ld 17 1 1 true, none, []⟩,
   ⟨some 19, .bin .add (.t 15) (.t 18), none, []⟩,
   ⟨some 20, .adr 1 1 0, none, []⟩,
   ⟨some 21, .adr 20 1 1, none, []⟩,
   ⟨some 22, .ld 21 1 1 true, none, []⟩,
   ⟨some 23, .adr 1 1 2, none, []⟩,
   ⟨some 24, .adr 23 1 1, none, []⟩,
   ⟨some 25, .ld 24 1 1 true, none, []⟩,
   ⟨some 26, .bin .add (.t 22) (.t 25), none, []⟩,
   ⟨some 27, .adr 1 1 4, none, []⟩,
   ⟨some 28, .adr 27 1 1, none, []⟩,
   ⟨some 29, .ld 28 1 1 true, none, []⟩,
   ⟨some 30, .bin .add (.t 26) (.t 29), none, []⟩,
   ⟨some 31, .bld [.int .i64 0, .int .i64 0] [(0, 1, .t 19), (1, 1, .t 30)], none, []⟩,
   ⟨some 32, .adr 1 1 2, none, []⟩,
   ⟨some 33, .adr 32 1 0, none, []⟩,
   ⟨some 34, .ld 33 1 1 true, none, []⟩,
   ⟨some 35, .adr 1 1 4, none, []⟩,
   ⟨some 36, .adr 35 1 0, none, []⟩,
   ⟨some 37, .ld 36 1 1 true, none, []⟩,
   ⟨some 38, .bin .mul (.c (.int .i64 2)) (.t 37), none, []⟩,
   ⟨some 39, .bin .add (.t 34) (.t 38), none, []⟩,
   ⟨some 40, .adr 1 1 2, none, []⟩,
   ⟨some 41, .adr 40 1 1, none, []⟩,
   ⟨some 42, .ld 41 1 1 true, none, []⟩,
   ⟨some 43, .adr 1 1 4, none, []⟩,
   ⟨some 44, .adr 43 1 1, none, []⟩,
   ⟨some 45, .ld 44 1 1 true, none, []⟩,
   ⟨some 46, .bin .mul (.c (.int .i64 2)) (.t 45), none, []⟩,
   ⟨some 47, .bin .add (.t 42) (.t 46), none, []⟩,
   ⟨some 48, .bld [.int .i64 0, .int .i64 0] [(0, 1, .t 39), (1, 1, .t 47)], none, []⟩,
   ⟨none, .st 2 2 2 (.t 31), none, []⟩,
   ⟨none, .st 3 3 2 (.t 48), none, []⟩])
  (.ret)))⟩
def Tryz.r18 : List (Nat × Nat) := [(9, 1), (10, 1), (12, 1), (13, 1), (16, 1), (17, 1), (20, 1), (21, 1), (23, 1), (24, 1), (27, 1), (28, 1), (32, 1), (33, 1), (35, 1), (36, 1), (40, 1), (41, 1), (43, 1), (44, 1)]
theorem Tryz.i18_ok : fnOk Tryz.prog Tryz.r18 Tryz.f18 Tryz.i18 = true := by kernel_rfl

/- pinball/wall.Capsule -/
def Tryz.i19 : IFunc := ⟨4, 91, [.tmp 8],
  .seq (.region false [⟨some 4, .box (.t 0) [], none, []⟩,
   ⟨some 5, .box (.t 1) [], none, []⟩,
   ⟨some 6, .box (.t 2) [], none, []⟩,
   ⟨some 8, .mov (.c (.nil)), none, []⟩])
  (.seq (.region false [⟨some 17, .ld 4 4 6 false, none, []⟩,
   ⟨some 18, .ld 5 5 2 false, none, []⟩,
   ⟨some 19, .mov (.t 3), none, []⟩,
   ⟨some 20, .clo 20 [.t 17, .t 18, .t 19], none, []⟩,
   ⟨some 9, .tra 20, none, [21]⟩])
  (.seq (.seq (.region false [⟨some 21, .cpy 9, none, []⟩,
   ⟨some 22, .isn false 21 9, none, []⟩,
   ⟨some 23, .mov (.t 22), none, []⟩,
   ⟨some 24, .ld 6 6 2 false, some (23, false), []⟩,
   ⟨some 25, .bls 1 [.int .i64 0, .int .i64 0] [(0, 2, .t 24)], some (23, false), []⟩,
   ⟨some 26, .call 27 [.c (.int .i64 1048576), .t 25], some (23, false), []⟩,
   ⟨some 27, .un .not (.t 26), some (23, false), []⟩,
   ⟨some 28, .pick (.t 23) (.c (.bool true)) (.t 27), none, []⟩])
  (.cond (.t 28) (.seq (.region false [⟨some 8, .mov (.c (.nil)), none, []⟩])
  (.ret))
  (.skip)))
  (.seq (.seq (.region false [⟨some 29, .ld 5 5 2 false, none, []⟩,
   ⟨some 30, .ld 6 6 2 false, none, []⟩,
   ⟨some 31, .eqv false 2 (.t 29) (.t 30), none, []⟩])
  (.cond (.t 31) (.seq (.region false [⟨some 32, .tra 9, none, []⟩,
   ⟨some 8, .tra 32, none, []⟩])
  (.ret))
  (.skip)))
  (.seq (.region false [⟨some 33, .ld 6 6 2 false, none, []⟩,
   ⟨some 34, .ld 5 5 2 false, none, []⟩,
   ⟨some 35, .call 28 [.t 33, .t 34], none, []⟩,
   ⟨some 10, .new [.int .i64 0, .int .i64 0] [42, 45, 49, 52], none, []⟩,
   ⟨none, .st 10 10 2 (.t 35), none, []⟩])
  (.seq (.region false [⟨some 37, .ld 4 4 6 false, none, []⟩,
   ⟨some 38, .ld 5 5 2 false, none, []⟩,
   ⟨some 39, .call 47 [.t 37, .t 38], none, []⟩,
   ⟨some 36, .mov (.t 39), none, []⟩,
   ⟨some 40, .ext (.t 36) 0, none, []⟩,
   ⟨some 41, .ext (.t 36) 1, none, []⟩,
   ⟨some 11, .mov (.t 40), none, []⟩,
   ⟨some 12, .mov (.t 41), none, []⟩])
  (.seq (.region true [⟨some 42, .adr 10 10 0, none, []⟩,
   ⟨some 43, .ld 42 10 1 true, none, []⟩,
   ⟨some 44, .mov (.t 11), none, []⟩,
   ⟨some 45, .adr 10 10 1, none, []⟩,
   ⟨some 46, .ld 45 10 1 true, none, []⟩,
   ⟨some 47, .mov (.t 12), none, []⟩,
   ⟨some 48, .call 48 [.t 43, .t 44, .t 46, .t 47], none, []⟩,
   ⟨some 49, .adr 10 10 0, none, []⟩,
   ⟨some 50, .ld 49 10 1 true, none, []⟩,
   ⟨some 51, .mov (.t 12), none, []⟩,
   ⟨some 52, .adr 10 10 1, none, []⟩,
   ⟨some 53, .ld 52 10 1 true, none, []⟩,
   ⟨some 54, .un .neg (.t 53), none, []⟩,
   ⟨some 55, .mov (.t 11), none, []⟩,
   ⟨some 56, .call 48 [.t 50, .t 51, .t 54, .t 55], none, []⟩,
   ⟨some 13, .mov (.t 48), none, []⟩,
   ⟨some 14, .mov (.t 56), none, []⟩])
  (.seq (.region true [⟨some 57, .mov (.t 3), none, []⟩,
   ⟨some 58, .mov (.t 3), none, []⟩,
   ⟨some 59, .bin .mul (.t 57) (.t 58), none, []⟩,
   ⟨some 60, .bls 1 [.int .i64 0] [(0, 1, .t 59)], none, []⟩,
   ⟨some 61, .call 50 [.t 60], none, []⟩,
   ⟨some 62, .ld 10 10 2 false, none, []⟩,
   ⟨some 63, .ld 10 10 2 false, none, []⟩,
   ⟨some 64, .call 24 [.t 62, .t 63], none, []⟩,
   ⟨some 65, .bls 1 [.int .i64 0] [(0, 1, .t 64)], none, []⟩,
   ⟨some 66, .call 50 [.t 65], none, []⟩,
   ⟨some 67, .call 49 [.t 61, .t 66], none, []⟩,
   ⟨some 15, .mov (.t 67), none, []⟩])
  (.seq (.region false [⟨some 68, .mov (.t 13), none, []⟩,
   ⟨some 69, .ld 10 10 2 false, none, []⟩,
   ⟨some 70, .ld 10 10 2 false, none, []⟩,
   ⟨some 71, .call 24 [.t 69, .t 70], none, []⟩,
   ⟨some 72, .bls 1 [.int .i64 0] [(0, 1, .t 71)], none, []⟩,
   ⟨some 73, .call 50 [.t 72], none, []⟩,
   ⟨some 74, .mov (.t 13), none, []⟩,
   ⟨some 75, .call 51 [.t 73, .t 74], none, []⟩,
   ⟨some 76, .mov (.t 15), none, []⟩,
   ⟨some 77, .mov (.t 14), none, []⟩,
   ⟨some 78, .mov (.t 14), none, []⟩,
   ⟨some 79, .call 49 [.t 77, .t 78], none, []⟩,
   ⟨some 80, .call 51 [.t 76, .t 79], none, []⟩,
   ⟨some 81, .bls 3 [.sl 0 [], .sl 0 [], .sl 0 []] [(0, 1, .t 68), (1, 1, .t 75), (2, 1, .t 80)], none, []⟩,
   ⟨some 16, .mov (.t 81), none, []⟩])
  (.seq (.region false [⟨some 82, .tra 9, none, []⟩,
   ⟨some 83, .ld 4 4 6 false, none, []⟩,
   ⟨some 84, .ld 6 6 2 false, none, []⟩,
   ⟨some 85, .mov (.t 3), none, []⟩,
   ⟨some 86, .call 52 [.t 83, .t 84, .t 85], none, []⟩,
   ⟨some 87, .bls 1 [.sl 0 []] [(0, 1, .t 86)], none, []⟩,
   ⟨some 88, .mov (.t 16), none, []⟩,
   ⟨some 89, .bls 2 [.sl 0 [], .sl 0 []] [(0, 1, .t 87), (1, 1, .t 88)], none, []⟩,
   ⟨some 90, .apd true (.t 82) (.t 89) 1, none, []⟩,
   ⟨some 8, .tra 90, none, []⟩])
  (.ret))))))))))⟩
def Tryz.r19 : List (Nat × Nat) := [(21, 9), (42, 10), (45, 10), (49, 10), (52, 10)]
theorem Tryz.i19_ok : fnOk Tryz.prog Tryz.r19 Tryz.f19 Tryz.i19 = true := by kernel_rfl

/- pinball/wall.Disc -/
def Tryz.i20 : IFunc := ⟨3, 30, [.tmp 6],
  .seq (.region false [⟨some 3, .box (.t 0) [], none, []⟩,
   ⟨some 4, .box (.t 1) [], none, []⟩,
   ⟨some 6, .mov (.c (.nil)), none, []⟩])
  (.seq (.seq (.region false [⟨some 7, .ld 3 3 6 false, none, []⟩,
   ⟨some 8, .call 53 [.t 7], none, []⟩,
   ⟨some 9, .un .not (.t 8), none, []⟩,
   ⟨some 10, .mov (.t 9), none, []⟩,
   ⟨some 11, .ld 4 4 2 false, some (10, false), []⟩,
   ⟨some 12, .bls 1 [.int .i64 0, .int .i64 0] [(0, 2, .t 11)], some (10, false), []⟩,
   ⟨some 13, .call 27 [.c (.int .i64 1048576), .t 12], some (10, false), []⟩,
   ⟨some 14, .un .not (.t 13), some (10, false), []⟩,
   ⟨some 15, .pick (.t 10) (.c (.bool true)) (.t 14), none, []⟩,
   ⟨some 16, .mov (.t 15), none, []⟩,
   ⟨some 17, .mov (.t 2), some (16, false), []⟩,
   ⟨some 18, .bin .lss (.t 17) (.c (.int .i64 1)), some (16, false), []⟩,
   ⟨some 19, .pick (.t 16) (.c (.bool true)) (.t 18), none, []⟩,
   ⟨some 20, .mov (.t 19), none, []⟩,
   ⟨some 21, .mov (.t 2), some (20, false), []⟩,
   ⟨some 22, .bin .gtr (.t 21) (.c (.int .i64 524288)), some (20, false), []⟩,
   ⟨some 23, .pick (.t 20) (.c (.bool true)) (.t 22), none, []⟩])
  (.cond (.t 23) (.seq (.region false [⟨some 6, .mov (.c (.nil)), none, []⟩])
  (.ret))
  (.skip)))
  (.seq (.region false [⟨some 24, .ld 3 3 6 false, none, []⟩,
   ⟨some 25, .ld 4 4 2 false, none, []⟩,
   ⟨some 26, .mov (.t 2), none, []⟩,
   ⟨some 27, .call 52 [.t 24, .t 25, .t 26], none, []⟩,
   ⟨some 28, .bls 1 [.sl 0 []] [(0, 1, .t 27)], none, []⟩,
   ⟨some 29, .blo 1 1 [.sl 0 []] [(0, 1, .t 28)], none, []⟩,
   ⟨some 6, .tra 29, none, []⟩])
  (.ret)))⟩
def Tryz.r20 : List (Nat × Nat) := []
theorem Tryz.i20_ok : fnOk Tryz.prog Tryz.r20 Tryz.f20 Tryz.i20 = true := by kernel_rfl

/- pinball/pinballlaw11.at -/
def Tryz.i21 : IFunc := ⟨2, 42, [.tmp 4],
  .seq (.region false [⟨some 4, .mov (.c (.bool false)), none, []⟩])
  (.seq (.seq (.region false [⟨some 5, .mov (.c (.int .i64 0)), none, []⟩])
  (.block 0 (.loop (.seq (.seq (.region false [⟨some 9, .mov (.t 5), none, []⟩,
   ⟨some 10, .mov (.t 0), none, []⟩,
   ⟨some 11, .len (.t 10), none, []⟩,
   ⟨some 12, .bin .lss (.t 9) (.t 11), none, []⟩])
  (.cond (.t 12) (.skip)
  (.exit 0)))
  (.seq (.block 1 (.seq (.region false [⟨some 6, .mov (.c (.bool true)), none, []⟩])
  (.seq (.seq (.region false [⟨some 7, .mov (.c (.int .i64 0)), none, []⟩])
  (.block 2 (.loop (.seq (.seq (.region false [⟨some 15, .mov (.t 7), none, []⟩,
   ⟨some 16, .mov (.t 0), none, []⟩,
   ⟨some 17, .mov (.t 5), none, []⟩,
   ⟨some 18, .ixa 16 (.t 17) 1, none, []⟩,
   ⟨some 19, .ld 18 18 1 true, none, []⟩,
   ⟨some 20, .len (.t 19), none, []⟩,
   ⟨some 21, .bin .lss (.t 15) (.t 20), none, []⟩])
  (.cond (.t 21) (.skip)
  (.exit 2)))
  (.seq (.block 3 (.seq (.region false [⟨some 24, .mov (.t 0), none, []⟩,
   ⟨some 25, .mov (.t 5), none, []⟩,
   ⟨some 26, .ixa 24 (.t 25) 1, none, []⟩,
   ⟨some 27, .ld 26 26 1 true, none, []⟩,
   ⟨some 28, .mov (.t 7), none, []⟩,
   ⟨some 29, .ixa 27 (.t 28) 1, none, []⟩,
   ⟨some 30, .ld 29 29 1 true, none, []⟩,
   ⟨some 31, .call 54 [.t 30], none, []⟩,
   ⟨some 8, .mov (.t 31), none, []⟩])
  (.region false [⟨some 32, .mov (.t 6), none, []⟩,
   ⟨some 33, .mov (.t 32), none, []⟩,
   ⟨some 34, .mov (.t 8), some (33, true), []⟩,
   ⟨some 35, .mov (.t 1), some (33, true), []⟩,
   ⟨some 36, .call 34 [.t 35], some (33, true), []⟩,
   ⟨some 37, .call 56 [.t 34, .t 36, .c (.int .i64 4)], some (33, true), []⟩,
   ⟨some 38, .call 55 [.t 37], some (33, true), []⟩,
   ⟨some 39, .bin .gtr (.t 38) (.c (.int .i64 0)), some (33, true), []⟩,
   ⟨some 40, .pick (.t 33) (.t 39) (.c (.bool false)), none, []⟩,
   ⟨some 6, .mov (.t 40), none, []⟩])))
  (.region false [⟨some 22, .mov (.t 7), none, []⟩,
   ⟨some 23, .bin .add (.t 22) (.c (.int .i64 1)), none, []⟩,
   ⟨some 7, .mov (.t 23), none, []⟩]))))))
  (.seq (.region false [⟨some 41, .mov (.t 6), none, []⟩])
  (.cond (.t 41) (.seq (.region false [⟨some 4, .mov (.c (.bool true)), none, []⟩])
  (.ret))
  (.skip))))))
  (.region false [⟨some 13, .mov (.t 5), none, []⟩,
   ⟨some 14, .bin .add (.t 13) (.c (.int .i64 1)), none, []⟩,
   ⟨some 5, .mov (.t 14), none, []⟩]))))))
  (.seq (.region false [⟨some 4, .mov (.c (.bool false)), none, []⟩])
  (.ret)))⟩
def Tryz.r21 : List (Nat × Nat) := []
theorem Tryz.i21_ok : fnOk Tryz.prog Tryz.r21 Tryz.f21 Tryz.i21 = true := by kernel_rfl

/- pinball/pinballlaw11.close -/
def Tryz.i22 : IFunc := ⟨1, 21, [.tmp 2],
  .seq (.region false [⟨some 1, .box (.t 0) [3, 7, 12, 17], none, []⟩,
   ⟨some 2, .mov (.c (.bool false)), none, []⟩])
  (.seq (.region false [⟨some 3, .adr 1 1 0, none, []⟩,
   ⟨some 4, .ld 3 1 1 true, none, []⟩,
   ⟨some 5, .bin .geq (.t 4) (.c (.int .i64 (-10000))), none, []⟩,
   ⟨some 6, .mov (.t 5), none, []⟩,
   ⟨some 7, .adr 1 1 0, some (6, true), []⟩,
   ⟨some 8, .ld 7 1 1 true, some (6, true), []⟩,
   ⟨some 9, .bin .leq (.t 8) (.c (.int .i64 10000)), some (6, true), []⟩,
   ⟨some 10, .pick (.t 6) (.t 9) (.c (.bool false)), none, []⟩,
   ⟨some 11, .mov (.t 10), none, []⟩,
   ⟨some 12, .adr 1 1 1, some (11, true), []⟩,
   ⟨some 13, .ld 12 1 1 true, some (11, true), []⟩,
   ⟨some 14, .bin .geq (.t 13) (.c (.int .i64 (-10000))), some (11, true), []⟩,
   ⟨some 15, .pick (.t 11) (.t 14) (.c (.bool false)), none, []⟩,
   ⟨some 16, .mov (.t 15), none, []⟩,
   ⟨some 17, .adr 1 1 1, some (16, true), []⟩,
   ⟨some 18, .ld 17 1 1 true, some (16, true), []⟩,
   ⟨some 19, .bin .leq (.t 18) (.c (.int .i64 10000)), some (16, true), []⟩,
   ⟨some 20, .pick (.t 16) (.t 19) (.c (.bool false)), none, []⟩,
   ⟨some 2, .mov (.t 20), none, []⟩])
  (.ret))⟩
def Tryz.r22 : List (Nat × Nat) := [(3, 1), (7, 1), (12, 1), (17, 1)]
theorem Tryz.i22_ok : fnOk Tryz.prog Tryz.r22 Tryz.f22 Tryz.i22 = true := by kernel_rfl

/- pinball/pinballlaw11.flip -/
def Tryz.i23 : IFunc := ⟨1, 9, [.cell 2 2 false],
  .seq (.region false [⟨some 1, .box (.t 0) [3, 6], none, []⟩,
   ⟨some 2, .new [.int .i64 0, .int .i64 0] [], none, []⟩])
  (.seq (.region false [⟨some 3, .adr 1 1 0, none, []⟩,
   ⟨some 4, .ld 3 1 1 true, none, []⟩,
   ⟨some 5, .un .neg (.t 4), none, []⟩,
   ⟨some 6, .adr 1 1 1, none, []⟩,
   ⟨some 7, .ld 6 1 1 true, none, []⟩,
   ⟨some 8, .bld [.int .i64 0, .int .i64 0] [(0, 1, .t 5), (1, 1, .t 7)], none, []⟩,
   ⟨none, .st 2 2 2 (.t 8), none, []⟩])
  (.ret))⟩
def Tryz.r23 : List (Nat × Nat) := [(3, 1), (6, 1)]
theorem Tryz.i23_ok : fnOk Tryz.prog Tryz.r23 Tryz.f23 Tryz.i23 = true := by kernel_rfl

/- pinball/vector.Dot -/
def Tryz.i24 : IFunc := ⟨2, 24, [.tmp 4],
  .seq (.region false [⟨some 2, .box (.t 0) [13, 18], none, []⟩,
   ⟨some 3, .box (.t 1) [15, 20], none, []⟩,
   ⟨some 4, .mov (.c (.int .i64 0)), none, []⟩])
  (.seq (.seq (.region false [⟨some 5, .ld 2 2 2 false, none, []⟩,
   ⟨some 6, .call 57 [.t 5], none, []⟩,
   ⟨some 7, .un .not (.t 6), none, []⟩,
   ⟨some 8, .mov (.t 7), none, []⟩,
   ⟨some 9, .ld 3 3 2 false, some (8, false), []⟩,
   ⟨some 10, .call 57 [.t 9], some (8, false), []⟩,
   ⟨some 11, .un .not (.t 10), some (8, false), []⟩,
   ⟨some 12, .pick (.t 8) (.c (.bool true)) (.t 11), none, []⟩])
  (.cond (.t 12) (.seq (.region false [⟨some 4, .mov (.c (.int .i64 0)), none, []⟩])
  (.ret))
  (.skip)))
  (.seq (.region false [⟨some 13, .adr 2 2 0, none, []⟩,
   ⟨some 14, .ld 13 2 1 true, none, []⟩,
   ⟨some 15, .adr 3 3 0, none, []⟩,
   ⟨some 16, .ld 15 3 1 true, none, []⟩,
   ⟨some 17, .bin .mul (.t 14) (.t 16), none, []⟩,
   ⟨some 18, .adr 2 2 1, none, []⟩,
   ⟨some 19, .ld 18 2 1 true, none, []⟩,
   ⟨some 20, .adr 3 3 1, none, []⟩,
   ⟨some 21, .ld 20 3 1 true, none, []⟩,
   ⟨some 22, .bin .mul (.t 19) (.t 21), none, []⟩,
   ⟨some 23, .bin .add (.t 17) (.t 22), none, []⟩,
   ⟨some 4, .mov (.t 23), none, []⟩])
  (.ret)))⟩
def Tryz.r24 : List (Nat × Nat) := [(13, 2), (15, 3), (18, 2), (20, 3)]
theorem Tryz.i24_ok : fnOk Tryz.prog Tryz.r24 Tryz.f24 Tryz.i24 = true := by kernel_rfl

/- pinball/pinballref05.Of -/
def Tryz.i25 : IFunc := ⟨1, 38, [.cell 2 7 false, .tmp 3],
  .seq (.region false [⟨some 2, .new [.sl 0 [], .bool false, .sl 0 [], .int .i64 0, .bool false, .sl 0 [], .int .i64 0] [], none, []⟩,
   ⟨some 3, .mov (.c (.bool false)), none, []⟩])
  (.seq (.region false [⟨some 9, .bld [.sl 0 [], .bool false, .sl 0 [], .int .i64 0, .bool false, .sl 0 [], .int .i64 0] [], none, []⟩,
   ⟨some 4, .new [.sl 0 [], .bool false, .sl 0 [], .int .i64 0, .bool false, .sl 0 [], .int .i64 0] [], none, []⟩,
   ⟨none, .st 4 4 7 (.t 9), none, []⟩,
   ⟨some 5, .mov (.c (.bool false)), none, []⟩])
  (.seq (.seq (.region false [⟨some 6, .mov (.c (.int .i64 0)), none, []⟩])
  (.block 0 (.loop (.seq (.seq (.region false [⟨some 10, .mov (.t 6), none, []⟩,
   ⟨some 11, .mov (.t 0), none, []⟩,
   ⟨some 12, .len (.t 11), none, []⟩,
   ⟨some 13, .bin .lss (.t 10) (.t 12), none, []⟩])
  (.cond (.t 13) (.skip)
  (.exit 0)))
  (.seq (.block 1 (.seq (.region false [⟨some 17, .mov (.t 0), none, []⟩,
   ⟨some 18, .mov (.t 6), none, []⟩,
   ⟨some 19, .ixa 17 (.t 18) 1, none, []⟩,
   ⟨some 20, .ld 19 19 1 true, none, []⟩,
   ⟨some 21, .call 58 [.t 20], none, []⟩,
   ⟨some 16, .mov (.t 21), none, []⟩,
   ⟨some 22, .ext (.t 16) 0, none, []⟩,
   ⟨some 23, .ext (.t 16) 1, none, []⟩,
   ⟨some 7, .new [.sl 0 [], .bool false, .sl 0 [], .int .i64 0, .bool false, .sl 0 [], .int .i64 0] [], none, []⟩,
   ⟨none, .st 7 7 7 (.t 22), none, []⟩,
   ⟨some 8, .mov (.t 23), none, []⟩])
  (.seq (.region false [⟨some 24, .mov (.t 8), none, []⟩,
   ⟨some 25, .mov (.t 24), none, []⟩,
   ⟨some 26, .mov (.t 5), some (25, true), []⟩,
   ⟨some 27, .un .not (.t 26), some (25, true), []⟩,
   ⟨some 28, .mov (.t 27), some (25, true), []⟩,
   ⟨some 29, .ld 7 7 7 false, some (28, false), []⟩,
   ⟨some 30, .ld 4 4 7 false, some (28, false), []⟩,
   ⟨some 31, .call 59 [.t 29, .t 30], some (28, false), []⟩,
   ⟨some 32, .bin .lss (.t 31) (.c (.int .i64 0)), some (28, false), []⟩,
   ⟨some 33, .pick (.t 28) (.c (.bool true)) (.t 32), some (25, true), []⟩,
   ⟨some 34, .pick (.t 25) (.t 33) (.c (.bool false)), none, []⟩])
  (.cond (.t 34) (.region false [⟨some 35, .ld 7 7 7 false, none, []⟩,
   ⟨none, .st 4 4 7 (.t 35), none, []⟩,
   ⟨some 5, .mov (.c (.bool true)), none, []⟩])
  (.skip)))))
  (.region false [⟨some 14, .mov (.t 6), none, []⟩,
   ⟨some 15, .bin .add (.t 14) (.c (.int .i64 1)), none, []⟩,
   ⟨some 6, .mov (.t 15), none, []⟩]))))))
  (.seq (.region false [⟨some 36, .ld 4 4 7 false, none, []⟩,
   ⟨some 37, .mov (.t 5), none, []⟩,
   ⟨none, .st 2 2 7 (.t 36), none, []⟩,
   ⟨some 3, .mov (.t 37), none, []⟩])
  (.ret))))⟩
def Tryz.r25 : List (Nat × Nat) := []
theorem Tryz.i25_ok : fnOk Tryz.prog Tryz.r25 Tryz.f25 Tryz.i25 = true := by kernel_rfl

/- pinball/pinballref05.Cell -/
def Tryz.i26 : IFunc := ⟨1, 23, [.tmp 2],
  .seq (.region false [⟨some 1, .box (.t 0) [], none, []⟩,
   ⟨some 2, .mov (.c (.int .i64 0)), none, []⟩])
  (.seq (.region false [⟨some 4, .ld 1 1 7 false, none, []⟩,
   ⟨some 5, .call 60 [.t 4, .c (.int .i64 4)], none, []⟩,
   ⟨some 3, .new [.bool false, .sl 0 []] [6, 10, 12, 18], none, []⟩,
   ⟨none, .st 3 3 2 (.t 5), none, []⟩])
  (.seq (.seq (.region false [⟨some 6, .adr 3 3 1, none, []⟩,
   ⟨some 7, .ld 6 3 1 true, none, []⟩,
   ⟨some 8, .len (.t 7), none, []⟩,
   ⟨some 9, .bin .eql (.t 8) (.c (.int .i64 0)), none, []⟩])
  (.cond (.t 9) (.seq (.region false [⟨some 2, .mov (.c (.int .i64 0)), none, []⟩])
  (.ret))
  (.skip)))
  (.seq (.seq (.region false [⟨some 10, .adr 3 3 0, none, []⟩,
   ⟨some 11, .ld 10 3 1 true, none, []⟩])
  (.cond (.t 11) (.seq (.region false [⟨some 12, .adr 3 3 1, none, []⟩,
   ⟨some 13, .ld 12 3 1 true, none, []⟩,
   ⟨some 14, .ixa 13 (.c (.int .i64 0)) 1, none, []⟩,
   ⟨some 15, .ld 14 14 1 true, none, []⟩,
   ⟨some 16, .cv .i64 (.t 15), none, []⟩,
   ⟨some 17, .un .neg (.t 16), none, []⟩,
   ⟨some 2, .mov (.t 17), none, []⟩])
  (.ret))
  (.skip)))
  (.seq (.region false [⟨some 18, .adr 3 3 1, none, []⟩,
   ⟨some 19, .ld 18 3 1 true, none, []⟩,
   ⟨some 20, .ixa 19 (.c (.int .i64 0)) 1, none, []⟩,
   ⟨some 21, .ld 20 20 1 true, none, []⟩,
   ⟨some 22, .cv .i64 (.t 21), none, []⟩,
   ⟨some 2, .mov (.t 22), none, []⟩])
  (.ret)))))⟩
def Tryz.r26 : List (Nat × Nat) := [(6, 3), (10, 3), (12, 3), (18, 3)]
theorem Tryz.i26_ok : fnOk Tryz.prog Tryz.r26 Tryz.f26 Tryz.i26 = true := by kernel_rfl

/- pinball/wall.within -/
def Tryz.i27 : IFunc := ⟨2, 38, [.tmp 4],
  .seq (.region false [⟨some 4, .mov (.c (.bool false)), none, []⟩])
  (.seq (.seq (.region false [⟨some 7, .mov (.t 1), none, []⟩,
   ⟨some 8, .len (.t 7), none, []⟩,
   ⟨some 9, .mov (.c (.int .i64 0)), none, []⟩])
  (.block 0 (.loop (.seq (.region false [⟨some 10, .bin .lss (.t 9) (.t 8), none, []⟩])
  (.seq (.cond (.t 10) (.skip)
  (.exit 0))
  (.seq (.block 1 (.seq (.region false [⟨some 11, .ixa 7 (.t 9) 2, none, []⟩,
   ⟨some 12, .ld 11 11 2 false, none, []⟩,
   ⟨some 6, .new [.int .i64 0, .int .i64 0] [13, 19, 25, 32], none, []⟩,
   ⟨none, .st 6 6 2 (.t 12), none, []⟩])
  (.seq (.region false [⟨some 13, .adr 6 6 0, none, []⟩,
   ⟨some 14, .ld 13 6 1 true, none, []⟩,
   ⟨some 15, .mov (.t 0), none, []⟩,
   ⟨some 16, .un .neg (.t 15), none, []⟩,
   ⟨some 17, .bin .lss (.t 14) (.t 16), none, []⟩,
   ⟨some 18, .mov (.t 17), none, []⟩,
   ⟨some 19, .adr 6 6 0, some (18, false), []⟩,
   ⟨some 20, .ld 19 6 1 true, some (18, false), []⟩,
   ⟨some 21, .mov (.t 0), some (18, false), []⟩,
   ⟨some 22, .bin .gtr (.t 20) (.t 21), some (18, false), []⟩,
   ⟨some 23, .pick (.t 18) (.c (.bool true)) (.t 22), none, []⟩,
   ⟨some 24, .mov (.t 23), none, []⟩,
   ⟨some 25, .adr 6 6 1, some (24, false), []⟩,
   ⟨some 26, .ld 25 6 1 true, some (24, false), []⟩,
   ⟨some 27, .mov (.t 0), some (24, false), []⟩,
   ⟨some 28, .un .neg (.t 27), some (24, false), []⟩,
   ⟨some 29, .bin .lss (.t 26) (.t 28), some (24, false), []⟩,
   ⟨some 30, .pick (.t 24) (.c (.bool true)) (.t 29), none, []⟩,
   ⟨some 31, .mov (.t 30), none, []⟩,
   ⟨some 32, .adr 6 6 1, some (31, false), []⟩,
   ⟨some 33, .ld 32 6 1 true, some (31, false), []⟩,
   ⟨some 34, .mov (.t 0), some (31, false), []⟩,
   ⟨some 35, .bin .gtr (.t 33) (.t 34), some (31, false), []⟩,
   ⟨some 36, .pick (.t 31) (.c (.bool true)) (.t 35), none, []⟩])
  (.cond (.t 36) (.seq (.region false [⟨some 4, .mov (.c (.bool false)), none, []⟩])
  (.ret))
  (.skip)))))
  (.region false [⟨some 37, .bin .add (.t 9) (.c (.int .i64 1)), none, []⟩,
   ⟨some 9, .mov (.t 37), none, []⟩])))))))
  (.seq (.region false [⟨some 4, .mov (.c (.bool true)), none, []⟩])
  (.ret)))⟩
def Tryz.r27 : List (Nat × Nat) := [(13, 6), (19, 6), (25, 6), (32, 6)]
theorem Tryz.i27_ok : fnOk Tryz.prog Tryz.r27 Tryz.f27 Tryz.i27 = true := by kernel_rfl

/- pinball/vector.Sub -/
def Tryz.i28 : IFunc := ⟨2, 26, [.cell 4 2 false],
  .seq (.region false [⟨some 2, .box (.t 0) [14, 19], none, []⟩,
   ⟨some 3, .box (.t 1) [16, 21], none, []⟩,
   ⟨some 4, .new [.int .i64 0, .int .i64 0] [], none, []⟩])
  (.seq (.seq (.region false [⟨some 5, .ld 2 2 2 false, none, []⟩,
   ⟨some 6, .call 57 [.t 5], none, []⟩,
   ⟨some 7, .un .not (.t 6), none, []⟩,
   ⟨some 8, .mov (.t 7), none, []⟩,
   ⟨some 9, .ld 3 3 2 false, some (8, false), []⟩,
   ⟨some 10, .call 57 [.t 9], some (8, false), []⟩,
   ⟨some 11, .un .not (.t 10), some (8, false), []⟩,
   ⟨some 12, .pick (.t 8) (.c (.bool true)) (.t 11), none, []⟩])
  (.cond (.t 12) (.seq (.region false [⟨some 13, .bld [.int .i64 0, .int .i64 0] [], none, []⟩,
   ⟨none, .st 4 4 2 (.t 13), none, []⟩])
  (.ret))
  (.skip)))
  (.seq (.region false [⟨some 14, .adr 2 2 0, none, []⟩,
   ⟨some 15, .ld 14 2 1 true, none, []⟩,
   ⟨some 16, .adr 3 3 0, none, []⟩,
   ⟨some 17, .ld 16 3 1 true, none, []⟩,
   ⟨some 18, .bin .sub (.t 15) (.t 17), none, []⟩,
   ⟨some 19, .adr 2 2 1, none, []⟩,
   ⟨some 20, .ld 19 2 1 true, none, []⟩,
   ⟨some 21, .adr 3 3 1, none, []⟩,
   ⟨some 22, .ld 21 3 1 true, none, []⟩,
   ⟨some 23, .bin .sub (.t 20) (.t 22), none, []⟩,
   ⟨some 24, .bld [.int .i64 0, .int .i64 0] [(0, 1, .t 18), (1, 1, .t 23)], none, []⟩,
   ⟨some 25, .call 61 [.t 24], none, []⟩,
   ⟨none, .st 4 4 2 (.t 25), none, []⟩])
  (.ret)))⟩
def Tryz.r28 : List (Nat × Nat) := [(14, 2), (16, 3), (19, 2), (21, 3)]
theorem Tryz.i28_ok : fnOk Tryz.prog Tryz.r28 Tryz.f28 Tryz.i28 = true := by kernel_rfl

/- pinball/pinballref11.near -/
def Tryz.i29 : IFunc := ⟨2, 29, [.tmp 4],
  .seq (.region false [⟨some 2, .box (.t 0) [5, 11, 17, 24], none, []⟩,
   ⟨some 4, .mov (.c (.bool false)), none, []⟩])
  (.seq (.region false [⟨some 5, .adr 2 2 0, none, []⟩,
   ⟨some 6, .ld 5 2 1 true, none, []⟩,
   ⟨some 7, .mov (.t 1), none, []⟩,
   ⟨some 8, .un .neg (.t 7), none, []⟩,
   ⟨some 9, .bin .geq (.t 6) (.t 8), none, []⟩,
   ⟨some 10, .mov (.t 9), none, []⟩,
   ⟨some 11, .adr 2 2 0, some (10, true), []⟩,
   ⟨some 12, .ld 11 2 1 true, some (10, true), []⟩,
   ⟨some 13, .mov (.t 1), some (10, true), []⟩,
   ⟨some 14, .bin .leq (.t 12) (.t 13), some (10, true), []⟩,
   ⟨some 15, .pick (.t 10) (.t 14) (.c (.bool false)), none, []⟩,
   ⟨some 16, .mov (.t 15), none, []⟩,
   ⟨some 17, .adr 2 2 1, some (16, true), []⟩,
   ⟨some 18, .ld 17 2 1 true, some (16, true), []⟩,
   ⟨some 19, .mov (.t 1), some (16, true), []⟩,
   ⟨some 20, .un .neg (.t 19), some (16, true), []⟩,
   ⟨some 21, .bin .geq (.t 18) (.t 20), some (16, true), []⟩,
   ⟨some 22, .pick (.t 16) (.t 21) (.c (.bool false)), none, []⟩,
   ⟨some 23, .mov (.t 22), none, []⟩,
   ⟨some 24, .adr 2 2 1, some (23, true), []⟩,
   ⟨some 25, .ld 24 2 1 true, some (23, true), []⟩,
   ⟨some 26, .mov (.t 1), some (23, true), []⟩,
   ⟨some 27, .bin .leq (.t 25) (.t 26), some (23, true), []⟩,
   ⟨some 28, .pick (.t 23) (.t 27) (.c (.bool false)), none, []⟩,
   ⟨some 4, .mov (.t 28), none, []⟩])
  (.ret))⟩
def Tryz.r29 : List (Nat × Nat) := [(5, 2), (11, 2), (17, 2), (24, 2)]
theorem Tryz.i29_ok : fnOk Tryz.prog Tryz.r29 Tryz.f29 Tryz.i29 = true := by kernel_rfl

/- pinball/pinballref06.Sub -/
def Tryz.i30 : IFunc := ⟨2, 26, [.cell 4 2 false],
  .seq (.region false [⟨some 2, .box (.t 0) [14, 19], none, []⟩,
   ⟨some 3, .box (.t 1) [16, 21], none, []⟩,
   ⟨some 4, .new [.int .i64 0, .int .i64 0] [], none, []⟩])
  (.seq (.seq (.region false [⟨some 5, .ld 2 2 2 false, none, []⟩,
   ⟨some 6, .call 62 [.t 5], none, []⟩,
   ⟨some 7, .un .not (.t 6), none, []⟩,
   ⟨some 8, .mov (.t 7), none, []⟩,
   ⟨some 9, .ld 3 3 2 false, some (8, false), []⟩,
   ⟨some 10, .call 62 [.t 9], some (8, false), []⟩,
   ⟨some 11, .un .not (.t 10), some (8, false), []⟩,
   ⟨some 12, .pick (.t 8) (.c (.bool true)) (.t 11), none, []⟩])
  (.cond (.t 12) (.seq (.region false [⟨some 13, .bld [.int .i64 0, .int .i64 0] [], none, []⟩,
   ⟨none, .st 4 4 2 (.t 13), none, []⟩])
  (.ret))
  (.skip)))
  (.seq (.region false [⟨some 14, .adr 2 2 0, none, []⟩,
   ⟨some 15, .ld 14 2 1 true, none, []⟩,
   ⟨some 16, .adr 3 3 0, none, []⟩,
   ⟨some 17, .ld 16 3 1 true, none, []⟩,
   ⟨some 18, .bin .sub (.t 15) (.t 17), none, []⟩,
   ⟨some 19, .adr 2 2 1, none, []⟩,
   ⟨some 20, .ld 19 2 1 true, none, []⟩,
   ⟨some 21, .adr 3 3 1, none, []⟩,
   ⟨some 22, .ld 21 3 1 true, none, []⟩,
   ⟨some 23, .bin .sub (.t 20) (.t 22), none, []⟩,
   ⟨some 24, .bld [.int .i64 0, .int .i64 0] [(0, 1, .t 18), (1, 1, .t 23)], none, []⟩,
   ⟨some 25, .call 63 [.t 24], none, []⟩,
   ⟨none, .st 4 4 2 (.t 25), none, []⟩])
  (.ret)))⟩
def Tryz.r30 : List (Nat × Nat) := [(14, 2), (16, 3), (19, 2), (21, 3)]
theorem Tryz.i30_ok : fnOk Tryz.prog Tryz.r30 Tryz.f30 Tryz.i30 = true := by kernel_rfl

/- pinball/pinballref06.Dot -/
def Tryz.i31 : IFunc := ⟨2, 24, [.tmp 4],
  .seq (.region false [⟨some 2, .box (.t 0) [13, 18], none, []⟩,
   ⟨some 3, .box (.t 1) [15, 20], none, []⟩,
   ⟨some 4, .mov (.c (.int .i64 0)), none, []⟩])
  (.seq (.seq (.region false [⟨some 5, .ld 2 2 2 false, none, []⟩,
   ⟨some 6, .call 62 [.t 5], none, []⟩,
   ⟨some 7, .un .not (.t 6), none, []⟩,
   ⟨some 8, .mov (.t 7), none, []⟩,
   ⟨some 9, .ld 3 3 2 false, some (8, false), []⟩,
   ⟨some 10, .call 62 [.t 9], some (8, false), []⟩,
   ⟨some 11, .un .not (.t 10), some (8, false), []⟩,
   ⟨some 12, .pick (.t 8) (.c (.bool true)) (.t 11), none, []⟩])
  (.cond (.t 12) (.seq (.region false [⟨some 4, .mov (.c (.int .i64 0)), none, []⟩])
  (.ret))
  (.skip)))
  (.seq (.region false [⟨some 13, .adr 2 2 0, none, []⟩,
   ⟨some 14, .ld 13 2 1 true, none, []⟩,
   ⟨some 15, .adr 3 3 0, none, []⟩,
   ⟨some 16, .ld 15 3 1 true, none, []⟩,
   ⟨some 17, .bin .mul (.t 14) (.t 16), none, []⟩,
   ⟨some 18, .adr 2 2 1, none, []⟩,
   ⟨some 19, .ld 18 2 1 true, none, []⟩,
   ⟨some 20, .adr 3 3 1, none, []⟩,
   ⟨some 21, .ld 20 3 1 true, none, []⟩,
   ⟨some 22, .bin .mul (.t 19) (.t 21), none, []⟩,
   ⟨some 23, .bin .add (.t 17) (.t 22), none, []⟩,
   ⟨some 4, .mov (.t 23), none, []⟩])
  (.ret)))⟩
def Tryz.r31 : List (Nat × Nat) := [(13, 2), (15, 3), (18, 2), (20, 3)]
theorem Tryz.i31_ok : fnOk Tryz.prog Tryz.r31 Tryz.f31 Tryz.i31 = true := by kernel_rfl

/- pinball/vector.Cross -/
def Tryz.i32 : IFunc := ⟨2, 24, [.tmp 4],
  .seq (.region false [⟨some 2, .box (.t 0) [13, 18], none, []⟩,
   ⟨some 3, .box (.t 1) [15, 20], none, []⟩,
   ⟨some 4, .mov (.c (.int .i64 0)), none, []⟩])
  (.seq (.seq (.region false [⟨some 5, .ld 2 2 2 false, none, []⟩,
   ⟨some 6, .call 57 [.t 5], none, []⟩,
   ⟨some 7, .un .not (.t 6), none, []⟩,
   ⟨some 8, .mov (.t 7), none, []⟩,
   ⟨some 9, .ld 3 3 2 false, some (8, false), []⟩,
   ⟨some 10, .call 57 [.t 9], some (8, false), []⟩,
   ⟨some 11, .un .not (.t 10), some (8, false), []⟩,
   ⟨some 12, .pick (.t 8) (.c (.bool true)) (.t 11), none, []⟩])
  (.cond (.t 12) (.seq (.region false [⟨some 4, .mov (.c (.int .i64 0)), none, []⟩])
  (.ret))
  (.skip)))
  (.seq (.region false [⟨some 13, .adr 2 2 0, none, []⟩,
   ⟨some 14, .ld 13 2 1 true, none, []⟩,
   ⟨some 15, .adr 3 3 1, none, []⟩,
   ⟨some 16, .ld 15 3 1 true, none, []⟩,
   ⟨some 17, .bin .mul (.t 14) (.t 16), none, []⟩,
   ⟨some 18, .adr 2 2 1, none, []⟩,
   ⟨some 19, .ld 18 2 1 true, none, []⟩,
   ⟨some 20, .adr 3 3 0, none, []⟩,
   ⟨some 21, .ld 20 3 1 true, none, []⟩,
   ⟨some 22, .bin .mul (.t 19) (.t 21), none, []⟩,
   ⟨some 23, .bin .sub (.t 17) (.t 22), none, []⟩,
   ⟨some 4, .mov (.t 23), none, []⟩])
  (.ret)))⟩
def Tryz.r32 : List (Nat × Nat) := [(13, 2), (15, 3), (18, 2), (20, 3)]
theorem Tryz.i32_ok : fnOk Tryz.prog Tryz.r32 Tryz.f32 Tryz.i32 = true := by kernel_rfl

/- pinball/wall.below -/
def Tryz.i33 : IFunc := ⟨3, 42, [.tmp 6],
  .seq (.region false [⟨some 6, .mov (.c (.bool false)), none, []⟩])
  (.seq (.region false [⟨some 12, .mov (.t 0), none, []⟩,
   ⟨some 13, .cv .u64 (.t 12), none, []⟩,
   ⟨some 14, .mov (.t 0), none, []⟩,
   ⟨some 15, .cv .u64 (.t 14), none, []⟩,
   ⟨some 16, .call 64 [.t 13, .t 15], none, []⟩,
   ⟨some 11, .mov (.t 16), none, []⟩,
   ⟨some 17, .ext (.t 11) 0, none, []⟩,
   ⟨some 18, .ext (.t 11) 1, none, []⟩,
   ⟨some 7, .mov (.t 17), none, []⟩,
   ⟨some 8, .mov (.t 18), none, []⟩])
  (.seq (.region false [⟨some 20, .mov (.t 1), none, []⟩,
   ⟨some 21, .mov (.t 1), none, []⟩,
   ⟨some 22, .bin .mul (.t 20) (.t 21), none, []⟩,
   ⟨some 23, .cv .u64 (.t 22), none, []⟩,
   ⟨some 24, .mov (.t 2), none, []⟩,
   ⟨some 25, .cv .u64 (.t 24), none, []⟩,
   ⟨some 26, .call 64 [.t 23, .t 25], none, []⟩,
   ⟨some 19, .mov (.t 26), none, []⟩,
   ⟨some 27, .ext (.t 19) 0, none, []⟩,
   ⟨some 28, .ext (.t 19) 1, none, []⟩,
   ⟨some 9, .mov (.t 27), none, []⟩,
   ⟨some 10, .mov (.t 28), none, []⟩])
  (.seq (.region false [⟨some 29, .mov (.t 7), none, []⟩,
   ⟨some 30, .mov (.t 9), none, []⟩,
   ⟨some 31, .bin .lss (.t 29) (.t 30), none, []⟩,
   ⟨some 32, .mov (.t 31), none, []⟩,
   ⟨some 33, .mov (.t 7), some (32, false), []⟩,
   ⟨some 34, .mov (.t 9), some (32, false), []⟩,
   ⟨some 35, .bin .eql (.t 33) (.t 34), some (32, false), []⟩,
   ⟨some 36, .mov (.t 35), some (32, false), []⟩,
   ⟨some 37, .mov (.t 8), some (36, true), []⟩,
   ⟨some 38, .mov (.t 10), some (36, true), []⟩,
   ⟨some 39, .bin .lss (.t 37) (.t 38), some (36, true), []⟩,
   ⟨some 40, .pick (.t 36) (.t 39) (.c (.bool false)), some (32, false), []⟩,
   ⟨some 41, .pick (.t 32) (.c (.bool true)) (.t 40), none, []⟩,
   ⟨some 6, .mov (.t 41), none, []⟩])
  (.ret))))⟩
def Tryz.r33 : List (Nat × Nat) := []
theorem Tryz.i33_ok : fnOk Tryz.prog Tryz.r33 Tryz.f33 Tryz.i33 = true := by kernel_rfl

/- pinball/pinballref01.Of -/
def Tryz.i34 : IFunc := ⟨1, 19, [.cell 2 2 false],
  .seq (.region false [⟨some 2, .new [.bool false, .sl 0 []] [], none, []⟩])
  (.seq (.region false [⟨some 4, .mov (.t 0), none, []⟩,
   ⟨some 5, .cv .u64 (.t 4), none, []⟩,
   ⟨some 3, .mov (.t 5), none, []⟩])
  (.seq (.seq (.region false [⟨some 6, .mov (.t 0), none, []⟩,
   ⟨some 7, .bin .lss (.t 6) (.c (.int .i64 0)), none, []⟩])
  (.cond (.t 7) (.region false [⟨some 8, .mov (.t 3), none, []⟩,
   ⟨some 9, .un .neg (.t 8), none, []⟩,
   ⟨some 3, .mov (.t 9), none, []⟩])
  (.skip)))
  (.seq (.region false [⟨some 10, .mov (.t 0), none, []⟩,
   ⟨some 11, .bin .lss (.t 10) (.c (.int .i64 0)), none, []⟩,
   ⟨some 12, .mov (.t 3), none, []⟩,
   ⟨some 13, .cv .u32 (.t 12), none, []⟩,
   ⟨some 14, .mov (.t 3), none, []⟩,
   ⟨some 15, .bin .shr (.t 14) (.c (.int .u64 32)), none, []⟩,
   ⟨some 16, .cv .u32 (.t 15), none, []⟩,
   ⟨some 17, .bls 2 [.int .u32 0, .int .u32 0] [(0, 1, .t 13), (1, 1, .t 16)], none, []⟩,
   ⟨some 18, .call 65 [.t 11, .t 17], none, []⟩,
   ⟨none, .st 2 2 2 (.t 18), none, []⟩])
  (.ret))))⟩
def Tryz.r34 : List (Nat × Nat) := []
theorem Tryz.i34_ok : fnOk Tryz.prog Tryz.r34 Tryz.f34 Tryz.i34 = true := by kernel_rfl

/- pinball/pinballref06.Cross -/
def Tryz.i35 : IFunc := ⟨2, 24, [.tmp 4],
  .seq (.region false [⟨some 2, .box (.t 0) [13, 18], none, []⟩,
   ⟨some 3, .box (.t 1) [15, 20], none, []⟩,
   ⟨some 4, .mov (.c (.int .i64 0)), none, []⟩])
  (.seq (.seq (.region false [⟨some 5, .ld 2 2 2 false, none, []⟩,
   ⟨some 6, .call 62 [.t 5], none, []⟩,
   ⟨some 7, .un .not (.t 6), none, []⟩,
   ⟨some 8, .mov (.t 7), none, []⟩,
   ⟨some 9, .ld 3 3 2 false, some (8, false), []⟩,
   ⟨some 10, .call 62 [.t 9], some (8, false), []⟩,
   ⟨some 11, .un .not (.t 10), some (8, false), []⟩,
   ⟨some 12, .pick (.t 8) (.c (.bool true)) (.t 11), none, []⟩])
  (.cond (.t 12) (.seq (.region false [⟨some 4, .mov (.c (.int .i64 0)), none, []⟩])
  (.ret))
  (.skip)))
  (.seq (.region false [⟨some 13, .adr 2 2 0, none, []⟩,
   ⟨some 14, .ld 13 2 1 true, none, []⟩,
   ⟨some 15, .adr 3 3 1, none, []⟩,
   ⟨some 16, .ld 15 3 1 true, none, []⟩,
   ⟨some 17, .bin .mul (.t 14) (.t 16), none, []⟩,
   ⟨some 18, .adr 2 2 1, none, []⟩,
   ⟨some 19, .ld 18 2 1 true, none, []⟩,
   ⟨some 20, .adr 3 3 0, none, []⟩,
   ⟨some 21, .ld 20 3 1 true, none, []⟩,
   ⟨some 22, .bin .mul (.t 19) (.t 21), none, []⟩,
   ⟨some 23, .bin .sub (.t 17) (.t 22), none, []⟩,
   ⟨some 4, .mov (.t 23), none, []⟩])
  (.ret)))⟩
def Tryz.r35 : List (Nat × Nat) := [(13, 2), (15, 3), (18, 2), (20, 3)]
theorem Tryz.i35_ok : fnOk Tryz.prog Tryz.r35 Tryz.f35 Tryz.i35 = true := by kernel_rfl

/- pinball/pinballref01.Cmp -/
def Tryz.i36 : IFunc := ⟨2, 32, [.tmp 4],
  .seq (.region false [⟨some 2, .box (.t 0) [20], none, []⟩,
   ⟨some 3, .box (.t 1) [23], none, []⟩,
   ⟨some 4, .mov (.c (.int .i64 0)), none, []⟩])
  (.seq (.region true [⟨some 8, .ld 2 2 2 false, none, []⟩,
   ⟨some 9, .call 55 [.t 8], none, []⟩,
   ⟨some 10, .ld 3 3 2 false, none, []⟩,
   ⟨some 11, .call 55 [.t 10], none, []⟩,
   ⟨some 5, .mov (.t 9), none, []⟩,
   ⟨some 6, .mov (.t 11), none, []⟩])
  (.seq (.block 0 (.seq (.region false [⟨some 13, .mov (.t 5), none, []⟩,
   ⟨some 14, .mov (.t 6), none, []⟩,
   ⟨some 15, .bin .lss (.t 13) (.t 14), none, []⟩,
   ⟨some 12, .mov (.t 15), none, []⟩])
  (.cond (.t 12) (.seq (.region false [⟨some 4, .mov (.c (.int .i64 (-1))), none, []⟩])
  (.ret))
  (.seq (.region false [⟨some 17, .mov (.t 5), none, []⟩,
   ⟨some 18, .mov (.t 6), none, []⟩,
   ⟨some 19, .bin .gtr (.t 17) (.t 18), none, []⟩,
   ⟨some 16, .mov (.t 19), none, []⟩])
  (.cond (.t 16) (.seq (.region false [⟨some 4, .mov (.c (.int .i64 1)), none, []⟩])
  (.ret))
  (.skip))))))
  (.seq (.region true [⟨some 20, .adr 2 2 1, none, []⟩,
   ⟨some 21, .ld 20 2 1 true, none, []⟩,
   ⟨some 22, .call 67 [.t 21], none, []⟩,
   ⟨some 23, .adr 3 3 1, none, []⟩,
   ⟨some 24, .ld 23 3 1 true, none, []⟩,
   ⟨some 25, .call 67 [.t 24], none, []⟩,
   ⟨some 26, .call 66 [.t 22, .t 25], none, []⟩,
   ⟨some 7, .mov (.t 26), none, []⟩])
  (.seq (.seq (.region false [⟨some 27, .mov (.t 5), none, []⟩,
   ⟨some 28, .bin .lss (.t 27) (.c (.int .i64 0)), none, []⟩])
  (.cond (.t 28) (.seq (.region false [⟨some 29, .mov (.t 7), none, []⟩,
   ⟨some 30, .un .neg (.t 29), none, []⟩,
   ⟨some 4, .mov (.t 30), none, []⟩])
  (.ret))
  (.skip)))
  (.seq (.region false [⟨some 31, .mov (.t 7), none, []⟩,
   ⟨some 4, .mov (.t 31), none, []⟩])
  (.ret))))))⟩
def Tryz.r36 : List (Nat × Nat) := [(20, 2), (23, 3)]
theorem Tryz.i36_ok : fnOk Tryz.prog Tryz.r36 Tryz.f36 Tryz.i36 = true := by kernel_rfl

/- pinball/pinballref01.Times -/
def Tryz.i37 : IFunc := ⟨2, 18, [.cell 4 2 false],
  .seq (.region false [⟨some 2, .box (.t 0) [5, 10], none, []⟩,
   ⟨some 3, .box (.t 1) [7, 13], none, []⟩,
   ⟨some 4, .new [.bool false, .sl 0 []] [], none, []⟩])
  (.seq (.region true [⟨some 5, .adr 2 2 0, none, []⟩,
   ⟨some 6, .ld 5 2 1 true, none, []⟩,
   ⟨some 7, .adr 3 3 0, none, []⟩,
   ⟨some 8, .ld 7 3 1 true, none, []⟩,
   ⟨some 9, .eqb true (.t 6) (.t 8), none, []⟩,
   ⟨some 10, .adr 2 2 1, none, []⟩,
   ⟨some 11, .ld 10 2 1 true, none, []⟩,
   ⟨some 12, .call 67 [.t 11], none, []⟩,
   ⟨some 13, .adr 3 3 1, none, []⟩,
   ⟨some 14, .ld 13 3 1 true, none, []⟩,
   ⟨some 15, .call 67 [.t 14], none, []⟩,
   ⟨some 16, .call 68 [.t 12, .t 15], none, []⟩,
   ⟨some 17, .call 65 [.t 9, .t 16], none, []⟩,
   ⟨none, .st 4 4 2 (.t 17), none, []⟩])
  (.ret))⟩
def Tryz.r37 : List (Nat × Nat) := [(5, 2), (7, 3), (10, 2), (13, 3)]
theorem Tryz.i37_ok : fnOk Tryz.prog Tryz.r37 Tryz.f37 Tryz.i37 = true := by kernel_rfl

/- pinball/vector.Halve -/
def Tryz.i38 : IFunc := ⟨1, 27, [.cell 2 2 false],
  .seq (.region false [⟨some 1, .box (.t 0) [7, 9, 12, 14, 19, 22], none, []⟩,
   ⟨some 2, .new [.int .i64 0, .int .i64 0] [], none, []⟩])
  (.seq (.seq (.region false [⟨some 3, .ld 1 1 2 false, none, []⟩,
   ⟨some 4, .call 57 [.t 3], none, []⟩,
   ⟨some 5, .un .not (.t 4), none, []⟩])
  (.cond (.t 5) (.seq (.region false [⟨some 6, .bld [.int .i64 0, .int .i64 0] [], none, []⟩,
   ⟨none, .st 2 2 2 (.t 6), none, []⟩])
  (.ret))
  (.skip)))
  (.seq (.block 0 (.loop (.seq (.seq (.region false [⟨some 7, .adr 1 1 0, none, []⟩,
   ⟨some 8, .ld 7 1 1 true, none, []⟩,
   ⟨some 9, .adr 1 1 0, none, []⟩,
   ⟨some 10, .ld 9 1 1 true, none, []⟩,
   ⟨some 11, .un .neg (.t 10), none, []⟩,
   ⟨some 12, .adr 1 1 1, none, []⟩,
   ⟨some 13, .ld 12 1 1 true, none, []⟩,
   ⟨some 14, .adr 1 1 1, none, []⟩,
   ⟨some 15, .ld 14 1 1 true, none, []⟩,
   ⟨some 16, .un .neg (.t 15), none, []⟩,
   ⟨some 17, .mx [.t 8, .t 11, .t 13, .t 16], none, []⟩,
   ⟨some 18, .bin .gtr (.t 17) (.c (.int .i64 2097152)), none, []⟩])
  (.cond (.t 18) (.skip)
  (.exit 0)))
  (.block 1 (.region false [⟨some 19, .adr 1 1 0, none, []⟩,
   ⟨some 20, .ld 19 1 1 true, none, []⟩,
   ⟨some 21, .bin .quo (.t 20) (.c (.int .i64 2)), none, []⟩,
   ⟨some 22, .adr 1 1 1, none, []⟩,
   ⟨some 23, .ld 22 1 1 true, none, []⟩,
   ⟨some 24, .bin .quo (.t 23) (.c (.int .i64 2)), none, []⟩,
   ⟨some 25, .bld [.int .i64 0, .int .i64 0] [(0, 1, .t 21), (1, 1, .t 24)], none, []⟩,
   ⟨none, .st 1 1 2 (.t 25), none, []⟩])))))
  (.seq (.region false [⟨some 26, .ld 1 1 2 false, none, []⟩,
   ⟨none, .st 2 2 2 (.t 26), none, []⟩])
  (.ret))))⟩
def Tryz.r38 : List (Nat × Nat) := [(7, 1), (9, 1), (12, 1), (14, 1), (19, 1), (22, 1)]
theorem Tryz.i38_ok : fnOk Tryz.prog Tryz.r38 Tryz.f38 Tryz.i38 = true := by kernel_rfl

/- pinball/vector.Scale -/
def Tryz.i39 : IFunc := ⟨2, 32, [.cell 4 2 false],
  .seq (.region false [⟨some 2, .box (.t 0) [22, 26], none, []⟩,
   ⟨some 4, .new [.int .i64 0, .int .i64 0] [], none, []⟩])
  (.seq (.seq (.region false [⟨some 5, .ld 2 2 2 false, none, []⟩,
   ⟨some 6, .call 57 [.t 5], none, []⟩,
   ⟨some 7, .un .not (.t 6), none, []⟩,
   ⟨some 8, .mov (.t 7), none, []⟩,
   ⟨some 9, .ld 2 2 2 false, some (8, false), []⟩,
   ⟨some 10, .bld [.int .i64 0, .int .i64 0] [], some (8, false), []⟩,
   ⟨some 11, .eqv false 2 (.t 9) (.t 10), some (8, false), []⟩,
   ⟨some 12, .pick (.t 8) (.c (.bool true)) (.t 11), none, []⟩,
   ⟨some 13, .mov (.t 12), none, []⟩,
   ⟨some 14, .mov (.t 1), some (13, false), []⟩,
   ⟨some 15, .bin .lss (.t 14) (.c (.int .i64 (-1073741824))), some (13, false), []⟩,
   ⟨some 16, .pick (.t 13) (.c (.bool true)) (.t 15), none, []⟩,
   ⟨some 17, .mov (.t 16), none, []⟩,
   ⟨some 18, .mov (.t 1), some (17, false), []⟩,
   ⟨some 19, .bin .gtr (.t 18) (.c (.int .i64 1073741824)), some (17, false), []⟩,
   ⟨some 20, .pick (.t 17) (.c (.bool true)) (.t 19), none, []⟩])
  (.cond (.t 20) (.seq (.region false [⟨some 21, .bld [.int .i64 0, .int .i64 0] [], none, []⟩,
   ⟨none, .st 4 4 2 (.t 21), none, []⟩])
  (.ret))
  (.skip)))
  (.seq (.region false [⟨some 22, .adr 2 2 0, none, []⟩,
   ⟨some 23, .ld 22 2 1 true, none, []⟩,
   ⟨some 24, .mov (.t 1), none, []⟩,
   ⟨some 25, .bin .mul (.t 23) (.t 24), none, []⟩,
   ⟨some 26, .adr 2 2 1, none, []⟩,
   ⟨some 27, .ld 26 2 1 true, none, []⟩,
   ⟨some 28, .mov (.t 1), none, []⟩,
   ⟨some 29, .bin .mul (.t 27) (.t 28), none, []⟩,
   ⟨some 30, .bld [.int .i64 0, .int .i64 0] [(0, 1, .t 25), (1, 1, .t 29)], none, []⟩,
   ⟨some 31, .call 61 [.t 30], none, []⟩,
   ⟨none, .st 4 4 2 (.t 31), none, []⟩])
  (.ret)))⟩
def Tryz.r39 : List (Nat × Nat) := [(22, 2), (26, 2)]
theorem Tryz.i39_ok : fnOk Tryz.prog Tryz.r39 Tryz.f39 Tryz.i39 = true := by kernel_rfl

/- pinball/pinballref06.Halve -/
def Tryz.i40 : IFunc := ⟨1, 31, [.cell 2 2 false],
  .seq (.region false [⟨some 1, .box (.t 0) [7, 9, 15, 17, 23, 26], none, []⟩,
   ⟨some 2, .new [.int .i64 0, .int .i64 0] [], none, []⟩])
  (.seq (.seq (.region false [⟨some 3, .ld 1 1 2 false, none, []⟩,
   ⟨some 4, .call 62 [.t 3], none, []⟩,
   ⟨some 5, .un .not (.t 4), none, []⟩])
  (.cond (.t 5) (.seq (.region false [⟨some 6, .bld [.int .i64 0, .int .i64 0] [], none, []⟩,
   ⟨none, .st 2 2 2 (.t 6), none, []⟩])
  (.ret))
  (.skip)))
  (.seq (.block 0 (.loop (.seq (.seq (.region false [⟨some 7, .adr 1 1 0, none, []⟩,
   ⟨some 8, .ld 7 1 1 true, none, []⟩,
   ⟨some 9, .adr 1 1 0, none, []⟩,
   ⟨some 10, .ld 9 1 1 true, none, []⟩,
   ⟨some 11, .un .neg (.t 10), none, []⟩,
   ⟨some 12, .mx [.t 8, .t 11], none, []⟩,
   ⟨some 13, .bin .gtr (.t 12) (.c (.int .i64 2097152)), none, []⟩,
   ⟨some 14, .mov (.t 13), none, []⟩,
   ⟨some 15, .adr 1 1 1, some (14, false), []⟩,
   ⟨some 16, .ld 15 1 1 true, some (14, false), []⟩,
   ⟨some 17, .adr 1 1 1, some (14, false), []⟩,
   ⟨some 18, .ld 17 1 1 true, some (14, false), []⟩,
   ⟨some 19, .un .neg (.t 18), some (14, false), []⟩,
   ⟨some 20, .mx [.t 16, .t 19], some (14, false), []⟩,
   ⟨some 21, .bin .gtr (.t 20) (.c (.int .i64 2097152)), some (14, false), []⟩,
   ⟨some 22, .pick (.t 14) (.c (.bool true)) (.t 21), none, []⟩])
  (.cond (.t 22) (.skip)
  (.exit 0)))
  (.block 1 (.region false [⟨some 23, .adr 1 1 0, none, []⟩,
   ⟨some 24, .ld 23 1 1 true, none, []⟩,
   ⟨some 25, .bin .quo (.t 24) (.c (.int .i64 2)), none, []⟩,
   ⟨some 26, .adr 1 1 1, none, []⟩,
   ⟨some 27, .ld 26 1 1 true, none, []⟩,
   ⟨some 28, .bin .quo (.t 27) (.c (.int .i64 2)), none, []⟩,
   ⟨some 29, .bld [.int .i64 0, .int .i64 0] [(0, 1, .t 25), (1, 1, .t 28)], none, []⟩,
   ⟨none, .st 1 1 2 (.t 29), none, []⟩])))))
  (.seq (.region false [⟨some 30, .ld 1 1 2 false, none, []⟩,
   ⟨none, .st 2 2 2 (.t 30), none, []⟩])
  (.ret))))⟩
def Tryz.r40 : List (Nat × Nat) := [(7, 1), (9, 1), (15, 1), (17, 1), (23, 1), (26, 1)]
theorem Tryz.i40_ok : fnOk Tryz.prog Tryz.r40 Tryz.f40 Tryz.i40 = true := by kernel_rfl

/- pinball/pinballref06.Scale -/
def Tryz.i41 : IFunc := ⟨2, 32, [.cell 4 2 false],
  .seq (.region false [⟨some 2, .box (.t 0) [22, 26], none, []⟩,
   ⟨some 4, .new [.int .i64 0, .int .i64 0] [], none, []⟩])
  (.seq (.seq (.region false [⟨some 5, .ld 2 2 2 false, none, []⟩,
   ⟨some 6, .call 62 [.t 5], none, []⟩,
   ⟨some 7, .un .not (.t 6), none, []⟩,
   ⟨some 8, .mov (.t 7), none, []⟩,
   ⟨some 9, .ld 2 2 2 false, some (8, false), []⟩,
   ⟨some 10, .bld [.int .i64 0, .int .i64 0] [], some (8, false), []⟩,
   ⟨some 11, .eqv false 2 (.t 9) (.t 10), some (8, false), []⟩,
   ⟨some 12, .pick (.t 8) (.c (.bool true)) (.t 11), none, []⟩,
   ⟨some 13, .mov (.t 12), none, []⟩,
   ⟨some 14, .mov (.t 1), some (13, false), []⟩,
   ⟨some 15, .bin .gtr (.t 14) (.c (.int .i64 2147483648)), some (13, false), []⟩,
   ⟨some 16, .pick (.t 13) (.c (.bool true)) (.t 15), none, []⟩,
   ⟨some 17, .mov (.t 16), none, []⟩,
   ⟨some 18, .mov (.t 1), some (17, false), []⟩,
   ⟨some 19, .bin .lss (.t 18) (.c (.int .i64 (-2147483648))), some (17, false), []⟩,
   ⟨some 20, .pick (.t 17) (.c (.bool true)) (.t 19), none, []⟩])
  (.cond (.t 20) (.seq (.region false [⟨some 21, .bld [.int .i64 0, .int .i64 0] [], none, []⟩,
   ⟨none, .st 4 4 2 (.t 21), none, []⟩])
  (.ret))
  (.skip)))
  (.seq (.region false [⟨some 22, .adr 2 2 0, none, []⟩,
   ⟨some 23, .ld 22 2 1 true, none, []⟩,
   ⟨some 24, .mov (.t 1), none, []⟩,
   ⟨some 25, .bin .mul (.t 23) (.t 24), none, []⟩,
   ⟨some 26, .adr 2 2 1, none, []⟩,
   ⟨some 27, .ld 26 2 1 true, none, []⟩,
   ⟨some 28, .mov (.t 1), none, []⟩,
   ⟨some 29, .bin .mul (.t 27) (.t 28), none, []⟩,
   ⟨some 30, .bld [.int .i64 0, .int .i64 0] [(0, 1, .t 25), (1, 1, .t 29)], none, []⟩,
   ⟨some 31, .call 63 [.t 30], none, []⟩,
   ⟨none, .st 4 4 2 (.t 31), none, []⟩])
  (.ret)))⟩
def Tryz.r41 : List (Nat × Nat) := [(22, 2), (26, 2)]
theorem Tryz.i41_ok : fnOk Tryz.prog Tryz.r41 Tryz.f41 Tryz.i41 = true := by kernel_rfl

/- pinball/vector.Reduce -/
def Tryz.i42 : IFunc := ⟨1, 41, [.cell 2 2 false],
  .seq (.region false [⟨some 1, .box (.t 0) [14, 16, 20, 22, 32, 36], none, []⟩,
   ⟨some 2, .new [.int .i64 0, .int .i64 0] [], none, []⟩])
  (.seq (.seq (.region false [⟨some 5, .ld 1 1 2 false, none, []⟩,
   ⟨some 6, .call 57 [.t 5], none, []⟩,
   ⟨some 7, .un .not (.t 6), none, []⟩,
   ⟨some 8, .mov (.t 7), none, []⟩,
   ⟨some 9, .ld 1 1 2 false, some (8, false), []⟩,
   ⟨some 10, .bld [.int .i64 0, .int .i64 0] [], some (8, false), []⟩,
   ⟨some 11, .eqv false 2 (.t 9) (.t 10), some (8, false), []⟩,
   ⟨some 12, .pick (.t 8) (.c (.bool true)) (.t 11), none, []⟩])
  (.cond (.t 12) (.seq (.region false [⟨some 13, .bld [.int .i64 0, .int .i64 0] [], none, []⟩,
   ⟨none, .st 2 2 2 (.t 13), none, []⟩])
  (.ret))
  (.skip)))
  (.seq (.region true [⟨some 14, .adr 1 1 0, none, []⟩,
   ⟨some 15, .ld 14 1 1 true, none, []⟩,
   ⟨some 16, .adr 1 1 0, none, []⟩,
   ⟨some 17, .ld 16 1 1 true, none, []⟩,
   ⟨some 18, .un .neg (.t 17), none, []⟩,
   ⟨some 19, .mx [.t 15, .t 18], none, []⟩,
   ⟨some 20, .adr 1 1 1, none, []⟩,
   ⟨some 21, .ld 20 1 1 true, none, []⟩,
   ⟨some 22, .adr 1 1 1, none, []⟩,
   ⟨some 23, .ld 22 1 1 true, none, []⟩,
   ⟨some 24, .un .neg (.t 23), none, []⟩,
   ⟨some 25, .mx [.t 21, .t 24], none, []⟩,
   ⟨some 3, .mov (.t 19), none, []⟩,
   ⟨some 4, .mov (.t 25), none, []⟩])
  (.seq (.block 0 (.loop (.seq (.seq (.region false [⟨some 26, .mov (.t 4), none, []⟩,
   ⟨some 27, .bin .gtr (.t 26) (.c (.int .i64 0)), none, []⟩])
  (.cond (.t 27) (.skip)
  (.exit 0)))
  (.block 1 (.region true [⟨some 28, .mov (.t 4), none, []⟩,
   ⟨some 29, .mov (.t 3), none, []⟩,
   ⟨some 30, .mov (.t 4), none, []⟩,
   ⟨some 31, .bin .rem (.t 29) (.t 30), none, []⟩,
   ⟨some 3, .mov (.t 28), none, []⟩,
   ⟨some 4, .mov (.t 31), none, []⟩])))))
  (.seq (.region true [⟨some 32, .adr 1 1 0, none, []⟩,
   ⟨some 33, .ld 32 1 1 true, none, []⟩,
   ⟨some 34, .mov (.t 3), none, []⟩,
   ⟨some 35, .bin .quo (.t 33) (.t 34), none, []⟩,
   ⟨some 36, .adr 1 1 1, none, []⟩,
   ⟨some 37, .ld 36 1 1 true, none, []⟩,
   ⟨some 38, .mov (.t 3), none, []⟩,
   ⟨some 39, .bin .quo (.t 37) (.t 38), none, []⟩,
   ⟨some 40, .bld [.int .i64 0, .int .i64 0] [(0, 1, .t 35), (1, 1, .t 39)], none, []⟩,
   ⟨none, .st 2 2 2 (.t 40), none, []⟩])
  (.ret)))))⟩
def Tryz.r42 : List (Nat × Nat) := [(14, 1), (16, 1), (20, 1), (22, 1), (32, 1), (36, 1)]
theorem Tryz.i42_ok : fnOk Tryz.prog Tryz.r42 Tryz.f42 Tryz.i42 = true := by kernel_rfl

/- pinball/vector.Perp -/
def Tryz.i43 : IFunc := ⟨1, 13, [.cell 2 2 false],
  .seq (.region false [⟨some 1, .box (.t 0) [7, 10], none, []⟩,
   ⟨some 2, .new [.int .i64 0, .int .i64 0] [], none, []⟩])
  (.seq (.seq (.region false [⟨some 3, .ld 1 1 2 false, none, []⟩,
   ⟨some 4, .call 57 [.t 3], none, []⟩,
   ⟨some 5, .un .not (.t 4), none, []⟩])
  (.cond (.t 5) (.seq (.region false [⟨some 6, .bld [.int .i64 0, .int .i64 0] [], none, []⟩,
   ⟨none, .st 2 2 2 (.t 6), none, []⟩])
  (.ret))
  (.skip)))
  (.seq (.region false [⟨some 7, .adr 1 1 1, none, []⟩,
   ⟨some 8, .ld 7 1 1 true, none, []⟩,
   ⟨some 9, .un .neg (.t 8), none, []⟩,
   ⟨some 10, .adr 1 1 0, none, []⟩,
   ⟨some 11, .ld 10 1 1 true, none, []⟩,
   ⟨some 12, .bld [.int .i64 0, .int .i64 0] [(0, 1, .t 9), (1, 1, .t 11)], none, []⟩,
   ⟨none, .st 2 2 2 (.t 12), none, []⟩])
  (.ret)))⟩
def Tryz.r43 : List (Nat × Nat) := [(7, 1), (10, 1)]
theorem Tryz.i43_ok : fnOk Tryz.prog Tryz.r43 Tryz.f43 Tryz.i43 = true := by kernel_rfl

/- pinball/pinballref06.Perp -/
def Tryz.i44 : IFunc := ⟨1, 13, [.cell 2 2 false],
  .seq (.region false [⟨some 1, .box (.t 0) [7, 10], none, []⟩,
   ⟨some 2, .new [.int .i64 0, .int .i64 0] [], none, []⟩])
  (.seq (.seq (.region false [⟨some 3, .ld 1 1 2 false, none, []⟩,
   ⟨some 4, .call 62 [.t 3], none, []⟩,
   ⟨some 5, .un .not (.t 4), none, []⟩])
  (.cond (.t 5) (.seq (.region false [⟨some 6, .bld [.int .i64 0, .int .i64 0] [], none, []⟩,
   ⟨none, .st 2 2 2 (.t 6), none, []⟩])
  (.ret))
  (.skip)))
  (.seq (.region false [⟨some 7, .adr 1 1 1, none, []⟩,
   ⟨some 8, .ld 7 1 1 true, none, []⟩,
   ⟨some 9, .un .neg (.t 8), none, []⟩,
   ⟨some 10, .adr 1 1 0, none, []⟩,
   ⟨some 11, .ld 10 1 1 true, none, []⟩,
   ⟨some 12, .bld [.int .i64 0, .int .i64 0] [(0, 1, .t 9), (1, 1, .t 11)], none, []⟩,
   ⟨none, .st 2 2 2 (.t 12), none, []⟩])
  (.ret)))⟩
def Tryz.r44 : List (Nat × Nat) := [(7, 1), (10, 1)]
theorem Tryz.i44_ok : fnOk Tryz.prog Tryz.r44 Tryz.f44 Tryz.i44 = true := by kernel_rfl

/- pinball/pinballref06.Reduce -/
def Tryz.i45 : IFunc := ⟨1, 41, [.cell 2 2 false],
  .seq (.region false [⟨some 1, .box (.t 0) [14, 16, 20, 22, 32, 36], none, []⟩,
   ⟨some 2, .new [.int .i64 0, .int .i64 0] [], none, []⟩])
  (.seq (.seq (.region false [⟨some 5, .ld 1 1 2 false, none, []⟩,
   ⟨some 6, .call 62 [.t 5], none, []⟩,
   ⟨some 7, .un .not (.t 6), none, []⟩,
   ⟨some 8, .mov (.t 7), none, []⟩,
   ⟨some 9, .ld 1 1 2 false, some (8, false), []⟩,
   ⟨some 10, .bld [.int .i64 0, .int .i64 0] [], some (8, false), []⟩,
   ⟨some 11, .eqv false 2 (.t 9) (.t 10), some (8, false), []⟩,
   ⟨some 12, .pick (.t 8) (.c (.bool true)) (.t 11), none, []⟩])
  (.cond (.t 12) (.seq (.region false [⟨some 13, .bld [.int .i64 0, .int .i64 0] [], none, []⟩,
   ⟨none, .st 2 2 2 (.t 13), none, []⟩])
  (.ret))
  (.skip)))
  (.seq (.region true [⟨some 14, .adr 1 1 0, none, []⟩,
   ⟨some 15, .ld 14 1 1 true, none, []⟩,
   ⟨some 16, .adr 1 1 0, none, []⟩,
   ⟨some 17, .ld 16 1 1 true, none, []⟩,
   ⟨some 18, .un .neg (.t 17), none, []⟩,
   ⟨some 19, .mx [.t 15, .t 18], none, []⟩,
   ⟨some 20, .adr 1 1 1, none, []⟩,
   ⟨some 21, .ld 20 1 1 true, none, []⟩,
   ⟨some 22, .adr 1 1 1, none, []⟩,
   ⟨some 23, .ld 22 1 1 true, none, []⟩,
   ⟨some 24, .un .neg (.t 23), none, []⟩,
   ⟨some 25, .mx [.t 21, .t 24], none, []⟩,
   ⟨some 3, .mov (.t 19), none, []⟩,
   ⟨some 4, .mov (.t 25), none, []⟩])
  (.seq (.block 0 (.loop (.seq (.seq (.region false [⟨some 26, .mov (.t 4), none, []⟩,
   ⟨some 27, .bin .gtr (.t 26) (.c (.int .i64 0)), none, []⟩])
  (.cond (.t 27) (.skip)
  (.exit 0)))
  (.block 1 (.region true [⟨some 28, .mov (.t 4), none, []⟩,
   ⟨some 29, .mov (.t 3), none, []⟩,
   ⟨some 30, .mov (.t 4), none, []⟩,
   ⟨some 31, .bin .rem (.t 29) (.t 30), none, []⟩,
   ⟨some 3, .mov (.t 28), none, []⟩,
   ⟨some 4, .mov (.t 31), none, []⟩])))))
  (.seq (.region true [⟨some 32, .adr 1 1 0, none, []⟩,
   ⟨some 33, .ld 32 1 1 true, none, []⟩,
   ⟨some 34, .mov (.t 3), none, []⟩,
   ⟨some 35, .bin .quo (.t 33) (.t 34), none, []⟩,
   ⟨some 36, .adr 1 1 1, none, []⟩,
   ⟨some 37, .ld 36 1 1 true, none, []⟩,
   ⟨some 38, .mov (.t 3), none, []⟩,
   ⟨some 39, .bin .quo (.t 37) (.t 38), none, []⟩,
   ⟨some 40, .bld [.int .i64 0, .int .i64 0] [(0, 1, .t 35), (1, 1, .t 39)], none, []⟩,
   ⟨none, .st 2 2 2 (.t 40), none, []⟩])
  (.ret)))))⟩
def Tryz.r45 : List (Nat × Nat) := [(14, 1), (16, 1), (20, 1), (22, 1), (32, 1), (36, 1)]
theorem Tryz.i45_ok : fnOk Tryz.prog Tryz.r45 Tryz.f45 Tryz.i45 = true := by kernel_rfl

/- pinball/pinballref10.near -/
def Tryz.i46 : IFunc := ⟨2, 29, [.tmp 4],
  .seq (.region false [⟨some 2, .box (.t 0) [5, 11, 17, 24], none, []⟩,
   ⟨some 4, .mov (.c (.bool false)), none, []⟩])
  (.seq (.region false [⟨some 5, .adr 2 2 0, none, []⟩,
   ⟨some 6, .ld 5 2 1 true, none, []⟩,
   ⟨some 7, .mov (.t 1), none, []⟩,
   ⟨some 8, .un .neg (.t 7), none, []⟩,
   ⟨some 9, .bin .geq (.t 6) (.t 8), none, []⟩,
   ⟨some 10, .mov (.t 9), none, []⟩,
   ⟨some 11, .adr 2 2 0, some (10, true), []⟩,
   ⟨some 12, .ld 11 2 1 true, some (10, true), []⟩,
   ⟨some 13, .mov (.t 1), some (10, true), []⟩,
   ⟨some 14, .bin .leq (.t 12) (.t 13), some (10, true), []⟩,
   ⟨some 15, .pick (.t 10) (.t 14) (.c (.bool false)), none, []⟩,
   ⟨some 16, .mov (.t 15), none, []⟩,
   ⟨some 17, .adr 2 2 1, some (16, true), []⟩,
   ⟨some 18, .ld 17 2 1 true, some (16, true), []⟩,
   ⟨some 19, .mov (.t 1), some (16, true), []⟩,
   ⟨some 20, .un .neg (.t 19), some (16, true), []⟩,
   ⟨some 21, .bin .geq (.t 18) (.t 20), some (16, true), []⟩,
   ⟨some 22, .pick (.t 16) (.t 21) (.c (.bool false)), none, []⟩,
   ⟨some 23, .mov (.t 22), none, []⟩,
   ⟨some 24, .adr 2 2 1, some (23, true), []⟩,
   ⟨some 25, .ld 24 2 1 true, some (23, true), []⟩,
   ⟨some 26, .mov (.t 1), some (23, true), []⟩,
   ⟨some 27, .bin .leq (.t 25) (.t 26), some (23, true), []⟩,
   ⟨some 28, .pick (.t 23) (.t 27) (.c (.bool false)), none, []⟩,
   ⟨some 4, .mov (.t 28), none, []⟩])
  (.ret))⟩
def Tryz.r46 : List (Nat × Nat) := [(5, 2), (11, 2), (17, 2), (24, 2)]
theorem Tryz.i46_ok : fnOk Tryz.prog Tryz.r46 Tryz.f46 Tryz.i46 = true := by kernel_rfl

/- pinball/wall.relative -/
def Tryz.i47 : IFunc := ⟨2, 23, [.tmp 4, .tmp 5],
  .seq (.region false [⟨some 2, .box (.t 0) [], none, []⟩,
   ⟨some 3, .box (.t 1) [12, 18], none, []⟩,
   ⟨some 4, .nlo 2, none, []⟩,
   ⟨some 5, .nlo 2, none, []⟩])
  (.seq (.region false [⟨some 7, .ld 2 2 6 false, none, []⟩,
   ⟨some 8, .call 69 [.t 7], none, []⟩,
   ⟨some 6, .mov (.t 8), none, []⟩,
   ⟨some 9, .ext (.t 6) 0, none, []⟩,
   ⟨some 10, .ext (.t 6) 1, none, []⟩,
   ⟨some 4, .tra 9, none, []⟩,
   ⟨some 5, .tra 10, none, []⟩])
  (.seq (.region true [⟨some 11, .frz 4, none, []⟩,
   ⟨some 12, .adr 3 3 0, none, []⟩,
   ⟨some 13, .ld 12 3 1 true, none, []⟩,
   ⟨some 14, .bls 1 [.int .i64 0] [(0, 1, .t 13)], none, []⟩,
   ⟨some 15, .call 50 [.t 14], none, []⟩,
   ⟨some 16, .clo 51 [.t 11, .t 15], none, []⟩,
   ⟨some 17, .frz 5, none, []⟩,
   ⟨some 18, .adr 3 3 1, none, []⟩,
   ⟨some 19, .ld 18 3 1 true, none, []⟩,
   ⟨some 20, .bls 1 [.int .i64 0] [(0, 1, .t 19)], none, []⟩,
   ⟨some 21, .call 50 [.t 20], none, []⟩,
   ⟨some 22, .clo 51 [.t 17, .t 21], none, []⟩,
   ⟨some 4, .tra 16, none, []⟩,
   ⟨some 5, .tra 22, none, []⟩])
  (.ret)))⟩
def Tryz.r47 : List (Nat × Nat) := [(12, 3), (18, 3)]
theorem Tryz.i47_ok : fnOk Tryz.prog Tryz.r47 Tryz.f47 Tryz.i47 = true := by kernel_rfl

/- pinball/wall.linear -/
def Tryz.i48 : IFunc := ⟨4, 20, [.tmp 8],
  .seq (.region false [⟨some 8, .nlo 2, none, []⟩])
  (.seq (.region false [⟨some 9, .mov (.t 0), none, []⟩,
   ⟨some 10, .bls 1 [.int .i64 0] [(0, 1, .t 9)], none, []⟩,
   ⟨some 11, .call 50 [.t 10], none, []⟩,
   ⟨some 12, .mov (.t 1), none, []⟩,
   ⟨some 13, .call 49 [.t 11, .t 12], none, []⟩,
   ⟨some 14, .mov (.t 2), none, []⟩,
   ⟨some 15, .bls 1 [.int .i64 0] [(0, 1, .t 14)], none, []⟩,
   ⟨some 16, .call 50 [.t 15], none, []⟩,
   ⟨some 17, .mov (.t 3), none, []⟩,
   ⟨some 18, .call 49 [.t 16, .t 17], none, []⟩,
   ⟨some 19, .clo 70 [.t 13, .t 18], none, []⟩,
   ⟨some 8, .tra 19, none, []⟩])
  (.ret))⟩
def Tryz.r48 : List (Nat × Nat) := []
theorem Tryz.i48_ok : fnOk Tryz.prog Tryz.r48 Tryz.f48 Tryz.i48 = true := by kernel_rfl

/- pinball/algebra.Times -/
def Tryz.i49 : IFunc := ⟨2, 60, [.tmp 4],
  .seq (.region false [⟨some 4, .nlo 2, none, []⟩])
  (.seq (.region false [⟨some 10, .mov (.t 0), none, []⟩,
   ⟨some 11, .call 71 [.t 10], none, []⟩,
   ⟨some 12, .bin .add (.t 11) (.c (.int .i64 1)), none, []⟩,
   ⟨some 13, .mov (.t 1), none, []⟩,
   ⟨some 14, .call 71 [.t 13], none, []⟩,
   ⟨some 15, .bin .add (.t 14) (.c (.int .i64 1)), none, []⟩,
   ⟨some 5, .mov (.t 12), none, []⟩,
   ⟨some 6, .mov (.t 15), none, []⟩])
  (.seq (.seq (.region false [⟨some 16, .mov (.t 5), none, []⟩,
   ⟨some 17, .bin .eql (.t 16) (.c (.int .i64 0)), none, []⟩,
   ⟨some 18, .mov (.t 17), none, []⟩,
   ⟨some 19, .mov (.t 6), some (18, false), []⟩,
   ⟨some 20, .bin .eql (.t 19) (.c (.int .i64 0)), some (18, false), []⟩,
   ⟨some 21, .pick (.t 18) (.c (.bool true)) (.t 20), none, []⟩])
  (.cond (.t 21) (.seq (.region false [⟨some 4, .nlo 2, none, []⟩])
  (.ret))
  (.skip)))
  (.seq (.region false [⟨some 22, .mov (.t 5), none, []⟩,
   ⟨some 23, .mov (.t 6), none, []⟩,
   ⟨some 24, .bin .add (.t 22) (.t 23), none, []⟩,
   ⟨some 25, .bin .sub (.t 24) (.c (.int .i64 1)), none, []⟩,
   ⟨some 26, .mks [.bool false, .sl 0 []] (.t 25), none, []⟩,
   ⟨some 7, .tra 26, none, [37, 41, 45, 57]⟩])
  (.seq (.seq (.region false [⟨some 8, .mov (.c (.int .i64 0)), none, []⟩])
  (.block 0 (.loop (.seq (.seq (.region false [⟨some 27, .mov (.t 8), none, []⟩,
   ⟨some 28, .mov (.t 5), none, []⟩,
   ⟨some 29, .bin .lss (.t 27) (.t 28), none, []⟩])
  (.cond (.t 29) (.skip)
  (.exit 0)))
  (.seq (.block 1 (.seq (.region false [⟨some 9, .mov (.c (.int .i64 0)), none, []⟩])
  (.block 2 (.loop (.seq (.seq (.region false [⟨some 32, .mov (.t 9), none, []⟩,
   ⟨some 33, .mov (.t 6), none, []⟩,
   ⟨some 34, .bin .lss (.t 32) (.t 33), none, []⟩])
  (.cond (.t 34) (.skip)
  (.exit 2)))
  (.seq (.block 3 (.region true [⟨some 37, .cpy 7, none, []⟩,
   ⟨some 38, .mov (.t 8), none, []⟩,
   ⟨some 39, .mov (.t 9), none, []⟩,
   ⟨some 40, .bin .add (.t 38) (.t 39), none, []⟩,
   ⟨some 41, .cpy 7, none, []⟩,
   ⟨some 42, .mov (.t 8), none, []⟩,
   ⟨some 43, .mov (.t 9), none, []⟩,
   ⟨some 44, .bin .add (.t 42) (.t 43), none, []⟩,
   ⟨some 45, .ixo 41 7 (.t 44) 2, none, []⟩,
   ⟨some 46, .ld 45 7 2 false, none, []⟩,
   ⟨some 47, .mov (.t 0), none, []⟩,
   ⟨some 48, .mov (.t 8), none, []⟩,
   ⟨some 49, .ixa 47 (.t 48) 2, none, []⟩,
   ⟨some 50, .ld 49 49 2 false, none, []⟩,
   ⟨some 51, .mov (.t 1), none, []⟩,
   ⟨some 52, .mov (.t 9), none, []⟩,
   ⟨some 53, .ixa 51 (.t 52) 2, none, []⟩,
   ⟨some 54, .ld 53 53 2 false, none, []⟩,
   ⟨some 55, .call 73 [.t 50, .t 54], none, []⟩,
   ⟨some 56, .call 72 [.t 46, .t 55], none, []⟩,
   ⟨some 57, .ixo 37 7 (.t 40) 2, none, []⟩,
   ⟨none, .st 57 7 2 (.t 56), none, []⟩]))
  (.region false [⟨some 35, .mov (.t 9), none, []⟩,
   ⟨some 36, .bin .add (.t 35) (.c (.int .i64 1)), none, []⟩,
   ⟨some 9, .mov (.t 36), none, []⟩])))))))
  (.region false [⟨some 30, .mov (.t 8), none, []⟩,
   ⟨some 31, .bin .add (.t 30) (.c (.int .i64 1)), none, []⟩,
   ⟨some 8, .mov (.t 31), none, []⟩]))))))
  (.seq (.region false [⟨some 58, .frz 7, none, []⟩,
   ⟨some 59, .clo 74 [.t 58], none, []⟩,
   ⟨some 4, .tra 59, none, []⟩])
  (.ret))))))⟩
def Tryz.r49 : List (Nat × Nat) := [(37, 7), (41, 7), (45, 7), (57, 7)]
theorem Tryz.i49_ok : fnOk Tryz.prog Tryz.r49 Tryz.f49 Tryz.i49 = true := by kernel_rfl

/- pinball/algebra.Ints -/
def Tryz.i50 : IFunc := ⟨1, 24, [.tmp 2],
  .seq (.region false [⟨some 2, .nlo 2, none, []⟩])
  (.seq (.region false [⟨some 6, .mov (.t 0), none, []⟩,
   ⟨some 7, .len (.t 6), none, []⟩,
   ⟨some 8, .mks [.bool false, .sl 0 []] (.t 7), none, []⟩,
   ⟨some 3, .tra 8, none, [16, 20]⟩])
  (.seq (.seq (.region false [⟨some 9, .mov (.t 0), none, []⟩,
   ⟨some 10, .len (.t 9), none, []⟩,
   ⟨some 11, .mov (.c (.int .i64 0)), none, []⟩])
  (.block 0 (.loop (.seq (.region false [⟨some 12, .bin .lss (.t 11) (.t 10), none, []⟩])
  (.seq (.cond (.t 12) (.skip)
  (.exit 0))
  (.seq (.block 1 (.seq (.region false [⟨some 13, .mov (.t 11), none, []⟩,
   ⟨some 14, .ixa 9 (.t 11) 1, none, []⟩,
   ⟨some 15, .ld 14 14 1 true, none, []⟩,
   ⟨some 4, .mov (.t 13), none, []⟩,
   ⟨some 5, .mov (.t 15), none, []⟩])
  (.region false [⟨some 16, .cpy 3, none, []⟩,
   ⟨some 17, .mov (.t 4), none, []⟩,
   ⟨some 18, .mov (.t 5), none, []⟩,
   ⟨some 19, .call 75 [.t 18], none, []⟩,
   ⟨some 20, .ixo 16 3 (.t 17) 2, none, []⟩,
   ⟨none, .st 20 3 2 (.t 19), none, []⟩])))
  (.region false [⟨some 21, .bin .add (.t 11) (.c (.int .i64 1)), none, []⟩,
   ⟨some 11, .mov (.t 21), none, []⟩])))))))
  (.seq (.region false [⟨some 22, .frz 3, none, []⟩,
   ⟨some 23, .clo 74 [.t 22], none, []⟩,
   ⟨some 2, .tra 23, none, []⟩])
  (.ret))))⟩
def Tryz.r50 : List (Nat × Nat) := [(16, 3), (20, 3)]
theorem Tryz.i50_ok : fnOk Tryz.prog Tryz.r50 Tryz.f50 Tryz.i50 = true := by kernel_rfl

/- pinball/algebra.Minus -/
def Tryz.i51 : IFunc := ⟨2, 10, [.tmp 4],
  .seq (.region false [⟨some 4, .nlo 2, none, []⟩])
  (.seq (.region false [⟨some 5, .mov (.t 0), none, []⟩,
   ⟨some 6, .mov (.t 1), none, []⟩,
   ⟨some 7, .call 74 [.t 6], none, []⟩,
   ⟨some 8, .call 76 [.t 7], none, []⟩,
   ⟨some 9, .clo 70 [.t 5, .t 8], none, []⟩,
   ⟨some 4, .tra 9, none, []⟩])
  (.ret))⟩
def Tryz.r51 : List (Nat × Nat) := []
theorem Tryz.i51_ok : fnOk Tryz.prog Tryz.r51 Tryz.f51 Tryz.i51 = true := by kernel_rfl

/- pinball/wall.disc -/
def Tryz.i52 : IFunc := ⟨3, 19, [.tmp 6],
  .seq (.region false [⟨some 3, .box (.t 0) [], none, []⟩,
   ⟨some 4, .box (.t 1) [], none, []⟩,
   ⟨some 6, .nlo 2, none, []⟩])
  (.seq (.region true [⟨some 7, .mov (.t 2), none, []⟩,
   ⟨some 8, .mov (.t 2), none, []⟩,
   ⟨some 9, .bin .mul (.t 7) (.t 8), none, []⟩,
   ⟨some 10, .bls 1 [.int .i64 0] [(0, 1, .t 9)], none, []⟩,
   ⟨some 11, .call 50 [.t 10], none, []⟩,
   ⟨some 12, .ld 3 3 6 false, none, []⟩,
   ⟨some 13, .ld 4 4 2 false, none, []⟩,
   ⟨some 14, .call 47 [.t 12, .t 13], none, []⟩,
   ⟨some 15, .ext (.t 14) 0, none, []⟩,
   ⟨some 16, .ext (.t 14) 1, none, []⟩,
   ⟨some 17, .call 77 [.t 15, .t 16], none, []⟩,
   ⟨some 18, .clo 51 [.t 11, .t 17], none, []⟩,
   ⟨some 6, .tra 18, none, []⟩])
  (.ret))⟩
def Tryz.r52 : List (Nat × Nat) := []
theorem Tryz.i52_ok : fnOk Tryz.prog Tryz.r52 Tryz.f52 Tryz.i52 = true := by kernel_rfl

/- pinball/flight.Valid -/
def Tryz.i53 : IFunc := ⟨1, 16, [.tmp 2],
  .seq (.region false [⟨some 1, .box (.t 0) [3, 7, 12], none, []⟩,
   ⟨some 2, .mov (.c (.bool false)), none, []⟩])
  (.seq (.region false [⟨some 3, .adr 1 1 0, none, []⟩,
   ⟨some 4, .ld 3 1 2 false, none, []⟩,
   ⟨some 5, .call 78 [.t 4, .c (.int .i64 8388608)], none, []⟩,
   ⟨some 6, .mov (.t 5), none, []⟩,
   ⟨some 7, .adr 1 1 2, some (6, true), []⟩,
   ⟨some 8, .ld 7 1 2 false, some (6, true), []⟩,
   ⟨some 9, .call 78 [.t 8, .c (.int .i64 262144)], some (6, true), []⟩,
   ⟨some 10, .pick (.t 6) (.t 9) (.c (.bool false)), none, []⟩,
   ⟨some 11, .mov (.t 10), none, []⟩,
   ⟨some 12, .adr 1 1 4, some (11, true), []⟩,
   ⟨some 13, .ld 12 1 2 false, some (11, true), []⟩,
   ⟨some 14, .call 78 [.t 13, .c (.int .i64 4096)], some (11, true), []⟩,
   ⟨some 15, .pick (.t 11) (.t 14) (.c (.bool false)), none, []⟩,
   ⟨some 2, .mov (.t 15), none, []⟩])
  (.ret))⟩
def Tryz.r53 : List (Nat × Nat) := [(3, 1), (7, 1), (12, 1)]
theorem Tryz.i53_ok : fnOk Tryz.prog Tryz.r53 Tryz.f53 Tryz.i53 = true := by kernel_rfl

/- pinball/pinballref02.Trim -/
def Tryz.i54 : IFunc := ⟨1, 35, [.tmp 2],
  .seq (.region false [⟨some 2, .nlo 2, none, []⟩])
  (.seq (.region false [⟨some 6, .mov (.t 0), none, []⟩,
   ⟨some 7, .len (.t 6), none, []⟩,
   ⟨some 3, .mov (.t 7), none, []⟩])
  (.seq (.block 0 (.loop (.seq (.seq (.region false [⟨some 8, .mov (.t 3), none, []⟩,
   ⟨some 9, .bin .gtr (.t 8) (.c (.int .i64 0)), none, []⟩,
   ⟨some 10, .mov (.t 9), none, []⟩,
   ⟨some 11, .mov (.t 0), some (10, true), []⟩,
   ⟨some 12, .mov (.t 3), some (10, true), []⟩,
   ⟨some 13, .bin .sub (.t 12) (.c (.int .i64 1)), some (10, true), []⟩,
   ⟨some 14, .ixa 11 (.t 13) 2, some (10, true), []⟩,
   ⟨some 15, .ld 14 14 2 false, some (10, true), []⟩,
   ⟨some 16, .call 55 [.t 15], some (10, true), []⟩,
   ⟨some 17, .bin .eql (.t 16) (.c (.int .i64 0)), some (10, true), []⟩,
   ⟨some 18, .pick (.t 10) (.t 17) (.c (.bool false)), none, []⟩])
  (.cond (.t 18) (.skip)
  (.exit 0)))
  (.block 1 (.region false [⟨some 19, .mov (.t 3), none, []⟩,
   ⟨some 20, .bin .sub (.t 19) (.c (.int .i64 1)), none, []⟩,
   ⟨some 3, .mov (.t 20), none, []⟩])))))
  (.seq (.region false [⟨some 4, .nlo 2, none, []⟩])
  (.seq (.seq (.region false [⟨some 5, .mov (.c (.int .i64 0)), none, []⟩])
  (.block 2 (.loop (.seq (.seq (.region false [⟨some 21, .mov (.t 5), none, []⟩,
   ⟨some 22, .mov (.t 3), none, []⟩,
   ⟨some 23, .bin .lss (.t 21) (.t 22), none, []⟩])
  (.cond (.t 23) (.skip)
  (.exit 2)))
  (.seq (.block 3 (.region false [⟨some 26, .tra 4, none, []⟩,
   ⟨some 27, .mov (.t 0), none, []⟩,
   ⟨some 28, .mov (.t 5), none, []⟩,
   ⟨some 29, .ixa 27 (.t 28) 2, none, []⟩,
   ⟨some 30, .ld 29 29 2 false, none, []⟩,
   ⟨some 31, .call 79 [.t 30], none, []⟩,
   ⟨some 32, .bls 1 [.bool false, .sl 0 []] [(0, 2, .t 31)], none, []⟩,
   ⟨some 33, .apd true (.t 26) (.t 32) 2, none, []⟩,
   ⟨some 4, .tra 33, none, []⟩]))
  (.region false [⟨some 24, .mov (.t 5), none, []⟩,
   ⟨some 25, .bin .add (.t 24) (.c (.int .i64 1)), none, []⟩,
   ⟨some 5, .mov (.t 25), none, []⟩]))))))
  (.seq (.region false [⟨some 34, .tra 4, none, []⟩,
   ⟨some 2, .tra 34, none, []⟩])
  (.ret))))))⟩
def Tryz.r54 : List (Nat × Nat) := []
theorem Tryz.i54_ok : fnOk Tryz.prog Tryz.r54 Tryz.f54 Tryz.i54 = true := by kernel_rfl

/- pinball/pinballref01.Sign -/
def Tryz.i55 : IFunc := ⟨1, 12, [.tmp 2],
  .seq (.region false [⟨some 1, .box (.t 0) [4, 10], none, []⟩,
   ⟨some 2, .mov (.c (.int .i64 0)), none, []⟩])
  (.seq (.block 0 (.seq (.region false [⟨some 4, .adr 1 1 1, none, []⟩,
   ⟨some 5, .ld 4 1 1 true, none, []⟩,
   ⟨some 6, .call 67 [.t 5], none, []⟩,
   ⟨some 7, .len (.t 6), none, []⟩,
   ⟨some 8, .bin .eql (.t 7) (.c (.int .i64 0)), none, []⟩,
   ⟨some 3, .mov (.t 8), none, []⟩])
  (.cond (.t 3) (.seq (.region false [⟨some 2, .mov (.c (.int .i64 0)), none, []⟩])
  (.ret))
  (.seq (.region false [⟨some 10, .adr 1 1 0, none, []⟩,
   ⟨some 11, .ld 10 1 1 true, none, []⟩,
   ⟨some 9, .mov (.t 11), none, []⟩])
  (.cond (.t 9) (.seq (.region false [⟨some 2, .mov (.c (.int .i64 (-1))), none, []⟩])
  (.ret))
  (.skip))))))
  (.seq (.region false [⟨some 2, .mov (.c (.int .i64 1)), none, []⟩])
  (.ret)))⟩
def Tryz.r55 : List (Nat × Nat) := [(4, 1), (10, 1)]
theorem Tryz.i55_ok : fnOk Tryz.prog Tryz.r55 Tryz.f55 Tryz.i55 = true := by kernel_rfl

/- pinball/pinballref02.Value -/
def Tryz.i56 : IFunc := ⟨3, 37, [.cell 6 2 false],
  .seq (.region false [⟨some 4, .box (.t 1) [], none, []⟩,
   ⟨some 6, .new [.bool false, .sl 0 []] [], none, []⟩])
  (.seq (.region false [⟨some 10, .mov (.t 0), none, []⟩,
   ⟨some 11, .call 54 [.t 10], none, []⟩,
   ⟨some 7, .mov (.t 11), none, []⟩])
  (.seq (.region false [⟨some 12, .bld [.bool false, .sl 0 []] [], none, []⟩,
   ⟨some 8, .new [.bool false, .sl 0 []] [], none, []⟩,
   ⟨none, .st 8 8 2 (.t 12), none, []⟩])
  (.seq (.seq (.region false [⟨some 13, .mov (.t 7), none, []⟩,
   ⟨some 14, .len (.t 13), none, []⟩,
   ⟨some 15, .bin .sub (.t 14) (.c (.int .i64 1)), none, []⟩,
   ⟨some 9, .mov (.t 15), none, []⟩])
  (.block 0 (.loop (.seq (.seq (.region false [⟨some 16, .mov (.t 9), none, []⟩,
   ⟨some 17, .bin .geq (.t 16) (.c (.int .i64 0)), none, []⟩])
  (.cond (.t 17) (.skip)
  (.exit 0)))
  (.seq (.block 1 (.region true [⟨some 20, .ld 8 8 2 false, none, []⟩,
   ⟨some 21, .ld 4 4 2 false, none, []⟩,
   ⟨some 22, .call 37 [.t 20, .t 21], none, []⟩,
   ⟨some 23, .mov (.t 7), none, []⟩,
   ⟨some 24, .mov (.t 9), none, []⟩,
   ⟨some 25, .ixa 23 (.t 24) 2, none, []⟩,
   ⟨some 26, .ld 25 25 2 false, none, []⟩,
   ⟨some 27, .mov (.t 2), none, []⟩,
   ⟨some 28, .mov (.t 7), none, []⟩,
   ⟨some 29, .len (.t 28), none, []⟩,
   ⟨some 30, .bin .sub (.t 29) (.c (.int .i64 1)), none, []⟩,
   ⟨some 31, .mov (.t 9), none, []⟩,
   ⟨some 32, .bin .sub (.t 30) (.t 31), none, []⟩,
   ⟨some 33, .bin .mul (.t 27) (.t 32), none, []⟩,
   ⟨some 34, .call 81 [.t 26, .t 33], none, []⟩,
   ⟨some 35, .call 80 [.t 22, .t 34], none, []⟩,
   ⟨none, .st 8 8 2 (.t 35), none, []⟩]))
  (.region false [⟨some 18, .mov (.t 9), none, []⟩,
   ⟨some 19, .bin .sub (.t 18) (.c (.int .i64 1)), none, []⟩,
   ⟨some 9, .mov (.t 19), none, []⟩]))))))
  (.seq (.region false [⟨some 36, .ld 8 8 2 false, none, []⟩,
   ⟨none, .st 6 6 2 (.t 36), none, []⟩])
  (.ret)))))⟩
def Tryz.r56 : List (Nat × Nat) := []
theorem Tryz.i56_ok : fnOk Tryz.prog Tryz.r56 Tryz.f56 Tryz.i56 = true := by kernel_rfl

/- pinball/vector.Small -/
def Tryz.i57 : IFunc := ⟨1, 21, [.tmp 2],
  .seq (.region false [⟨some 1, .box (.t 0) [3, 7, 12, 17], none, []⟩,
   ⟨some 2, .mov (.c (.bool false)), none, []⟩])
  (.seq (.region false [⟨some 3, .adr 1 1 0, none, []⟩,
   ⟨some 4, .ld 3 1 1 true, none, []⟩,
   ⟨some 5, .bin .geq (.t 4) (.c (.int .i64 (-1073741824))), none, []⟩,
   ⟨some 6, .mov (.t 5), none, []⟩,
   ⟨some 7, .adr 1 1 0, some (6, true), []⟩,
   ⟨some 8, .ld 7 1 1 true, some (6, true), []⟩,
   ⟨some 9, .bin .leq (.t 8) (.c (.int .i64 1073741824)), some (6, true), []⟩,
   ⟨some 10, .pick (.t 6) (.t 9) (.c (.bool false)), none, []⟩,
   ⟨some 11, .mov (.t 10), none, []⟩,
   ⟨some 12, .adr 1 1 1, some (11, true), []⟩,
   ⟨some 13, .ld 12 1 1 true, some (11, true), []⟩,
   ⟨some 14, .bin .geq (.t 13) (.c (.int .i64 (-1073741824))), some (11, true), []⟩,
   ⟨some 15, .pick (.t 11) (.t 14) (.c (.bool false)), none, []⟩,
   ⟨some 16, .mov (.t 15), none, []⟩,
   ⟨some 17, .adr 1 1 1, some (16, true), []⟩,
   ⟨some 18, .ld 17 1 1 true, some (16, true), []⟩,
   ⟨some 19, .bin .leq (.t 18) (.c (.int .i64 1073741824)), some (16, true), []⟩,
   ⟨some 20, .pick (.t 16) (.t 19) (.c (.bool false)), none, []⟩,
   ⟨some 2, .mov (.t 20), none, []⟩])
  (.ret))⟩
def Tryz.r57 : List (Nat × Nat) := [(3, 1), (7, 1), (12, 1), (17, 1)]
theorem Tryz.i57_ok : fnOk Tryz.prog Tryz.r57 Tryz.f57 Tryz.i57 = true := by kernel_rfl

/- pinball/pinballref05.Entry -/
def Tryz.i58 : IFunc := ⟨1, 46, [.cell 2 7 false, .tmp 3],
  .seq (.region false [⟨some 2, .new [.sl 0 [], .bool false, .sl 0 [], .int .i64 0, .bool false, .sl 0 [], .int .i64 0] [], none, []⟩,
   ⟨some 3, .mov (.c (.bool false)), none, []⟩])
  (.seq (.region false [⟨some 4, .nlo 1, none, []⟩])
  (.seq (.region false [⟨some 5, .nlo 1, none, []⟩])
  (.seq (.seq (.region false [⟨some 6, .mov (.c (.int .i64 0)), none, []⟩])
  (.block 0 (.loop (.seq (.seq (.region false [⟨some 9, .mov (.t 6), none, []⟩,
   ⟨some 10, .mov (.t 0), none, []⟩,
   ⟨some 11, .len (.t 10), none, []⟩,
   ⟨some 12, .bin .lss (.t 9) (.t 11), none, []⟩])
  (.cond (.t 12) (.skip)
  (.exit 0)))
  (.seq (.block 1 (.seq (.region false [⟨some 15, .tra 5, none, []⟩,
   ⟨some 16, .mov (.t 0), none, []⟩,
   ⟨some 17, .mov (.t 6), none, []⟩,
   ⟨some 18, .ixa 16 (.t 17) 1, none, []⟩,
   ⟨some 19, .ld 18 18 1 true, none, []⟩,
   ⟨some 20, .call 54 [.t 19], none, []⟩,
   ⟨some 21, .bls 1 [.sl 0 []] [(0, 1, .t 20)], none, []⟩,
   ⟨some 22, .apd true (.t 15) (.t 21) 1, none, []⟩,
   ⟨some 5, .tra 22, none, []⟩])
  (.region false [⟨some 23, .tra 4, none, []⟩,
   ⟨some 24, .mov (.t 0), none, []⟩,
   ⟨some 25, .mov (.t 6), none, []⟩,
   ⟨some 26, .ixa 24 (.t 25) 1, none, []⟩,
   ⟨some 27, .ld 26 26 1 true, none, []⟩,
   ⟨some 28, .call 82 [.t 27], none, []⟩,
   ⟨some 29, .bls 1 [.sl 0 []] [(0, 1, .t 28)], none, []⟩,
   ⟨some 30, .apd true (.t 23) (.t 29) 1, none, []⟩,
   ⟨some 4, .tra 30, none, []⟩])))
  (.region false [⟨some 13, .mov (.t 6), none, []⟩,
   ⟨some 14, .bin .add (.t 13) (.c (.int .i64 1)), none, []⟩,
   ⟨some 6, .mov (.t 14), none, []⟩]))))))
  (.seq (.seq (.region false [⟨some 32, .frz 5, none, []⟩,
   ⟨some 33, .frz 4, none, []⟩,
   ⟨some 34, .call 83 [.t 32, .t 33, .c (.int .i64 0), .c (.int .i64 0)], none, []⟩,
   ⟨some 31, .mov (.t 34), none, []⟩,
   ⟨some 35, .ext (.t 31) 0, none, []⟩,
   ⟨some 36, .ext (.t 31) 1, none, []⟩,
   ⟨some 7, .new [.sl 0 [], .bool false, .sl 0 [], .int .i64 0, .bool false, .sl 0 [], .int .i64 0] [], none, []⟩,
   ⟨none, .st 7 7 7 (.t 35), none, []⟩,
   ⟨some 8, .mov (.t 36), none, []⟩])
  (.seq (.region false [⟨some 37, .mov (.t 8), none, []⟩,
   ⟨some 38, .bin .neq (.t 37) (.c (.int .i64 2)), none, []⟩])
  (.cond (.t 38) (.seq (.region false [⟨some 39, .ld 7 7 7 false, none, []⟩,
   ⟨some 40, .mov (.t 8), none, []⟩,
   ⟨some 41, .bin .eql (.t 40) (.c (.int .i64 1)), none, []⟩,
   ⟨none, .st 2 2 7 (.t 39), none, []⟩,
   ⟨some 3, .mov (.t 41), none, []⟩])
  (.ret))
  (.skip))))
  (.seq (.region false [⟨some 42, .mov (.t 0), none, []⟩,
   ⟨some 43, .call 84 [.t 42], none, []⟩,
   ⟨some 44, .ext (.t 43) 0, none, []⟩,
   ⟨some 45, .ext (.t 43) 1, none, []⟩,
   ⟨none, .st 2 2 7 (.t 44), none, []⟩,
   ⟨some 3, .mov (.t 45), none, []⟩])
  (.ret))))))⟩
def Tryz.r58 : List (Nat × Nat) := []
theorem Tryz.i58_ok : fnOk Tryz.prog Tryz.r58 Tryz.f58 Tryz.i58 = true := by kernel_rfl

/- pinball/pinballref04.Compare -/
def Tryz.i59 : IFunc := ⟨2, 87, [.tmp 4],
  .seq (.region false [⟨some 2, .box (.t 0) [9, 18, 23, 25, 30, 49, 77], none, []⟩,
   ⟨some 3, .box (.t 1) [11, 16, 35, 37, 42, 51, 58, 65, 79], none, []⟩,
   ⟨some 4, .mov (.c (.int .i64 0)), none, []⟩])
  (.seq (.region false [⟨some 5, .mov (.c (.int .i64 0)), none, []⟩])
  (.block 0 (.loop (.seq (.block 1 (.seq (.block 2 (.seq (.region false [⟨some 9, .adr 2 2 4, none, []⟩,
   ⟨some 10, .ld 9 2 3 false, none, []⟩,
   ⟨some 11, .adr 3 3 1, none, []⟩,
   ⟨some 12, .ld 11 3 3 false, none, []⟩,
   ⟨some 13, .call 85 [.t 10, .t 12], none, []⟩,
   ⟨some 14, .bin .lss (.t 13) (.c (.int .i64 0)), none, []⟩,
   ⟨some 8, .mov (.t 14), none, []⟩])
  (.cond (.t 8) (.seq (.region false [⟨some 4, .mov (.c (.int .i64 (-1))), none, []⟩])
  (.ret))
  (.seq (.region false [⟨some 16, .adr 3 3 4, none, []⟩,
   ⟨some 17, .ld 16 3 3 false, none, []⟩,
   ⟨some 18, .adr 2 2 1, none, []⟩,
   ⟨some 19, .ld 18 2 3 false, none, []⟩,
   ⟨some 20, .call 85 [.t 17, .t 19], none, []⟩,
   ⟨some 21, .bin .lss (.t 20) (.c (.int .i64 0)), none, []⟩,
   ⟨some 15, .mov (.t 21), none, []⟩])
  (.cond (.t 15) (.seq (.region false [⟨some 4, .mov (.c (.int .i64 1)), none, []⟩])
  (.ret))
  (.seq (.region false [⟨some 23, .adr 2 2 1, none, []⟩,
   ⟨some 24, .ld 23 2 3 false, none, []⟩,
   ⟨some 25, .adr 2 2 4, none, []⟩,
   ⟨some 26, .ld 25 2 3 false, none, []⟩,
   ⟨some 27, .call 85 [.t 24, .t 26], none, []⟩,
   ⟨some 28, .bin .eql (.t 27) (.c (.int .i64 0)), none, []⟩,
   ⟨some 22, .mov (.t 28), none, []⟩])
  (.cond (.t 22) (.seq (.region false [⟨some 29, .ld 3 3 7 false, none, []⟩,
   ⟨some 30, .adr 2 2 1, none, []⟩,
   ⟨some 31, .ld 30 2 3 false, none, []⟩,
   ⟨some 32, .call 86 [.t 29, .t 31], none, []⟩,
   ⟨some 33, .un .neg (.t 32), none, []⟩,
   ⟨some 4, .mov (.t 33), none, []⟩])
  (.ret))
  (.seq (.region false [⟨some 35, .adr 3 3 1, none, []⟩,
   ⟨some 36, .ld 35 3 3 false, none, []⟩,
   ⟨some 37, .adr 3 3 4, none, []⟩,
   ⟨some 38, .ld 37 3 3 false, none, []⟩,
   ⟨some 39, .call 85 [.t 36, .t 38], none, []⟩,
   ⟨some 40, .bin .eql (.t 39) (.c (.int .i64 0)), none, []⟩,
   ⟨some 34, .mov (.t 40), none, []⟩])
  (.cond (.t 34) (.seq (.region false [⟨some 41, .ld 2 2 7 false, none, []⟩,
   ⟨some 42, .adr 3 3 1, none, []⟩,
   ⟨some 43, .ld 42 3 3 false, none, []⟩,
   ⟨some 44, .call 86 [.t 41, .t 43], none, []⟩,
   ⟨some 4, .mov (.t 44), none, []⟩])
  (.ret))
  (.skip))))))))))
  (.seq (.seq (.region true [⟨some 45, .mov (.t 5), none, []⟩,
   ⟨some 46, .bin .eql (.t 45) (.c (.int .i64 8)), none, []⟩,
   ⟨some 47, .mov (.t 46), none, []⟩,
   ⟨some 48, .ld 2 2 7 false, some (47, true), []⟩,
   ⟨some 49, .adr 2 2 0, some (47, true), []⟩,
   ⟨some 50, .ld 49 2 1 true, some (47, true), []⟩,
   ⟨some 51, .adr 3 3 0, some (47, true), []⟩,
   ⟨some 52, .ld 51 3 1 true, some (47, true), []⟩,
   ⟨some 53, .call 88 [.t 50, .t 52], some (47, true), []⟩,
   ⟨some 54, .call 87 [.t 48, .t 53], some (47, true), []⟩,
   ⟨some 55, .pick (.t 47) (.t 54) (.c (.bool false)), none, []⟩,
   ⟨some 56, .mov (.t 55), none, []⟩,
   ⟨some 57, .ld 2 2 7 false, some (56, true), []⟩,
   ⟨some 58, .adr 3 3 1, some (56, true), []⟩,
   ⟨some 59, .ld 58 3 3 false, some (56, true), []⟩,
   ⟨some 60, .call 86 [.t 57, .t 59], some (56, true), []⟩,
   ⟨some 61, .bin .gtr (.t 60) (.c (.int .i64 0)), some (56, true), []⟩,
   ⟨some 62, .pick (.t 56) (.t 61) (.c (.bool false)), none, []⟩,
   ⟨some 63, .mov (.t 62), none, []⟩,
   ⟨some 64, .ld 2 2 7 false, some (63, true), []⟩,
   ⟨some 65, .adr 3 3 4, some (63, true), []⟩,
   ⟨some 66, .ld 65 3 3 false, some (63, true), []⟩,
   ⟨some 67, .call 86 [.t 64, .t 66], some (63, true), []⟩,
   ⟨some 68, .bin .leq (.t 67) (.c (.int .i64 0)), some (63, true), []⟩,
   ⟨some 69, .pick (.t 63) (.t 68) (.c (.bool false)), none, []⟩])
  (.cond (.t 69) (.seq (.region false [⟨some 4, .mov (.c (.int .i64 0)), none, []⟩])
  (.ret))
  (.skip)))
  (.seq (.seq (.region false [⟨some 70, .mov (.t 5), none, []⟩,
   ⟨some 71, .bin .geq (.t 70) (.c (.int .i64 8)), none, []⟩,
   ⟨some 72, .mov (.t 71), none, []⟩,
   ⟨some 73, .ld 2 2 7 false, some (72, true), []⟩,
   ⟨some 74, .ld 3 3 7 false, some (72, true), []⟩,
   ⟨some 75, .call 89 [.t 73, .t 74], some (72, true), []⟩,
   ⟨some 76, .pick (.t 72) (.t 75) (.c (.bool false)), none, []⟩])
  (.cond (.t 76) (.seq (.seq (.region false [⟨some 77, .adr 2 2 1, none, []⟩,
   ⟨some 78, .ld 77 2 3 false, none, []⟩,
   ⟨some 79, .adr 3 3 1, none, []⟩,
   ⟨some 80, .ld 79 3 3 false, none, []⟩,
   ⟨some 81, .call 85 [.t 78, .t 80], none, []⟩,
   ⟨some 82, .bin .lss (.t 81) (.c (.int .i64 0)), none, []⟩])
  (.cond (.t 82) (.seq (.region false [⟨some 4, .mov (.c (.int .i64 (-1))), none, []⟩])
  (.ret))
  (.skip)))
  (.seq (.region false [⟨some 4, .mov (.c (.int .i64 1)), none, []⟩])
  (.ret)))
  (.skip)))
  (.region true [⟨some 83, .ld 2 2 7 false, none, []⟩,
   ⟨some 84, .call 90 [.t 83], none, []⟩,
   ⟨some 85, .ld 3 3 7 false, none, []⟩,
   ⟨some 86, .call 90 [.t 85], none, []⟩,
   ⟨none, .st 2 2 7 (.t 84), none, []⟩,
   ⟨none, .st 3 3 7 (.t 86), none, []⟩])))))
  (.region false [⟨some 6, .mov (.t 5), none, []⟩,
   ⟨some 7, .bin .add (.t 6) (.c (.int .i64 1)), none, []⟩,
   ⟨some 5, .mov (.t 7), none, []⟩])))))⟩
def Tryz.r59 : List (Nat × Nat) := [(9, 2), (11, 3), (16, 3), (18, 2), (23, 2), (25, 2), (30, 2), (35, 3), (37, 3), (42, 3), (49, 2), (51, 3), (58, 3), (65, 3), (77, 2), (79, 3)]
theorem Tryz.i59_ok : fnOk Tryz.prog Tryz.r59 Tryz.f59 Tryz.i59 = true := by kernel_rfl

/- pinball/pinballref04.Below -/
def Tryz.i60 : IFunc := ⟨2, 49, [.cell 4 2 false],
  .seq (.region false [⟨some 2, .box (.t 0) [10, 11, 15, 16, 19, 20, 24, 25], none, []⟩,
   ⟨some 4, .new [.bool false, .sl 0 []] [], none, []⟩])
  (.seq (.region false [⟨some 9, .call 34 [.c (.int .i64 1)], none, []⟩,
   ⟨some 5, .new [.bool false, .sl 0 []] [], none, []⟩,
   ⟨none, .st 5 5 2 (.t 9), none, []⟩])
  (.seq (.region true [⟨some 10, .adr 2 2 1, none, []⟩,
   ⟨some 11, .adr 10 2 0, none, []⟩,
   ⟨some 12, .ld 11 2 2 false, none, []⟩,
   ⟨some 13, .mov (.t 1), none, []⟩,
   ⟨some 14, .call 81 [.t 12, .t 13], none, []⟩,
   ⟨some 15, .adr 2 2 1, none, []⟩,
   ⟨some 16, .adr 15 2 2, none, []⟩,
   ⟨some 17, .ld 16 2 1 true, none, []⟩,
   ⟨some 18, .call 91 [.t 14, .t 17], none, []⟩,
   ⟨some 19, .adr 2 2 4, none, []⟩,
   ⟨some 20, .adr 19 2 0, none, []⟩,
   ⟨some 21, .ld 20 2 2 false, none, []⟩,
   ⟨some 22, .mov (.t 1), none, []⟩,
   ⟨some 23, .call 81 [.t 21, .t 22], none, []⟩,
   ⟨some 24, .adr 2 2 4, none, []⟩,
   ⟨some 25, .adr 24 2 2, none, []⟩,
   ⟨some 26, .ld 25 2 1 true, none, []⟩,
   ⟨some 27, .call 91 [.t 23, .t 26], none, []⟩,
   ⟨some 6, .new [.bool false, .sl 0 []] [], none, []⟩,
   ⟨some 7, .new [.bool false, .sl 0 []] [], none, []⟩,
   ⟨none, .st 6 6 2 (.t 18), none, []⟩,
   ⟨none, .st 7 7 2 (.t 27), none, []⟩])
  (.seq (.block 0 (.loop (.seq (.seq (.region false [⟨some 28, .ld 6 6 2 false, none, []⟩,
   ⟨some 29, .ld 7 7 2 false, none, []⟩,
   ⟨some 30, .call 36 [.t 28, .t 29], none, []⟩,
   ⟨some 31, .bin .lss (.t 30) (.c (.int .i64 0)), none, []⟩])
  (.cond (.t 31) (.skip)
  (.exit 0)))
  (.block 1 (.seq (.region true [⟨some 32, .ld 6 6 2 false, none, []⟩,
   ⟨some 33, .ld 7 7 2 false, none, []⟩,
   ⟨some 34, .call 80 [.t 32, .t 33], none, []⟩,
   ⟨some 35, .ld 5 5 2 false, none, []⟩,
   ⟨some 36, .call 80 [.t 34, .t 35], none, []⟩,
   ⟨some 37, .call 91 [.t 36, .c (.int .i64 1)], none, []⟩,
   ⟨some 8, .new [.bool false, .sl 0 []] [], none, []⟩,
   ⟨none, .st 8 8 2 (.t 37), none, []⟩])
  (.seq (.region false [⟨some 38, .ld 2 2 7 false, none, []⟩,
   ⟨some 39, .ld 8 8 2 false, none, []⟩,
   ⟨some 40, .mov (.t 1), none, []⟩,
   ⟨some 41, .bld [.bool false, .sl 0 [], .int .i64 0] [(0, 2, .t 39), (2, 1, .t 40)], none, []⟩,
   ⟨some 42, .call 86 [.t 38, .t 41], none, []⟩,
   ⟨some 43, .bin .geq (.t 42) (.c (.int .i64 0)), none, []⟩])
  (.cond (.t 43) (.region false [⟨some 44, .ld 8 8 2 false, none, []⟩,
   ⟨none, .st 6 6 2 (.t 44), none, []⟩])
  (.region false [⟨some 45, .ld 8 8 2 false, none, []⟩,
   ⟨some 46, .ld 5 5 2 false, none, []⟩,
   ⟨some 47, .call 92 [.t 45, .t 46], none, []⟩,
   ⟨none, .st 7 7 2 (.t 47), none, []⟩]))))))))
  (.seq (.region false [⟨some 48, .ld 6 6 2 false, none, []⟩,
   ⟨none, .st 4 4 2 (.t 48), none, []⟩])
  (.ret)))))⟩
def Tryz.r60 : List (Nat × Nat) := [(10, 2), (11, 2), (15, 2), (16, 2), (19, 2), (20, 2), (24, 2), (25, 2)]
theorem Tryz.i60_ok : fnOk Tryz.prog Tryz.r60 Tryz.f60 Tryz.i60 = true := by kernel_rfl

/- pinball/vector.kept -/
def Tryz.i61 : IFunc := ⟨1, 8, [.cell 2 2 false],
  .seq (.region false [⟨some 1, .box (.t 0) [], none, []⟩,
   ⟨some 2, .new [.int .i64 0, .int .i64 0] [], none, []⟩])
  (.seq (.seq (.region false [⟨some 3, .ld 1 1 2 false, none, []⟩,
   ⟨some 4, .call 57 [.t 3], none, []⟩,
   ⟨some 5, .un .not (.t 4), none, []⟩])
  (.cond (.t 5) (.seq (.region false [⟨some 6, .bld [.int .i64 0, .int .i64 0] [], none, []⟩,
   ⟨none, .st 2 2 2 (.t 6), none, []⟩])
  (.ret))
  (.skip)))
  (.seq (.region false [⟨some 7, .ld 1 1 2 false, none, []⟩,
   ⟨none, .st 2 2 2 (.t 7), none, []⟩])
  (.ret)))⟩
def Tryz.r61 : List (Nat × Nat) := []
theorem Tryz.i61_ok : fnOk Tryz.prog Tryz.r61 Tryz.f61 Tryz.i61 = true := by kernel_rfl

/- pinball/pinballref06.Small -/
def Tryz.i62 : IFunc := ⟨1, 21, [.tmp 2],
  .seq (.region false [⟨some 1, .box (.t 0) [3, 7, 12, 17], none, []⟩,
   ⟨some 2, .mov (.c (.bool false)), none, []⟩])
  (.seq (.region false [⟨some 3, .adr 1 1 0, none, []⟩,
   ⟨some 4, .ld 3 1 1 true, none, []⟩,
   ⟨some 5, .bin .geq (.t 4) (.c (.int .i64 (-1073741824))), none, []⟩,
   ⟨some 6, .mov (.t 5), none, []⟩,
   ⟨some 7, .adr 1 1 0, some (6, true), []⟩,
   ⟨some 8, .ld 7 1 1 true, some (6, true), []⟩,
   ⟨some 9, .bin .leq (.t 8) (.c (.int .i64 1073741824)), some (6, true), []⟩,
   ⟨some 10, .pick (.t 6) (.t 9) (.c (.bool false)), none, []⟩,
   ⟨some 11, .mov (.t 10), none, []⟩,
   ⟨some 12, .adr 1 1 1, some (11, true), []⟩,
   ⟨some 13, .ld 12 1 1 true, some (11, true), []⟩,
   ⟨some 14, .bin .geq (.t 13) (.c (.int .i64 (-1073741824))), some (11, true), []⟩,
   ⟨some 15, .pick (.t 11) (.t 14) (.c (.bool false)), none, []⟩,
   ⟨some 16, .mov (.t 15), none, []⟩,
   ⟨some 17, .adr 1 1 1, some (16, true), []⟩,
   ⟨some 18, .ld 17 1 1 true, some (16, true), []⟩,
   ⟨some 19, .bin .leq (.t 18) (.c (.int .i64 1073741824)), some (16, true), []⟩,
   ⟨some 20, .pick (.t 16) (.t 19) (.c (.bool false)), none, []⟩,
   ⟨some 2, .mov (.t 20), none, []⟩])
  (.ret))⟩
def Tryz.r62 : List (Nat × Nat) := [(3, 1), (7, 1), (12, 1), (17, 1)]
theorem Tryz.i62_ok : fnOk Tryz.prog Tryz.r62 Tryz.f62 Tryz.i62 = true := by kernel_rfl

/- pinball/pinballref06.kept -/
def Tryz.i63 : IFunc := ⟨1, 7, [.cell 2 2 false],
  .seq (.region false [⟨some 1, .box (.t 0) [], none, []⟩,
   ⟨some 2, .new [.int .i64 0, .int .i64 0] [], none, []⟩])
  (.seq (.seq (.region false [⟨some 3, .ld 1 1 2 false, none, []⟩,
   ⟨some 4, .call 62 [.t 3], none, []⟩])
  (.cond (.t 4) (.seq (.region false [⟨some 5, .ld 1 1 2 false, none, []⟩,
   ⟨none, .st 2 2 2 (.t 5), none, []⟩])
  (.ret))
  (.skip)))
  (.seq (.region false [⟨some 6, .bld [.int .i64 0, .int .i64 0] [], none, []⟩,
   ⟨none, .st 2 2 2 (.t 6), none, []⟩])
  (.ret)))⟩
def Tryz.r63 : List (Nat × Nat) := []
theorem Tryz.i63_ok : fnOk Tryz.prog Tryz.r63 Tryz.f63 Tryz.i63 = true := by kernel_rfl

/- math/bits.Mul64 -/
def Tryz.i64 : IFunc := ⟨2, 51, [.tmp 4, .tmp 5],
  .seq (.region false [⟨some 4, .mov (.c (.int .u64 0)), none, []⟩,
   ⟨some 5, .mov (.c (.int .u64 0)), none, []⟩])
  (.seq (.region false [⟨some 14, .mov (.t 0), none, []⟩,
   ⟨some 15, .bin .and (.t 14) (.c (.int .u64 4294967295)), none, []⟩,
   ⟨some 6, .mov (.t 15), none, []⟩])
  (.seq (.region false [⟨some 16, .mov (.t 0), none, []⟩,
   ⟨some 17, .bin .shr (.t 16) (.c (.int .u64 32)), none, []⟩,
   ⟨some 7, .mov (.t 17), none, []⟩])
  (.seq (.region false [⟨some 18, .mov (.t 1), none, []⟩,
   ⟨some 19, .bin .and (.t 18) (.c (.int .u64 4294967295)), none, []⟩,
   ⟨some 8, .mov (.t 19), none, []⟩])
  (.seq (.region false [⟨some 20, .mov (.t 1), none, []⟩,
   ⟨some 21, .bin .shr (.t 20) (.c (.int .u64 32)), none, []⟩,
   ⟨some 9, .mov (.t 21), none, []⟩])
  (.seq (.region false [⟨some 22, .mov (.t 6), none, []⟩,
   ⟨some 23, .mov (.t 8), none, []⟩,
   ⟨some 24, .bin .mul (.t 22) (.t 23), none, []⟩,
   ⟨some 10, .mov (.t 24), none, []⟩])
  (.seq (.region false [⟨some 25, .mov (.t 7), none, []⟩,
   ⟨some 26, .mov (.t 8), none, []⟩,
   ⟨some 27, .bin .mul (.t 25) (.t 26), none, []⟩,
   ⟨some 28, .mov (.t 10), none, []⟩,
   ⟨some 29, .bin .shr (.t 28) (.c (.int .u64 32)), none, []⟩,
   ⟨some 30, .bin .add (.t 27) (.t 29), none, []⟩,
   ⟨some 11, .mov (.t 30), none, []⟩])
  (.seq (.region false [⟨some 31, .mov (.t 11), none, []⟩,
   ⟨some 32, .bin .and (.t 31) (.c (.int .u64 4294967295)), none, []⟩,
   ⟨some 12, .mov (.t 32), none, []⟩])
  (.seq (.region false [⟨some 33, .mov (.t 11), none, []⟩,
   ⟨some 34, .bin .shr (.t 33) (.c (.int .u64 32)), none, []⟩,
   ⟨some 13, .mov (.t 34), none, []⟩])
  (.seq (.region false [⟨some 35, .mov (.t 12), none, []⟩,
   ⟨some 36, .mov (.t 6), none, []⟩,
   ⟨some 37, .mov (.t 9), none, []⟩,
   ⟨some 38, .bin .mul (.t 36) (.t 37), none, []⟩,
   ⟨some 39, .bin .add (.t 35) (.t 38), none, []⟩,
   ⟨some 12, .mov (.t 39), none, []⟩])
  (.seq (.region false [⟨some 40, .mov (.t 7), none, []⟩,
   ⟨some 41, .mov (.t 9), none, []⟩,
   ⟨some 42, .bin .mul (.t 40) (.t 41), none, []⟩,
   ⟨some 43, .mov (.t 13), none, []⟩,
   ⟨some 44, .bin .add (.t 42) (.t 43), none, []⟩,
   ⟨some 45, .mov (.t 12), none, []⟩,
   ⟨some 46, .bin .shr (.t 45) (.c (.int .u64 32)), none, []⟩,
   ⟨some 47, .bin .add (.t 44) (.t 46), none, []⟩,
   ⟨some 4, .mov (.t 47), none, []⟩])
  (.seq (.region false [⟨some 48, .mov (.t 0), none, []⟩,
   ⟨some 49, .mov (.t 1), none, []⟩,
   ⟨some 50, .bin .mul (.t 48) (.t 49), none, []⟩,
   ⟨some 5, .mov (.t 50), none, []⟩])
  (.ret))))))))))))⟩
def Tryz.r64 : List (Nat × Nat) := []
theorem Tryz.i64_ok : fnOk Tryz.prog Tryz.r64 Tryz.f64 Tryz.i64 = true := by kernel_rfl

/- pinball/pinballref01.make1 -/
def Tryz.i65 : IFunc := ⟨2, 16, [.cell 4 2 false],
  .seq (.region false [⟨some 4, .new [.bool false, .sl 0 []] [], none, []⟩])
  (.seq (.region false [⟨some 6, .mov (.t 1), none, []⟩,
   ⟨some 7, .call 67 [.t 6], none, []⟩,
   ⟨some 5, .mov (.t 7), none, []⟩])
  (.seq (.region false [⟨some 8, .mov (.t 0), none, []⟩,
   ⟨some 9, .mov (.t 8), none, []⟩,
   ⟨some 10, .mov (.t 5), some (9, true), []⟩,
   ⟨some 11, .len (.t 10), some (9, true), []⟩,
   ⟨some 12, .bin .gtr (.t 11) (.c (.int .i64 0)), some (9, true), []⟩,
   ⟨some 13, .pick (.t 9) (.t 12) (.c (.bool false)), none, []⟩,
   ⟨some 14, .mov (.t 5), none, []⟩,
   ⟨some 15, .bld [.bool false, .sl 0 []] [(0, 1, .t 13), (1, 1, .t 14)], none, []⟩,
   ⟨none, .st 4 4 2 (.t 15), none, []⟩])
  (.ret)))⟩
def Tryz.r65 : List (Nat × Nat) := []
theorem Tryz.i65_ok : fnOk Tryz.prog Tryz.r65 Tryz.f65 Tryz.i65 = true := by kernel_rfl

/- pinball/pinballref01.CmpMag -/
def Tryz.i66 : IFunc := ⟨2, 41, [.tmp 4],
  .seq (.region false [⟨some 4, .mov (.c (.int .i64 0)), none, []⟩])
  (.seq (.seq (.region false [⟨some 6, .mov (.t 0), none, []⟩,
   ⟨some 7, .len (.t 6), none, []⟩,
   ⟨some 8, .mov (.t 1), none, []⟩,
   ⟨some 9, .len (.t 8), none, []⟩,
   ⟨some 10, .bin .neq (.t 7) (.t 9), none, []⟩])
  (.cond (.t 10) (.seq (.seq (.region false [⟨some 11, .mov (.t 0), none, []⟩,
   ⟨some 12, .len (.t 11), none, []⟩,
   ⟨some 13, .mov (.t 1), none, []⟩,
   ⟨some 14, .len (.t 13), none, []⟩,
   ⟨some 15, .bin .lss (.t 12) (.t 14), none, []⟩])
  (.cond (.t 15) (.seq (.region false [⟨some 4, .mov (.c (.int .i64 (-1))), none, []⟩])
  (.ret))
  (.skip)))
  (.seq (.region false [⟨some 4, .mov (.c (.int .i64 1)), none, []⟩])
  (.ret)))
  (.skip)))
  (.seq (.seq (.region false [⟨some 16, .mov (.t 0), none, []⟩,
   ⟨some 17, .len (.t 16), none, []⟩,
   ⟨some 18, .bin .sub (.t 17) (.c (.int .i64 1)), none, []⟩,
   ⟨some 5, .mov (.t 18), none, []⟩])
  (.block 0 (.loop (.seq (.seq (.region false [⟨some 19, .mov (.t 5), none, []⟩,
   ⟨some 20, .bin .geq (.t 19) (.c (.int .i64 0)), none, []⟩])
  (.cond (.t 20) (.skip)
  (.exit 0)))
  (.seq (.block 1 (.seq (.region true [⟨some 23, .mov (.t 0), none, []⟩,
   ⟨some 24, .mov (.t 5), none, []⟩,
   ⟨some 25, .ixa 23 (.t 24) 1, none, []⟩,
   ⟨some 26, .ld 25 25 1 true, none, []⟩,
   ⟨some 27, .mov (.t 1), none, []⟩,
   ⟨some 28, .mov (.t 5), none, []⟩,
   ⟨some 29, .ixa 27 (.t 28) 1, none, []⟩,
   ⟨some 30, .ld 29 29 1 true, none, []⟩,
   ⟨some 31, .bin .neq (.t 26) (.t 30), none, []⟩])
  (.cond (.t 31) (.seq (.seq (.region true [⟨some 32, .mov (.t 0), none, []⟩,
   ⟨some 33, .mov (.t 5), none, []⟩,
   ⟨some 34, .ixa 32 (.t 33) 1, none, []⟩,
   ⟨some 35, .ld 34 34 1 true, none, []⟩,
   ⟨some 36, .mov (.t 1), none, []⟩,
   ⟨some 37, .mov (.t 5), none, []⟩,
   ⟨some 38, .ixa 36 (.t 37) 1, none, []⟩,
   ⟨some 39, .ld 38 38 1 true, none, []⟩,
   ⟨some 40, .bin .lss (.t 35) (.t 39), none, []⟩])
  (.cond (.t 40) (.seq (.region false [⟨some 4, .mov (.c (.int .i64 (-1))), none, []⟩])
  (.ret))
  (.skip)))
  (.seq (.region false [⟨some 4, .mov (.c (.int .i64 1)), none, []⟩])
  (.ret)))
  (.skip))))
  (.region false [⟨some 21, .mov (.t 5), none, []⟩,
   ⟨some 22, .bin .sub (.t 21) (.c (.int .i64 1)), none, []⟩,
   ⟨some 5, .mov (.t 22), none, []⟩]))))))
  (.seq (.region false [⟨some 4, .mov (.c (.int .i64 0)), none, []⟩])
  (.ret))))⟩
def Tryz.r66 : List (Nat × Nat) := []
theorem Tryz.i66_ok : fnOk Tryz.prog Tryz.r66 Tryz.f66 Tryz.i66 = true := by kernel_rfl

/- pinball/pinballref01.Mag -/
def Tryz.i67 : IFunc := ⟨1, 22, [.tmp 2],
  .seq (.region false [⟨some 2, .nlo 1, none, []⟩])
  (.seq (.region false [⟨some 4, .mov (.t 0), none, []⟩,
   ⟨some 5, .len (.t 4), none, []⟩,
   ⟨some 3, .mov (.t 5), none, []⟩])
  (.seq (.block 0 (.loop (.seq (.seq (.region false [⟨some 6, .mov (.t 3), none, []⟩,
   ⟨some 7, .bin .gtr (.t 6) (.c (.int .i64 0)), none, []⟩,
   ⟨some 8, .mov (.t 7), none, []⟩,
   ⟨some 9, .mov (.t 0), some (8, true), []⟩,
   ⟨some 10, .mov (.t 3), some (8, true), []⟩,
   ⟨some 11, .bin .sub (.t 10) (.c (.int .i64 1)), some (8, true), []⟩,
   ⟨some 12, .ixa 9 (.t 11) 1, some (8, true), []⟩,
   ⟨some 13, .ld 12 12 1 true, some (8, true), []⟩,
   ⟨some 14, .bin .eql (.t 13) (.c (.int .u32 0)), some (8, true), []⟩,
   ⟨some 15, .pick (.t 8) (.t 14) (.c (.bool false)), none, []⟩])
  (.cond (.t 15) (.skip)
  (.exit 0)))
  (.block 1 (.region false [⟨some 16, .mov (.t 3), none, []⟩,
   ⟨some 17, .bin .sub (.t 16) (.c (.int .i64 1)), none, []⟩,
   ⟨some 3, .mov (.t 17), none, []⟩])))))
  (.seq (.region false [⟨some 18, .mov (.t 0), none, []⟩,
   ⟨some 19, .mov (.t 3), none, []⟩,
   ⟨some 20, .sli (.t 18) none (some (.t 19)) none 1, none, []⟩,
   ⟨some 21, .apd true (.c (.nil)) (.t 20) 1, none, []⟩,
   ⟨some 2, .tra 21, none, []⟩])
  (.ret))))⟩
def Tryz.r67 : List (Nat × Nat) := []
theorem Tryz.i67_ok : fnOk Tryz.prog Tryz.r67 Tryz.f67 Tryz.i67 = true := by kernel_rfl

/- pinball/pinballref01.mulMag -/
def Tryz.i68 : IFunc := ⟨2, 66, [.tmp 4],
  .seq (.region false [⟨some 4, .nlo 1, none, []⟩])
  (.seq (.region false [⟨some 9, .mov (.t 0), none, []⟩,
   ⟨some 10, .len (.t 9), none, []⟩,
   ⟨some 11, .mov (.t 1), none, []⟩,
   ⟨some 12, .len (.t 11), none, []⟩,
   ⟨some 13, .bin .add (.t 10) (.t 12), none, []⟩,
   ⟨some 14, .mks [.int .u32 0] (.t 13), none, []⟩,
   ⟨some 5, .tra 14, none, [28, 32, 48, 54, 57, 64]⟩])
  (.seq (.seq (.region false [⟨some 6, .mov (.c (.int .i64 0)), none, []⟩])
  (.block 0 (.loop (.seq (.seq (.region false [⟨some 15, .mov (.t 6), none, []⟩,
   ⟨some 16, .mov (.t 0), none, []⟩,
   ⟨some 17, .len (.t 16), none, []⟩,
   ⟨some 18, .bin .lss (.t 15) (.t 17), none, []⟩])
  (.cond (.t 18) (.skip)
  (.exit 0)))
  (.seq (.block 1 (.seq (.region false [⟨some 7, .mov (.c (.int .u64 0)), none, []⟩])
  (.seq (.seq (.region false [⟨some 8, .mov (.c (.int .i64 0)), none, []⟩])
  (.block 2 (.loop (.seq (.seq (.region false [⟨some 21, .mov (.t 8), none, []⟩,
   ⟨some 22, .mov (.t 1), none, []⟩,
   ⟨some 23, .len (.t 22), none, []⟩,
   ⟨some 24, .bin .lss (.t 21) (.t 23), none, []⟩])
  (.cond (.t 24) (.skip)
  (.exit 2)))
  (.seq (.block 3 (.seq (.region true [⟨some 27, .mov (.t 7), none, []⟩,
   ⟨some 28, .cpy 5, none, []⟩,
   ⟨some 29, .mov (.t 6), none, []⟩,
   ⟨some 30, .mov (.t 8), none, []⟩,
   ⟨some 31, .bin .add (.t 29) (.t 30), none, []⟩,
   ⟨some 32, .ixo 28 5 (.t 31) 1, none, []⟩,
   ⟨some 33, .ld 32 5 1 true, none, []⟩,
   ⟨some 34, .cv .u64 (.t 33), none, []⟩,
   ⟨some 35, .mov (.t 0), none, []⟩,
   ⟨some 36, .mov (.t 6), none, []⟩,
   ⟨some 37, .ixa 35 (.t 36) 1, none, []⟩,
   ⟨some 38, .ld 37 37 1 true, none, []⟩,
   ⟨some 39, .cv .u64 (.t 38), none, []⟩,
   ⟨some 40, .mov (.t 1), none, []⟩,
   ⟨some 41, .mov (.t 8), none, []⟩,
   ⟨some 42, .ixa 40 (.t 41) 1, none, []⟩,
   ⟨some 43, .ld 42 42 1 true, none, []⟩,
   ⟨some 44, .cv .u64 (.t 43), none, []⟩,
   ⟨some 45, .bin .mul (.t 39) (.t 44), none, []⟩,
   ⟨some 46, .bin .add (.t 34) (.t 45), none, []⟩,
   ⟨some 47, .bin .add (.t 27) (.t 46), none, []⟩,
   ⟨some 7, .mov (.t 47), none, []⟩])
  (.seq (.region false [⟨some 48, .cpy 5, none, []⟩,
   ⟨some 49, .mov (.t 6), none, []⟩,
   ⟨some 50, .mov (.t 8), none, []⟩,
   ⟨some 51, .bin .add (.t 49) (.t 50), none, []⟩,
   ⟨some 52, .mov (.t 7), none, []⟩,
   ⟨some 53, .cv .u32 (.t 52), none, []⟩,
   ⟨some 54, .ixo 48 5 (.t 51) 1, none, []⟩,
   ⟨none, .st 54 5 1 (.t 53), none, []⟩])
  (.region false [⟨some 55, .mov (.t 7), none, []⟩,
   ⟨some 56, .bin .shr (.t 55) (.c (.int .u64 32)), none, []⟩,
   ⟨some 7, .mov (.t 56), none, []⟩]))))
  (.region false [⟨some 25, .mov (.t 8), none, []⟩,
   ⟨some 26, .bin .add (.t 25) (.c (.int .i64 1)), none, []⟩,
   ⟨some 8, .mov (.t 26), none, []⟩]))))))
  (.region false [⟨some 57, .cpy 5, none, []⟩,
   ⟨some 58, .mov (.t 6), none, []⟩,
   ⟨some 59, .mov (.t 1), none, []⟩,
   ⟨some 60, .len (.t 59), none, []⟩,
   ⟨some 61, .bin .add (.t 58) (.t 60), none, []⟩,
   ⟨some 62, .mov (.t 7), none, []⟩,
   ⟨some 63, .cv .u32 (.t 62), none, []⟩,
   ⟨some 64, .ixo 57 5 (.t 61) 1, none, []⟩,
   ⟨none, .st 64 5 1 (.t 63), none, []⟩]))))
  (.region false [⟨some 19, .mov (.t 6), none, []⟩,
   ⟨some 20, .bin .add (.t 19) (.c (.int .i64 1)), none, []⟩,
   ⟨some 6, .mov (.t 20), none, []⟩]))))))
  (.seq (.region false [⟨some 65, .tra 5, none, []⟩,
   ⟨some 4, .tra 65, none, []⟩])
  (.ret))))⟩
def Tryz.r68 : List (Nat × Nat) := [(28, 5), (32, 5), (48, 5), (54, 5), (57, 5), (64, 5)]
theorem Tryz.i68_ok : fnOk Tryz.prog Tryz.r68 Tryz.f68 Tryz.i68 = true := by kernel_rfl

/- pinball/flight.Polys -/
def Tryz.i69 : IFunc := ⟨1, 29, [.tmp 2, .tmp 3],
  .seq (.region false [⟨some 1, .box (.t 0) [7, 8, 10, 11, 13, 14, 18, 19, 21, 22, 24, 25], none, []⟩,
   ⟨some 2, .nlo 2, none, []⟩,
   ⟨some 3, .nlo 2, none, []⟩])
  (.seq (.seq (.region false [⟨some 4, .ld 1 1 6 false, none, []⟩,
   ⟨some 5, .call 53 [.t 4], none, []⟩,
   ⟨some 6, .un .not (.t 5), none, []⟩])
  (.cond (.t 6) (.seq (.region false [⟨some 2, .nlo 2, none, []⟩,
   ⟨some 3, .nlo 2, none, []⟩])
  (.ret))
  (.skip)))
  (.seq (.region true [⟨some 7, .adr 1 1 0, none, []⟩,
   ⟨some 8, .adr 7 1 0, none, []⟩,
   ⟨some 9, .ld 8 1 1 true, none, []⟩,
   ⟨some 10, .adr 1 1 2, none, []⟩,
   ⟨some 11, .adr 10 1 0, none, []⟩,
   ⟨some 12, .ld 11 1 1 true, none, []⟩,
   ⟨some 13, .adr 1 1 4, none, []⟩,
   ⟨some 14, .adr 13 1 0, none, []⟩,
   ⟨some 15, .ld 14 1 1 true, none, []⟩,
   ⟨some 16, .bls 3 [.int .i64 0, .int .i64 0, .int .i64 0] [(0, 1, .t 9), (1, 1, .t 12), (2, 1, .t 15)], none, []⟩,
   ⟨some 17, .clo 93 [.t 16], none, []⟩,
   ⟨some 18, .adr 1 1 0, none, []⟩,
   ⟨some 19, .adr 18 1 1, none, []⟩,
   ⟨some 20, .ld 19 1 1 true, none, []⟩,
   ⟨some 21, .adr 1 1 2, none, []⟩,
   ⟨some 22, .adr 21 1 1, none, []⟩,
   ⟨some 23, .ld 22 1 1 true, none, []⟩,
   ⟨some 24, .adr 1 1 4, none, []⟩,
   ⟨some 25, .adr 24 1 1, none, []⟩,
   ⟨some 26, .ld 25 1 1 true, none, []⟩,
   ⟨some 27, .bls 3 [.int .i64 0, .int .i64 0, .int .i64 0] [(0, 1, .t 20), (1, 1, .t 23), (2, 1, .t 26)], none, []⟩,
   ⟨some 28, .clo 93 [.t 27], none, []⟩,
   ⟨some 2, .tra 17, none, []⟩,
   ⟨some 3, .tra 28, none, []⟩])
  (.ret)))⟩
def Tryz.r69 : List (Nat × Nat) := [(7, 1), (8, 1), (10, 1), (11, 1), (13, 1), (14, 1), (18, 1), (19, 1), (21, 1), (22, 1), (24, 1), (25, 1)]
theorem Tryz.i69_ok : fnOk Tryz.prog Tryz.r69 Tryz.f69 Tryz.i69 = true := by kernel_rfl

/- pinball/algebra.Plus -/
def Tryz.i70 : IFunc := ⟨2, 52, [.tmp 4],
  .seq (.region false [⟨some 4, .nlo 2, none, []⟩])
  (.seq (.region false [⟨some 9, .mov (.t 0), none, []⟩,
   ⟨some 10, .call 71 [.t 9], none, []⟩,
   ⟨some 11, .bin .add (.t 10) (.c (.int .i64 1)), none, []⟩,
   ⟨some 12, .mov (.t 1), none, []⟩,
   ⟨some 13, .call 71 [.t 12], none, []⟩,
   ⟨some 14, .bin .add (.t 13) (.c (.int .i64 1)), none, []⟩,
   ⟨some 5, .mov (.t 11), none, []⟩,
   ⟨some 6, .mov (.t 14), none, []⟩])
  (.seq (.region false [⟨some 15, .mov (.t 5), none, []⟩,
   ⟨some 16, .mov (.t 6), none, []⟩,
   ⟨some 17, .mx [.t 15, .t 16], none, []⟩,
   ⟨some 18, .mks [.bool false, .sl 0 []] (.t 17), none, []⟩,
   ⟨some 7, .tra 18, none, [19, 27, 33, 37, 39, 41, 48]⟩])
  (.seq (.seq (.region false [⟨some 19, .cpy 7, none, []⟩,
   ⟨some 20, .lno 19 7, none, []⟩,
   ⟨some 21, .mov (.c (.int .i64 0)), none, []⟩])
  (.block 0 (.loop (.seq (.region false [⟨some 22, .bin .lss (.t 21) (.t 20), none, []⟩])
  (.seq (.cond (.t 22) (.skip)
  (.exit 0))
  (.seq (.block 1 (.seq (.region false [⟨some 23, .mov (.t 21), none, []⟩,
   ⟨some 8, .mov (.t 23), none, []⟩])
  (.seq (.seq (.region false [⟨some 24, .mov (.t 8), none, []⟩,
   ⟨some 25, .mov (.t 5), none, []⟩,
   ⟨some 26, .bin .lss (.t 24) (.t 25), none, []⟩])
  (.cond (.t 26) (.region false [⟨some 27, .cpy 7, none, []⟩,
   ⟨some 28, .mov (.t 8), none, []⟩,
   ⟨some 29, .mov (.t 0), none, []⟩,
   ⟨some 30, .mov (.t 8), none, []⟩,
   ⟨some 31, .ixa 29 (.t 30) 2, none, []⟩,
   ⟨some 32, .ld 31 31 2 false, none, []⟩,
   ⟨some 33, .ixo 27 7 (.t 28) 2, none, []⟩,
   ⟨none, .st 33 7 2 (.t 32), none, []⟩])
  (.skip)))
  (.seq (.region false [⟨some 34, .mov (.t 8), none, []⟩,
   ⟨some 35, .mov (.t 6), none, []⟩,
   ⟨some 36, .bin .lss (.t 34) (.t 35), none, []⟩])
  (.cond (.t 36) (.region true [⟨some 37, .cpy 7, none, []⟩,
   ⟨some 38, .mov (.t 8), none, []⟩,
   ⟨some 39, .cpy 7, none, []⟩,
   ⟨some 40, .mov (.t 8), none, []⟩,
   ⟨some 41, .ixo 39 7 (.t 40) 2, none, []⟩,
   ⟨some 42, .ld 41 7 2 false, none, []⟩,
   ⟨some 43, .mov (.t 1), none, []⟩,
   ⟨some 44, .mov (.t 8), none, []⟩,
   ⟨some 45, .ixa 43 (.t 44) 2, none, []⟩,
   ⟨some 46, .ld 45 45 2 false, none, []⟩,
   ⟨some 47, .call 72 [.t 42, .t 46], none, []⟩,
   ⟨some 48, .ixo 37 7 (.t 38) 2, none, []⟩,
   ⟨none, .st 48 7 2 (.t 47), none, []⟩])
  (.skip))))))
  (.region false [⟨some 49, .bin .add (.t 21) (.c (.int .i64 1)), none, []⟩,
   ⟨some 21, .mov (.t 49), none, []⟩])))))))
  (.seq (.region false [⟨some 50, .frz 7, none, []⟩,
   ⟨some 51, .clo 74 [.t 50], none, []⟩,
   ⟨some 4, .tra 51, none, []⟩])
  (.ret)))))⟩
def Tryz.r70 : List (Nat × Nat) := [(19, 7), (27, 7), (33, 7), (37, 7), (39, 7), (41, 7), (48, 7)]
theorem Tryz.i70_ok : fnOk Tryz.prog Tryz.r70 Tryz.f70 Tryz.i70 = true := by kernel_rfl

/- pinball/algebra.Degree -/
def Tryz.i71 : IFunc := ⟨1, 20, [.tmp 2],
  .seq (.region false [⟨some 2, .mov (.c (.int .i64 0)), none, []⟩])
  (.seq (.region false [⟨some 4, .mov (.t 0), none, []⟩,
   ⟨some 5, .len (.t 4), none, []⟩,
   ⟨some 6, .bin .sub (.t 5) (.c (.int .i64 1)), none, []⟩,
   ⟨some 3, .mov (.t 6), none, []⟩])
  (.seq (.block 0 (.loop (.seq (.seq (.region false [⟨some 7, .mov (.t 3), none, []⟩,
   ⟨some 8, .bin .geq (.t 7) (.c (.int .i64 0)), none, []⟩,
   ⟨some 9, .mov (.t 8), none, []⟩,
   ⟨some 10, .mov (.t 0), some (9, true), []⟩,
   ⟨some 11, .mov (.t 3), some (9, true), []⟩,
   ⟨some 12, .ixa 10 (.t 11) 2, some (9, true), []⟩,
   ⟨some 13, .ld 12 12 2 false, some (9, true), []⟩,
   ⟨some 14, .call 94 [.t 13], some (9, true), []⟩,
   ⟨some 15, .bin .eql (.t 14) (.c (.int .i64 0)), some (9, true), []⟩,
   ⟨some 16, .pick (.t 9) (.t 15) (.c (.bool false)), none, []⟩])
  (.cond (.t 16) (.skip)
  (.exit 0)))
  (.block 1 (.region false [⟨some 17, .mov (.t 3), none, []⟩,
   ⟨some 18, .bin .sub (.t 17) (.c (.int .i64 1)), none, []⟩,
   ⟨some 3, .mov (.t 18), none, []⟩])))))
  (.seq (.region false [⟨some 19, .mov (.t 3), none, []⟩,
   ⟨some 2, .mov (.t 19), none, []⟩])
  (.ret))))⟩
def Tryz.r71 : List (Nat × Nat) := []
theorem Tryz.i71_ok : fnOk Tryz.prog Tryz.r71 Tryz.f71 Tryz.i71 = true := by kernel_rfl

/- pinball/wide.Add -/
def Tryz.i72 : IFunc := ⟨2, 24, [.cell 4 2 false],
  .seq (.region false [⟨some 2, .box (.t 0) [], none, []⟩,
   ⟨some 3, .box (.t 1) [], none, []⟩,
   ⟨some 4, .new [.bool false, .sl 0 []] [], none, []⟩])
  (.seq (.region false [⟨some 10, .ld 2 2 2 false, none, []⟩,
   ⟨some 11, .call 95 [.t 10], none, []⟩,
   ⟨some 9, .mov (.t 11), none, []⟩,
   ⟨some 12, .ext (.t 9) 0, none, []⟩,
   ⟨some 13, .ext (.t 9) 1, none, []⟩,
   ⟨some 5, .mov (.t 12), none, []⟩,
   ⟨some 6, .mov (.t 13), none, []⟩])
  (.seq (.region false [⟨some 15, .ld 3 3 2 false, none, []⟩,
   ⟨some 16, .call 95 [.t 15], none, []⟩,
   ⟨some 14, .mov (.t 16), none, []⟩,
   ⟨some 17, .ext (.t 14) 0, none, []⟩,
   ⟨some 18, .ext (.t 14) 1, none, []⟩,
   ⟨some 7, .mov (.t 17), none, []⟩,
   ⟨some 8, .mov (.t 18), none, []⟩])
  (.seq (.region false [⟨some 19, .mov (.t 5), none, []⟩,
   ⟨some 20, .mov (.t 6), none, []⟩,
   ⟨some 21, .mov (.t 7), none, []⟩,
   ⟨some 22, .mov (.t 8), none, []⟩,
   ⟨some 23, .call 96 [.t 19, .t 20, .t 21, .t 22], none, []⟩,
   ⟨none, .st 4 4 2 (.t 23), none, []⟩])
  (.ret))))⟩
def Tryz.r72 : List (Nat × Nat) := []
theorem Tryz.i72_ok : fnOk Tryz.prog Tryz.r72 Tryz.f72 Tryz.i72 = true := by kernel_rfl

/- pinball/wide.Mul -/
def Tryz.i73 : IFunc := ⟨2, 94, [.cell 4 2 false],
  .seq (.region false [⟨some 2, .box (.t 0) [], none, []⟩,
   ⟨some 3, .box (.t 1) [], none, []⟩,
   ⟨some 4, .new [.bool false, .sl 0 []] [], none, []⟩])
  (.seq (.region false [⟨some 17, .ld 2 2 2 false, none, []⟩,
   ⟨some 18, .call 95 [.t 17], none, []⟩,
   ⟨some 16, .mov (.t 18), none, []⟩,
   ⟨some 19, .ext (.t 16) 0, none, []⟩,
   ⟨some 20, .ext (.t 16) 1, none, []⟩,
   ⟨some 5, .mov (.t 19), none, []⟩,
   ⟨some 6, .mov (.t 20), none, []⟩])
  (.seq (.region false [⟨some 22, .ld 3 3 2 false, none, []⟩,
   ⟨some 23, .call 95 [.t 22], none, []⟩,
   ⟨some 21, .mov (.t 23), none, []⟩,
   ⟨some 24, .ext (.t 21) 0, none, []⟩,
   ⟨some 25, .ext (.t 21) 1, none, []⟩,
   ⟨some 7, .mov (.t 24), none, []⟩,
   ⟨some 8, .mov (.t 25), none, []⟩])
  (.seq (.seq (.region false [⟨some 26, .mov (.t 6), none, []⟩,
   ⟨some 27, .len (.t 26), none, []⟩,
   ⟨some 28, .bin .eql (.t 27) (.c (.int .i64 0)), none, []⟩,
   ⟨some 29, .mov (.t 28), none, []⟩,
   ⟨some 30, .mov (.t 8), some (29, false), []⟩,
   ⟨some 31, .len (.t 30), some (29, false), []⟩,
   ⟨some 32, .bin .eql (.t 31) (.c (.int .i64 0)), some (29, false), []⟩,
   ⟨some 33, .pick (.t 29) (.c (.bool true)) (.t 32), none, []⟩])
  (.cond (.t 33) (.seq (.region false [⟨some 34, .bld [.bool false, .sl 0 []] [], none, []⟩,
   ⟨none, .st 4 4 2 (.t 34), none, []⟩])
  (.ret))
  (.skip)))
  (.seq (.region false [⟨some 35, .mov (.t 6), none, []⟩,
   ⟨some 36, .len (.t 35), none, []⟩,
   ⟨some 37, .mov (.t 8), none, []⟩,
   ⟨some 38, .len (.t 37), none, []⟩,
   ⟨some 39, .bin .add (.t 36) (.t 38), none, []⟩,
   ⟨some 40, .mks [.int .u32 0] (.t 39), none, []⟩,
   ⟨some 9, .tra 40, none, [60, 64, 70, 78, 80, 87]⟩])
  (.seq (.seq (.region false [⟨some 41, .mov (.t 6), none, []⟩,
   ⟨some 42, .len (.t 41), none, []⟩,
   ⟨some 43, .mov (.c (.int .i64 0)), none, []⟩])
  (.block 0 (.loop (.seq (.region false [⟨some 44, .bin .lss (.t 43) (.t 42), none, []⟩])
  (.seq (.cond (.t 44) (.skip)
  (.exit 0))
  (.seq (.block 1 (.seq (.region false [⟨some 45, .mov (.t 43), none, []⟩,
   ⟨some 46, .ixa 41 (.t 43) 1, none, []⟩,
   ⟨some 47, .ld 46 46 1 true, none, []⟩,
   ⟨some 10, .mov (.t 45), none, []⟩,
   ⟨some 11, .mov (.t 47), none, []⟩])
  (.seq (.region false [⟨some 12, .mov (.c (.int .u64 0)), none, []⟩])
  (.seq (.seq (.region false [⟨some 48, .mov (.t 8), none, []⟩,
   ⟨some 49, .len (.t 48), none, []⟩,
   ⟨some 50, .mov (.c (.int .i64 0)), none, []⟩])
  (.block 2 (.loop (.seq (.region false [⟨some 51, .bin .lss (.t 50) (.t 49), none, []⟩])
  (.seq (.cond (.t 51) (.skip)
  (.exit 2))
  (.seq (.block 3 (.seq (.region false [⟨some 52, .mov (.t 50), none, []⟩,
   ⟨some 53, .ixa 48 (.t 50) 1, none, []⟩,
   ⟨some 54, .ld 53 53 1 true, none, []⟩,
   ⟨some 13, .mov (.t 52), none, []⟩,
   ⟨some 14, .mov (.t 54), none, []⟩])
  (.seq (.region false [⟨some 55, .mov (.t 11), none, []⟩,
   ⟨some 56, .cv .u64 (.t 55), none, []⟩,
   ⟨some 57, .mov (.t 14), none, []⟩,
   ⟨some 58, .cv .u64 (.t 57), none, []⟩,
   ⟨some 59, .bin .mul (.t 56) (.t 58), none, []⟩,
   ⟨some 60, .cpy 9, none, []⟩,
   ⟨some 61, .mov (.t 10), none, []⟩,
   ⟨some 62, .mov (.t 13), none, []⟩,
   ⟨some 63, .bin .add (.t 61) (.t 62), none, []⟩,
   ⟨some 64, .ixo 60 9 (.t 63) 1, none, []⟩,
   ⟨some 65, .ld 64 9 1 true, none, []⟩,
   ⟨some 66, .cv .u64 (.t 65), none, []⟩,
   ⟨some 67, .bin .add (.t 59) (.t 66), none, []⟩,
   ⟨some 68, .mov (.t 12), none, []⟩,
   ⟨some 69, .bin .add (.t 67) (.t 68), none, []⟩,
   ⟨some 15, .mov (.t 69), none, []⟩])
  (.region false [⟨some 70, .cpy 9, none, []⟩,
   ⟨some 71, .mov (.t 10), none, []⟩,
   ⟨some 72, .mov (.t 13), none, []⟩,
   ⟨some 73, .bin .add (.t 71) (.t 72), none, []⟩,
   ⟨some 74, .mov (.t 15), none, []⟩,
   ⟨some 75, .cv .u32 (.t 74), none, []⟩,
   ⟨some 76, .mov (.t 15), none, []⟩,
   ⟨some 77, .bin .shr (.t 76) (.c (.int .u64 32)), none, []⟩,
   ⟨some 78, .ixo 70 9 (.t 73) 1, none, []⟩,
   ⟨none, .st 78 9 1 (.t 75), none, []⟩,
   ⟨some 12, .mov (.t 77), none, []⟩]))))
  (.region false [⟨some 79, .bin .add (.t 50) (.c (.int .i64 1)), none, []⟩,
   ⟨some 50, .mov (.t 79), none, []⟩])))))))
  (.region false [⟨some 80, .cpy 9, none, []⟩,
   ⟨some 81, .mov (.t 10), none, []⟩,
   ⟨some 82, .mov (.t 8), none, []⟩,
   ⟨some 83, .len (.t 82), none, []⟩,
   ⟨some 84, .bin .add (.t 81) (.t 83), none, []⟩,
   ⟨some 85, .mov (.t 12), none, []⟩,
   ⟨some 86, .cv .u32 (.t 85), none, []⟩,
   ⟨some 87, .ixo 80 9 (.t 84) 1, none, []⟩,
   ⟨none, .st 87 9 1 (.t 86), none, []⟩])))))
  (.region false [⟨some 88, .bin .add (.t 43) (.c (.int .i64 1)), none, []⟩,
   ⟨some 43, .mov (.t 88), none, []⟩])))))))
  (.seq (.region false [⟨some 89, .mov (.t 5), none, []⟩,
   ⟨some 90, .mov (.t 7), none, []⟩,
   ⟨some 91, .eqb true (.t 89) (.t 90), none, []⟩,
   ⟨some 92, .frz 9, none, []⟩,
   ⟨some 93, .call 97 [.t 91, .t 92], none, []⟩,
   ⟨none, .st 4 4 2 (.t 93), none, []⟩])
  (.ret)))))))⟩
def Tryz.r73 : List (Nat × Nat) := [(60, 9), (64, 9), (70, 9), (78, 9), (80, 9), (87, 9)]
theorem Tryz.i73_ok : fnOk Tryz.prog Tryz.r73 Tryz.f73 Tryz.i73 = true := by kernel_rfl

/- pinball/algebra.Trim -/
def Tryz.i74 : IFunc := ⟨1, 28, [.tmp 2],
  .seq (.region false [⟨some 2, .nlo 2, none, []⟩])
  (.seq (.region false [⟨some 6, .mov (.t 0), none, []⟩,
   ⟨some 7, .call 71 [.t 6], none, []⟩,
   ⟨some 8, .bin .add (.t 7) (.c (.int .i64 1)), none, []⟩,
   ⟨some 3, .mov (.t 8), none, []⟩])
  (.seq (.seq (.region false [⟨some 9, .mov (.t 3), none, []⟩,
   ⟨some 10, .bin .eql (.t 9) (.c (.int .i64 0)), none, []⟩])
  (.cond (.t 10) (.seq (.region false [⟨some 2, .nlo 2, none, []⟩])
  (.ret))
  (.skip)))
  (.seq (.region false [⟨some 11, .mov (.t 3), none, []⟩,
   ⟨some 12, .mks [.bool false, .sl 0 []] (.t 11), none, []⟩,
   ⟨some 4, .tra 12, none, [13, 18, 25]⟩])
  (.seq (.seq (.region false [⟨some 13, .cpy 4, none, []⟩,
   ⟨some 14, .lno 13 4, none, []⟩,
   ⟨some 15, .mov (.c (.int .i64 0)), none, []⟩])
  (.block 0 (.loop (.seq (.region false [⟨some 16, .bin .lss (.t 15) (.t 14), none, []⟩])
  (.seq (.cond (.t 16) (.skip)
  (.exit 0))
  (.seq (.block 1 (.seq (.region false [⟨some 17, .mov (.t 15), none, []⟩,
   ⟨some 5, .mov (.t 17), none, []⟩])
  (.region false [⟨some 18, .cpy 4, none, []⟩,
   ⟨some 19, .mov (.t 5), none, []⟩,
   ⟨some 20, .mov (.t 0), none, []⟩,
   ⟨some 21, .mov (.t 5), none, []⟩,
   ⟨some 22, .ixa 20 (.t 21) 2, none, []⟩,
   ⟨some 23, .ld 22 22 2 false, none, []⟩,
   ⟨some 24, .call 98 [.t 23], none, []⟩,
   ⟨some 25, .ixo 18 4 (.t 19) 2, none, []⟩,
   ⟨none, .st 25 4 2 (.t 24), none, []⟩])))
  (.region false [⟨some 26, .bin .add (.t 15) (.c (.int .i64 1)), none, []⟩,
   ⟨some 15, .mov (.t 26), none, []⟩])))))))
  (.seq (.region false [⟨some 27, .tra 4, none, []⟩,
   ⟨some 2, .tra 27, none, []⟩])
  (.ret))))))⟩
def Tryz.r74 : List (Nat × Nat) := [(13, 4), (18, 4), (25, 4)]
theorem Tryz.i74_ok : fnOk Tryz.prog Tryz.r74 Tryz.f74 Tryz.i74 = true := by kernel_rfl

/- pinball/wide.Of -/
def Tryz.i75 : IFunc := ⟨1, 19, [.cell 2 2 false],
  .seq (.region false [⟨some 2, .new [.bool false, .sl 0 []] [], none, []⟩])
  (.seq (.region false [⟨some 4, .mov (.t 0), none, []⟩,
   ⟨some 5, .cv .u64 (.t 4), none, []⟩,
   ⟨some 3, .mov (.t 5), none, []⟩])
  (.seq (.seq (.region false [⟨some 6, .mov (.t 0), none, []⟩,
   ⟨some 7, .bin .lss (.t 6) (.c (.int .i64 0)), none, []⟩])
  (.cond (.t 7) (.region false [⟨some 8, .mov (.t 3), none, []⟩,
   ⟨some 9, .un .neg (.t 8), none, []⟩,
   ⟨some 3, .mov (.t 9), none, []⟩])
  (.skip)))
  (.seq (.region false [⟨some 10, .mov (.t 0), none, []⟩,
   ⟨some 11, .bin .lss (.t 10) (.c (.int .i64 0)), none, []⟩,
   ⟨some 12, .mov (.t 3), none, []⟩,
   ⟨some 13, .cv .u32 (.t 12), none, []⟩,
   ⟨some 14, .mov (.t 3), none, []⟩,
   ⟨some 15, .bin .shr (.t 14) (.c (.int .u64 32)), none, []⟩,
   ⟨some 16, .cv .u32 (.t 15), none, []⟩,
   ⟨some 17, .bls 2 [.int .u32 0, .int .u32 0] [(0, 1, .t 13), (1, 1, .t 16)], none, []⟩,
   ⟨some 18, .call 97 [.t 11, .t 17], none, []⟩,
   ⟨none, .st 2 2 2 (.t 18), none, []⟩])
  (.ret))))⟩
def Tryz.r75 : List (Nat × Nat) := []
theorem Tryz.i75_ok : fnOk Tryz.prog Tryz.r75 Tryz.f75 Tryz.i75 = true := by kernel_rfl

/- pinball/algebra.Negative -/
def Tryz.i76 : IFunc := ⟨1, 23, [.tmp 2],
  .seq (.region false [⟨some 2, .nlo 2, none, []⟩])
  (.seq (.region false [⟨some 5, .mov (.t 0), none, []⟩,
   ⟨some 6, .len (.t 5), none, []⟩,
   ⟨some 7, .mks [.bool false, .sl 0 []] (.t 6), none, []⟩,
   ⟨some 3, .tra 7, none, [13, 20]⟩])
  (.seq (.seq (.region false [⟨some 8, .mov (.t 0), none, []⟩,
   ⟨some 9, .len (.t 8), none, []⟩,
   ⟨some 10, .mov (.c (.int .i64 0)), none, []⟩])
  (.block 0 (.loop (.seq (.region false [⟨some 11, .bin .lss (.t 10) (.t 9), none, []⟩])
  (.seq (.cond (.t 11) (.skip)
  (.exit 0))
  (.seq (.block 1 (.seq (.region false [⟨some 12, .mov (.t 10), none, []⟩,
   ⟨some 4, .mov (.t 12), none, []⟩])
  (.region false [⟨some 13, .cpy 3, none, []⟩,
   ⟨some 14, .mov (.t 4), none, []⟩,
   ⟨some 15, .mov (.t 0), none, []⟩,
   ⟨some 16, .mov (.t 4), none, []⟩,
   ⟨some 17, .ixa 15 (.t 16) 2, none, []⟩,
   ⟨some 18, .ld 17 17 2 false, none, []⟩,
   ⟨some 19, .call 99 [.t 18], none, []⟩,
   ⟨some 20, .ixo 13 3 (.t 14) 2, none, []⟩,
   ⟨none, .st 20 3 2 (.t 19), none, []⟩])))
  (.region false [⟨some 21, .bin .add (.t 10) (.c (.int .i64 1)), none, []⟩,
   ⟨some 10, .mov (.t 21), none, []⟩])))))))
  (.seq (.region false [⟨some 22, .tra 3, none, []⟩,
   ⟨some 2, .tra 22, none, []⟩])
  (.ret))))⟩
def Tryz.r76 : List (Nat × Nat) := [(13, 3), (20, 3)]
theorem Tryz.i76_ok : fnOk Tryz.prog Tryz.r76 Tryz.f76 Tryz.i76 = true := by kernel_rfl

/- pinball/wall.square -/
def Tryz.i77 : IFunc := ⟨2, 12, [.tmp 4],
  .seq (.region false [⟨some 4, .nlo 2, none, []⟩])
  (.seq (.region false [⟨some 5, .mov (.t 0), none, []⟩,
   ⟨some 6, .mov (.t 0), none, []⟩,
   ⟨some 7, .call 49 [.t 5, .t 6], none, []⟩,
   ⟨some 8, .mov (.t 1), none, []⟩,
   ⟨some 9, .mov (.t 1), none, []⟩,
   ⟨some 10, .call 49 [.t 8, .t 9], none, []⟩,
   ⟨some 11, .clo 70 [.t 7, .t 10], none, []⟩,
   ⟨some 4, .tra 11, none, []⟩])
  (.ret))⟩
def Tryz.r77 : List (Nat × Nat) := []
theorem Tryz.i77_ok : fnOk Tryz.prog Tryz.r77 Tryz.f77 Tryz.i77 = true := by kernel_rfl

/- pinball/flight.within -/
def Tryz.i78 : IFunc := ⟨2, 29, [.tmp 4],
  .seq (.region false [⟨some 2, .box (.t 0) [5, 11, 17, 24], none, []⟩,
   ⟨some 4, .mov (.c (.bool false)), none, []⟩])
  (.seq (.region false [⟨some 5, .adr 2 2 0, none, []⟩,
   ⟨some 6, .ld 5 2 1 true, none, []⟩,
   ⟨some 7, .mov (.t 1), none, []⟩,
   ⟨some 8, .un .neg (.t 7), none, []⟩,
   ⟨some 9, .bin .geq (.t 6) (.t 8), none, []⟩,
   ⟨some 10, .mov (.t 9), none, []⟩,
   ⟨some 11, .adr 2 2 0, some (10, true), []⟩,
   ⟨some 12, .ld 11 2 1 true, some (10, true), []⟩,
   ⟨some 13, .mov (.t 1), some (10, true), []⟩,
   ⟨some 14, .bin .leq (.t 12) (.t 13), some (10, true), []⟩,
   ⟨some 15, .pick (.t 10) (.t 14) (.c (.bool false)), none, []⟩,
   ⟨some 16, .mov (.t 15), none, []⟩,
   ⟨some 17, .adr 2 2 1, some (16, true), []⟩,
   ⟨some 18, .ld 17 2 1 true, some (16, true), []⟩,
   ⟨some 19, .mov (.t 1), some (16, true), []⟩,
   ⟨some 20, .un .neg (.t 19), some (16, true), []⟩,
   ⟨some 21, .bin .geq (.t 18) (.t 20), some (16, true), []⟩,
   ⟨some 22, .pick (.t 16) (.t 21) (.c (.bool false)), none, []⟩,
   ⟨some 23, .mov (.t 22), none, []⟩,
   ⟨some 24, .adr 2 2 1, some (23, true), []⟩,
   ⟨some 25, .ld 24 2 1 true, some (23, true), []⟩,
   ⟨some 26, .mov (.t 1), some (23, true), []⟩,
   ⟨some 27, .bin .leq (.t 25) (.t 26), some (23, true), []⟩,
   ⟨some 28, .pick (.t 23) (.t 27) (.c (.bool false)), none, []⟩,
   ⟨some 4, .mov (.t 28), none, []⟩])
  (.ret))⟩
def Tryz.r78 : List (Nat × Nat) := [(5, 2), (11, 2), (17, 2), (24, 2)]
theorem Tryz.i78_ok : fnOk Tryz.prog Tryz.r78 Tryz.f78 Tryz.i78 = true := by kernel_rfl

/- pinball/pinballref01.Trim -/
def Tryz.i79 : IFunc := ⟨1, 8, [.cell 2 2 false],
  .seq (.region false [⟨some 1, .box (.t 0) [3, 5], none, []⟩,
   ⟨some 2, .new [.bool false, .sl 0 []] [], none, []⟩])
  (.seq (.region false [⟨some 3, .adr 1 1 0, none, []⟩,
   ⟨some 4, .ld 3 1 1 true, none, []⟩,
   ⟨some 5, .adr 1 1 1, none, []⟩,
   ⟨some 6, .ld 5 1 1 true, none, []⟩,
   ⟨some 7, .call 65 [.t 4, .t 6], none, []⟩,
   ⟨none, .st 2 2 2 (.t 7), none, []⟩])
  (.ret))⟩
def Tryz.r79 : List (Nat × Nat) := [(3, 1), (5, 1)]
theorem Tryz.i79_ok : fnOk Tryz.prog Tryz.r79 Tryz.f79 Tryz.i79 = true := by kernel_rfl

/- pinball/pinballref01.Plus -/
def Tryz.i80 : IFunc := ⟨2, 42, [.cell 4 2 false],
  .seq (.region false [⟨some 2, .box (.t 0) [7, 14, 19, 30], none, []⟩,
   ⟨some 3, .box (.t 1) [10, 16, 36], none, []⟩,
   ⟨some 4, .new [.bool false, .sl 0 []] [], none, []⟩])
  (.seq (.region true [⟨some 7, .adr 2 2 1, none, []⟩,
   ⟨some 8, .ld 7 2 1 true, none, []⟩,
   ⟨some 9, .call 67 [.t 8], none, []⟩,
   ⟨some 10, .adr 3 3 1, none, []⟩,
   ⟨some 11, .ld 10 3 1 true, none, []⟩,
   ⟨some 12, .call 67 [.t 11], none, []⟩,
   ⟨some 5, .mov (.t 9), none, []⟩,
   ⟨some 6, .mov (.t 12), none, []⟩])
  (.seq (.block 0 (.seq (.region false [⟨some 14, .adr 2 2 0, none, []⟩,
   ⟨some 15, .ld 14 2 1 true, none, []⟩,
   ⟨some 16, .adr 3 3 0, none, []⟩,
   ⟨some 17, .ld 16 3 1 true, none, []⟩,
   ⟨some 18, .eqb false (.t 15) (.t 17), none, []⟩,
   ⟨some 13, .mov (.t 18), none, []⟩])
  (.cond (.t 13) (.seq (.region true [⟨some 19, .adr 2 2 0, none, []⟩,
   ⟨some 20, .ld 19 2 1 true, none, []⟩,
   ⟨some 21, .mov (.t 5), none, []⟩,
   ⟨some 22, .mov (.t 6), none, []⟩,
   ⟨some 23, .call 100 [.t 21, .t 22], none, []⟩,
   ⟨some 24, .call 65 [.t 20, .t 23], none, []⟩,
   ⟨none, .st 4 4 2 (.t 24), none, []⟩])
  (.ret))
  (.seq (.region false [⟨some 26, .mov (.t 5), none, []⟩,
   ⟨some 27, .mov (.t 6), none, []⟩,
   ⟨some 28, .call 66 [.t 26, .t 27], none, []⟩,
   ⟨some 29, .bin .geq (.t 28) (.c (.int .i64 0)), none, []⟩,
   ⟨some 25, .mov (.t 29), none, []⟩])
  (.cond (.t 25) (.seq (.region true [⟨some 30, .adr 2 2 0, none, []⟩,
   ⟨some 31, .ld 30 2 1 true, none, []⟩,
   ⟨some 32, .mov (.t 5), none, []⟩,
   ⟨some 33, .mov (.t 6), none, []⟩,
   ⟨some 34, .call 101 [.t 32, .t 33], none, []⟩,
   ⟨some 35, .call 65 [.t 31, .t 34], none, []⟩,
   ⟨none, .st 4 4 2 (.t 35), none, []⟩])
  (.ret))
  (.skip))))))
  (.seq (.region true [⟨some 36, .adr 3 3 0, none, []⟩,
   ⟨some 37, .ld 36 3 1 true, none, []⟩,
   ⟨some 38, .mov (.t 6), none, []⟩,
   ⟨some 39, .mov (.t 5), none, []⟩,
   ⟨some 40, .call 101 [.t 38, .t 39], none, []⟩,
   ⟨some 41, .call 65 [.t 37, .t 40], none, []⟩,
   ⟨none, .st 4 4 2 (.t 41), none, []⟩])
  (.ret))))⟩
def Tryz.r80 : List (Nat × Nat) := [(7, 2), (10, 3), (14, 2), (16, 3), (19, 2), (30, 2), (36, 3)]
theorem Tryz.i80_ok : fnOk Tryz.prog Tryz.r80 Tryz.f80 Tryz.i80 = true := by kernel_rfl

/- pinball/pinballref01.Up -/
def Tryz.i81 : IFunc := ⟨2, 51, [.cell 4 2 false],
  .seq (.region false [⟨some 2, .box (.t 0) [17, 44], none, []⟩,
   ⟨some 4, .new [.bool false, .sl 0 []] [], none, []⟩])
  (.seq (.region false [⟨some 11, .mov (.t 1), none, []⟩,
   ⟨some 12, .bin .quo (.t 11) (.c (.int .i64 32)), none, []⟩,
   ⟨some 13, .mks [.int .u32 0] (.t 12), none, []⟩,
   ⟨some 5, .tra 13, none, []⟩])
  (.seq (.region false [⟨some 6, .mov (.c (.int .u32 0)), none, []⟩])
  (.seq (.region false [⟨some 14, .mov (.t 1), none, []⟩,
   ⟨some 15, .bin .rem (.t 14) (.c (.int .i64 32)), none, []⟩,
   ⟨some 16, .cv .u64 (.t 15), none, []⟩,
   ⟨some 7, .mov (.t 16), none, []⟩])
  (.seq (.region false [⟨some 17, .adr 2 2 1, none, []⟩,
   ⟨some 18, .ld 17 2 1 true, none, []⟩,
   ⟨some 19, .call 67 [.t 18], none, []⟩,
   ⟨some 8, .mov (.t 19), none, []⟩])
  (.seq (.seq (.region false [⟨some 9, .mov (.c (.int .i64 0)), none, []⟩])
  (.block 0 (.loop (.seq (.seq (.region false [⟨some 20, .mov (.t 9), none, []⟩,
   ⟨some 21, .mov (.t 8), none, []⟩,
   ⟨some 22, .len (.t 21), none, []⟩,
   ⟨some 23, .bin .lss (.t 20) (.t 22), none, []⟩])
  (.cond (.t 23) (.skip)
  (.exit 0)))
  (.seq (.block 1 (.seq (.region false [⟨some 26, .mov (.t 8), none, []⟩,
   ⟨some 27, .mov (.t 9), none, []⟩,
   ⟨some 28, .ixa 26 (.t 27) 1, none, []⟩,
   ⟨some 29, .ld 28 28 1 true, none, []⟩,
   ⟨some 30, .cv .u64 (.t 29), none, []⟩,
   ⟨some 31, .mov (.t 7), none, []⟩,
   ⟨some 32, .bin .shl (.t 30) (.t 31), none, []⟩,
   ⟨some 33, .mov (.t 6), none, []⟩,
   ⟨some 34, .cv .u64 (.t 33), none, []⟩,
   ⟨some 35, .bin .or (.t 32) (.t 34), none, []⟩,
   ⟨some 10, .mov (.t 35), none, []⟩])
  (.seq (.region false [⟨some 36, .tra 5, none, []⟩,
   ⟨some 37, .mov (.t 10), none, []⟩,
   ⟨some 38, .cv .u32 (.t 37), none, []⟩,
   ⟨some 39, .bls 1 [.int .u32 0] [(0, 1, .t 38)], none, []⟩,
   ⟨some 40, .apd true (.t 36) (.t 39) 1, none, []⟩,
   ⟨some 5, .tra 40, none, []⟩])
  (.region false [⟨some 41, .mov (.t 10), none, []⟩,
   ⟨some 42, .bin .shr (.t 41) (.c (.int .u64 32)), none, []⟩,
   ⟨some 43, .cv .u32 (.t 42), none, []⟩,
   ⟨some 6, .mov (.t 43), none, []⟩]))))
  (.region false [⟨some 24, .mov (.t 9), none, []⟩,
   ⟨some 25, .bin .add (.t 24) (.c (.int .i64 1)), none, []⟩,
   ⟨some 9, .mov (.t 25), none, []⟩]))))))
  (.seq (.region true [⟨some 44, .adr 2 2 0, none, []⟩,
   ⟨some 45, .ld 44 2 1 true, none, []⟩,
   ⟨some 46, .tra 5, none, []⟩,
   ⟨some 47, .mov (.t 6), none, []⟩,
   ⟨some 48, .bls 1 [.int .u32 0] [(0, 1, .t 47)], none, []⟩,
   ⟨some 49, .apd false (.t 46) (.t 48) 1, none, []⟩,
   ⟨some 50, .call 65 [.t 45, .t 49], none, []⟩,
   ⟨none, .st 4 4 2 (.t 50), none, []⟩])
  (.ret)))))))⟩
def Tryz.r81 : List (Nat × Nat) := [(17, 2), (44, 2)]
theorem Tryz.i81_ok : fnOk Tryz.prog Tryz.r81 Tryz.f81 Tryz.i81 = true := by kernel_rfl

/- pinball/pinballref05.Bernstein -/
def Tryz.i82 : IFunc := ⟨1, 65, [.tmp 2],
  .seq (.region false [⟨some 2, .nlo 2, none, []⟩])
  (.seq (.region false [⟨some 11, .mov (.t 0), none, []⟩,
   ⟨some 12, .call 54 [.t 11], none, []⟩,
   ⟨some 3, .mov (.t 12), none, []⟩])
  (.seq (.region false [⟨some 13, .mov (.t 3), none, []⟩,
   ⟨some 14, .len (.t 13), none, []⟩,
   ⟨some 15, .bin .sub (.t 14) (.c (.int .i64 1)), none, []⟩,
   ⟨some 4, .mov (.t 15), none, []⟩])
  (.seq (.region false [⟨some 5, .mov (.c (.int .i64 1)), none, []⟩])
  (.seq (.seq (.region false [⟨some 6, .mov (.c (.int .i64 0)), none, []⟩])
  (.block 0 (.loop (.seq (.seq (.region false [⟨some 16, .mov (.t 6), none, []⟩,
   ⟨some 17, .mov (.t 4), none, []⟩,
   ⟨some 18, .bin .leq (.t 16) (.t 17), none, []⟩])
  (.cond (.t 18) (.skip)
  (.exit 0)))
  (.seq (.block 1 (.region false [⟨some 21, .mov (.t 5), none, []⟩,
   ⟨some 22, .mov (.t 4), none, []⟩,
   ⟨some 23, .mov (.t 6), none, []⟩,
   ⟨some 24, .call 102 [.t 22, .t 23], none, []⟩,
   ⟨some 25, .bin .mul (.t 21) (.t 24), none, []⟩,
   ⟨some 26, .mov (.t 5), none, []⟩,
   ⟨some 27, .mov (.t 4), none, []⟩,
   ⟨some 28, .mov (.t 6), none, []⟩,
   ⟨some 29, .call 102 [.t 27, .t 28], none, []⟩,
   ⟨some 30, .call 103 [.t 26, .t 29], none, []⟩,
   ⟨some 31, .bin .quo (.t 25) (.t 30), none, []⟩,
   ⟨some 5, .mov (.t 31), none, []⟩]))
  (.region false [⟨some 19, .mov (.t 6), none, []⟩,
   ⟨some 20, .bin .add (.t 19) (.c (.int .i64 1)), none, []⟩,
   ⟨some 6, .mov (.t 20), none, []⟩]))))))
  (.seq (.region false [⟨some 7, .nlo 2, none, []⟩])
  (.seq (.seq (.region false [⟨some 8, .mov (.c (.int .i64 0)), none, []⟩])
  (.block 2 (.loop (.seq (.seq (.region false [⟨some 32, .mov (.t 8), none, []⟩,
   ⟨some 33, .mov (.t 4), none, []⟩,
   ⟨some 34, .bin .leq (.t 32) (.t 33), none, []⟩])
  (.cond (.t 34) (.skip)
  (.exit 2)))
  (.seq (.block 3 (.seq (.region false [⟨some 37, .bld [.bool false, .sl 0 []] [], none, []⟩,
   ⟨some 9, .new [.bool false, .sl 0 []] [], none, []⟩,
   ⟨none, .st 9 9 2 (.t 37), none, []⟩])
  (.seq (.seq (.region false [⟨some 10, .mov (.c (.int .i64 0)), none, []⟩])
  (.block 4 (.loop (.seq (.seq (.region false [⟨some 38, .mov (.t 10), none, []⟩,
   ⟨some 39, .mov (.t 8), none, []⟩,
   ⟨some 40, .bin .leq (.t 38) (.t 39), none, []⟩])
  (.cond (.t 40) (.skip)
  (.exit 4)))
  (.seq (.block 5 (.region true [⟨some 43, .ld 9 9 2 false, none, []⟩,
   ⟨some 44, .mov (.t 8), none, []⟩,
   ⟨some 45, .mov (.t 10), none, []⟩,
   ⟨some 46, .call 102 [.t 44, .t 45], none, []⟩,
   ⟨some 47, .mov (.t 5), none, []⟩,
   ⟨some 48, .mov (.t 4), none, []⟩,
   ⟨some 49, .mov (.t 10), none, []⟩,
   ⟨some 50, .call 102 [.t 48, .t 49], none, []⟩,
   ⟨some 51, .bin .quo (.t 47) (.t 50), none, []⟩,
   ⟨some 52, .bin .mul (.t 46) (.t 51), none, []⟩,
   ⟨some 53, .call 34 [.t 52], none, []⟩,
   ⟨some 54, .mov (.t 3), none, []⟩,
   ⟨some 55, .mov (.t 10), none, []⟩,
   ⟨some 56, .ixa 54 (.t 55) 2, none, []⟩,
   ⟨some 57, .ld 56 56 2 false, none, []⟩,
   ⟨some 58, .call 37 [.t 53, .t 57], none, []⟩,
   ⟨some 59, .call 80 [.t 43, .t 58], none, []⟩,
   ⟨none, .st 9 9 2 (.t 59), none, []⟩]))
  (.region false [⟨some 41, .mov (.t 10), none, []⟩,
   ⟨some 42, .bin .add (.t 41) (.c (.int .i64 1)), none, []⟩,
   ⟨some 10, .mov (.t 42), none, []⟩]))))))
  (.region false [⟨some 60, .tra 7, none, []⟩,
   ⟨some 61, .ld 9 9 2 false, none, []⟩,
   ⟨some 62, .bls 1 [.bool false, .sl 0 []] [(0, 2, .t 61)], none, []⟩,
   ⟨some 63, .apd true (.t 60) (.t 62) 2, none, []⟩,
   ⟨some 7, .tra 63, none, []⟩]))))
  (.region false [⟨some 35, .mov (.t 8), none, []⟩,
   ⟨some 36, .bin .add (.t 35) (.c (.int .i64 1)), none, []⟩,
   ⟨some 8, .mov (.t 36), none, []⟩]))))))
  (.seq (.region false [⟨some 64, .tra 7, none, []⟩,
   ⟨some 2, .tra 64, none, []⟩])
  (.ret))))))))⟩
def Tryz.r82 : List (Nat × Nat) := []
theorem Tryz.i82_ok : fnOk Tryz.prog Tryz.r82 Tryz.f82 Tryz.i82 = true := by kernel_rfl

/- pinball/pinballref05.quick -/
def Tryz.i83 : IFunc := ⟨4, 152, [.cell 8 7 false, .tmp 9],
  .seq (.region false [⟨some 8, .new [.sl 0 [], .bool false, .sl 0 [], .int .i64 0, .bool false, .sl 0 [], .int .i64 0] [], none, []⟩,
   ⟨some 9, .mov (.c (.int .i64 0)), none, []⟩])
  (.seq (.region false [⟨some 10, .mov (.c (.bool true)), none, []⟩,
   ⟨some 11, .mov (.c (.int .i64 0)), none, []⟩,
   ⟨some 12, .mov (.c (.int .i64 0)), none, []⟩])
  (.seq (.seq (.region false [⟨some 13, .mov (.c (.int .i64 0)), none, []⟩])
  (.block 0 (.loop (.seq (.seq (.region false [⟨some 24, .mov (.t 13), none, []⟩,
   ⟨some 25, .mov (.t 1), none, []⟩,
   ⟨some 26, .len (.t 25), none, []⟩,
   ⟨some 27, .bin .lss (.t 24) (.t 26), none, []⟩])
  (.cond (.t 27) (.skip)
  (.exit 0)))
  (.seq (.block 1 (.seq (.region false [⟨some 31, .mov (.t 1), none, []⟩,
   ⟨some 32, .mov (.t 13), none, []⟩,
   ⟨some 33, .ixa 31 (.t 32) 1, none, []⟩,
   ⟨some 34, .ld 33 33 1 true, none, []⟩,
   ⟨some 35, .call 104 [.t 34], none, []⟩,
   ⟨some 30, .mov (.t 35), none, []⟩,
   ⟨some 36, .ext (.t 30) 0, none, []⟩,
   ⟨some 37, .ext (.t 30) 1, none, []⟩,
   ⟨some 38, .ext (.t 30) 2, none, []⟩,
   ⟨some 14, .mov (.t 36), none, []⟩,
   ⟨some 15, .mov (.t 37), none, []⟩,
   ⟨some 16, .mov (.t 38), none, []⟩])
  (.seq (.seq (.region false [⟨some 39, .mov (.t 16), none, []⟩,
   ⟨some 40, .un .not (.t 39), none, []⟩])
  (.cond (.t 40) (.seq (.region false [⟨some 41, .bld [.sl 0 [], .bool false, .sl 0 [], .int .i64 0, .bool false, .sl 0 [], .int .i64 0] [], none, []⟩,
   ⟨none, .st 8 8 7 (.t 41), none, []⟩,
   ⟨some 9, .mov (.c (.int .i64 0)), none, []⟩])
  (.ret))
  (.skip)))
  (.seq (.region false [⟨some 42, .mov (.t 10), none, []⟩,
   ⟨some 43, .mov (.t 42), none, []⟩,
   ⟨some 44, .mov (.t 14), some (43, true), []⟩,
   ⟨some 45, .bin .gtr (.t 44) (.c (.int .i64 0)), some (43, true), []⟩,
   ⟨some 46, .pick (.t 43) (.t 45) (.c (.bool false)), none, []⟩,
   ⟨some 10, .mov (.t 46), none, []⟩])
  (.seq (.region false [⟨some 47, .mov (.t 15), none, []⟩,
   ⟨some 48, .bin .gtr (.t 47) (.c (.int .i64 0)), none, []⟩,
   ⟨some 49, .mov (.t 48), none, []⟩,
   ⟨some 50, .mov (.t 14), some (49, false), []⟩,
   ⟨some 51, .bin .lss (.t 50) (.c (.int .i64 0)), some (49, false), []⟩,
   ⟨some 52, .pick (.t 49) (.c (.bool true)) (.t 51), none, []⟩])
  (.cond (.t 52) (.seq (.region false [⟨some 53, .mov (.t 11), none, []⟩,
   ⟨some 54, .bin .add (.t 53) (.c (.int .i64 1)), none, []⟩,
   ⟨some 55, .mov (.t 13), none, []⟩,
   ⟨some 11, .mov (.t 54), none, []⟩,
   ⟨some 12, .mov (.t 55), none, []⟩])
  (.seq (.region true [⟨some 56, .mov (.t 15), none, []⟩,
   ⟨some 57, .bin .neq (.t 56) (.c (.int .i64 1)), none, []⟩,
   ⟨some 58, .mov (.t 57), none, []⟩,
   ⟨some 59, .mov (.t 14), some (58, false), []⟩,
   ⟨some 60, .bin .gtr (.t 59) (.c (.int .i64 0)), some (58, false), []⟩,
   ⟨some 61, .pick (.t 58) (.c (.bool true)) (.t 60), none, []⟩,
   ⟨some 62, .mov (.t 61), none, []⟩,
   ⟨some 63, .mov (.t 1), some (62, false), []⟩,
   ⟨some 64, .mov (.t 13), some (62, false), []⟩,
   ⟨some 65, .ixa 63 (.t 64) 1, some (62, false), []⟩,
   ⟨some 66, .ld 65 65 1 true, some (62, false), []⟩,
   ⟨some 67, .mov (.t 1), some (62, false), []⟩,
   ⟨some 68, .mov (.t 13), some (62, false), []⟩,
   ⟨some 69, .ixa 67 (.t 68) 1, some (62, false), []⟩,
   ⟨some 70, .ld 69 69 1 true, some (62, false), []⟩,
   ⟨some 71, .len (.t 70), some (62, false), []⟩,
   ⟨some 72, .bin .sub (.t 71) (.c (.int .i64 1)), some (62, false), []⟩,
   ⟨some 73, .ixa 66 (.t 72) 2, some (62, false), []⟩,
   ⟨some 74, .ld 73 73 2 false, some (62, false), []⟩,
   ⟨some 75, .call 55 [.t 74], some (62, false), []⟩,
   ⟨some 76, .bin .eql (.t 75) (.c (.int .i64 0)), some (62, false), []⟩,
   ⟨some 77, .pick (.t 62) (.c (.bool true)) (.t 76), none, []⟩])
  (.cond (.t 77) (.region false [⟨some 78, .mov (.t 1), none, []⟩,
   ⟨some 79, .len (.t 78), none, []⟩,
   ⟨some 80, .bin .add (.t 79) (.c (.int .i64 2)), none, []⟩,
   ⟨some 11, .mov (.t 80), none, []⟩])
  (.skip))))
  (.skip)))))))
  (.region false [⟨some 28, .mov (.t 13), none, []⟩,
   ⟨some 29, .bin .add (.t 28) (.c (.int .i64 1)), none, []⟩,
   ⟨some 13, .mov (.t 29), none, []⟩]))))))
  (.seq (.seq (.region false [⟨some 81, .mov (.t 10), none, []⟩])
  (.cond (.t 81) (.seq (.region false [⟨some 82, .mov (.t 2), none, []⟩,
   ⟨some 83, .call 34 [.t 82], none, []⟩,
   ⟨some 84, .mov (.t 3), none, []⟩,
   ⟨some 85, .bld [.bool false, .sl 0 [], .int .i64 0] [(0, 2, .t 83), (2, 1, .t 84)], none, []⟩,
   ⟨some 86, .call 105 [.t 85], none, []⟩,
   ⟨none, .st 8 8 7 (.t 86), none, []⟩,
   ⟨some 9, .mov (.c (.int .i64 1)), none, []⟩])
  (.ret))
  (.skip)))
  (.seq (.seq (.region false [⟨some 87, .mov (.t 11), none, []⟩,
   ⟨some 88, .bin .eql (.t 87) (.c (.int .i64 1)), none, []⟩])
  (.cond (.t 88) (.seq (.region true [⟨some 89, .mov (.t 0), none, []⟩,
   ⟨some 90, .mov (.t 12), none, []⟩,
   ⟨some 91, .ixa 89 (.t 90) 1, none, []⟩,
   ⟨some 92, .ld 91 91 1 true, none, []⟩,
   ⟨some 93, .mov (.t 2), none, []⟩,
   ⟨some 94, .call 34 [.t 93], none, []⟩,
   ⟨some 95, .mov (.t 3), none, []⟩,
   ⟨some 96, .bld [.bool false, .sl 0 [], .int .i64 0] [(0, 2, .t 94), (2, 1, .t 95)], none, []⟩,
   ⟨some 97, .mov (.t 2), none, []⟩,
   ⟨some 98, .bin .add (.t 97) (.c (.int .i64 1)), none, []⟩,
   ⟨some 99, .call 34 [.t 98], none, []⟩,
   ⟨some 100, .mov (.t 3), none, []⟩,
   ⟨some 101, .bld [.bool false, .sl 0 [], .int .i64 0] [(0, 2, .t 99), (2, 1, .t 100)], none, []⟩,
   ⟨some 102, .bld [.sl 0 [], .bool false, .sl 0 [], .int .i64 0, .bool false, .sl 0 [], .int .i64 0] [(0, 1, .t 92), (1, 3, .t 96), (4, 3, .t 101)], none, []⟩,
   ⟨none, .st 8 8 7 (.t 102), none, []⟩,
   ⟨some 9, .mov (.c (.int .i64 1)), none, []⟩])
  (.ret))
  (.skip)))
  (.seq (.seq (.region false [⟨some 103, .mov (.t 3), none, []⟩,
   ⟨some 104, .bin .eql (.t 103) (.c (.int .i64 10)), none, []⟩])
  (.cond (.t 104) (.seq (.region false [⟨some 105, .bld [.sl 0 [], .bool false, .sl 0 [], .int .i64 0, .bool false, .sl 0 [], .int .i64 0] [], none, []⟩,
   ⟨none, .st 8 8 7 (.t 105), none, []⟩,
   ⟨some 9, .mov (.c (.int .i64 2)), none, []⟩])
  (.ret))
  (.skip)))
  (.seq (.region false [⟨some 17, .nlo 1, none, []⟩,
   ⟨some 18, .nlo 1, none, []⟩])
  (.seq (.seq (.region false [⟨some 19, .mov (.c (.int .i64 0)), none, []⟩])
  (.block 2 (.loop (.seq (.seq (.region false [⟨some 106, .mov (.t 19), none, []⟩,
   ⟨some 107, .mov (.t 1), none, []⟩,
   ⟨some 108, .len (.t 107), none, []⟩,
   ⟨some 109, .bin .lss (.t 106) (.t 108), none, []⟩])
  (.cond (.t 109) (.skip)
  (.exit 2)))
  (.seq (.block 3 (.seq (.region false [⟨some 113, .mov (.t 1), none, []⟩,
   ⟨some 114, .mov (.t 19), none, []⟩,
   ⟨some 115, .ixa 113 (.t 114) 1, none, []⟩,
   ⟨some 116, .ld 115 115 1 true, none, []⟩,
   ⟨some 117, .call 106 [.t 116], none, []⟩,
   ⟨some 112, .mov (.t 117), none, []⟩,
   ⟨some 118, .ext (.t 112) 0, none, []⟩,
   ⟨some 119, .ext (.t 112) 1, none, []⟩,
   ⟨some 20, .mov (.t 118), none, []⟩,
   ⟨some 21, .mov (.t 119), none, []⟩])
  (.region false [⟨some 120, .tra 17, none, []⟩,
   ⟨some 121, .mov (.t 20), none, []⟩,
   ⟨some 122, .bls 1 [.sl 0 []] [(0, 1, .t 121)], none, []⟩,
   ⟨some 123, .apd true (.t 120) (.t 122) 1, none, []⟩,
   ⟨some 124, .tra 18, none, []⟩,
   ⟨some 125, .mov (.t 21), none, []⟩,
   ⟨some 126, .bls 1 [.sl 0 []] [(0, 1, .t 125)], none, []⟩,
   ⟨some 127, .apd true (.t 124) (.t 126) 1, none, []⟩,
   ⟨some 17, .tra 123, none, []⟩,
   ⟨some 18, .tra 127, none, []⟩])))
  (.region false [⟨some 110, .mov (.t 19), none, []⟩,
   ⟨some 111, .bin .add (.t 110) (.c (.int .i64 1)), none, []⟩,
   ⟨some 19, .mov (.t 111), none, []⟩]))))))
  (.seq (.region false [⟨some 129, .mov (.t 0), none, []⟩,
   ⟨some 130, .frz 17, none, []⟩,
   ⟨some 131, .mov (.t 2), none, []⟩,
   ⟨some 132, .bin .mul (.c (.int .i64 2)) (.t 131), none, []⟩,
   ⟨some 133, .mov (.t 3), none, []⟩,
   ⟨some 134, .bin .add (.t 133) (.c (.int .i64 1)), none, []⟩,
   ⟨some 135, .call 83 [.t 129, .t 130, .t 132, .t 134], none, []⟩,
   ⟨some 128, .mov (.t 135), none, []⟩,
   ⟨some 136, .ext (.t 128) 0, none, []⟩,
   ⟨some 137, .ext (.t 128) 1, none, []⟩,
   ⟨some 22, .new [.sl 0 [], .bool false, .sl 0 [], .int .i64 0, .bool false, .sl 0 [], .int .i64 0] [], none, []⟩,
   ⟨none, .st 22 22 7 (.t 136), none, []⟩,
   ⟨some 23, .mov (.t 137), none, []⟩])
  (.seq (.seq (.region false [⟨some 138, .mov (.t 23), none, []⟩,
   ⟨some 139, .bin .neq (.t 138) (.c (.int .i64 0)), none, []⟩])
  (.cond (.t 139) (.seq (.region false [⟨some 140, .ld 22 22 7 false, none, []⟩,
   ⟨some 141, .mov (.t 23), none, []⟩,
   ⟨none, .st 8 8 7 (.t 140), none, []⟩,
   ⟨some 9, .mov (.t 141), none, []⟩])
  (.ret))
  (.skip)))
  (.seq (.region false [⟨some 142, .mov (.t 0), none, []⟩,
   ⟨some 143, .frz 18, none, []⟩,
   ⟨some 144, .mov (.t 2), none, []⟩,
   ⟨some 145, .bin .mul (.c (.int .i64 2)) (.t 144), none, []⟩,
   ⟨some 146, .bin .add (.t 145) (.c (.int .i64 1)), none, []⟩,
   ⟨some 147, .mov (.t 3), none, []⟩,
   ⟨some 148, .bin .add (.t 147) (.c (.int .i64 1)), none, []⟩,
   ⟨some 149, .call 83 [.t 142, .t 143, .t 146, .t 148], none, []⟩,
   ⟨some 150, .ext (.t 149) 0, none, []⟩,
   ⟨some 151, .ext (.t 149) 1, none, []⟩,
   ⟨none, .st 8 8 7 (.t 150), none, []⟩,
   ⟨some 9, .mov (.t 151), none, []⟩])
  (.ret)))))))))))⟩
def Tryz.r83 : List (Nat × Nat) := []
theorem Tryz.i83_ok : fnOk Tryz.prog Tryz.r83 Tryz.f83 Tryz.i83 = true := by kernel_rfl

/- pinball/pinballref05.exact -/
def Tryz.i84 : IFunc := ⟨1, 51, [.cell 2 7 false, .tmp 3],
  .seq (.region false [⟨some 2, .new [.sl 0 [], .bool false, .sl 0 [], .int .i64 0, .bool false, .sl 0 [], .int .i64 0] [], none, []⟩,
   ⟨some 3, .mov (.c (.bool false)), none, []⟩])
  (.seq (.region false [⟨some 9, .mov (.t 0), none, []⟩,
   ⟨some 10, .call 107 [.t 9], none, []⟩,
   ⟨some 4, .mov (.t 10), none, []⟩])
  (.seq (.region false [⟨some 11, .bld [.sl 0 [], .bool false, .sl 0 [], .int .i64 0, .bool false, .sl 0 [], .int .i64 0] [], none, []⟩,
   ⟨some 5, .new [.sl 0 [], .bool false, .sl 0 [], .int .i64 0, .bool false, .sl 0 [], .int .i64 0] [], none, []⟩,
   ⟨none, .st 5 5 7 (.t 11), none, []⟩])
  (.seq (.seq (.region false [⟨some 6, .mov (.c (.int .i64 0)), none, []⟩])
  (.block 0 (.loop (.seq (.seq (.region false [⟨some 12, .mov (.t 6), none, []⟩,
   ⟨some 13, .mov (.t 4), none, []⟩,
   ⟨some 14, .len (.t 13), none, []⟩,
   ⟨some 15, .bin .leq (.t 12) (.t 14), none, []⟩])
  (.cond (.t 15) (.skip)
  (.exit 0)))
  (.seq (.block 1 (.seq (.region false [⟨some 18, .bld [.sl 0 [], .bool false, .sl 0 [], .int .i64 0, .bool false, .sl 0 [], .int .i64 0] [], none, []⟩,
   ⟨some 19, .mov (.t 6), none, []⟩,
   ⟨some 20, .mov (.t 4), none, []⟩,
   ⟨some 21, .len (.t 20), none, []⟩,
   ⟨some 22, .bin .lss (.t 19) (.t 21), none, []⟩,
   ⟨some 7, .new [.sl 0 [], .bool false, .sl 0 [], .int .i64 0, .bool false, .sl 0 [], .int .i64 0] [], none, []⟩,
   ⟨none, .st 7 7 7 (.t 18), none, []⟩,
   ⟨some 8, .mov (.t 22), none, []⟩])
  (.seq (.seq (.region false [⟨some 23, .mov (.t 8), none, []⟩])
  (.cond (.t 23) (.region false [⟨some 24, .mov (.t 4), none, []⟩,
   ⟨some 25, .mov (.t 6), none, []⟩,
   ⟨some 26, .ixa 24 (.t 25) 7, none, []⟩,
   ⟨some 27, .ld 26 26 7 false, none, []⟩,
   ⟨none, .st 7 7 7 (.t 27), none, []⟩])
  (.skip)))
  (.seq (.seq (.region true [⟨some 28, .mov (.t 6), none, []⟩,
   ⟨some 29, .bin .gtr (.t 28) (.c (.int .i64 0)), none, []⟩,
   ⟨some 30, .mov (.t 29), none, []⟩,
   ⟨some 31, .ld 5 5 7 false, some (30, true), []⟩,
   ⟨some 32, .call 108 [.c (.int .i64 1)], some (30, true), []⟩,
   ⟨some 33, .call 86 [.t 31, .t 32], some (30, true), []⟩,
   ⟨some 34, .bin .geq (.t 33) (.c (.int .i64 0)), some (30, true), []⟩,
   ⟨some 35, .pick (.t 30) (.t 34) (.c (.bool false)), none, []⟩])
  (.cond (.t 35) (.exit 0)
  (.skip)))
  (.seq (.seq (.region false [⟨some 36, .mov (.t 0), none, []⟩,
   ⟨some 37, .ld 5 5 7 false, none, []⟩,
   ⟨some 38, .mov (.t 6), none, []⟩,
   ⟨some 39, .bin .gtr (.t 38) (.c (.int .i64 0)), none, []⟩,
   ⟨some 40, .ld 7 7 7 false, none, []⟩,
   ⟨some 41, .mov (.t 8), none, []⟩,
   ⟨some 42, .call 110 [.t 37, .t 39, .t 40, .t 41], none, []⟩,
   ⟨some 43, .call 109 [.t 36, .t 42], none, []⟩])
  (.cond (.t 43) (.seq (.seq (.region false [⟨some 44, .mov (.t 6), none, []⟩,
   ⟨some 45, .bin .eql (.t 44) (.c (.int .i64 0)), none, []⟩])
  (.cond (.t 45) (.seq (.region false [⟨some 46, .call 108 [.c (.int .i64 0)], none, []⟩,
   ⟨some 47, .call 105 [.t 46], none, []⟩,
   ⟨none, .st 2 2 7 (.t 47), none, []⟩,
   ⟨some 3, .mov (.c (.bool true)), none, []⟩])
  (.ret))
  (.skip)))
  (.seq (.region false [⟨some 48, .ld 5 5 7 false, none, []⟩,
   ⟨none, .st 2 2 7 (.t 48), none, []⟩,
   ⟨some 3, .mov (.c (.bool true)), none, []⟩])
  (.ret)))
  (.skip)))
  (.region false [⟨some 49, .ld 7 7 7 false, none, []⟩,
   ⟨none, .st 5 5 7 (.t 49), none, []⟩]))))))
  (.region false [⟨some 16, .mov (.t 6), none, []⟩,
   ⟨some 17, .bin .add (.t 16) (.c (.int .i64 1)), none, []⟩,
   ⟨some 6, .mov (.t 17), none, []⟩]))))))
  (.seq (.region false [⟨some 50, .bld [.sl 0 [], .bool false, .sl 0 [], .int .i64 0, .bool false, .sl 0 [], .int .i64 0] [], none, []⟩,
   ⟨none, .st 2 2 7 (.t 50), none, []⟩,
   ⟨some 3, .mov (.c (.bool false)), none, []⟩])
  (.ret)))))⟩
def Tryz.r84 : List (Nat × Nat) := []
theorem Tryz.i84_ok : fnOk Tryz.prog Tryz.r84 Tryz.f84 Tryz.i84 = true := by kernel_rfl

/- pinball/pinballref03.Compare -/
def Tryz.i85 : IFunc := ⟨2, 16, [.tmp 4],
  .seq (.region false [⟨some 2, .box (.t 0) [5, 12], none, []⟩,
   ⟨some 3, .box (.t 1) [7, 10], none, []⟩,
   ⟨some 4, .mov (.c (.int .i64 0)), none, []⟩])
  (.seq (.region true [⟨some 5, .adr 2 2 0, none, []⟩,
   ⟨some 6, .ld 5 2 2 false, none, []⟩,
   ⟨some 7, .adr 3 3 2, none, []⟩,
   ⟨some 8, .ld 7 3 1 true, none, []⟩,
   ⟨some 9, .call 81 [.t 6, .t 8], none, []⟩,
   ⟨some 10, .adr 3 3 0, none, []⟩,
   ⟨some 11, .ld 10 3 2 false, none, []⟩,
   ⟨some 12, .adr 2 2 2, none, []⟩,
   ⟨some 13, .ld 12 2 1 true, none, []⟩,
   ⟨some 14, .call 81 [.t 11, .t 13], none, []⟩,
   ⟨some 15, .call 36 [.t 9, .t 14], none, []⟩,
   ⟨some 4, .mov (.t 15), none, []⟩])
  (.ret))⟩
def Tryz.r85 : List (Nat × Nat) := [(5, 2), (7, 3), (10, 3), (12, 2)]
theorem Tryz.i85_ok : fnOk Tryz.prog Tryz.r85 Tryz.f85 Tryz.i85 = true := by kernel_rfl

/- pinball/pinballref04.With -/
def Tryz.i86 : IFunc := ⟨2, 60, [.tmp 4],
  .seq (.region false [⟨some 2, .box (.t 0) [10, 14, 18, 20, 32, 40, 42, 43, 45, 46], none, []⟩,
   ⟨some 3, .box (.t 1) [34, 36], none, []⟩,
   ⟨some 4, .mov (.c (.int .i64 0)), none, []⟩])
  (.seq (.region true [⟨some 9, .ld 3 3 3 false, none, []⟩,
   ⟨some 10, .adr 2 2 1, none, []⟩,
   ⟨some 11, .ld 10 2 3 false, none, []⟩,
   ⟨some 12, .call 85 [.t 9, .t 11], none, []⟩,
   ⟨some 13, .ld 3 3 3 false, none, []⟩,
   ⟨some 14, .adr 2 2 4, none, []⟩,
   ⟨some 15, .ld 14 2 3 false, none, []⟩,
   ⟨some 16, .call 85 [.t 13, .t 15], none, []⟩,
   ⟨some 5, .mov (.t 12), none, []⟩,
   ⟨some 6, .mov (.t 16), none, []⟩])
  (.seq (.block 0 (.seq (.region false [⟨some 18, .adr 2 2 1, none, []⟩,
   ⟨some 19, .ld 18 2 3 false, none, []⟩,
   ⟨some 20, .adr 2 2 4, none, []⟩,
   ⟨some 21, .ld 20 2 3 false, none, []⟩,
   ⟨some 22, .call 85 [.t 19, .t 21], none, []⟩,
   ⟨some 23, .bin .eql (.t 22) (.c (.int .i64 0)), none, []⟩,
   ⟨some 17, .mov (.t 23), none, []⟩])
  (.cond (.t 17) (.seq (.region false [⟨some 24, .mov (.t 5), none, []⟩,
   ⟨some 25, .un .neg (.t 24), none, []⟩,
   ⟨some 4, .mov (.t 25), none, []⟩])
  (.ret))
  (.seq (.region false [⟨some 27, .mov (.t 5), none, []⟩,
   ⟨some 28, .bin .leq (.t 27) (.c (.int .i64 0)), none, []⟩,
   ⟨some 26, .mov (.t 28), none, []⟩])
  (.cond (.t 26) (.seq (.region false [⟨some 4, .mov (.c (.int .i64 1)), none, []⟩])
  (.ret))
  (.seq (.region false [⟨some 30, .mov (.t 6), none, []⟩,
   ⟨some 31, .bin .gtr (.t 30) (.c (.int .i64 0)), none, []⟩,
   ⟨some 29, .mov (.t 31), none, []⟩])
  (.cond (.t 29) (.seq (.region false [⟨some 4, .mov (.c (.int .i64 (-1))), none, []⟩])
  (.ret))
  (.skip))))))))
  (.seq (.region false [⟨some 32, .adr 2 2 0, none, []⟩,
   ⟨some 33, .ld 32 2 1 true, none, []⟩,
   ⟨some 34, .adr 3 3 0, none, []⟩,
   ⟨some 35, .ld 34 3 2 false, none, []⟩,
   ⟨some 36, .adr 3 3 2, none, []⟩,
   ⟨some 37, .ld 36 3 1 true, none, []⟩,
   ⟨some 38, .call 56 [.t 33, .t 35, .t 37], none, []⟩,
   ⟨some 39, .call 55 [.t 38], none, []⟩,
   ⟨some 7, .mov (.t 39), none, []⟩])
  (.seq (.region false [⟨some 40, .adr 2 2 0, none, []⟩,
   ⟨some 41, .ld 40 2 1 true, none, []⟩,
   ⟨some 42, .adr 2 2 4, none, []⟩,
   ⟨some 43, .adr 42 2 0, none, []⟩,
   ⟨some 44, .ld 43 2 2 false, none, []⟩,
   ⟨some 45, .adr 2 2 4, none, []⟩,
   ⟨some 46, .adr 45 2 2, none, []⟩,
   ⟨some 47, .ld 46 2 1 true, none, []⟩,
   ⟨some 48, .call 56 [.t 41, .t 44, .t 47], none, []⟩,
   ⟨some 49, .call 55 [.t 48], none, []⟩,
   ⟨some 8, .mov (.t 49), none, []⟩])
  (.seq (.block 1 (.seq (.region false [⟨some 51, .mov (.t 7), none, []⟩,
   ⟨some 52, .bin .eql (.t 51) (.c (.int .i64 0)), none, []⟩,
   ⟨some 50, .mov (.t 52), none, []⟩])
  (.cond (.t 50) (.seq (.region false [⟨some 4, .mov (.c (.int .i64 0)), none, []⟩])
  (.ret))
  (.seq (.region false [⟨some 54, .mov (.t 8), none, []⟩,
   ⟨some 55, .bin .eql (.t 54) (.c (.int .i64 0)), none, []⟩,
   ⟨some 53, .mov (.t 55), none, []⟩])
  (.cond (.t 53) (.seq (.region false [⟨some 4, .mov (.c (.int .i64 1)), none, []⟩])
  (.ret))
  (.seq (.region false [⟨some 57, .mov (.t 7), none, []⟩,
   ⟨some 58, .mov (.t 8), none, []⟩,
   ⟨some 59, .bin .eql (.t 57) (.t 58), none, []⟩,
   ⟨some 56, .mov (.t 59), none, []⟩])
  (.cond (.t 56) (.seq (.region false [⟨some 4, .mov (.c (.int .i64 (-1))), none, []⟩])
  (.ret))
  (.skip))))))))
  (.seq (.region false [⟨some 4, .mov (.c (.int .i64 1)), none, []⟩])
  (.ret)))))))⟩
def Tryz.r86 : List (Nat × Nat) := [(10, 2), (14, 2), (18, 2), (20, 2), (32, 2), (34, 3), (36, 3), (40, 2), (42, 2), (43, 2), (45, 2), (46, 2)]
theorem Tryz.i86_ok : fnOk Tryz.prog Tryz.r86 Tryz.f86 Tryz.i86 = true := by kernel_rfl

/- pinball/pinballref04.within -/
def Tryz.i87 : IFunc := ⟨2, 25, [.tmp 4],
  .seq (.region false [⟨some 2, .box (.t 0) [8, 10, 15, 19, 21], none, []⟩,
   ⟨some 4, .mov (.c (.bool false)), none, []⟩])
  (.seq (.seq (.region false [⟨some 5, .mov (.t 1), none, []⟩,
   ⟨some 6, .len (.t 5), none, []⟩,
   ⟨some 7, .bin .lss (.t 6) (.c (.int .i64 2)), none, []⟩])
  (.cond (.t 7) (.seq (.region false [⟨some 4, .mov (.c (.bool false)), none, []⟩])
  (.ret))
  (.skip)))
  (.seq (.seq (.region false [⟨some 8, .adr 2 2 1, none, []⟩,
   ⟨some 9, .ld 8 2 3 false, none, []⟩,
   ⟨some 10, .adr 2 2 4, none, []⟩,
   ⟨some 11, .ld 10 2 3 false, none, []⟩,
   ⟨some 12, .call 85 [.t 9, .t 11], none, []⟩,
   ⟨some 13, .bin .eql (.t 12) (.c (.int .i64 0)), none, []⟩])
  (.cond (.t 13) (.seq (.region false [⟨some 14, .mov (.t 1), none, []⟩,
   ⟨some 15, .adr 2 2 1, none, []⟩,
   ⟨some 16, .ld 15 2 3 false, none, []⟩,
   ⟨some 17, .call 111 [.t 14, .t 16], none, []⟩,
   ⟨some 4, .mov (.t 17), none, []⟩])
  (.ret))
  (.skip)))
  (.seq (.region false [⟨some 18, .mov (.t 1), none, []⟩,
   ⟨some 19, .adr 2 2 1, none, []⟩,
   ⟨some 20, .ld 19 2 3 false, none, []⟩,
   ⟨some 21, .adr 2 2 4, none, []⟩,
   ⟨some 22, .ld 21 2 3 false, none, []⟩,
   ⟨some 23, .call 112 [.t 18, .t 20, .t 22], none, []⟩,
   ⟨some 24, .bin .eql (.t 23) (.c (.int .i64 1)), none, []⟩,
   ⟨some 4, .mov (.t 24), none, []⟩])
  (.ret))))⟩
def Tryz.r87 : List (Nat × Nat) := [(8, 2), (10, 2), (15, 2), (19, 2), (21, 2)]
theorem Tryz.i87_ok : fnOk Tryz.prog Tryz.r87 Tryz.f87 Tryz.i87 = true := by kernel_rfl

/- pinball/pinballref02.Common -/
def Tryz.i88 : IFunc := ⟨2, 22, [.tmp 4],
  .seq (.region false [⟨some 4, .nlo 2, none, []⟩])
  (.seq (.region false [⟨some 8, .mov (.t 0), none, []⟩,
   ⟨some 9, .call 113 [.t 8], none, []⟩,
   ⟨some 10, .mov (.t 1), none, []⟩,
   ⟨some 11, .call 113 [.t 10], none, []⟩,
   ⟨some 5, .mov (.t 9), none, []⟩,
   ⟨some 6, .mov (.t 11), none, []⟩])
  (.seq (.block 0 (.loop (.seq (.seq (.region false [⟨some 12, .mov (.t 6), none, []⟩,
   ⟨some 13, .len (.t 12), none, []⟩,
   ⟨some 14, .bin .gtr (.t 13) (.c (.int .i64 0)), none, []⟩])
  (.cond (.t 14) (.skip)
  (.exit 0)))
  (.block 1 (.seq (.region false [⟨some 15, .mov (.t 5), none, []⟩,
   ⟨some 16, .mov (.t 6), none, []⟩,
   ⟨some 17, .call 114 [.t 15, .t 16], none, []⟩,
   ⟨some 7, .mov (.t 17), none, []⟩])
  (.region false [⟨some 18, .mov (.t 6), none, []⟩,
   ⟨some 19, .mov (.t 7), none, []⟩,
   ⟨some 5, .mov (.t 18), none, []⟩,
   ⟨some 6, .mov (.t 19), none, []⟩]))))))
  (.seq (.region false [⟨some 20, .mov (.t 5), none, []⟩,
   ⟨some 21, .clo 115 [.t 20], none, []⟩,
   ⟨some 4, .tra 21, none, []⟩])
  (.ret))))⟩
def Tryz.r88 : List (Nat × Nat) := []
theorem Tryz.i88_ok : fnOk Tryz.prog Tryz.r88 Tryz.f88 Tryz.i88 = true := by kernel_rfl

/- pinball/pinballref04.apart -/
def Tryz.i89 : IFunc := ⟨2, 19, [.tmp 4],
  .seq (.region false [⟨some 2, .box (.t 0) [5, 14], none, []⟩,
   ⟨some 3, .box (.t 1) [7, 12], none, []⟩,
   ⟨some 4, .mov (.c (.bool false)), none, []⟩])
  (.seq (.region false [⟨some 5, .adr 2 2 4, none, []⟩,
   ⟨some 6, .ld 5 2 3 false, none, []⟩,
   ⟨some 7, .adr 3 3 1, none, []⟩,
   ⟨some 8, .ld 7 3 3 false, none, []⟩,
   ⟨some 9, .call 85 [.t 6, .t 8], none, []⟩,
   ⟨some 10, .bin .leq (.t 9) (.c (.int .i64 0)), none, []⟩,
   ⟨some 11, .mov (.t 10), none, []⟩,
   ⟨some 12, .adr 3 3 4, some (11, false), []⟩,
   ⟨some 13, .ld 12 3 3 false, some (11, false), []⟩,
   ⟨some 14, .adr 2 2 1, some (11, false), []⟩,
   ⟨some 15, .ld 14 2 3 false, some (11, false), []⟩,
   ⟨some 16, .call 85 [.t 13, .t 15], some (11, false), []⟩,
   ⟨some 17, .bin .leq (.t 16) (.c (.int .i64 0)), some (11, false), []⟩,
   ⟨some 18, .pick (.t 11) (.c (.bool true)) (.t 17), none, []⟩,
   ⟨some 4, .mov (.t 18), none, []⟩])
  (.ret))⟩
def Tryz.r89 : List (Nat × Nat) := [(5, 2), (7, 3), (12, 3), (14, 2)]
theorem Tryz.i89_ok : fnOk Tryz.prog Tryz.r89 Tryz.f89 Tryz.i89 = true := by kernel_rfl

/- pinball/pinballref04.Halve -/
def Tryz.i90 : IFunc := ⟨1, 32, [.cell 2 7 false],
  .seq (.region false [⟨some 1, .box (.t 0) [4, 6, 11, 13, 20, 22, 26, 29], none, []⟩,
   ⟨some 2, .new [.sl 0 [], .bool false, .sl 0 [], .int .i64 0, .bool false, .sl 0 [], .int .i64 0] [], none, []⟩])
  (.seq (.seq (.region false [⟨some 4, .adr 1 1 1, none, []⟩,
   ⟨some 5, .ld 4 1 3 false, none, []⟩,
   ⟨some 6, .adr 1 1 4, none, []⟩,
   ⟨some 7, .ld 6 1 3 false, none, []⟩,
   ⟨some 8, .call 85 [.t 5, .t 7], none, []⟩,
   ⟨some 9, .bin .eql (.t 8) (.c (.int .i64 0)), none, []⟩])
  (.cond (.t 9) (.seq (.region false [⟨some 10, .ld 1 1 7 false, none, []⟩,
   ⟨none, .st 2 2 7 (.t 10), none, []⟩])
  (.ret))
  (.skip)))
  (.seq (.region false [⟨some 11, .adr 1 1 1, none, []⟩,
   ⟨some 12, .ld 11 1 3 false, none, []⟩,
   ⟨some 13, .adr 1 1 4, none, []⟩,
   ⟨some 14, .ld 13 1 3 false, none, []⟩,
   ⟨some 15, .call 116 [.t 12, .t 14], none, []⟩,
   ⟨some 3, .new [.bool false, .sl 0 [], .int .i64 0] [], none, []⟩,
   ⟨none, .st 3 3 3 (.t 15), none, []⟩])
  (.seq (.seq (.region false [⟨some 16, .ld 1 1 7 false, none, []⟩,
   ⟨some 17, .ld 3 3 3 false, none, []⟩,
   ⟨some 18, .call 86 [.t 16, .t 17], none, []⟩,
   ⟨some 19, .bin .leq (.t 18) (.c (.int .i64 0)), none, []⟩])
  (.cond (.t 19) (.seq (.region false [⟨some 20, .adr 1 1 0, none, []⟩,
   ⟨some 21, .ld 20 1 1 true, none, []⟩,
   ⟨some 22, .adr 1 1 1, none, []⟩,
   ⟨some 23, .ld 22 1 3 false, none, []⟩,
   ⟨some 24, .ld 3 3 3 false, none, []⟩,
   ⟨some 25, .bld [.sl 0 [], .bool false, .sl 0 [], .int .i64 0, .bool false, .sl 0 [], .int .i64 0] [(0, 1, .t 21), (1, 3, .t 23), (4, 3, .t 24)], none, []⟩,
   ⟨none, .st 2 2 7 (.t 25), none, []⟩])
  (.ret))
  (.skip)))
  (.seq (.region false [⟨some 26, .adr 1 1 0, none, []⟩,
   ⟨some 27, .ld 26 1 1 true, none, []⟩,
   ⟨some 28, .ld 3 3 3 false, none, []⟩,
   ⟨some 29, .adr 1 1 4, none, []⟩,
   ⟨some 30, .ld 29 1 3 false, none, []⟩,
   ⟨some 31, .bld [.sl 0 [], .bool false, .sl 0 [], .int .i64 0, .bool false, .sl 0 [], .int .i64 0] [(0, 1, .t 27), (1, 3, .t 28), (4, 3, .t 30)], none, []⟩,
   ⟨none, .st 2 2 7 (.t 31), none, []⟩])
  (.ret)))))⟩
def Tryz.r90 : List (Nat × Nat) := [(4, 1), (6, 1), (11, 1), (13, 1), (20, 1), (22, 1), (26, 1), (29, 1)]
theorem Tryz.i90_ok : fnOk Tryz.prog Tryz.r90 Tryz.f90 Tryz.i90 = true := by kernel_rfl

/- pinball/pinballref01.Down -/
def Tryz.i91 : IFunc := ⟨2, 104, [.cell 4 2 false],
  .seq (.region false [⟨some 2, .box (.t 0) [13, 91, 95], none, []⟩,
   ⟨some 4, .new [.bool false, .sl 0 []] [], none, []⟩])
  (.seq (.region false [⟨some 13, .adr 2 2 1, none, []⟩,
   ⟨some 14, .ld 13 2 1 true, none, []⟩,
   ⟨some 15, .call 67 [.t 14], none, []⟩,
   ⟨some 5, .mov (.t 15), none, []⟩])
  (.seq (.region false [⟨some 6, .nlo 1, none, []⟩])
  (.seq (.region false [⟨some 7, .mov (.c (.bool false)), none, []⟩])
  (.seq (.seq (.region false [⟨some 8, .mov (.c (.int .i64 0)), none, []⟩])
  (.block 0 (.loop (.seq (.seq (.region false [⟨some 16, .mov (.t 8), none, []⟩,
   ⟨some 17, .mov (.t 5), none, []⟩,
   ⟨some 18, .len (.t 17), none, []⟩,
   ⟨some 19, .bin .lss (.t 16) (.t 18), none, []⟩,
   ⟨some 20, .mov (.t 19), none, []⟩,
   ⟨some 21, .mov (.t 8), some (20, true), []⟩,
   ⟨some 22, .mov (.t 1), some (20, true), []⟩,
   ⟨some 23, .bin .quo (.t 22) (.c (.int .i64 32)), some (20, true), []⟩,
   ⟨some 24, .bin .lss (.t 21) (.t 23), some (20, true), []⟩,
   ⟨some 25, .pick (.t 20) (.t 24) (.c (.bool false)), none, []⟩])
  (.cond (.t 25) (.skip)
  (.exit 0)))
  (.seq (.block 1 (.region false [⟨some 28, .mov (.t 7), none, []⟩,
   ⟨some 29, .mov (.t 28), none, []⟩,
   ⟨some 30, .mov (.t 5), some (29, false), []⟩,
   ⟨some 31, .mov (.t 8), some (29, false), []⟩,
   ⟨some 32, .ixa 30 (.t 31) 1, some (29, false), []⟩,
   ⟨some 33, .ld 32 32 1 true, some (29, false), []⟩,
   ⟨some 34, .bin .neq (.t 33) (.c (.int .u32 0)), some (29, false), []⟩,
   ⟨some 35, .pick (.t 29) (.c (.bool true)) (.t 34), none, []⟩,
   ⟨some 7, .mov (.t 35), none, []⟩]))
  (.region false [⟨some 26, .mov (.t 8), none, []⟩,
   ⟨some 27, .bin .add (.t 26) (.c (.int .i64 1)), none, []⟩,
   ⟨some 8, .mov (.t 27), none, []⟩]))))))
  (.seq (.region false [⟨some 36, .mov (.t 1), none, []⟩,
   ⟨some 37, .bin .rem (.t 36) (.c (.int .i64 32)), none, []⟩,
   ⟨some 38, .cv .u64 (.t 37), none, []⟩,
   ⟨some 9, .mov (.t 38), none, []⟩])
  (.seq (.seq (.region false [⟨some 39, .mov (.t 1), none, []⟩,
   ⟨some 40, .bin .quo (.t 39) (.c (.int .i64 32)), none, []⟩,
   ⟨some 10, .mov (.t 40), none, []⟩])
  (.block 2 (.loop (.seq (.seq (.region false [⟨some 41, .mov (.t 10), none, []⟩,
   ⟨some 42, .mov (.t 5), none, []⟩,
   ⟨some 43, .len (.t 42), none, []⟩,
   ⟨some 44, .bin .lss (.t 41) (.t 43), none, []⟩])
  (.cond (.t 44) (.skip)
  (.exit 2)))
  (.seq (.block 3 (.seq (.region false [⟨some 47, .mov (.t 5), none, []⟩,
   ⟨some 48, .mov (.t 10), none, []⟩,
   ⟨some 49, .ixa 47 (.t 48) 1, none, []⟩,
   ⟨some 50, .ld 49 49 1 true, none, []⟩,
   ⟨some 51, .cv .u64 (.t 50), none, []⟩,
   ⟨some 11, .mov (.t 51), none, []⟩])
  (.seq (.seq (.region false [⟨some 52, .mov (.t 10), none, []⟩,
   ⟨some 53, .bin .add (.t 52) (.c (.int .i64 1)), none, []⟩,
   ⟨some 54, .mov (.t 5), none, []⟩,
   ⟨some 55, .len (.t 54), none, []⟩,
   ⟨some 56, .bin .lss (.t 53) (.t 55), none, []⟩])
  (.cond (.t 56) (.region false [⟨some 57, .mov (.t 11), none, []⟩,
   ⟨some 58, .mov (.t 5), none, []⟩,
   ⟨some 59, .mov (.t 10), none, []⟩,
   ⟨some 60, .bin .add (.t 59) (.c (.int .i64 1)), none, []⟩,
   ⟨some 61, .ixa 58 (.t 60) 1, none, []⟩,
   ⟨some 62, .ld 61 61 1 true, none, []⟩,
   ⟨some 63, .cv .u64 (.t 62), none, []⟩,
   ⟨some 64, .bin .shl (.t 63) (.c (.int .u64 32)), none, []⟩,
   ⟨some 65, .bin .or (.t 57) (.t 64), none, []⟩,
   ⟨some 11, .mov (.t 65), none, []⟩])
  (.skip)))
  (.region false [⟨some 66, .tra 6, none, []⟩,
   ⟨some 67, .mov (.t 11), none, []⟩,
   ⟨some 68, .mov (.t 9), none, []⟩,
   ⟨some 69, .bin .shr (.t 67) (.t 68), none, []⟩,
   ⟨some 70, .cv .u32 (.t 69), none, []⟩,
   ⟨some 71, .bls 1 [.int .u32 0] [(0, 1, .t 70)], none, []⟩,
   ⟨some 72, .apd true (.t 66) (.t 71) 1, none, []⟩,
   ⟨some 6, .tra 72, none, []⟩]))))
  (.region false [⟨some 45, .mov (.t 10), none, []⟩,
   ⟨some 46, .bin .add (.t 45) (.c (.int .i64 1)), none, []⟩,
   ⟨some 10, .mov (.t 46), none, []⟩]))))))
  (.seq (.seq (.region false [⟨some 73, .mov (.t 1), none, []⟩,
   ⟨some 74, .bin .quo (.t 73) (.c (.int .i64 32)), none, []⟩,
   ⟨some 75, .mov (.t 5), none, []⟩,
   ⟨some 76, .len (.t 75), none, []⟩,
   ⟨some 77, .bin .lss (.t 74) (.t 76), none, []⟩])
  (.cond (.t 77) (.region false [⟨some 78, .mov (.t 7), none, []⟩,
   ⟨some 79, .mov (.t 78), none, []⟩,
   ⟨some 80, .mov (.t 5), some (79, false), []⟩,
   ⟨some 81, .mov (.t 1), some (79, false), []⟩,
   ⟨some 82, .bin .quo (.t 81) (.c (.int .i64 32)), some (79, false), []⟩,
   ⟨some 83, .ixa 80 (.t 82) 1, some (79, false), []⟩,
   ⟨some 84, .ld 83 83 1 true, some (79, false), []⟩,
   ⟨some 85, .mov (.t 9), some (79, false), []⟩,
   ⟨some 86, .bin .shl (.c (.int .u32 1)) (.t 85), some (79, false), []⟩,
   ⟨some 87, .bin .sub (.t 86) (.c (.int .u32 1)), some (79, false), []⟩,
   ⟨some 88, .bin .and (.t 84) (.t 87), some (79, false), []⟩,
   ⟨some 89, .bin .neq (.t 88) (.c (.int .u32 0)), some (79, false), []⟩,
   ⟨some 90, .pick (.t 79) (.c (.bool true)) (.t 89), none, []⟩,
   ⟨some 7, .mov (.t 90), none, []⟩])
  (.skip)))
  (.seq (.region false [⟨some 91, .adr 2 2 0, none, []⟩,
   ⟨some 92, .ld 91 2 1 true, none, []⟩,
   ⟨some 93, .frz 6, none, []⟩,
   ⟨some 94, .call 65 [.t 92, .t 93], none, []⟩,
   ⟨some 12, .new [.bool false, .sl 0 []] [], none, []⟩,
   ⟨none, .st 12 12 2 (.t 94), none, []⟩])
  (.seq (.seq (.region false [⟨some 95, .adr 2 2 0, none, []⟩,
   ⟨some 96, .ld 95 2 1 true, none, []⟩,
   ⟨some 97, .mov (.t 96), none, []⟩,
   ⟨some 98, .mov (.t 7), some (97, true), []⟩,
   ⟨some 99, .pick (.t 97) (.t 98) (.c (.bool false)), none, []⟩])
  (.cond (.t 99) (.seq (.region true [⟨some 100, .ld 12 12 2 false, none, []⟩,
   ⟨some 101, .call 34 [.c (.int .i64 1)], none, []⟩,
   ⟨some 102, .call 92 [.t 100, .t 101], none, []⟩,
   ⟨none, .st 4 4 2 (.t 102), none, []⟩])
  (.ret))
  (.skip)))
  (.seq (.region false [⟨some 103, .ld 12 12 2 false, none, []⟩,
   ⟨none, .st 4 4 2 (.t 103), none, []⟩])
  (.ret)))))))))))⟩
def Tryz.r91 : List (Nat × Nat) := [(13, 2), (91, 2), (95, 2)]
theorem Tryz.i91_ok : fnOk Tryz.prog Tryz.r91 Tryz.f91 Tryz.i91 = true := by kernel_rfl

/- pinball/pinballref01.Minus -/
def Tryz.i92 : IFunc := ⟨2, 9, [.cell 4 2 false],
  .seq (.region false [⟨some 2, .box (.t 0) [], none, []⟩,
   ⟨some 3, .box (.t 1) [], none, []⟩,
   ⟨some 4, .new [.bool false, .sl 0 []] [], none, []⟩])
  (.seq (.region true [⟨some 5, .ld 2 2 2 false, none, []⟩,
   ⟨some 6, .ld 3 3 2 false, none, []⟩,
   ⟨some 7, .call 117 [.t 6], none, []⟩,
   ⟨some 8, .call 80 [.t 5, .t 7], none, []⟩,
   ⟨none, .st 4 4 2 (.t 8), none, []⟩])
  (.ret))⟩
def Tryz.r92 : List (Nat × Nat) := []
theorem Tryz.i92_ok : fnOk Tryz.prog Tryz.r92 Tryz.f92 Tryz.i92 = true := by kernel_rfl

/- pinball/poly.Of -/
def Tryz.i93 : IFunc := ⟨1, 5, [.tmp 2],
  .seq (.region false [⟨some 2, .nlo 2, none, []⟩])
  (.seq (.region false [⟨some 3, .mov (.t 0), none, []⟩,
   ⟨some 4, .clo 50 [.t 3], none, []⟩,
   ⟨some 2, .tra 4, none, []⟩])
  (.ret))⟩
def Tryz.r93 : List (Nat × Nat) := []
theorem Tryz.i93_ok : fnOk Tryz.prog Tryz.r93 Tryz.f93 Tryz.i93 = true := by kernel_rfl

/- pinball/wide.Sign -/
def Tryz.i94 : IFunc := ⟨1, 16, [.tmp 2],
  .seq (.region false [⟨some 1, .box (.t 0) [], none, []⟩,
   ⟨some 2, .mov (.c (.int .i64 0)), none, []⟩])
  (.seq (.region false [⟨some 6, .ld 1 1 2 false, none, []⟩,
   ⟨some 7, .call 95 [.t 6], none, []⟩,
   ⟨some 5, .mov (.t 7), none, []⟩,
   ⟨some 8, .ext (.t 5) 0, none, []⟩,
   ⟨some 9, .ext (.t 5) 1, none, []⟩,
   ⟨some 3, .mov (.t 8), none, []⟩,
   ⟨some 4, .mov (.t 9), none, []⟩])
  (.seq (.block 0 (.seq (.region false [⟨some 11, .mov (.t 4), none, []⟩,
   ⟨some 12, .len (.t 11), none, []⟩,
   ⟨some 13, .bin .eql (.t 12) (.c (.int .i64 0)), none, []⟩,
   ⟨some 10, .mov (.t 13), none, []⟩])
  (.cond (.t 10) (.seq (.region false [⟨some 2, .mov (.c (.int .i64 0)), none, []⟩])
  (.ret))
  (.seq (.region false [⟨some 15, .mov (.t 3), none, []⟩,
   ⟨some 14, .mov (.t 15), none, []⟩])
  (.cond (.t 14) (.seq (.region false [⟨some 2, .mov (.c (.int .i64 (-1))), none, []⟩])
  (.ret))
  (.skip))))))
  (.seq (.region false [⟨some 2, .mov (.c (.int .i64 1)), none, []⟩])
  (.ret))))⟩
def Tryz.r94 : List (Nat × Nat) := []
theorem Tryz.i94_ok : fnOk Tryz.prog Tryz.r94 Tryz.f94 Tryz.i94 = true := by kernel_rfl

end Go.Proofs.YthakfjlnhldehaaGreat
