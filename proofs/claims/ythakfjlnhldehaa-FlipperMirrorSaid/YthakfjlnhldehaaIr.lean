/- The functions of the seat in the intermediate language, printed by a program out of the translation, and that each is the program's own. -/
import Derived.Test.YthakfjlnhldehaaProg
import Derived.Test.YthakfjlnhldehaaAbs14
import Derived.KernelRfl
namespace Go.Proofs.Ythakfjlnhldehaa
open Go.Ai
set_option maxRecDepth 100000

def text_14a5d850_0 : List UInt8 := 0 :: 1 :: 2 :: 2 :: 3 :: 3 :: 3 :: 3 :: 4 :: 4 :: 4 :: 4 :: 4 :: 4 :: 4 :: 4 :: 5 :: 5 :: 5 :: 5 :: 5 :: 5 :: 5 :: 5 :: 5 :: 5 :: 5 :: 5 :: 5 :: 5 :: 5 :: 5 :: 6 :: 6 :: 6 :: 6 :: 6 :: 6 :: 6 :: 6 :: []
def text_14a5d850_1 : List UInt8 := 6 :: 6 :: 6 :: 6 :: 6 :: 6 :: 6 :: 6 :: 6 :: 6 :: 6 :: 6 :: 6 :: 6 :: 6 :: 6 :: 6 :: 6 :: 6 :: 6 :: 6 :: 6 :: 6 :: 6 :: 7 :: 7 :: 7 :: 7 :: 7 :: 7 :: 7 :: 7 :: 7 :: 7 :: 7 :: 7 :: 7 :: 7 :: 7 :: 7 :: []
def text_14a5d850_2 : List UInt8 := 7 :: 7 :: 7 :: 7 :: 7 :: 7 :: 7 :: 7 :: 7 :: 7 :: 7 :: 7 :: 7 :: 7 :: 7 :: 7 :: 7 :: 7 :: 7 :: 7 :: 7 :: 7 :: 7 :: 7 :: 7 :: 7 :: 7 :: 7 :: 7 :: 7 :: 7 :: 7 :: 7 :: 7 :: 7 :: 7 :: 7 :: 7 :: 7 :: 7 :: []
def text_14a5d850_3 : List UInt8 := 7 :: 7 :: 7 :: 7 :: 7 :: 7 :: 7 :: 7 :: 8 :: 8 :: 8 :: 8 :: 8 :: 8 :: 8 :: 8 :: 8 :: 8 :: 8 :: 8 :: 8 :: 8 :: 8 :: 8 :: 8 :: 8 :: 8 :: 8 :: 8 :: 8 :: 8 :: 8 :: 8 :: 8 :: 8 :: 8 :: 8 :: 8 :: 8 :: 8 :: []
def text_14a5d850_4 : List UInt8 := 8 :: 8 :: 8 :: 8 :: 8 :: 8 :: 8 :: 8 :: 8 :: 8 :: 8 :: 8 :: 8 :: 8 :: 8 :: 8 :: 8 :: 8 :: 8 :: 8 :: 8 :: 8 :: 8 :: 8 :: 8 :: 8 :: 8 :: 8 :: 8 :: 8 :: 8 :: 8 :: 8 :: 8 :: 8 :: 8 :: 8 :: 8 :: 8 :: 8 :: []
def text_14a5d850_5 : List UInt8 := 8 :: 8 :: 8 :: 8 :: 8 :: 8 :: 8 :: 8 :: 8 :: 8 :: 8 :: 8 :: 8 :: 8 :: 8 :: 8 :: 8 :: 8 :: 8 :: 8 :: 8 :: 8 :: 8 :: 8 :: 8 :: 8 :: 8 :: 8 :: 8 :: 8 :: 8 :: 8 :: 8 :: 8 :: 8 :: 8 :: 8 :: 8 :: 8 :: 8 :: []
def text_14a5d850_6 : List UInt8 := 8 :: 8 :: 8 :: 8 :: 8 :: 8 :: 8 :: 8 :: 8 :: 8 :: 8 :: 8 :: 8 :: 8 :: 8 :: 8 :: []
def text_14a5d850 : ByteArray := ⟨(text_14a5d850_0 ++ text_14a5d850_1 ++ text_14a5d850_2 ++ text_14a5d850_3 ++ text_14a5d850_4 ++ text_14a5d850_5 ++ text_14a5d850_6).toArray⟩

/- pinball/pinballlaw12.ArcMirror -/
def Try.i3 : IFunc := ⟨3, 107, [.tmp 6],
  .seq (.region false [⟨some 3, .box (.t 0) [], none⟩,
   ⟨some 4, .box (.t 1) [14, 19, 25], none⟩,
   ⟨some 6, .mov (.c (.bool false)), none⟩])
  (.seq (.seq (.region false [⟨some 12, .call 11 [], none⟩,
   ⟨some 13, .un .not (.t 12), none⟩])
  (.cond (.t 13) (.seq (.region false [⟨some 6, .mov (.c (.bool false)), none⟩])
  (.ret))
  (.skip)))
  (.seq (.seq (.region false [⟨some 14, .adr 4 4 2, none⟩,
   ⟨some 15, .ld 14 4 2 false, none⟩,
   ⟨some 16, .call 12 [.t 15], none⟩,
   ⟨some 17, .un .not (.t 16), none⟩,
   ⟨some 18, .mov (.t 17), none⟩,
   ⟨some 19, .adr 4 4 4, some (18, false)⟩,
   ⟨some 20, .ld 19 4 2 false, some (18, false)⟩,
   ⟨some 21, .call 12 [.t 20], some (18, false)⟩,
   ⟨some 22, .un .not (.t 21), some (18, false)⟩,
   ⟨some 23, .pick (.t 18) (.c (.bool true)) (.t 22), none⟩,
   ⟨some 24, .mov (.t 23), none⟩,
   ⟨some 25, .adr 4 4 6, some (24, false)⟩,
   ⟨some 26, .ld 25 4 2 false, some (24, false)⟩,
   ⟨some 27, .call 12 [.t 26], some (24, false)⟩,
   ⟨some 28, .un .not (.t 27), some (24, false)⟩,
   ⟨some 29, .pick (.t 24) (.c (.bool true)) (.t 28), none⟩,
   ⟨some 30, .mov (.t 29), none⟩,
   ⟨some 31, .ld 3 3 2 false, some (30, false)⟩,
   ⟨some 32, .call 12 [.t 31], some (30, false)⟩,
   ⟨some 33, .un .not (.t 32), some (30, false)⟩,
   ⟨some 34, .pick (.t 30) (.c (.bool true)) (.t 33), none⟩])
  (.cond (.t 34) (.seq (.region false [⟨some 35, .call 11 [], none⟩,
   ⟨some 6, .mov (.t 35), none⟩])
  (.ret))
  (.skip)))
  (.seq (.region false [⟨some 36, .ld 4 4 12 false, none⟩,
   ⟨some 37, .call 13 [.t 36], none⟩,
   ⟨some 7, .new [.str ByteArray.empty, .int .i64 0, .int .i64 0, .int .i64 0, .int .i64 0, .int .i64 0, .int .i64 0, .int .i64 0, .int .i64 0, .int .i64 0, .int .i64 0, .int .i64 0] [], none⟩,
   ⟨none, .st 7 7 12 (.t 37), none⟩])
  (.seq (.region false [⟨some 39, .ld 4 4 12 false, none⟩,
   ⟨some 40, .call 14 [.t 39], none⟩,
   ⟨some 38, .mov (.t 40), none⟩,
   ⟨some 41, .ext (.t 38) 0, none⟩,
   ⟨some 42, .ext (.t 38) 1, none⟩,
   ⟨some 8, .mov (.t 41), none⟩,
   ⟨some 9, .mov (.t 42), none⟩])
  (.seq (.region false [⟨some 44, .ld 7 7 12 false, none⟩,
   ⟨some 45, .call 14 [.t 44], none⟩,
   ⟨some 43, .mov (.t 45), none⟩,
   ⟨some 46, .ext (.t 43) 0, none⟩,
   ⟨some 47, .ext (.t 43) 1, none⟩,
   ⟨some 10, .mov (.t 46), none⟩,
   ⟨some 11, .mov (.t 47), none⟩])
  (.seq (.seq (.region true [⟨some 48, .mov (.t 8), none⟩,
   ⟨some 49, .mov (.t 10), none⟩,
   ⟨some 50, .bin .neq (.t 48) (.t 49), none⟩,
   ⟨some 51, .mov (.t 50), none⟩,
   ⟨some 52, .mov (.t 9), some (51, false)⟩,
   ⟨some 53, .mov (.t 11), some (51, false)⟩,
   ⟨some 54, .eqb true (.t 52) (.t 53), some (51, false)⟩,
   ⟨some 55, .pick (.t 51) (.c (.bool true)) (.t 54), none⟩,
   ⟨some 56, .mov (.t 55), none⟩,
   ⟨some 57, .ld 7 7 12 false, some (56, false)⟩,
   ⟨some 58, .ld 3 3 2 false, some (56, false)⟩,
   ⟨some 59, .call 16 [.t 58], some (56, false)⟩,
   ⟨some 60, .call 15 [.t 57, .t 59], some (56, false)⟩,
   ⟨some 61, .ld 4 4 12 false, some (56, false)⟩,
   ⟨some 62, .ld 3 3 2 false, some (56, false)⟩,
   ⟨some 63, .call 15 [.t 61, .t 62], some (56, false)⟩,
   ⟨some 64, .eqb true (.t 60) (.t 63), some (56, false)⟩,
   ⟨some 65, .pick (.t 56) (.c (.bool true)) (.t 64), none⟩,
   ⟨some 66, .mov (.t 65), none⟩,
   ⟨some 67, .ld 3 3 2 false, some (66, false)⟩,
   ⟨some 68, .call 16 [.t 67], some (66, false)⟩,
   ⟨some 69, .ld 7 7 12 false, some (66, false)⟩,
   ⟨some 70, .call 17 [.t 68, .t 69], some (66, false)⟩,
   ⟨some 71, .ld 3 3 2 false, some (66, false)⟩,
   ⟨some 72, .ld 4 4 12 false, some (66, false)⟩,
   ⟨some 73, .call 17 [.t 71, .t 72], some (66, false)⟩,
   ⟨some 74, .call 16 [.t 73], some (66, false)⟩,
   ⟨some 75, .eqv true 2 (.t 70) (.t 74), some (66, false)⟩,
   ⟨some 76, .pick (.t 66) (.c (.bool true)) (.t 75), none⟩,
   ⟨some 77, .mov (.t 76), none⟩,
   ⟨some 78, .ld 3 3 2 false, some (77, false)⟩,
   ⟨some 79, .call 16 [.t 78], some (77, false)⟩,
   ⟨some 80, .ld 7 7 12 false, some (77, false)⟩,
   ⟨some 81, .mov (.t 2), some (77, false)⟩,
   ⟨some 82, .call 18 [.t 79, .t 80, .t 81], some (77, false)⟩,
   ⟨some 83, .ld 3 3 2 false, some (77, false)⟩,
   ⟨some 84, .ld 4 4 12 false, some (77, false)⟩,
   ⟨some 85, .mov (.t 2), some (77, false)⟩,
   ⟨some 86, .call 18 [.t 83, .t 84, .t 85], some (77, false)⟩,
   ⟨some 87, .eqb true (.t 82) (.t 86), some (77, false)⟩,
   ⟨some 88, .pick (.t 77) (.c (.bool true)) (.t 87), none⟩])
  (.cond (.t 88) (.seq (.region false [⟨some 6, .mov (.c (.bool false)), none⟩])
  (.ret))
  (.skip)))
  (.seq (.region false [⟨some 89, .ld 3 3 2 false, none⟩,
   ⟨some 90, .ld 4 4 12 false, none⟩,
   ⟨some 91, .mov (.t 2), none⟩,
   ⟨some 92, .call 18 [.t 89, .t 90, .t 91], none⟩,
   ⟨some 93, .un .not (.t 92), none⟩,
   ⟨some 94, .mov (.t 93), none⟩,
   ⟨some 95, .mov (.t 2), some (94, false)⟩,
   ⟨some 96, .bin .add (.t 95) (.c (.int .i64 1)), some (94, false)⟩,
   ⟨some 97, .mov (.t 8), some (94, false)⟩,
   ⟨some 98, .bin .geq (.t 96) (.t 97), some (94, false)⟩,
   ⟨some 99, .pick (.t 94) (.c (.bool true)) (.t 98), none⟩,
   ⟨some 100, .mov (.t 99), none⟩,
   ⟨some 101, .ld 3 3 2 false, some (100, false)⟩,
   ⟨some 102, .ld 4 4 12 false, some (100, false)⟩,
   ⟨some 103, .mov (.t 2), some (100, false)⟩,
   ⟨some 104, .bin .add (.t 103) (.c (.int .i64 1)), some (100, false)⟩,
   ⟨some 105, .call 18 [.t 101, .t 102, .t 104], some (100, false)⟩,
   ⟨some 106, .pick (.t 100) (.c (.bool true)) (.t 105), none⟩,
   ⟨some 6, .mov (.t 106), none⟩])
  (.ret))))))))⟩
def Try.r3 : List (Nat × Nat) := [(14, 4), (19, 4), (25, 4)]
theorem Try.i3_ok : fnOk Try.prog Try.r3 Try.f3 Try.i3 = true := by kernel_rfl

/- pinball/pinballlaw12.ArcCircle -/
def Try.i4 : IFunc := ⟨3, 97, [.tmp 6],
  .seq (.region false [⟨some 3, .box (.t 0) [64, 66, 69, 71], none⟩,
   ⟨some 6, .mov (.c (.bool false)), none⟩])
  (.seq (.seq (.region false [⟨some 11, .call 11 [], none⟩,
   ⟨some 12, .un .not (.t 11), none⟩])
  (.cond (.t 12) (.seq (.region false [⟨some 6, .mov (.c (.bool false)), none⟩])
  (.ret))
  (.skip)))
  (.seq (.seq (.region false [⟨some 13, .mov (.t 1), none⟩,
   ⟨some 14, .bin .lss (.t 13) (.c (.int .i64 2)), none⟩,
   ⟨some 15, .mov (.t 14), none⟩,
   ⟨some 16, .mov (.t 1), some (15, false)⟩,
   ⟨some 17, .bin .gtr (.t 16) (.c (.int .i64 32768)), some (15, false)⟩,
   ⟨some 18, .pick (.t 15) (.c (.bool true)) (.t 17), none⟩,
   ⟨some 19, .mov (.t 18), none⟩,
   ⟨some 20, .mov (.t 2), some (19, false)⟩,
   ⟨some 21, .bin .lss (.t 20) (.c (.int .i64 1)), some (19, false)⟩,
   ⟨some 22, .pick (.t 19) (.c (.bool true)) (.t 21), none⟩,
   ⟨some 23, .mov (.t 22), none⟩,
   ⟨some 24, .mov (.t 2), some (23, false)⟩,
   ⟨some 25, .mov (.t 1), some (23, false)⟩,
   ⟨some 26, .bin .geq (.t 24) (.t 25), some (23, false)⟩,
   ⟨some 27, .pick (.t 23) (.c (.bool true)) (.t 26), none⟩,
   ⟨some 28, .mov (.t 27), none⟩,
   ⟨some 29, .ld 3 3 2 false, some (28, false)⟩,
   ⟨some 30, .call 12 [.t 29], some (28, false)⟩,
   ⟨some 31, .un .not (.t 30), some (28, false)⟩,
   ⟨some 32, .pick (.t 28) (.c (.bool true)) (.t 31), none⟩])
  (.cond (.t 32) (.seq (.region false [⟨some 33, .call 11 [], none⟩,
   ⟨some 6, .mov (.t 33), none⟩])
  (.ret))
  (.skip)))
  (.seq (.region false [⟨some 34, .mov (.t 1), none⟩,
   ⟨some 35, .bld [.int .i64 0, .int .i64 0] [(0, 1, .t 34)], none⟩,
   ⟨some 36, .mov (.t 1), none⟩,
   ⟨some 37, .bld [.int .i64 0, .int .i64 0] [(1, 1, .t 36)], none⟩,
   ⟨some 38, .mov (.t 1), none⟩,
   ⟨some 39, .un .neg (.t 38), none⟩,
   ⟨some 40, .bld [.int .i64 0, .int .i64 0] [(0, 1, .t 39)], none⟩,
   ⟨some 41, .mov (.t 1), none⟩,
   ⟨some 42, .un .neg (.t 41), none⟩,
   ⟨some 43, .bld [.int .i64 0, .int .i64 0] [(1, 1, .t 42)], none⟩,
   ⟨some 44, .bld [.int .i64 0, .int .i64 0, .int .i64 0, .int .i64 0, .int .i64 0, .int .i64 0, .int .i64 0, .int .i64 0] [(0, 2, .t 35), (2, 2, .t 37), (4, 2, .t 40), (6, 2, .t 43)], none⟩,
   ⟨some 7, .new [.int .i64 0, .int .i64 0, .int .i64 0, .int .i64 0, .int .i64 0, .int .i64 0, .int .i64 0, .int .i64 0] [53, 58], none⟩,
   ⟨none, .st 7 7 8 (.t 44), none⟩])
  (.seq (.region false [⟨some 8, .mov (.c (.bool false)), none⟩])
  (.seq (.seq (.region false [⟨some 9, .mov (.c (.int .i64 0)), none⟩])
  (.block 0 (.loop (.seq (.seq (.region false [⟨some 45, .mov (.t 9), none⟩,
   ⟨some 46, .bin .lss (.t 45) (.c (.int .i64 4)), none⟩])
  (.cond (.t 46) (.skip)
  (.exit 0)))
  (.seq (.block 1 (.region true [⟨some 49, .mov (.t 8), none⟩,
   ⟨some 50, .mov (.t 49), none⟩,
   ⟨some 51, .ld 3 3 2 false, some (50, false)⟩,
   ⟨some 52, .mov (.t 9), some (50, false)⟩,
   ⟨some 53, .ixb 7 (.t 52) 4 2, some (50, false)⟩,
   ⟨some 54, .ld 53 7 2 false, some (50, false)⟩,
   ⟨some 55, .mov (.t 9), some (50, false)⟩,
   ⟨some 56, .bin .add (.t 55) (.c (.int .i64 1)), some (50, false)⟩,
   ⟨some 57, .bin .rem (.t 56) (.c (.int .i64 4)), some (50, false)⟩,
   ⟨some 58, .ixb 7 (.t 57) 4 2, some (50, false)⟩,
   ⟨some 59, .ld 58 7 2 false, some (50, false)⟩,
   ⟨some 60, .bld [.str ByteArray.empty, .int .i64 0, .int .i64 0, .int .i64 0, .int .i64 0, .int .i64 0, .int .i64 0, .int .i64 0, .int .i64 0, .int .i64 0, .int .i64 0, .int .i64 0] [(4, 2, .t 54), (6, 2, .t 59)], some (50, false)⟩,
   ⟨some 61, .mov (.t 2), some (50, false)⟩,
   ⟨some 62, .call 18 [.t 51, .t 60, .t 61], some (50, false)⟩,
   ⟨some 63, .pick (.t 50) (.c (.bool true)) (.t 62), none⟩,
   ⟨some 8, .mov (.t 63), none⟩]))
  (.region false [⟨some 47, .mov (.t 9), none⟩,
   ⟨some 48, .bin .add (.t 47) (.c (.int .i64 1)), none⟩,
   ⟨some 9, .mov (.t 48), none⟩]))))))
  (.seq (.region false [⟨some 64, .adr 3 3 0, none⟩,
   ⟨some 65, .ld 64 3 1 true, none⟩,
   ⟨some 66, .adr 3 3 0, none⟩,
   ⟨some 67, .ld 66 3 1 true, none⟩,
   ⟨some 68, .bin .mul (.t 65) (.t 67), none⟩,
   ⟨some 69, .adr 3 3 1, none⟩,
   ⟨some 70, .ld 69 3 1 true, none⟩,
   ⟨some 71, .adr 3 3 1, none⟩,
   ⟨some 72, .ld 71 3 1 true, none⟩,
   ⟨some 73, .bin .mul (.t 70) (.t 72), none⟩,
   ⟨some 74, .bin .add (.t 68) (.t 73), none⟩,
   ⟨some 10, .mov (.t 74), none⟩])
  (.seq (.region false [⟨some 75, .mov (.t 8), none⟩,
   ⟨some 76, .mov (.t 10), none⟩,
   ⟨some 77, .mov (.t 1), none⟩,
   ⟨some 78, .mov (.t 2), none⟩,
   ⟨some 79, .bin .add (.t 77) (.t 78), none⟩,
   ⟨some 80, .mov (.t 1), none⟩,
   ⟨some 81, .mov (.t 2), none⟩,
   ⟨some 82, .bin .add (.t 80) (.t 81), none⟩,
   ⟨some 83, .bin .mul (.t 79) (.t 82), none⟩,
   ⟨some 84, .bin .lss (.t 76) (.t 83), none⟩,
   ⟨some 85, .mov (.t 84), none⟩,
   ⟨some 86, .mov (.t 10), some (85, true)⟩,
   ⟨some 87, .mov (.t 1), some (85, true)⟩,
   ⟨some 88, .mov (.t 2), some (85, true)⟩,
   ⟨some 89, .bin .sub (.t 87) (.t 88), some (85, true)⟩,
   ⟨some 90, .mov (.t 1), some (85, true)⟩,
   ⟨some 91, .mov (.t 2), some (85, true)⟩,
   ⟨some 92, .bin .sub (.t 90) (.t 91), some (85, true)⟩,
   ⟨some 93, .bin .mul (.t 89) (.t 92), some (85, true)⟩,
   ⟨some 94, .bin .gtr (.t 86) (.t 93), some (85, true)⟩,
   ⟨some 95, .pick (.t 85) (.t 94) (.c (.bool false)), none⟩,
   ⟨some 96, .eqb false (.t 75) (.t 95), none⟩,
   ⟨some 6, .mov (.t 96), none⟩])
  (.ret))))))))⟩
def Try.r4 : List (Nat × Nat) := [(53, 7), (58, 7), (64, 3), (66, 3), (69, 3), (71, 3)]
theorem Try.i4_ok : fnOk Try.prog Try.r4 Try.f4 Try.i4 = true := by kernel_rfl

/- pinball/pinballlaw13.FlipperSteps -/
def Try.i5 : IFunc := ⟨3, 79, [.tmp 6],
  .seq (.region false [⟨some 3, .box (.t 0) [], none⟩,
   ⟨some 6, .mov (.c (.bool false)), none⟩])
  (.seq (.seq (.region false [⟨some 15, .call 19 [], none⟩,
   ⟨some 16, .un .not (.t 15), none⟩])
  (.cond (.t 16) (.seq (.region false [⟨some 6, .mov (.c (.bool false)), none⟩])
  (.ret))
  (.skip)))
  (.seq (.seq (.region false [⟨some 17, .mov (.t 1), none⟩,
   ⟨some 18, .len (.t 17), none⟩,
   ⟨some 19, .bin .lss (.t 18) (.c (.int .i64 2)), none⟩])
  (.cond (.t 19) (.seq (.region false [⟨some 20, .call 19 [], none⟩,
   ⟨some 6, .mov (.t 20), none⟩])
  (.ret))
  (.skip)))
  (.seq (.region true [⟨some 22, .ld 3 3 15 false, none⟩,
   ⟨some 23, .mov (.t 1), none⟩,
   ⟨some 24, .ixa 23 (.c (.int .i64 0)) 1, none⟩,
   ⟨some 25, .ld 24 24 1 true, none⟩,
   ⟨some 26, .mov (.t 1), none⟩,
   ⟨some 27, .ixa 26 (.c (.int .i64 1)) 1, none⟩,
   ⟨some 28, .ld 27 27 1 true, none⟩,
   ⟨some 29, .mov (.t 2), none⟩,
   ⟨some 30, .call 20 [.t 22, .t 25, .t 28, .t 29], none⟩,
   ⟨some 21, .mov (.t 30), none⟩,
   ⟨some 31, .ext (.t 21) 0, none⟩,
   ⟨some 32, .ext (.t 21) 1, none⟩,
   ⟨some 7, .mov (.t 31), none⟩,
   ⟨some 8, .mov (.t 32), none⟩])
  (.seq (.region true [⟨some 34, .ld 3 3 15 false, none⟩,
   ⟨some 35, .mov (.t 1), none⟩,
   ⟨some 36, .ixa 35 (.c (.int .i64 0)) 1, none⟩,
   ⟨some 37, .ld 36 36 1 true, none⟩,
   ⟨some 38, .mov (.t 1), none⟩,
   ⟨some 39, .ixa 38 (.c (.int .i64 1)) 1, none⟩,
   ⟨some 40, .ld 39 39 1 true, none⟩,
   ⟨some 41, .mov (.t 2), none⟩,
   ⟨some 42, .call 21 [.t 34, .t 37, .t 40, .t 41], none⟩,
   ⟨some 33, .mov (.t 42), none⟩,
   ⟨some 43, .ext (.t 33) 0, none⟩,
   ⟨some 44, .ext (.t 33) 1, none⟩,
   ⟨some 9, .mov (.t 43), none⟩,
   ⟨some 10, .mov (.t 44), none⟩])
  (.seq (.region true [⟨some 46, .ld 3 3 15 false, none⟩,
   ⟨some 47, .mov (.t 1), none⟩,
   ⟨some 48, .ixa 47 (.c (.int .i64 0)) 1, none⟩,
   ⟨some 49, .ld 48 48 1 true, none⟩,
   ⟨some 50, .call 22 [.t 46, .t 49], none⟩,
   ⟨some 45, .mov (.t 50), none⟩,
   ⟨some 51, .ext (.t 45) 0, none⟩,
   ⟨some 52, .ext (.t 45) 1, none⟩,
   ⟨some 11, .new [.int .i64 0, .int .i64 0] [], none⟩,
   ⟨none, .st 11 11 2 (.t 51), none⟩,
   ⟨some 12, .mov (.t 52), none⟩])
  (.seq (.region true [⟨some 54, .ld 3 3 15 false, none⟩,
   ⟨some 55, .mov (.t 1), none⟩,
   ⟨some 56, .ixa 55 (.c (.int .i64 0)) 1, none⟩,
   ⟨some 57, .ld 56 56 1 true, none⟩,
   ⟨some 58, .call 23 [.t 54, .t 57], none⟩,
   ⟨some 53, .mov (.t 58), none⟩,
   ⟨some 59, .ext (.t 53) 0, none⟩,
   ⟨some 60, .ext (.t 53) 1, none⟩,
   ⟨some 13, .new [.int .i64 0, .int .i64 0] [], none⟩,
   ⟨none, .st 13 13 2 (.t 59), none⟩,
   ⟨some 14, .mov (.t 60), none⟩])
  (.seq (.region false [⟨some 61, .mov (.t 7), none⟩,
   ⟨some 62, .mov (.t 9), none⟩,
   ⟨some 63, .bin .eql (.t 61) (.t 62), none⟩,
   ⟨some 64, .mov (.t 63), none⟩,
   ⟨some 65, .mov (.t 8), some (64, true)⟩,
   ⟨some 66, .mov (.t 10), some (64, true)⟩,
   ⟨some 67, .bin .eql (.t 65) (.t 66), some (64, true)⟩,
   ⟨some 68, .pick (.t 64) (.t 67) (.c (.bool false)), none⟩,
   ⟨some 69, .mov (.t 68), none⟩,
   ⟨some 70, .ld 11 11 2 false, some (69, true)⟩,
   ⟨some 71, .ld 13 13 2 false, some (69, true)⟩,
   ⟨some 72, .eqv false 2 (.t 70) (.t 71), some (69, true)⟩,
   ⟨some 73, .pick (.t 69) (.t 72) (.c (.bool false)), none⟩,
   ⟨some 74, .mov (.t 73), none⟩,
   ⟨some 75, .mov (.t 12), some (74, true)⟩,
   ⟨some 76, .mov (.t 14), some (74, true)⟩,
   ⟨some 77, .bin .eql (.t 75) (.t 76), some (74, true)⟩,
   ⟨some 78, .pick (.t 74) (.t 77) (.c (.bool false)), none⟩,
   ⟨some 6, .mov (.t 78), none⟩])
  (.ret))))))))⟩
def Try.r5 : List (Nat × Nat) := []
theorem Try.i5_ok : fnOk Try.prog Try.r5 Try.f5 Try.i5 = true := by kernel_rfl

/- pinball/pinballlaw13.FlipperRuns -/
def Try.i6 : IFunc := ⟨2, 108, [.tmp 4],
  .seq (.region false [⟨some 2, .box (.t 0) [23, 43, 48, 54, 61, 90, 105], none⟩,
   ⟨some 4, .mov (.c (.bool false)), none⟩])
  (.seq (.seq (.region false [⟨some 12, .call 19 [], none⟩,
   ⟨some 13, .un .not (.t 12), none⟩])
  (.cond (.t 13) (.seq (.region false [⟨some 4, .mov (.c (.bool false)), none⟩])
  (.ret))
  (.skip)))
  (.seq (.seq (.region false [⟨some 14, .ld 2 2 15 false, none⟩,
   ⟨some 15, .call 24 [.t 14], none⟩,
   ⟨some 16, .un .not (.t 15), none⟩,
   ⟨some 17, .mov (.t 16), none⟩,
   ⟨some 18, .mov (.t 1), some (17, false)⟩,
   ⟨some 19, .len (.t 18), some (17, false)⟩,
   ⟨some 20, .bin .gtr (.t 19) (.c (.int .i64 400)), some (17, false)⟩,
   ⟨some 21, .pick (.t 17) (.c (.bool true)) (.t 20), none⟩])
  (.cond (.t 21) (.seq (.region false [⟨some 22, .call 19 [], none⟩,
   ⟨some 4, .mov (.t 22), none⟩])
  (.ret))
  (.skip)))
  (.seq (.region false [⟨some 23, .adr 2 2 6, none⟩,
   ⟨some 24, .ld 23 2 1 true, none⟩,
   ⟨some 5, .mov (.t 24), none⟩,
   ⟨some 6, .mov (.c (.int .i64 0)), none⟩])
  (.seq (.seq (.region false [⟨some 7, .mov (.c (.int .i64 0)), none⟩])
  (.block 0 (.loop (.seq (.seq (.region false [⟨some 25, .mov (.t 7), none⟩,
   ⟨some 26, .mov (.t 1), none⟩,
   ⟨some 27, .len (.t 26), none⟩,
   ⟨some 28, .bin .lss (.t 25) (.t 27), none⟩])
  (.cond (.t 28) (.skip)
  (.exit 0)))
  (.seq (.block 1 (.seq (.region true [⟨some 32, .ld 2 2 15 false, none⟩,
   ⟨some 33, .mov (.t 5), none⟩,
   ⟨some 34, .mov (.t 6), none⟩,
   ⟨some 35, .mov (.t 1), none⟩,
   ⟨some 36, .mov (.t 7), none⟩,
   ⟨some 37, .ixa 35 (.t 36) 1, none⟩,
   ⟨some 38, .ld 37 37 1 true, none⟩,
   ⟨some 39, .call 20 [.t 32, .t 33, .t 34, .t 38], none⟩,
   ⟨some 31, .mov (.t 39), none⟩,
   ⟨some 40, .ext (.t 31) 0, none⟩,
   ⟨some 41, .ext (.t 31) 1, none⟩,
   ⟨some 8, .mov (.t 40), none⟩,
   ⟨some 9, .mov (.t 41), none⟩])
  (.seq (.seq (.region false [⟨some 42, .mov (.t 8), none⟩,
   ⟨some 43, .adr 2 2 6, none⟩,
   ⟨some 44, .ld 43 2 1 true, none⟩,
   ⟨some 45, .bin .lss (.t 42) (.t 44), none⟩,
   ⟨some 46, .mov (.t 45), none⟩,
   ⟨some 47, .mov (.t 8), some (46, false)⟩,
   ⟨some 48, .adr 2 2 7, some (46, false)⟩,
   ⟨some 49, .ld 48 2 1 true, some (46, false)⟩,
   ⟨some 50, .bin .gtr (.t 47) (.t 49), some (46, false)⟩,
   ⟨some 51, .pick (.t 46) (.c (.bool true)) (.t 50), none⟩,
   ⟨some 52, .mov (.t 51), none⟩,
   ⟨some 53, .mov (.t 9), some (52, false)⟩,
   ⟨some 54, .adr 2 2 10, some (52, false)⟩,
   ⟨some 55, .ld 54 2 1 true, some (52, false)⟩,
   ⟨some 56, .un .neg (.t 55), some (52, false)⟩,
   ⟨some 57, .bin .lss (.t 53) (.t 56), some (52, false)⟩,
   ⟨some 58, .pick (.t 52) (.c (.bool true)) (.t 57), none⟩,
   ⟨some 59, .mov (.t 58), none⟩,
   ⟨some 60, .mov (.t 9), some (59, false)⟩,
   ⟨some 61, .adr 2 2 10, some (59, false)⟩,
   ⟨some 62, .ld 61 2 1 true, some (59, false)⟩,
   ⟨some 63, .bin .gtr (.t 60) (.t 62), some (59, false)⟩,
   ⟨some 64, .pick (.t 59) (.c (.bool true)) (.t 63), none⟩,
   ⟨some 65, .mov (.t 64), none⟩,
   ⟨some 66, .mov (.t 9), some (65, false)⟩,
   ⟨some 67, .bin .neq (.t 66) (.c (.int .i64 0)), some (65, false)⟩,
   ⟨some 68, .mov (.t 67), some (65, false)⟩,
   ⟨some 69, .mov (.t 8), some (68, true)⟩,
   ⟨some 70, .mov (.t 5), some (68, true)⟩,
   ⟨some 71, .mov (.t 9), some (68, true)⟩,
   ⟨some 72, .bin .add (.t 70) (.t 71), some (68, true)⟩,
   ⟨some 73, .bin .neq (.t 69) (.t 72), some (68, true)⟩,
   ⟨some 74, .pick (.t 68) (.t 73) (.c (.bool false)), some (65, false)⟩,
   ⟨some 75, .pick (.t 65) (.c (.bool true)) (.t 74), none⟩])
  (.cond (.t 75) (.seq (.region false [⟨some 4, .mov (.c (.bool false)), none⟩])
  (.ret))
  (.skip)))
  (.region false [⟨some 76, .mov (.t 8), none⟩,
   ⟨some 77, .mov (.t 9), none⟩,
   ⟨some 5, .mov (.t 76), none⟩,
   ⟨some 6, .mov (.t 77), none⟩]))))
  (.region false [⟨some 29, .mov (.t 7), none⟩,
   ⟨some 30, .bin .add (.t 29) (.c (.int .i64 1)), none⟩,
   ⟨some 7, .mov (.t 30), none⟩]))))))
  (.seq (.seq (.region false [⟨some 10, .mov (.c (.int .i64 0)), none⟩])
  (.block 2 (.loop (.seq (.seq (.region false [⟨some 78, .mov (.t 10), none⟩,
   ⟨some 79, .bin .lss (.t 78) (.c (.int .i64 700)), none⟩])
  (.cond (.t 79) (.skip)
  (.exit 2)))
  (.seq (.block 3 (.region false [⟨some 83, .ld 2 2 15 false, none⟩,
   ⟨some 84, .mov (.t 5), none⟩,
   ⟨some 85, .mov (.t 6), none⟩,
   ⟨some 86, .call 20 [.t 83, .t 84, .t 85, .c (.bool true)], none⟩,
   ⟨some 82, .mov (.t 86), none⟩,
   ⟨some 87, .ext (.t 82) 0, none⟩,
   ⟨some 88, .ext (.t 82) 1, none⟩,
   ⟨some 5, .mov (.t 87), none⟩,
   ⟨some 6, .mov (.t 88), none⟩]))
  (.region false [⟨some 80, .mov (.t 10), none⟩,
   ⟨some 81, .bin .add (.t 80) (.c (.int .i64 1)), none⟩,
   ⟨some 10, .mov (.t 81), none⟩]))))))
  (.seq (.seq (.region false [⟨some 89, .mov (.t 5), none⟩,
   ⟨some 90, .adr 2 2 7, none⟩,
   ⟨some 91, .ld 90 2 1 true, none⟩,
   ⟨some 92, .bin .neq (.t 89) (.t 91), none⟩])
  (.cond (.t 92) (.seq (.region false [⟨some 4, .mov (.c (.bool false)), none⟩])
  (.ret))
  (.skip)))
  (.seq (.seq (.region false [⟨some 11, .mov (.c (.int .i64 0)), none⟩])
  (.block 4 (.loop (.seq (.seq (.region false [⟨some 93, .mov (.t 11), none⟩,
   ⟨some 94, .bin .lss (.t 93) (.c (.int .i64 700)), none⟩])
  (.cond (.t 94) (.skip)
  (.exit 4)))
  (.seq (.block 5 (.region false [⟨some 98, .ld 2 2 15 false, none⟩,
   ⟨some 99, .mov (.t 5), none⟩,
   ⟨some 100, .mov (.t 6), none⟩,
   ⟨some 101, .call 20 [.t 98, .t 99, .t 100, .c (.bool false)], none⟩,
   ⟨some 97, .mov (.t 101), none⟩,
   ⟨some 102, .ext (.t 97) 0, none⟩,
   ⟨some 103, .ext (.t 97) 1, none⟩,
   ⟨some 5, .mov (.t 102), none⟩,
   ⟨some 6, .mov (.t 103), none⟩]))
  (.region false [⟨some 95, .mov (.t 11), none⟩,
   ⟨some 96, .bin .add (.t 95) (.c (.int .i64 1)), none⟩,
   ⟨some 11, .mov (.t 96), none⟩]))))))
  (.seq (.region false [⟨some 104, .mov (.t 5), none⟩,
   ⟨some 105, .adr 2 2 6, none⟩,
   ⟨some 106, .ld 105 2 1 true, none⟩,
   ⟨some 107, .bin .eql (.t 104) (.t 106), none⟩,
   ⟨some 4, .mov (.t 107), none⟩])
  (.ret)))))))))⟩
def Try.r6 : List (Nat × Nat) := [(23, 2), (43, 2), (48, 2), (54, 2), (61, 2), (90, 2), (105, 2)]
theorem Try.i6_ok : fnOk Try.prog Try.r6 Try.f6 Try.i6 = true := by kernel_rfl

/- pinball/pinballlaw13.FlipperLead -/
def Try.i7 : IFunc := ⟨2, 154, [.tmp 4],
  .seq (.region false [⟨some 2, .box (.t 0) [16, 21, 27, 33, 35, 41, 43, 54, 55, 60, 61, 67, 69, 75, 77, 98, 100, 102, 123, 125], none⟩,
   ⟨some 4, .mov (.c (.bool false)), none⟩])
  (.seq (.seq (.region false [⟨some 14, .call 19 [], none⟩,
   ⟨some 15, .un .not (.t 14), none⟩])
  (.cond (.t 15) (.seq (.region false [⟨some 4, .mov (.c (.bool false)), none⟩])
  (.ret))
  (.skip)))
  (.seq (.seq (.region false [⟨some 16, .adr 2 2 0, none⟩,
   ⟨some 17, .ld 16 2 15 false, none⟩,
   ⟨some 18, .call 24 [.t 17], none⟩,
   ⟨some 19, .un .not (.t 18), none⟩,
   ⟨some 20, .mov (.t 19), none⟩,
   ⟨some 21, .adr 2 2 15, some (20, false)⟩,
   ⟨some 22, .ld 21 2 1 true, some (20, false)⟩,
   ⟨some 23, .call 25 [.t 22], some (20, false)⟩,
   ⟨some 24, .un .not (.t 23), some (20, false)⟩,
   ⟨some 25, .pick (.t 20) (.c (.bool true)) (.t 24), none⟩,
   ⟨some 26, .mov (.t 25), none⟩,
   ⟨some 27, .adr 2 2 16, some (26, false)⟩,
   ⟨some 28, .ld 27 2 1 true, some (26, false)⟩,
   ⟨some 29, .call 25 [.t 28], some (26, false)⟩,
   ⟨some 30, .un .not (.t 29), some (26, false)⟩,
   ⟨some 31, .pick (.t 26) (.c (.bool true)) (.t 30), none⟩,
   ⟨some 32, .mov (.t 31), none⟩,
   ⟨some 33, .adr 2 2 16, some (32, false)⟩,
   ⟨some 34, .ld 33 2 1 true, some (32, false)⟩,
   ⟨some 35, .adr 2 2 15, some (32, false)⟩,
   ⟨some 36, .ld 35 2 1 true, some (32, false)⟩,
   ⟨some 37, .bin .sub (.t 34) (.t 36), some (32, false)⟩,
   ⟨some 38, .bin .gtr (.t 37) (.c (.int .i64 64)), some (32, false)⟩,
   ⟨some 39, .pick (.t 32) (.c (.bool true)) (.t 38), none⟩,
   ⟨some 40, .mov (.t 39), none⟩,
   ⟨some 41, .adr 2 2 15, some (40, false)⟩,
   ⟨some 42, .ld 41 2 1 true, some (40, false)⟩,
   ⟨some 43, .adr 2 2 16, some (40, false)⟩,
   ⟨some 44, .ld 43 2 1 true, some (40, false)⟩,
   ⟨some 45, .bin .sub (.t 42) (.t 44), some (40, false)⟩,
   ⟨some 46, .bin .gtr (.t 45) (.c (.int .i64 64)), some (40, false)⟩,
   ⟨some 47, .pick (.t 40) (.c (.bool true)) (.t 46), none⟩,
   ⟨some 48, .mov (.t 47), none⟩,
   ⟨some 49, .mov (.t 1), some (48, false)⟩,
   ⟨some 50, .bin .lss (.t 49) (.c (.int .i64 200)), some (48, false)⟩,
   ⟨some 51, .pick (.t 48) (.c (.bool true)) (.t 50), none⟩,
   ⟨some 52, .mov (.t 51), none⟩,
   ⟨some 53, .mov (.t 1), some (52, false)⟩,
   ⟨some 54, .adr 2 2 0, some (52, false)⟩,
   ⟨some 55, .adr 54 2 4, some (52, false)⟩,
   ⟨some 56, .ld 55 2 1 true, some (52, false)⟩,
   ⟨some 57, .bin .gtr (.t 53) (.t 56), some (52, false)⟩,
   ⟨some 58, .pick (.t 52) (.c (.bool true)) (.t 57), none⟩,
   ⟨some 59, .mov (.t 58), none⟩,
   ⟨some 60, .adr 2 2 0, some (59, false)⟩,
   ⟨some 61, .adr 60 2 4, some (59, false)⟩,
   ⟨some 62, .ld 61 2 1 true, some (59, false)⟩,
   ⟨some 63, .bin .gtr (.t 62) (.c (.int .i64 32768)), some (59, false)⟩,
   ⟨some 64, .pick (.t 59) (.c (.bool true)) (.t 63), none⟩])
  (.cond (.t 64) (.seq (.region false [⟨some 65, .call 19 [], none⟩,
   ⟨some 4, .mov (.t 65), none⟩])
  (.ret))
  (.skip)))
  (.seq (.region false [⟨some 67, .adr 2 2 0, none⟩,
   ⟨some 68, .ld 67 2 15 false, none⟩,
   ⟨some 69, .adr 2 2 15, none⟩,
   ⟨some 70, .ld 69 2 1 true, none⟩,
   ⟨some 71, .call 22 [.t 68, .t 70], none⟩,
   ⟨some 66, .mov (.t 71), none⟩,
   ⟨some 72, .ext (.t 66) 0, none⟩,
   ⟨some 73, .ext (.t 66) 1, none⟩,
   ⟨some 5, .new [.int .i64 0, .int .i64 0] [84, 91], none⟩,
   ⟨none, .st 5 5 2 (.t 72), none⟩,
   ⟨some 6, .mov (.t 73), none⟩])
  (.seq (.region false [⟨some 75, .adr 2 2 0, none⟩,
   ⟨some 76, .ld 75 2 15 false, none⟩,
   ⟨some 77, .adr 2 2 16, none⟩,
   ⟨some 78, .ld 77 2 1 true, none⟩,
   ⟨some 79, .call 22 [.t 76, .t 78], none⟩,
   ⟨some 74, .mov (.t 79), none⟩,
   ⟨some 80, .ext (.t 74) 0, none⟩,
   ⟨some 81, .ext (.t 74) 1, none⟩,
   ⟨some 7, .new [.int .i64 0, .int .i64 0] [110, 116], none⟩,
   ⟨none, .st 7 7 2 (.t 80), none⟩,
   ⟨some 8, .mov (.t 81), none⟩])
  (.seq (.region true [⟨some 82, .mov (.t 1), none⟩,
   ⟨some 83, .bin .mul (.c (.int .i64 256)) (.t 82), none⟩,
   ⟨some 84, .adr 5 5 0, none⟩,
   ⟨some 85, .ld 84 5 1 true, none⟩,
   ⟨some 86, .bin .mul (.t 83) (.t 85), none⟩,
   ⟨some 87, .mov (.t 6), none⟩,
   ⟨some 88, .bin .quo (.t 86) (.t 87), none⟩,
   ⟨some 89, .mov (.t 1), none⟩,
   ⟨some 90, .bin .mul (.c (.int .i64 256)) (.t 89), none⟩,
   ⟨some 91, .adr 5 5 1, none⟩,
   ⟨some 92, .ld 91 5 1 true, none⟩,
   ⟨some 93, .bin .mul (.t 90) (.t 92), none⟩,
   ⟨some 94, .mov (.t 6), none⟩,
   ⟨some 95, .bin .quo (.t 93) (.t 94), none⟩,
   ⟨some 96, .bld [.int .i64 0, .int .i64 0] [(0, 1, .t 88), (1, 1, .t 95)], none⟩,
   ⟨some 9, .new [.int .i64 0, .int .i64 0] [], none⟩,
   ⟨none, .st 9 9 2 (.t 96), none⟩])
  (.seq (.region false [⟨some 97, .ld 9 9 2 false, none⟩,
   ⟨some 98, .adr 2 2 0, none⟩,
   ⟨some 99, .ld 98 2 15 false, none⟩,
   ⟨some 100, .adr 2 2 15, none⟩,
   ⟨some 101, .ld 100 2 1 true, none⟩,
   ⟨some 102, .adr 2 2 16, none⟩,
   ⟨some 103, .ld 102 2 1 true, none⟩,
   ⟨some 104, .call 26 [.t 97, .t 99, .t 101, .t 103], none⟩,
   ⟨some 10, .new [.int .i64 0, .int .i64 0] [], none⟩,
   ⟨none, .st 10 10 2 (.t 104), none⟩])
  (.seq (.region false [⟨some 105, .ld 5 5 2 false, none⟩,
   ⟨some 106, .ld 10 10 2 false, none⟩,
   ⟨some 107, .call 27 [.t 105, .t 106], none⟩,
   ⟨some 11, .mov (.t 107), none⟩])
  (.seq (.region true [⟨some 108, .ld 5 5 2 false, none⟩,
   ⟨some 109, .mov (.t 1), none⟩,
   ⟨some 110, .adr 7 7 0, none⟩,
   ⟨some 111, .ld 110 7 1 true, none⟩,
   ⟨some 112, .bin .mul (.t 109) (.t 111), none⟩,
   ⟨some 113, .mov (.t 8), none⟩,
   ⟨some 114, .bin .quo (.t 112) (.t 113), none⟩,
   ⟨some 115, .mov (.t 1), none⟩,
   ⟨some 116, .adr 7 7 1, none⟩,
   ⟨some 117, .ld 116 7 1 true, none⟩,
   ⟨some 118, .bin .mul (.t 115) (.t 117), none⟩,
   ⟨some 119, .mov (.t 8), none⟩,
   ⟨some 120, .bin .quo (.t 118) (.t 119), none⟩,
   ⟨some 121, .bld [.int .i64 0, .int .i64 0] [(0, 1, .t 114), (1, 1, .t 120)], none⟩,
   ⟨some 122, .call 27 [.t 108, .t 121], none⟩,
   ⟨some 12, .mov (.t 122), none⟩])
  (.seq (.seq (.region false [⟨some 123, .adr 2 2 16, none⟩,
   ⟨some 124, .ld 123 2 1 true, none⟩,
   ⟨some 125, .adr 2 2 15, none⟩,
   ⟨some 126, .ld 125 2 1 true, none⟩,
   ⟨some 127, .bin .eql (.t 124) (.t 126), none⟩])
  (.cond (.t 127) (.seq (.region false [⟨some 128, .mov (.t 11), none⟩,
   ⟨some 129, .bin .eql (.t 128) (.c (.int .i64 0)), none⟩,
   ⟨some 4, .mov (.t 129), none⟩])
  (.ret))
  (.skip)))
  (.seq (.region false [⟨some 130, .mov (.t 6), none⟩,
   ⟨some 131, .bin .mul (.c (.int .i64 6)) (.t 130), none⟩,
   ⟨some 13, .mov (.t 131), none⟩])
  (.seq (.region false [⟨some 132, .mov (.t 11), none⟩,
   ⟨some 133, .mov (.t 12), none⟩,
   ⟨some 134, .mov (.t 13), none⟩,
   ⟨some 135, .bin .sub (.t 133) (.t 134), none⟩,
   ⟨some 136, .bin .geq (.t 132) (.t 135), none⟩,
   ⟨some 137, .mov (.t 136), none⟩,
   ⟨some 138, .mov (.t 12), some (137, true)⟩,
   ⟨some 139, .bin .geq (.t 138) (.c (.int .i64 0)), some (137, true)⟩,
   ⟨some 140, .pick (.t 137) (.t 139) (.c (.bool false)), none⟩,
   ⟨some 141, .mov (.t 140), none⟩,
   ⟨some 142, .mov (.t 11), some (141, false)⟩,
   ⟨some 143, .un .neg (.t 142), some (141, false)⟩,
   ⟨some 144, .mov (.t 12), some (141, false)⟩,
   ⟨some 145, .un .neg (.t 144), some (141, false)⟩,
   ⟨some 146, .mov (.t 13), some (141, false)⟩,
   ⟨some 147, .bin .sub (.t 145) (.t 146), some (141, false)⟩,
   ⟨some 148, .bin .geq (.t 143) (.t 147), some (141, false)⟩,
   ⟨some 149, .mov (.t 148), some (141, false)⟩,
   ⟨some 150, .mov (.t 12), some (149, true)⟩,
   ⟨some 151, .bin .leq (.t 150) (.c (.int .i64 0)), some (149, true)⟩,
   ⟨some 152, .pick (.t 149) (.t 151) (.c (.bool false)), some (141, false)⟩,
   ⟨some 153, .pick (.t 141) (.c (.bool true)) (.t 152), none⟩,
   ⟨some 4, .mov (.t 153), none⟩])
  (.ret))))))))))))⟩
def Try.r7 : List (Nat × Nat) := [(16, 2), (21, 2), (27, 2), (33, 2), (35, 2), (41, 2), (43, 2), (54, 2), (55, 2), (60, 2), (61, 2), (67, 2), (69, 2), (75, 2), (77, 2), (84, 5), (91, 5), (98, 2), (100, 2), (102, 2), (110, 7), (116, 7), (123, 2), (125, 2)]
theorem Try.i7_ok : fnOk Try.prog Try.r7 Try.f7 Try.i7 = true := by kernel_rfl

/- pinball/pinballlaw13.FlipperMirror -/
def Try.i8 : IFunc := ⟨3, 137, [.tmp 6],
  .seq (.region false [⟨some 3, .box (.t 0) [], none⟩,
   ⟨some 4, .box (.t 1) [13, 23, 29, 33, 35, 37, 42, 44, 52, 54, 65, 67, 72, 74, 76, 87, 89, 93, 95, 97, 112, 114, 116, 126, 130, 132], none⟩,
   ⟨some 6, .mov (.c (.bool false)), none⟩])
  (.seq (.seq (.region false [⟨some 11, .call 19 [], none⟩,
   ⟨some 12, .un .not (.t 11), none⟩])
  (.cond (.t 12) (.seq (.region false [⟨some 6, .mov (.c (.bool false)), none⟩])
  (.ret))
  (.skip)))
  (.seq (.seq (.region false [⟨some 13, .adr 4 4 0, none⟩,
   ⟨some 14, .ld 13 4 15 false, none⟩,
   ⟨some 15, .call 24 [.t 14], none⟩,
   ⟨some 16, .un .not (.t 15), none⟩,
   ⟨some 17, .mov (.t 16), none⟩,
   ⟨some 18, .ld 3 3 2 false, some (17, false)⟩,
   ⟨some 19, .call 28 [.t 18], some (17, false)⟩,
   ⟨some 20, .un .not (.t 19), some (17, false)⟩,
   ⟨some 21, .pick (.t 17) (.c (.bool true)) (.t 20), none⟩,
   ⟨some 22, .mov (.t 21), none⟩,
   ⟨some 23, .adr 4 4 15, some (22, false)⟩,
   ⟨some 24, .ld 23 4 1 true, some (22, false)⟩,
   ⟨some 25, .call 25 [.t 24], some (22, false)⟩,
   ⟨some 26, .un .not (.t 25), some (22, false)⟩,
   ⟨some 27, .pick (.t 22) (.c (.bool true)) (.t 26), none⟩])
  (.cond (.t 27) (.seq (.region false [⟨some 28, .call 19 [], none⟩,
   ⟨some 6, .mov (.t 28), none⟩])
  (.ret))
  (.skip)))
  (.seq (.region false [⟨some 29, .adr 4 4 0, none⟩,
   ⟨some 30, .ld 29 4 15 false, none⟩,
   ⟨some 31, .call 29 [.t 30], none⟩,
   ⟨some 7, .new [.str ByteArray.empty, .int .i64 0, .int .i64 0, .int .i64 0, .int .i64 0, .bool false, .int .i64 0, .int .i64 0, .int .i64 0, .int .i64 0, .int .i64 0, .int .i64 0, .int .i64 0, .int .i64 0, .int .i64 0] [], none⟩,
   ⟨none, .st 7 7 15 (.t 31), none⟩])
  (.seq (.region false [⟨some 32, .ld 3 3 2 false, none⟩,
   ⟨some 33, .adr 4 4 0, none⟩,
   ⟨some 34, .ld 33 4 15 false, none⟩,
   ⟨some 35, .adr 4 4 15, none⟩,
   ⟨some 36, .ld 35 4 1 true, none⟩,
   ⟨some 37, .adr 4 4 16, none⟩,
   ⟨some 38, .ld 37 4 1 true, none⟩,
   ⟨some 39, .mov (.t 2), none⟩,
   ⟨some 40, .call 30 [.t 32, .t 34, .t 36, .t 38, .t 39], none⟩,
   ⟨some 8, .new [.int .i64 0, .int .i64 0] [], none⟩,
   ⟨none, .st 8 8 2 (.t 40), none⟩])
  (.seq (.region false [⟨some 42, .adr 4 4 0, none⟩,
   ⟨some 43, .ld 42 4 15 false, none⟩,
   ⟨some 44, .adr 4 4 15, none⟩,
   ⟨some 45, .ld 44 4 1 true, none⟩,
   ⟨some 46, .call 22 [.t 43, .t 45], none⟩,
   ⟨some 41, .mov (.t 46), none⟩,
   ⟨some 47, .ext (.t 41) 0, none⟩,
   ⟨some 48, .ext (.t 41) 1, none⟩,
   ⟨some 9, .new [.int .i64 0, .int .i64 0] [], none⟩,
   ⟨none, .st 9 9 2 (.t 47), none⟩,
   ⟨some 10, .mov (.t 48), none⟩])
  (.seq (.seq (.region true [⟨some 49, .ld 3 3 2 false, none⟩,
   ⟨some 50, .call 31 [.t 49], none⟩,
   ⟨some 51, .ld 7 7 15 false, none⟩,
   ⟨some 52, .adr 4 4 15, none⟩,
   ⟨some 53, .ld 52 4 1 true, none⟩,
   ⟨some 54, .adr 4 4 16, none⟩,
   ⟨some 55, .ld 54 4 1 true, none⟩,
   ⟨some 56, .mov (.t 2), none⟩,
   ⟨some 57, .call 30 [.t 50, .t 51, .t 53, .t 55, .t 56], none⟩,
   ⟨some 58, .ld 8 8 2 false, none⟩,
   ⟨some 59, .call 31 [.t 58], none⟩,
   ⟨some 60, .eqv true 2 (.t 57) (.t 59), none⟩,
   ⟨some 61, .mov (.t 60), none⟩,
   ⟨some 62, .ld 3 3 2 false, some (61, false)⟩,
   ⟨some 63, .call 31 [.t 62], some (61, false)⟩,
   ⟨some 64, .ld 7 7 15 false, some (61, false)⟩,
   ⟨some 65, .adr 4 4 15, some (61, false)⟩,
   ⟨some 66, .ld 65 4 1 true, some (61, false)⟩,
   ⟨some 67, .adr 4 4 16, some (61, false)⟩,
   ⟨some 68, .ld 67 4 1 true, some (61, false)⟩,
   ⟨some 69, .mov (.t 2), some (61, false)⟩,
   ⟨some 70, .call 32 [.t 63, .t 64, .t 66, .t 68, .t 69], some (61, false)⟩,
   ⟨some 71, .ld 3 3 2 false, some (61, false)⟩,
   ⟨some 72, .adr 4 4 0, some (61, false)⟩,
   ⟨some 73, .ld 72 4 15 false, some (61, false)⟩,
   ⟨some 74, .adr 4 4 15, some (61, false)⟩,
   ⟨some 75, .ld 74 4 1 true, some (61, false)⟩,
   ⟨some 76, .adr 4 4 16, some (61, false)⟩,
   ⟨some 77, .ld 76 4 1 true, some (61, false)⟩,
   ⟨some 78, .mov (.t 2), some (61, false)⟩,
   ⟨some 79, .call 32 [.t 71, .t 73, .t 75, .t 77, .t 78], some (61, false)⟩,
   ⟨some 80, .call 31 [.t 79], some (61, false)⟩,
   ⟨some 81, .eqv true 2 (.t 70) (.t 80), some (61, false)⟩,
   ⟨some 82, .pick (.t 61) (.c (.bool true)) (.t 81), none⟩,
   ⟨some 83, .mov (.t 82), none⟩,
   ⟨some 84, .ld 8 8 2 false, some (83, false)⟩,
   ⟨some 85, .call 31 [.t 84], some (83, false)⟩,
   ⟨some 86, .ld 7 7 15 false, some (83, false)⟩,
   ⟨some 87, .adr 4 4 15, some (83, false)⟩,
   ⟨some 88, .ld 87 4 1 true, some (83, false)⟩,
   ⟨some 89, .adr 4 4 16, some (83, false)⟩,
   ⟨some 90, .ld 89 4 1 true, some (83, false)⟩,
   ⟨some 91, .call 26 [.t 85, .t 86, .t 88, .t 90], some (83, false)⟩,
   ⟨some 92, .ld 8 8 2 false, some (83, false)⟩,
   ⟨some 93, .adr 4 4 0, some (83, false)⟩,
   ⟨some 94, .ld 93 4 15 false, some (83, false)⟩,
   ⟨some 95, .adr 4 4 15, some (83, false)⟩,
   ⟨some 96, .ld 95 4 1 true, some (83, false)⟩,
   ⟨some 97, .adr 4 4 16, some (83, false)⟩,
   ⟨some 98, .ld 97 4 1 true, some (83, false)⟩,
   ⟨some 99, .call 26 [.t 92, .t 94, .t 96, .t 98], some (83, false)⟩,
   ⟨some 100, .call 31 [.t 99], some (83, false)⟩,
   ⟨some 101, .eqv true 2 (.t 91) (.t 100), some (83, false)⟩,
   ⟨some 102, .pick (.t 83) (.c (.bool true)) (.t 101), none⟩])
  (.cond (.t 102) (.seq (.region false [⟨some 6, .mov (.c (.bool false)), none⟩])
  (.ret))
  (.skip)))
  (.seq (.region true [⟨some 103, .ld 9 9 2 false, none⟩,
   ⟨some 104, .ld 9 9 2 false, none⟩,
   ⟨some 105, .call 33 [.t 103, .t 104], none⟩,
   ⟨some 106, .mov (.t 10), none⟩,
   ⟨some 107, .mov (.t 10), none⟩,
   ⟨some 108, .bin .mul (.t 106) (.t 107), none⟩,
   ⟨some 109, .bin .eql (.t 105) (.t 108), none⟩,
   ⟨some 110, .mov (.t 109), none⟩,
   ⟨some 111, .ld 8 8 2 false, some (110, true)⟩,
   ⟨some 112, .adr 4 4 0, some (110, true)⟩,
   ⟨some 113, .ld 112 4 15 false, some (110, true)⟩,
   ⟨some 114, .adr 4 4 15, some (110, true)⟩,
   ⟨some 115, .ld 114 4 1 true, some (110, true)⟩,
   ⟨some 116, .adr 4 4 15, some (110, true)⟩,
   ⟨some 117, .ld 116 4 1 true, some (110, true)⟩,
   ⟨some 118, .call 26 [.t 111, .t 113, .t 115, .t 117], some (110, true)⟩,
   ⟨some 119, .bld [.int .i64 0, .int .i64 0] [], some (110, true)⟩,
   ⟨some 120, .eqv false 2 (.t 118) (.t 119), some (110, true)⟩,
   ⟨some 121, .pick (.t 110) (.t 120) (.c (.bool false)), none⟩,
   ⟨some 122, .mov (.t 121), none⟩,
   ⟨some 123, .ld 3 3 2 false, some (122, true)⟩,
   ⟨some 124, .call 31 [.t 123], some (122, true)⟩,
   ⟨some 125, .ld 7 7 15 false, some (122, true)⟩,
   ⟨some 126, .adr 4 4 15, some (122, true)⟩,
   ⟨some 127, .ld 126 4 1 true, some (122, true)⟩,
   ⟨some 128, .call 34 [.t 124, .t 125, .t 127, .c (.int .i64 300)], some (122, true)⟩,
   ⟨some 129, .ld 3 3 2 false, some (122, true)⟩,
   ⟨some 130, .adr 4 4 0, some (122, true)⟩,
   ⟨some 131, .ld 130 4 15 false, some (122, true)⟩,
   ⟨some 132, .adr 4 4 15, some (122, true)⟩,
   ⟨some 133, .ld 132 4 1 true, some (122, true)⟩,
   ⟨some 134, .call 34 [.t 129, .t 131, .t 133, .c (.int .i64 300)], some (122, true)⟩,
   ⟨some 135, .eqb false (.t 128) (.t 134), some (122, true)⟩,
   ⟨some 136, .pick (.t 122) (.t 135) (.c (.bool false)), none⟩,
   ⟨some 6, .mov (.t 136), none⟩])
  (.ret))))))))⟩
def Try.r8 : List (Nat × Nat) := [(13, 4), (23, 4), (29, 4), (33, 4), (35, 4), (37, 4), (42, 4), (44, 4), (52, 4), (54, 4), (65, 4), (67, 4), (72, 4), (74, 4), (76, 4), (87, 4), (89, 4), (93, 4), (95, 4), (97, 4), (112, 4), (114, 4), (116, 4), (126, 4), (130, 4), (132, 4)]
theorem Try.i8_ok : fnOk Try.prog Try.r8 Try.f8 Try.i8 = true := by kernel_rfl

/- pinball/pinballlaw12.awake -/
def Try.i11 : IFunc := ⟨0, 70, [.tmp 0],
  .seq (.region false [⟨some 0, .mov (.c (.bool false)), none⟩])
  (.seq (.region false [⟨some 8, .call 41 [], none⟩,
   ⟨some 1, .new [.str ByteArray.empty, .int .i64 0, .int .i64 0, .int .i64 0, .int .i64 0, .int .i64 0, .int .i64 0, .int .i64 0, .int .i64 0, .int .i64 0, .int .i64 0, .int .i64 0] [], none⟩,
   ⟨none, .st 1 1 12 (.t 8), none⟩])
  (.seq (.region false [⟨some 10, .ld 1 1 12 false, none⟩,
   ⟨some 11, .call 14 [.t 10], none⟩,
   ⟨some 9, .mov (.t 11), none⟩,
   ⟨some 12, .ext (.t 9) 0, none⟩,
   ⟨some 13, .ext (.t 9) 1, none⟩,
   ⟨some 2, .mov (.t 12), none⟩,
   ⟨some 3, .mov (.t 13), none⟩])
  (.seq (.region false [⟨some 14, .bld [.int .i64 0, .int .i64 0] [(0, 1, .c (.int .i64 400)), (1, 1, .c (.int .i64 400))], none⟩,
   ⟨some 15, .bld [.int .i64 0, .int .i64 0] [(0, 1, .c (.int .i64 100)), (1, 1, .c (.int .i64 100))], none⟩,
   ⟨some 4, .new [.int .i64 0, .int .i64 0] [16, 19], none⟩,
   ⟨some 5, .new [.int .i64 0, .int .i64 0] [25, 28], none⟩,
   ⟨none, .st 4 4 2 (.t 14), none⟩,
   ⟨none, .st 5 5 2 (.t 15), none⟩])
  (.seq (.region true [⟨some 16, .adr 4 4 0, none⟩,
   ⟨some 17, .ld 16 4 1 true, none⟩,
   ⟨some 18, .bin .mul (.c (.int .i64 256)) (.t 17), none⟩,
   ⟨some 19, .adr 4 4 1, none⟩,
   ⟨some 20, .ld 19 4 1 true, none⟩,
   ⟨some 21, .bin .mul (.c (.int .i64 256)) (.t 20), none⟩,
   ⟨some 22, .bld [.int .i64 0, .int .i64 0] [(0, 1, .t 18), (1, 1, .t 21)], none⟩,
   ⟨some 23, .ld 1 1 12 false, none⟩,
   ⟨some 24, .call 17 [.t 22, .t 23], none⟩,
   ⟨some 25, .adr 5 5 0, none⟩,
   ⟨some 26, .ld 25 5 1 true, none⟩,
   ⟨some 27, .bin .mul (.c (.int .i64 256)) (.t 26), none⟩,
   ⟨some 28, .adr 5 5 1, none⟩,
   ⟨some 29, .ld 28 5 1 true, none⟩,
   ⟨some 30, .bin .mul (.c (.int .i64 256)) (.t 29), none⟩,
   ⟨some 31, .bld [.int .i64 0, .int .i64 0] [(0, 1, .t 27), (1, 1, .t 30)], none⟩,
   ⟨some 32, .ld 1 1 12 false, none⟩,
   ⟨some 33, .call 17 [.t 31, .t 32], none⟩,
   ⟨some 6, .new [.int .i64 0, .int .i64 0] [51, 56], none⟩,
   ⟨some 7, .new [.int .i64 0, .int .i64 0] [61, 66], none⟩,
   ⟨none, .st 6 6 2 (.t 24), none⟩,
   ⟨none, .st 7 7 2 (.t 33), none⟩])
  (.seq (.region false [⟨some 34, .mov (.t 3), none⟩,
   ⟨some 35, .mov (.t 34), none⟩,
   ⟨some 36, .mov (.t 2), some (35, true)⟩,
   ⟨some 37, .bin .eql (.t 36) (.c (.int .i64 500)), some (35, true)⟩,
   ⟨some 38, .pick (.t 35) (.t 37) (.c (.bool false)), none⟩,
   ⟨some 39, .mov (.t 38), none⟩,
   ⟨some 40, .ld 4 4 2 false, some (39, true)⟩,
   ⟨some 41, .ld 1 1 12 false, some (39, true)⟩,
   ⟨some 42, .call 18 [.t 40, .t 41, .c (.int .i64 66)], some (39, true)⟩,
   ⟨some 43, .pick (.t 39) (.t 42) (.c (.bool false)), none⟩,
   ⟨some 44, .mov (.t 43), none⟩,
   ⟨some 45, .ld 4 4 2 false, some (44, true)⟩,
   ⟨some 46, .ld 1 1 12 false, some (44, true)⟩,
   ⟨some 47, .call 18 [.t 45, .t 46, .c (.int .i64 65)], some (44, true)⟩,
   ⟨some 48, .un .not (.t 47), some (44, true)⟩,
   ⟨some 49, .pick (.t 44) (.t 48) (.c (.bool false)), none⟩,
   ⟨some 50, .mov (.t 49), none⟩,
   ⟨some 51, .adr 6 6 0, some (50, true)⟩,
   ⟨some 52, .ld 51 6 1 true, some (50, true)⟩,
   ⟨some 53, .bin .gtr (.t 52) (.c (.int .i64 0)), some (50, true)⟩,
   ⟨some 54, .pick (.t 50) (.t 53) (.c (.bool false)), none⟩,
   ⟨some 55, .mov (.t 54), none⟩,
   ⟨some 56, .adr 6 6 1, some (55, true)⟩,
   ⟨some 57, .ld 56 6 1 true, some (55, true)⟩,
   ⟨some 58, .bin .gtr (.t 57) (.c (.int .i64 0)), some (55, true)⟩,
   ⟨some 59, .pick (.t 55) (.t 58) (.c (.bool false)), none⟩,
   ⟨some 60, .mov (.t 59), none⟩,
   ⟨some 61, .adr 7 7 0, some (60, true)⟩,
   ⟨some 62, .ld 61 7 1 true, some (60, true)⟩,
   ⟨some 63, .bin .lss (.t 62) (.c (.int .i64 0)), some (60, true)⟩,
   ⟨some 64, .pick (.t 60) (.t 63) (.c (.bool false)), none⟩,
   ⟨some 65, .mov (.t 64), none⟩,
   ⟨some 66, .adr 7 7 1, some (65, true)⟩,
   ⟨some 67, .ld 66 7 1 true, some (65, true)⟩,
   ⟨some 68, .bin .lss (.t 67) (.c (.int .i64 0)), some (65, true)⟩,
   ⟨some 69, .pick (.t 65) (.t 68) (.c (.bool false)), none⟩,
   ⟨some 0, .mov (.t 69), none⟩])
  (.ret))))))⟩
def Try.r11 : List (Nat × Nat) := [(16, 4), (19, 4), (25, 5), (28, 5), (51, 6), (56, 6), (61, 7), (66, 7)]
theorem Try.i11_ok : fnOk Try.prog Try.r11 Try.f11 Try.i11 = true := by kernel_rfl

/- pinball/pinballlaw12.near -/
def Try.i12 : IFunc := ⟨1, 21, [.tmp 2],
  .seq (.region false [⟨some 1, .box (.t 0) [3, 7, 12, 17], none⟩,
   ⟨some 2, .mov (.c (.bool false)), none⟩])
  (.seq (.region false [⟨some 3, .adr 1 1 0, none⟩,
   ⟨some 4, .ld 3 1 1 true, none⟩,
   ⟨some 5, .bin .geq (.t 4) (.c (.int .i64 (-1048576))), none⟩,
   ⟨some 6, .mov (.t 5), none⟩,
   ⟨some 7, .adr 1 1 0, some (6, true)⟩,
   ⟨some 8, .ld 7 1 1 true, some (6, true)⟩,
   ⟨some 9, .bin .leq (.t 8) (.c (.int .i64 1048576)), some (6, true)⟩,
   ⟨some 10, .pick (.t 6) (.t 9) (.c (.bool false)), none⟩,
   ⟨some 11, .mov (.t 10), none⟩,
   ⟨some 12, .adr 1 1 1, some (11, true)⟩,
   ⟨some 13, .ld 12 1 1 true, some (11, true)⟩,
   ⟨some 14, .bin .geq (.t 13) (.c (.int .i64 (-1048576))), some (11, true)⟩,
   ⟨some 15, .pick (.t 11) (.t 14) (.c (.bool false)), none⟩,
   ⟨some 16, .mov (.t 15), none⟩,
   ⟨some 17, .adr 1 1 1, some (16, true)⟩,
   ⟨some 18, .ld 17 1 1 true, some (16, true)⟩,
   ⟨some 19, .bin .leq (.t 18) (.c (.int .i64 1048576)), some (16, true)⟩,
   ⟨some 20, .pick (.t 16) (.t 19) (.c (.bool false)), none⟩,
   ⟨some 2, .mov (.t 20), none⟩])
  (.ret))⟩
def Try.r12 : List (Nat × Nat) := [(3, 1), (7, 1), (12, 1), (17, 1)]
theorem Try.i12_ok : fnOk Try.prog Try.r12 Try.f12 Try.i12 = true := by kernel_rfl

/- pinball/pinballlaw12.mirrored -/
def Try.i13 : IFunc := ⟨1, 16, [.cell 2 12 false],
  .seq (.region false [⟨some 1, .box (.t 0) [3, 6, 9, 12, 13, 14], none⟩,
   ⟨some 2, .new [.str ByteArray.empty, .int .i64 0, .int .i64 0, .int .i64 0, .int .i64 0, .int .i64 0, .int .i64 0, .int .i64 0, .int .i64 0, .int .i64 0, .int .i64 0, .int .i64 0] [], none⟩])
  (.seq (.region true [⟨some 3, .adr 1 1 2, none⟩,
   ⟨some 4, .ld 3 1 2 false, none⟩,
   ⟨some 5, .call 16 [.t 4], none⟩,
   ⟨some 6, .adr 1 1 6, none⟩,
   ⟨some 7, .ld 6 1 2 false, none⟩,
   ⟨some 8, .call 16 [.t 7], none⟩,
   ⟨some 9, .adr 1 1 4, none⟩,
   ⟨some 10, .ld 9 1 2 false, none⟩,
   ⟨some 11, .call 16 [.t 10], none⟩,
   ⟨some 12, .adr 1 1 2, none⟩,
   ⟨none, .st 12 1 2 (.t 5), none⟩,
   ⟨some 13, .adr 1 1 4, none⟩,
   ⟨none, .st 13 1 2 (.t 8), none⟩,
   ⟨some 14, .adr 1 1 6, none⟩,
   ⟨none, .st 14 1 2 (.t 11), none⟩])
  (.seq (.region false [⟨some 15, .ld 1 1 12 false, none⟩,
   ⟨none, .st 2 2 12 (.t 15), none⟩])
  (.ret)))⟩
def Try.r13 : List (Nat × Nat) := [(3, 1), (6, 1), (9, 1), (12, 1), (13, 1), (14, 1)]
theorem Try.i13_ok : fnOk Try.prog Try.r13 Try.f13 Try.i13 = true := by kernel_rfl

/- pinball/arc.Radius -/
def Try.i14 : IFunc := ⟨1, 59, [.tmp 2, .tmp 3],
  .seq (.region false [⟨some 1, .box (.t 0) [8, 10, 12, 17, 19, 22, 24], none⟩,
   ⟨some 2, .mov (.c (.int .i64 0)), none⟩,
   ⟨some 3, .mov (.c (.bool false)), none⟩])
  (.seq (.seq (.region false [⟨some 8, .adr 1 1 2, none⟩,
   ⟨some 9, .ld 8 1 2 false, none⟩,
   ⟨some 10, .adr 1 1 4, none⟩,
   ⟨some 11, .ld 10 1 2 false, none⟩,
   ⟨some 12, .adr 1 1 6, none⟩,
   ⟨some 13, .ld 12 1 2 false, none⟩,
   ⟨some 14, .bls 3 [.int .i64 0, .int .i64 0, .int .i64 0, .int .i64 0, .int .i64 0, .int .i64 0] [(0, 2, .t 9), (2, 2, .t 11), (4, 2, .t 13)], none⟩,
   ⟨some 15, .call 42 [.c (.int .i64 1048576), .t 14], none⟩,
   ⟨some 16, .un .not (.t 15), none⟩])
  (.cond (.t 16) (.seq (.region false [⟨some 2, .mov (.c (.int .i64 0)), none⟩,
   ⟨some 3, .mov (.c (.bool false)), none⟩])
  (.ret))
  (.skip)))
  (.seq (.region true [⟨some 17, .adr 1 1 4, none⟩,
   ⟨some 18, .ld 17 1 2 false, none⟩,
   ⟨some 19, .adr 1 1 2, none⟩,
   ⟨some 20, .ld 19 1 2 false, none⟩,
   ⟨some 21, .call 43 [.t 18, .t 20], none⟩,
   ⟨some 22, .adr 1 1 6, none⟩,
   ⟨some 23, .ld 22 1 2 false, none⟩,
   ⟨some 24, .adr 1 1 2, none⟩,
   ⟨some 25, .ld 24 1 2 false, none⟩,
   ⟨some 26, .call 43 [.t 23, .t 25], none⟩,
   ⟨some 4, .new [.int .i64 0, .int .i64 0] [], none⟩,
   ⟨some 5, .new [.int .i64 0, .int .i64 0] [], none⟩,
   ⟨none, .st 4 4 2 (.t 21), none⟩,
   ⟨none, .st 5 5 2 (.t 26), none⟩])
  (.seq (.region false [⟨some 27, .ld 4 4 2 false, none⟩,
   ⟨some 28, .ld 4 4 2 false, none⟩,
   ⟨some 29, .call 33 [.t 27, .t 28], none⟩,
   ⟨some 6, .mov (.t 29), none⟩])
  (.seq (.region false [⟨some 30, .mov (.t 6), none⟩,
   ⟨some 31, .call 44 [.t 30], none⟩,
   ⟨some 7, .mov (.t 31), none⟩])
  (.seq (.seq (.region false [⟨some 32, .mov (.t 7), none⟩,
   ⟨some 33, .mov (.t 7), none⟩,
   ⟨some 34, .bin .mul (.t 32) (.t 33), none⟩,
   ⟨some 35, .mov (.t 6), none⟩,
   ⟨some 36, .bin .neq (.t 34) (.t 35), none⟩,
   ⟨some 37, .mov (.t 36), none⟩,
   ⟨some 38, .ld 5 5 2 false, some (37, false)⟩,
   ⟨some 39, .ld 5 5 2 false, some (37, false)⟩,
   ⟨some 40, .call 33 [.t 38, .t 39], some (37, false)⟩,
   ⟨some 41, .mov (.t 6), some (37, false)⟩,
   ⟨some 42, .bin .neq (.t 40) (.t 41), some (37, false)⟩,
   ⟨some 43, .pick (.t 37) (.c (.bool true)) (.t 42), none⟩,
   ⟨some 44, .mov (.t 43), none⟩,
   ⟨some 45, .mov (.t 7), some (44, false)⟩,
   ⟨some 46, .bin .lss (.t 45) (.c (.int .i64 1)), some (44, false)⟩,
   ⟨some 47, .pick (.t 44) (.c (.bool true)) (.t 46), none⟩,
   ⟨some 48, .mov (.t 47), none⟩,
   ⟨some 49, .mov (.t 7), some (48, false)⟩,
   ⟨some 50, .bin .gtr (.t 49) (.c (.int .i64 262144)), some (48, false)⟩,
   ⟨some 51, .pick (.t 48) (.c (.bool true)) (.t 50), none⟩,
   ⟨some 52, .mov (.t 51), none⟩,
   ⟨some 53, .ld 4 4 2 false, some (52, false)⟩,
   ⟨some 54, .ld 5 5 2 false, some (52, false)⟩,
   ⟨some 55, .call 27 [.t 53, .t 54], some (52, false)⟩,
   ⟨some 56, .bin .leq (.t 55) (.c (.int .i64 0)), some (52, false)⟩,
   ⟨some 57, .pick (.t 52) (.c (.bool true)) (.t 56), none⟩])
  (.cond (.t 57) (.seq (.region false [⟨some 2, .mov (.c (.int .i64 0)), none⟩,
   ⟨some 3, .mov (.c (.bool false)), none⟩])
  (.ret))
  (.skip)))
  (.seq (.region false [⟨some 58, .mov (.t 7), none⟩,
   ⟨some 2, .mov (.t 58), none⟩,
   ⟨some 3, .mov (.c (.bool true)), none⟩])
  (.ret)))))))⟩
def Try.r14 : List (Nat × Nat) := [(8, 1), (10, 1), (12, 1), (17, 1), (19, 1), (22, 1), (24, 1)]
theorem Try.i14_ok : fnOk Try.prog Try.r14 Try.f14 Try.i14 = true := by kernel_rfl

/- pinball/arc.Sector -/
def Try.i15 : IFunc := ⟨2, 44, [.tmp 4],
  .seq (.region false [⟨some 2, .box (.t 0) [22, 26, 28, 36, 38], none⟩,
   ⟨some 3, .box (.t 1) [], none⟩,
   ⟨some 4, .mov (.c (.bool false)), none⟩])
  (.seq (.seq (.region false [⟨some 9, .ld 2 2 12 false, none⟩,
   ⟨some 10, .call 14 [.t 9], none⟩,
   ⟨some 8, .mov (.t 10), none⟩,
   ⟨some 11, .ext (.t 8) 0, none⟩,
   ⟨some 12, .ext (.t 8) 1, none⟩,
   ⟨some 5, .mov (.t 11), none⟩,
   ⟨some 6, .mov (.t 12), none⟩])
  (.seq (.region false [⟨some 13, .mov (.t 6), none⟩,
   ⟨some 14, .un .not (.t 13), none⟩,
   ⟨some 15, .mov (.t 14), none⟩,
   ⟨some 16, .ld 3 3 2 false, some (15, false)⟩,
   ⟨some 17, .bls 1 [.int .i64 0, .int .i64 0] [(0, 2, .t 16)], some (15, false)⟩,
   ⟨some 18, .call 42 [.c (.int .i64 536870912), .t 17], some (15, false)⟩,
   ⟨some 19, .un .not (.t 18), some (15, false)⟩,
   ⟨some 20, .pick (.t 15) (.c (.bool true)) (.t 19), none⟩])
  (.cond (.t 20) (.seq (.region false [⟨some 4, .mov (.c (.bool false)), none⟩])
  (.ret))
  (.skip))))
  (.seq (.region true [⟨some 21, .ld 3 3 2 false, none⟩,
   ⟨some 22, .adr 2 2 2, none⟩,
   ⟨some 23, .ld 22 2 2 false, none⟩,
   ⟨some 24, .call 45 [.t 23, .c (.int .i64 256)], none⟩,
   ⟨some 25, .call 43 [.t 21, .t 24], none⟩,
   ⟨some 7, .new [.int .i64 0, .int .i64 0] [], none⟩,
   ⟨none, .st 7 7 2 (.t 25), none⟩])
  (.seq (.region true [⟨some 26, .adr 2 2 4, none⟩,
   ⟨some 27, .ld 26 2 2 false, none⟩,
   ⟨some 28, .adr 2 2 2, none⟩,
   ⟨some 29, .ld 28 2 2 false, none⟩,
   ⟨some 30, .call 43 [.t 27, .t 29], none⟩,
   ⟨some 31, .ld 7 7 2 false, none⟩,
   ⟨some 32, .call 27 [.t 30, .t 31], none⟩,
   ⟨some 33, .bin .gtr (.t 32) (.c (.int .i64 0)), none⟩,
   ⟨some 34, .mov (.t 33), none⟩,
   ⟨some 35, .ld 7 7 2 false, some (34, true)⟩,
   ⟨some 36, .adr 2 2 6, some (34, true)⟩,
   ⟨some 37, .ld 36 2 2 false, some (34, true)⟩,
   ⟨some 38, .adr 2 2 2, some (34, true)⟩,
   ⟨some 39, .ld 38 2 2 false, some (34, true)⟩,
   ⟨some 40, .call 43 [.t 37, .t 39], some (34, true)⟩,
   ⟨some 41, .call 27 [.t 35, .t 40], some (34, true)⟩,
   ⟨some 42, .bin .gtr (.t 41) (.c (.int .i64 0)), some (34, true)⟩,
   ⟨some 43, .pick (.t 34) (.t 42) (.c (.bool false)), none⟩,
   ⟨some 4, .mov (.t 43), none⟩])
  (.ret))))⟩
def Try.r15 : List (Nat × Nat) := [(22, 2), (26, 2), (28, 2), (36, 2), (38, 2)]
theorem Try.i15_ok : fnOk Try.prog Try.r15 Try.f15 Try.i15 = true := by kernel_rfl

/- pinball/pinballlaw12.flip -/
def Try.i16 : IFunc := ⟨1, 9, [.cell 2 2 false],
  .seq (.region false [⟨some 1, .box (.t 0) [3, 6], none⟩,
   ⟨some 2, .new [.int .i64 0, .int .i64 0] [], none⟩])
  (.seq (.region false [⟨some 3, .adr 1 1 0, none⟩,
   ⟨some 4, .ld 3 1 1 true, none⟩,
   ⟨some 5, .un .neg (.t 4), none⟩,
   ⟨some 6, .adr 1 1 1, none⟩,
   ⟨some 7, .ld 6 1 1 true, none⟩,
   ⟨some 8, .bld [.int .i64 0, .int .i64 0] [(0, 1, .t 5), (1, 1, .t 7)], none⟩,
   ⟨none, .st 2 2 2 (.t 8), none⟩])
  (.ret))⟩
def Try.r16 : List (Nat × Nat) := [(3, 1), (6, 1)]
theorem Try.i16_ok : fnOk Try.prog Try.r16 Try.f16 Try.i16 = true := by kernel_rfl

/- pinball/arc.Normal -/
def Try.i17 : IFunc := ⟨2, 86, [.cell 4 2 false],
  .seq (.region false [⟨some 2, .box (.t 0) [], none⟩,
   ⟨some 3, .box (.t 1) [27, 32, 47, 55, 60], none⟩,
   ⟨some 4, .new [.int .i64 0, .int .i64 0] [], none⟩])
  (.seq (.region false [⟨some 15, .ld 3 3 12 false, none⟩,
   ⟨some 16, .call 14 [.t 15], none⟩,
   ⟨some 14, .mov (.t 16), none⟩,
   ⟨some 17, .ext (.t 14) 0, none⟩,
   ⟨some 18, .ext (.t 14) 1, none⟩,
   ⟨some 5, .mov (.t 17), none⟩,
   ⟨some 6, .mov (.t 18), none⟩])
  (.seq (.seq (.region false [⟨some 19, .mov (.t 6), none⟩,
   ⟨some 20, .un .not (.t 19), none⟩])
  (.cond (.t 20) (.seq (.region false [⟨some 21, .bld [.int .i64 0, .int .i64 0] [], none⟩,
   ⟨none, .st 4 4 2 (.t 21), none⟩])
  (.ret))
  (.skip)))
  (.seq (.seq (.region false [⟨some 22, .ld 3 3 12 false, none⟩,
   ⟨some 23, .ld 2 2 2 false, none⟩,
   ⟨some 24, .call 15 [.t 22, .t 23], none⟩,
   ⟨some 25, .un .not (.t 24), none⟩])
  (.cond (.t 25) (.seq (.region true [⟨some 26, .ld 2 2 2 false, none⟩,
   ⟨some 27, .adr 3 3 4, none⟩,
   ⟨some 28, .ld 27 3 2 false, none⟩,
   ⟨some 29, .call 45 [.t 28, .c (.int .i64 256)], none⟩,
   ⟨some 30, .call 43 [.t 26, .t 29], none⟩,
   ⟨some 31, .ld 2 2 2 false, none⟩,
   ⟨some 32, .adr 3 3 6, none⟩,
   ⟨some 33, .ld 32 3 2 false, none⟩,
   ⟨some 34, .call 45 [.t 33, .c (.int .i64 256)], none⟩,
   ⟨some 35, .call 43 [.t 31, .t 34], none⟩,
   ⟨some 7, .new [.int .i64 0, .int .i64 0] [], none⟩,
   ⟨some 8, .new [.int .i64 0, .int .i64 0] [], none⟩,
   ⟨none, .st 7 7 2 (.t 30), none⟩,
   ⟨none, .st 8 8 2 (.t 35), none⟩])
  (.seq (.seq (.region true [⟨some 36, .ld 7 7 2 false, none⟩,
   ⟨some 37, .ld 7 7 2 false, none⟩,
   ⟨some 38, .call 33 [.t 36, .t 37], none⟩,
   ⟨some 39, .ld 8 8 2 false, none⟩,
   ⟨some 40, .ld 8 8 2 false, none⟩,
   ⟨some 41, .call 33 [.t 39, .t 40], none⟩,
   ⟨some 9, .mov (.t 38), none⟩,
   ⟨some 10, .mov (.t 41), none⟩])
  (.block 0 (.seq (.region false [⟨some 43, .mov (.t 9), none⟩,
   ⟨some 44, .mov (.t 10), none⟩,
   ⟨some 45, .bin .lss (.t 43) (.t 44), none⟩,
   ⟨some 42, .mov (.t 45), none⟩])
  (.cond (.t 42) (.seq (.region false [⟨some 46, .ld 2 2 2 false, none⟩,
   ⟨some 47, .adr 3 3 4, none⟩,
   ⟨some 48, .ld 47 3 2 false, none⟩,
   ⟨some 49, .call 46 [.t 46, .t 48], none⟩,
   ⟨none, .st 4 4 2 (.t 49), none⟩])
  (.ret))
  (.seq (.region false [⟨some 51, .mov (.t 9), none⟩,
   ⟨some 52, .mov (.t 10), none⟩,
   ⟨some 53, .bin .gtr (.t 51) (.t 52), none⟩,
   ⟨some 50, .mov (.t 53), none⟩])
  (.cond (.t 50) (.seq (.region false [⟨some 54, .ld 2 2 2 false, none⟩,
   ⟨some 55, .adr 3 3 6, none⟩,
   ⟨some 56, .ld 55 3 2 false, none⟩,
   ⟨some 57, .call 46 [.t 54, .t 56], none⟩,
   ⟨none, .st 4 4 2 (.t 57), none⟩])
  (.ret))
  (.skip)))))))
  (.seq (.region false [⟨some 58, .bld [.int .i64 0, .int .i64 0] [], none⟩,
   ⟨none, .st 4 4 2 (.t 58), none⟩])
  (.ret))))
  (.skip)))
  (.seq (.region true [⟨some 59, .ld 2 2 2 false, none⟩,
   ⟨some 60, .adr 3 3 2, none⟩,
   ⟨some 61, .ld 60 3 2 false, none⟩,
   ⟨some 62, .call 45 [.t 61, .c (.int .i64 256)], none⟩,
   ⟨some 63, .call 43 [.t 59, .t 62], none⟩,
   ⟨some 11, .new [.int .i64 0, .int .i64 0] [], none⟩,
   ⟨none, .st 11 11 2 (.t 63), none⟩])
  (.seq (.seq (.region false [⟨some 64, .ld 11 11 2 false, none⟩,
   ⟨some 65, .ld 11 11 2 false, none⟩,
   ⟨some 66, .call 33 [.t 64, .t 65], none⟩,
   ⟨some 67, .mov (.t 5), none⟩,
   ⟨some 68, .bin .mul (.c (.int .i64 256)) (.t 67), none⟩,
   ⟨some 69, .bin .mul (.t 68) (.c (.int .i64 256)), none⟩,
   ⟨some 70, .mov (.t 5), none⟩,
   ⟨some 71, .bin .mul (.t 69) (.t 70), none⟩,
   ⟨some 12, .mov (.t 66), none⟩,
   ⟨some 13, .mov (.t 71), none⟩])
  (.block 1 (.seq (.region false [⟨some 73, .mov (.t 12), none⟩,
   ⟨some 74, .mov (.t 13), none⟩,
   ⟨some 75, .bin .gtr (.t 73) (.t 74), none⟩,
   ⟨some 72, .mov (.t 75), none⟩])
  (.cond (.t 72) (.seq (.region false [⟨some 76, .ld 11 11 2 false, none⟩,
   ⟨some 77, .call 47 [.t 76], none⟩,
   ⟨none, .st 4 4 2 (.t 77), none⟩])
  (.ret))
  (.seq (.region false [⟨some 79, .mov (.t 12), none⟩,
   ⟨some 80, .mov (.t 13), none⟩,
   ⟨some 81, .bin .lss (.t 79) (.t 80), none⟩,
   ⟨some 78, .mov (.t 81), none⟩])
  (.cond (.t 78) (.seq (.region false [⟨some 82, .ld 11 11 2 false, none⟩,
   ⟨some 83, .call 45 [.t 82, .c (.int .i64 (-1))], none⟩,
   ⟨some 84, .call 47 [.t 83], none⟩,
   ⟨none, .st 4 4 2 (.t 84), none⟩])
  (.ret))
  (.skip)))))))
  (.seq (.region false [⟨some 85, .bld [.int .i64 0, .int .i64 0] [], none⟩,
   ⟨none, .st 4 4 2 (.t 85), none⟩])
  (.ret)))))))⟩
def Try.r17 : List (Nat × Nat) := [(27, 3), (32, 3), (47, 3), (55, 3), (60, 3)]
theorem Try.i17_ok : fnOk Try.prog Try.r17 Try.f17 Try.i17 = true := by kernel_rfl

/- pinball/arc.Inside -/
def Try.i18 : IFunc := ⟨3, 90, [.tmp 6],
  .seq (.region false [⟨some 3, .box (.t 0) [], none⟩,
   ⟨some 4, .box (.t 1) [34, 40, 46, 49, 51, 59, 61], none⟩,
   ⟨some 6, .mov (.c (.bool false)), none⟩])
  (.seq (.region false [⟨some 12, .ld 4 4 12 false, none⟩,
   ⟨some 13, .call 14 [.t 12], none⟩,
   ⟨some 11, .mov (.t 13), none⟩,
   ⟨some 14, .ext (.t 11) 0, none⟩,
   ⟨some 15, .ext (.t 11) 1, none⟩,
   ⟨some 7, .mov (.t 14), none⟩,
   ⟨some 8, .mov (.t 15), none⟩])
  (.seq (.seq (.region false [⟨some 16, .mov (.t 8), none⟩,
   ⟨some 17, .un .not (.t 16), none⟩,
   ⟨some 18, .mov (.t 17), none⟩,
   ⟨some 19, .mov (.t 2), some (18, false)⟩,
   ⟨some 20, .bin .lss (.t 19) (.c (.int .i64 1)), some (18, false)⟩,
   ⟨some 21, .pick (.t 18) (.c (.bool true)) (.t 20), none⟩,
   ⟨some 22, .mov (.t 21), none⟩,
   ⟨some 23, .mov (.t 2), some (22, false)⟩,
   ⟨some 24, .mov (.t 7), some (22, false)⟩,
   ⟨some 25, .bin .geq (.t 23) (.t 24), some (22, false)⟩,
   ⟨some 26, .pick (.t 22) (.c (.bool true)) (.t 25), none⟩,
   ⟨some 27, .mov (.t 26), none⟩,
   ⟨some 28, .ld 3 3 2 false, some (27, false)⟩,
   ⟨some 29, .bls 1 [.int .i64 0, .int .i64 0] [(0, 2, .t 28)], some (27, false)⟩,
   ⟨some 30, .call 42 [.c (.int .i64 2097152), .t 29], some (27, false)⟩,
   ⟨some 31, .un .not (.t 30), some (27, false)⟩,
   ⟨some 32, .pick (.t 27) (.c (.bool true)) (.t 31), none⟩])
  (.cond (.t 32) (.seq (.region false [⟨some 6, .mov (.c (.bool false)), none⟩])
  (.ret))
  (.skip)))
  (.seq (.seq (.region false [⟨some 33, .ld 3 3 2 false, none⟩,
   ⟨some 34, .adr 4 4 4, none⟩,
   ⟨some 35, .ld 34 4 2 false, none⟩,
   ⟨some 36, .mov (.t 2), none⟩,
   ⟨some 37, .call 48 [.t 33, .t 35, .t 36], none⟩,
   ⟨some 38, .mov (.t 37), none⟩,
   ⟨some 39, .ld 3 3 2 false, some (38, false)⟩,
   ⟨some 40, .adr 4 4 6, some (38, false)⟩,
   ⟨some 41, .ld 40 4 2 false, some (38, false)⟩,
   ⟨some 42, .mov (.t 2), some (38, false)⟩,
   ⟨some 43, .call 48 [.t 39, .t 41, .t 42], some (38, false)⟩,
   ⟨some 44, .pick (.t 38) (.c (.bool true)) (.t 43), none⟩])
  (.cond (.t 44) (.seq (.region false [⟨some 6, .mov (.c (.bool true)), none⟩])
  (.ret))
  (.skip)))
  (.seq (.region false [⟨some 45, .ld 3 3 2 false, none⟩,
   ⟨some 46, .adr 4 4 2, none⟩,
   ⟨some 47, .ld 46 4 2 false, none⟩,
   ⟨some 48, .call 43 [.t 45, .t 47], none⟩,
   ⟨some 9, .new [.int .i64 0, .int .i64 0] [], none⟩,
   ⟨none, .st 9 9 2 (.t 48), none⟩])
  (.seq (.seq (.region true [⟨some 49, .adr 4 4 4, none⟩,
   ⟨some 50, .ld 49 4 2 false, none⟩,
   ⟨some 51, .adr 4 4 2, none⟩,
   ⟨some 52, .ld 51 4 2 false, none⟩,
   ⟨some 53, .call 43 [.t 50, .t 52], none⟩,
   ⟨some 54, .ld 9 9 2 false, none⟩,
   ⟨some 55, .call 27 [.t 53, .t 54], none⟩,
   ⟨some 56, .bin .leq (.t 55) (.c (.int .i64 0)), none⟩,
   ⟨some 57, .mov (.t 56), none⟩,
   ⟨some 58, .ld 9 9 2 false, some (57, false)⟩,
   ⟨some 59, .adr 4 4 6, some (57, false)⟩,
   ⟨some 60, .ld 59 4 2 false, some (57, false)⟩,
   ⟨some 61, .adr 4 4 2, some (57, false)⟩,
   ⟨some 62, .ld 61 4 2 false, some (57, false)⟩,
   ⟨some 63, .call 43 [.t 60, .t 62], some (57, false)⟩,
   ⟨some 64, .call 27 [.t 58, .t 63], some (57, false)⟩,
   ⟨some 65, .bin .leq (.t 64) (.c (.int .i64 0)), some (57, false)⟩,
   ⟨some 66, .pick (.t 57) (.c (.bool true)) (.t 65), none⟩])
  (.cond (.t 66) (.seq (.region false [⟨some 6, .mov (.c (.bool false)), none⟩])
  (.ret))
  (.skip)))
  (.seq (.region false [⟨some 67, .ld 9 9 2 false, none⟩,
   ⟨some 68, .ld 9 9 2 false, none⟩,
   ⟨some 69, .call 33 [.t 67, .t 68], none⟩,
   ⟨some 10, .mov (.t 69), none⟩])
  (.seq (.region false [⟨some 70, .mov (.t 10), none⟩,
   ⟨some 71, .mov (.t 7), none⟩,
   ⟨some 72, .mov (.t 2), none⟩,
   ⟨some 73, .bin .add (.t 71) (.t 72), none⟩,
   ⟨some 74, .mov (.t 7), none⟩,
   ⟨some 75, .mov (.t 2), none⟩,
   ⟨some 76, .bin .add (.t 74) (.t 75), none⟩,
   ⟨some 77, .bin .mul (.t 73) (.t 76), none⟩,
   ⟨some 78, .bin .lss (.t 70) (.t 77), none⟩,
   ⟨some 79, .mov (.t 78), none⟩,
   ⟨some 80, .mov (.t 10), some (79, true)⟩,
   ⟨some 81, .mov (.t 7), some (79, true)⟩,
   ⟨some 82, .mov (.t 2), some (79, true)⟩,
   ⟨some 83, .bin .sub (.t 81) (.t 82), some (79, true)⟩,
   ⟨some 84, .mov (.t 7), some (79, true)⟩,
   ⟨some 85, .mov (.t 2), some (79, true)⟩,
   ⟨some 86, .bin .sub (.t 84) (.t 85), some (79, true)⟩,
   ⟨some 87, .bin .mul (.t 83) (.t 86), some (79, true)⟩,
   ⟨some 88, .bin .gtr (.t 80) (.t 87), some (79, true)⟩,
   ⟨some 89, .pick (.t 79) (.t 88) (.c (.bool false)), none⟩,
   ⟨some 6, .mov (.t 89), none⟩])
  (.ret))))))))⟩
def Try.r18 : List (Nat × Nat) := [(34, 4), (40, 4), (46, 4), (49, 4), (51, 4), (59, 4), (61, 4)]
theorem Try.i18_ok : fnOk Try.prog Try.r18 Try.f18 Try.i18 = true := by kernel_rfl

/- pinball/pinballlaw13.awake -/
def Try.i19 : IFunc := ⟨0, 68, [.tmp 0],
  .seq (.region false [⟨some 0, .mov (.c (.bool false)), none⟩])
  (.seq (.region false [⟨some 9, .call 49 [], none⟩,
   ⟨some 1, .new [.str ByteArray.empty, .int .i64 0, .int .i64 0, .int .i64 0, .int .i64 0, .bool false, .int .i64 0, .int .i64 0, .int .i64 0, .int .i64 0, .int .i64 0, .int .i64 0, .int .i64 0, .int .i64 0, .int .i64 0] [], none⟩,
   ⟨none, .st 1 1 15 (.t 9), none⟩])
  (.seq (.region false [⟨some 11, .ld 1 1 15 false, none⟩,
   ⟨some 12, .call 22 [.t 11, .c (.int .i64 0)], none⟩,
   ⟨some 10, .mov (.t 12), none⟩,
   ⟨some 13, .ext (.t 10) 0, none⟩,
   ⟨some 14, .ext (.t 10) 1, none⟩,
   ⟨some 2, .new [.int .i64 0, .int .i64 0] [], none⟩,
   ⟨none, .st 2 2 2 (.t 13), none⟩,
   ⟨some 3, .mov (.t 14), none⟩])
  (.seq (.region false [⟨some 16, .ld 1 1 15 false, none⟩,
   ⟨some 17, .call 22 [.t 16, .c (.int .i64 256)], none⟩,
   ⟨some 15, .mov (.t 17), none⟩,
   ⟨some 18, .ext (.t 15) 0, none⟩,
   ⟨some 19, .ext (.t 15) 1, none⟩,
   ⟨some 4, .new [.int .i64 0, .int .i64 0] [], none⟩,
   ⟨none, .st 4 4 2 (.t 18), none⟩,
   ⟨some 5, .mov (.t 19), none⟩])
  (.seq (.region false [⟨some 21, .ld 1 1 15 false, none⟩,
   ⟨some 22, .call 20 [.t 21, .c (.int .i64 0), .c (.int .i64 14), .c (.bool true)], none⟩,
   ⟨some 20, .mov (.t 22), none⟩,
   ⟨some 23, .ext (.t 20) 0, none⟩,
   ⟨some 24, .ext (.t 20) 1, none⟩,
   ⟨some 6, .mov (.t 23), none⟩,
   ⟨some 7, .mov (.t 24), none⟩])
  (.seq (.region false [⟨some 25, .bld [.int .i64 0, .int .i64 0] [(0, 1, .c (.int .i64 256000))], none⟩,
   ⟨some 26, .ld 1 1 15 false, none⟩,
   ⟨some 27, .call 26 [.t 25, .t 26, .c (.int .i64 0), .c (.int .i64 16)], none⟩,
   ⟨some 8, .new [.int .i64 0, .int .i64 0] [], none⟩,
   ⟨none, .st 8 8 2 (.t 27), none⟩])
  (.seq (.region false [⟨some 28, .ld 2 2 2 false, none⟩,
   ⟨some 29, .bld [.int .i64 0, .int .i64 0] [(0, 1, .c (.int .i64 65536))], none⟩,
   ⟨some 30, .eqv false 2 (.t 28) (.t 29), none⟩,
   ⟨some 31, .mov (.t 30), none⟩,
   ⟨some 32, .mov (.t 3), some (31, true)⟩,
   ⟨some 33, .bin .eql (.t 32) (.c (.int .i64 65536)), some (31, true)⟩,
   ⟨some 34, .pick (.t 31) (.t 33) (.c (.bool false)), none⟩,
   ⟨some 35, .mov (.t 34), none⟩,
   ⟨some 36, .ld 4 4 2 false, some (35, true)⟩,
   ⟨some 37, .bld [.int .i64 0, .int .i64 0] [(1, 1, .c (.int .i64 131072))], some (35, true)⟩,
   ⟨some 38, .eqv false 2 (.t 36) (.t 37), some (35, true)⟩,
   ⟨some 39, .pick (.t 35) (.t 38) (.c (.bool false)), none⟩,
   ⟨some 40, .mov (.t 39), none⟩,
   ⟨some 41, .mov (.t 5), some (40, true)⟩,
   ⟨some 42, .bin .eql (.t 41) (.c (.int .i64 131072)), some (40, true)⟩,
   ⟨some 43, .pick (.t 40) (.t 42) (.c (.bool false)), none⟩,
   ⟨some 44, .mov (.t 43), none⟩,
   ⟨some 45, .mov (.t 6), some (44, true)⟩,
   ⟨some 46, .bin .eql (.t 45) (.c (.int .i64 16)), some (44, true)⟩,
   ⟨some 47, .pick (.t 44) (.t 46) (.c (.bool false)), none⟩,
   ⟨some 48, .mov (.t 47), none⟩,
   ⟨some 49, .mov (.t 7), some (48, true)⟩,
   ⟨some 50, .bin .eql (.t 49) (.c (.int .i64 16)), some (48, true)⟩,
   ⟨some 51, .pick (.t 48) (.t 50) (.c (.bool false)), none⟩,
   ⟨some 52, .mov (.t 51), none⟩,
   ⟨some 53, .ld 8 8 2 false, some (52, true)⟩,
   ⟨some 54, .bld [.int .i64 0, .int .i64 0] [(1, 1, .c (.int .i64 140))], some (52, true)⟩,
   ⟨some 55, .eqv false 2 (.t 53) (.t 54), some (52, true)⟩,
   ⟨some 56, .pick (.t 52) (.t 55) (.c (.bool false)), none⟩,
   ⟨some 57, .mov (.t 56), none⟩,
   ⟨some 58, .bld [.int .i64 0, .int .i64 0] [(0, 1, .c (.int .i64 500)), (1, 1, .c (.int .i64 99))], some (57, true)⟩,
   ⟨some 59, .ld 1 1 15 false, some (57, true)⟩,
   ⟨some 60, .call 34 [.t 58, .t 59, .c (.int .i64 0), .c (.int .i64 100)], some (57, true)⟩,
   ⟨some 61, .pick (.t 57) (.t 60) (.c (.bool false)), none⟩,
   ⟨some 62, .mov (.t 61), none⟩,
   ⟨some 63, .bld [.int .i64 0, .int .i64 0] [(0, 1, .c (.int .i64 500)), (1, 1, .c (.int .i64 100))], some (62, true)⟩,
   ⟨some 64, .ld 1 1 15 false, some (62, true)⟩,
   ⟨some 65, .call 34 [.t 63, .t 64, .c (.int .i64 0), .c (.int .i64 100)], some (62, true)⟩,
   ⟨some 66, .un .not (.t 65), some (62, true)⟩,
   ⟨some 67, .pick (.t 62) (.t 66) (.c (.bool false)), none⟩,
   ⟨some 0, .mov (.t 67), none⟩])
  (.ret)))))))⟩
def Try.r19 : List (Nat × Nat) := []
theorem Try.i19_ok : fnOk Try.prog Try.r19 Try.f19 Try.i19 = true := by kernel_rfl

/- pinball/flipper.Next -/
def Try.i20 : IFunc := ⟨4, 56, [.tmp 8, .tmp 9],
  .seq (.region false [⟨some 4, .box (.t 0) [23, 26, 30, 33, 42, 45, 49, 52], none⟩,
   ⟨some 8, .mov (.c (.int .i64 0)), none⟩,
   ⟨some 9, .mov (.c (.int .i64 0)), none⟩])
  (.seq (.seq (.region false [⟨some 10, .ld 4 4 15 false, none⟩,
   ⟨some 11, .mov (.t 1), none⟩,
   ⟨some 12, .bls 1 [.int .i64 0] [(0, 1, .t 11)], none⟩,
   ⟨some 13, .call 50 [.t 10, .t 12], none⟩,
   ⟨some 14, .un .not (.t 13), none⟩,
   ⟨some 15, .mov (.t 14), none⟩,
   ⟨some 16, .mov (.t 2), some (15, false)⟩,
   ⟨some 17, .bls 1 [.int .i64 0] [(0, 1, .t 16)], some (15, false)⟩,
   ⟨some 18, .call 51 [.c (.int .i64 (-64)), .c (.int .i64 64), .t 17], some (15, false)⟩,
   ⟨some 19, .un .not (.t 18), some (15, false)⟩,
   ⟨some 20, .pick (.t 15) (.c (.bool true)) (.t 19), none⟩])
  (.cond (.t 20) (.seq (.region false [⟨some 8, .mov (.c (.int .i64 0)), none⟩,
   ⟨some 9, .mov (.c (.int .i64 0)), none⟩])
  (.ret))
  (.skip)))
  (.seq (.seq (.region false [⟨some 21, .mov (.t 3), none⟩])
  (.cond (.t 21) (.region false [⟨some 22, .mov (.t 2), none⟩,
   ⟨some 23, .adr 4 4 8, none⟩,
   ⟨some 24, .ld 23 4 1 true, none⟩,
   ⟨some 25, .bin .add (.t 22) (.t 24), none⟩,
   ⟨some 26, .adr 4 4 10, none⟩,
   ⟨some 27, .ld 26 4 1 true, none⟩,
   ⟨some 28, .mn [.t 25, .t 27], none⟩,
   ⟨some 2, .mov (.t 28), none⟩])
  (.region false [⟨some 29, .mov (.t 2), none⟩,
   ⟨some 30, .adr 4 4 9, none⟩,
   ⟨some 31, .ld 30 4 1 true, none⟩,
   ⟨some 32, .bin .sub (.t 29) (.t 31), none⟩,
   ⟨some 33, .adr 4 4 10, none⟩,
   ⟨some 34, .ld 33 4 1 true, none⟩,
   ⟨some 35, .un .neg (.t 34), none⟩,
   ⟨some 36, .mx [.t 32, .t 35], none⟩,
   ⟨some 2, .mov (.t 36), none⟩])))
  (.seq (.region false [⟨some 37, .mov (.t 1), none⟩,
   ⟨some 38, .mov (.t 2), none⟩,
   ⟨some 39, .bin .add (.t 37) (.t 38), none⟩,
   ⟨some 1, .mov (.t 39), none⟩])
  (.seq (.block 0 (.seq (.region false [⟨some 41, .mov (.t 1), none⟩,
   ⟨some 42, .adr 4 4 7, none⟩,
   ⟨some 43, .ld 42 4 1 true, none⟩,
   ⟨some 44, .bin .gtr (.t 41) (.t 43), none⟩,
   ⟨some 40, .mov (.t 44), none⟩])
  (.cond (.t 40) (.seq (.region false [⟨some 45, .adr 4 4 7, none⟩,
   ⟨some 46, .ld 45 4 1 true, none⟩,
   ⟨some 8, .mov (.t 46), none⟩,
   ⟨some 9, .mov (.c (.int .i64 0)), none⟩])
  (.ret))
  (.seq (.region false [⟨some 48, .mov (.t 1), none⟩,
   ⟨some 49, .adr 4 4 6, none⟩,
   ⟨some 50, .ld 49 4 1 true, none⟩,
   ⟨some 51, .bin .lss (.t 48) (.t 50), none⟩,
   ⟨some 47, .mov (.t 51), none⟩])
  (.cond (.t 47) (.seq (.region false [⟨some 52, .adr 4 4 6, none⟩,
   ⟨some 53, .ld 52 4 1 true, none⟩,
   ⟨some 8, .mov (.t 53), none⟩,
   ⟨some 9, .mov (.c (.int .i64 0)), none⟩])
  (.ret))
  (.skip))))))
  (.seq (.region false [⟨some 54, .mov (.t 1), none⟩,
   ⟨some 55, .mov (.t 2), none⟩,
   ⟨some 8, .mov (.t 54), none⟩,
   ⟨some 9, .mov (.t 55), none⟩])
  (.ret))))))⟩
def Try.r20 : List (Nat × Nat) := [(23, 4), (26, 4), (30, 4), (33, 4), (42, 4), (45, 4), (49, 4), (52, 4)]
theorem Try.i20_ok : fnOk Try.prog Try.r20 Try.f20 Try.i20 = true := by kernel_rfl

/- pinball/pinballref13.Next -/
def Try.i21 : IFunc := ⟨4, 61, [.tmp 8, .tmp 9],
  .seq (.region false [⟨some 4, .box (.t 0) [28, 31, 35, 38, 47, 50, 54, 57], none⟩,
   ⟨some 8, .mov (.c (.int .i64 0)), none⟩,
   ⟨some 9, .mov (.c (.int .i64 0)), none⟩])
  (.seq (.seq (.region false [⟨some 10, .ld 4 4 15 false, none⟩,
   ⟨some 11, .call 24 [.t 10], none⟩,
   ⟨some 12, .un .not (.t 11), none⟩,
   ⟨some 13, .mov (.t 12), none⟩,
   ⟨some 14, .mov (.t 1), some (13, false)⟩,
   ⟨some 15, .call 52 [.t 14], some (13, false)⟩,
   ⟨some 16, .un .not (.t 15), some (13, false)⟩,
   ⟨some 17, .pick (.t 13) (.c (.bool true)) (.t 16), none⟩,
   ⟨some 18, .mov (.t 17), none⟩,
   ⟨some 19, .mov (.t 2), some (18, false)⟩,
   ⟨some 20, .bin .lss (.t 19) (.c (.int .i64 (-64))), some (18, false)⟩,
   ⟨some 21, .pick (.t 18) (.c (.bool true)) (.t 20), none⟩,
   ⟨some 22, .mov (.t 21), none⟩,
   ⟨some 23, .mov (.t 2), some (22, false)⟩,
   ⟨some 24, .bin .gtr (.t 23) (.c (.int .i64 64)), some (22, false)⟩,
   ⟨some 25, .pick (.t 22) (.c (.bool true)) (.t 24), none⟩])
  (.cond (.t 25) (.seq (.region false [⟨some 8, .mov (.c (.int .i64 0)), none⟩,
   ⟨some 9, .mov (.c (.int .i64 0)), none⟩])
  (.ret))
  (.skip)))
  (.seq (.seq (.region false [⟨some 26, .mov (.t 3), none⟩])
  (.cond (.t 26) (.region false [⟨some 27, .mov (.t 2), none⟩,
   ⟨some 28, .adr 4 4 8, none⟩,
   ⟨some 29, .ld 28 4 1 true, none⟩,
   ⟨some 30, .bin .add (.t 27) (.t 29), none⟩,
   ⟨some 31, .adr 4 4 10, none⟩,
   ⟨some 32, .ld 31 4 1 true, none⟩,
   ⟨some 33, .mn [.t 30, .t 32], none⟩,
   ⟨some 2, .mov (.t 33), none⟩])
  (.region false [⟨some 34, .mov (.t 2), none⟩,
   ⟨some 35, .adr 4 4 9, none⟩,
   ⟨some 36, .ld 35 4 1 true, none⟩,
   ⟨some 37, .bin .sub (.t 34) (.t 36), none⟩,
   ⟨some 38, .adr 4 4 10, none⟩,
   ⟨some 39, .ld 38 4 1 true, none⟩,
   ⟨some 40, .un .neg (.t 39), none⟩,
   ⟨some 41, .mx [.t 37, .t 40], none⟩,
   ⟨some 2, .mov (.t 41), none⟩])))
  (.seq (.region false [⟨some 42, .mov (.t 1), none⟩,
   ⟨some 43, .mov (.t 2), none⟩,
   ⟨some 44, .bin .add (.t 42) (.t 43), none⟩,
   ⟨some 1, .mov (.t 44), none⟩])
  (.seq (.block 0 (.seq (.region false [⟨some 46, .mov (.t 1), none⟩,
   ⟨some 47, .adr 4 4 7, none⟩,
   ⟨some 48, .ld 47 4 1 true, none⟩,
   ⟨some 49, .bin .gtr (.t 46) (.t 48), none⟩,
   ⟨some 45, .mov (.t 49), none⟩])
  (.cond (.t 45) (.seq (.region false [⟨some 50, .adr 4 4 7, none⟩,
   ⟨some 51, .ld 50 4 1 true, none⟩,
   ⟨some 8, .mov (.t 51), none⟩,
   ⟨some 9, .mov (.c (.int .i64 0)), none⟩])
  (.ret))
  (.seq (.region false [⟨some 53, .mov (.t 1), none⟩,
   ⟨some 54, .adr 4 4 6, none⟩,
   ⟨some 55, .ld 54 4 1 true, none⟩,
   ⟨some 56, .bin .lss (.t 53) (.t 55), none⟩,
   ⟨some 52, .mov (.t 56), none⟩])
  (.cond (.t 52) (.seq (.region false [⟨some 57, .adr 4 4 6, none⟩,
   ⟨some 58, .ld 57 4 1 true, none⟩,
   ⟨some 8, .mov (.t 58), none⟩,
   ⟨some 9, .mov (.c (.int .i64 0)), none⟩])
  (.ret))
  (.skip))))))
  (.seq (.region false [⟨some 59, .mov (.t 1), none⟩,
   ⟨some 60, .mov (.t 2), none⟩,
   ⟨some 8, .mov (.t 59), none⟩,
   ⟨some 9, .mov (.t 60), none⟩])
  (.ret))))))⟩
def Try.r21 : List (Nat × Nat) := [(28, 4), (31, 4), (35, 4), (38, 4), (47, 4), (50, 4), (54, 4), (57, 4)]
theorem Try.i21_ok : fnOk Try.prog Try.r21 Try.f21 Try.i21 = true := by kernel_rfl

/- pinball/flipper.Direction -/
def Try.i22 : IFunc := ⟨2, 17, [.cell 4 2 false, .tmp 5],
  .seq (.region false [⟨some 2, .box (.t 0) [], none⟩,
   ⟨some 4, .new [.int .i64 0, .int .i64 0] [], none⟩,
   ⟨some 5, .mov (.c (.int .i64 0)), none⟩])
  (.seq (.seq (.region false [⟨some 6, .ld 2 2 15 false, none⟩,
   ⟨some 7, .mov (.t 1), none⟩,
   ⟨some 8, .bls 1 [.int .i64 0] [(0, 1, .t 7)], none⟩,
   ⟨some 9, .call 50 [.t 6, .t 8], none⟩,
   ⟨some 10, .un .not (.t 9), none⟩])
  (.cond (.t 10) (.seq (.region false [⟨some 11, .bld [.int .i64 0, .int .i64 0] [], none⟩,
   ⟨none, .st 4 4 2 (.t 11), none⟩,
   ⟨some 5, .mov (.c (.int .i64 0)), none⟩])
  (.ret))
  (.skip)))
  (.seq (.region false [⟨some 12, .ld 2 2 15 false, none⟩,
   ⟨some 13, .mov (.t 1), none⟩,
   ⟨some 14, .call 53 [.t 12, .t 13, .c (.int .i64 256)], none⟩,
   ⟨some 15, .ext (.t 14) 0, none⟩,
   ⟨some 16, .ext (.t 14) 1, none⟩,
   ⟨none, .st 4 4 2 (.t 15), none⟩,
   ⟨some 5, .mov (.t 16), none⟩])
  (.ret)))⟩
def Try.r22 : List (Nat × Nat) := []
theorem Try.i22_ok : fnOk Try.prog Try.r22 Try.f22 Try.i22 = true := by kernel_rfl

/- pinball/pinballref13.Direction -/
def Try.i23 : IFunc := ⟨2, 20, [.cell 4 2 false, .tmp 5],
  .seq (.region false [⟨some 2, .box (.t 0) [], none⟩,
   ⟨some 4, .new [.int .i64 0, .int .i64 0] [], none⟩,
   ⟨some 5, .mov (.c (.int .i64 0)), none⟩])
  (.seq (.seq (.region false [⟨some 6, .ld 2 2 15 false, none⟩,
   ⟨some 7, .call 24 [.t 6], none⟩,
   ⟨some 8, .un .not (.t 7), none⟩,
   ⟨some 9, .mov (.t 8), none⟩,
   ⟨some 10, .mov (.t 1), some (9, false)⟩,
   ⟨some 11, .call 52 [.t 10], some (9, false)⟩,
   ⟨some 12, .un .not (.t 11), some (9, false)⟩,
   ⟨some 13, .pick (.t 9) (.c (.bool true)) (.t 12), none⟩])
  (.cond (.t 13) (.seq (.region false [⟨some 14, .bld [.int .i64 0, .int .i64 0] [], none⟩,
   ⟨none, .st 4 4 2 (.t 14), none⟩,
   ⟨some 5, .mov (.c (.int .i64 0)), none⟩])
  (.ret))
  (.skip)))
  (.seq (.region false [⟨some 15, .ld 2 2 15 false, none⟩,
   ⟨some 16, .mov (.t 1), none⟩,
   ⟨some 17, .call 54 [.t 15, .c (.int .i64 256), .t 16], none⟩,
   ⟨some 18, .ext (.t 17) 0, none⟩,
   ⟨some 19, .ext (.t 17) 1, none⟩,
   ⟨none, .st 4 4 2 (.t 18), none⟩,
   ⟨some 5, .mov (.t 19), none⟩])
  (.ret)))⟩
def Try.r23 : List (Nat × Nat) := []
theorem Try.i23_ok : fnOk Try.prog Try.r23 Try.f23 Try.i23 = true := by kernel_rfl

/- pinball/pinballref09.Flips -/
def Try.i24 : IFunc := ⟨1, 51, [.tmp 2],
  .seq (.region false [⟨some 1, .box (.t 0) [3, 7, 12, 17, 22, 24, 29, 34, 39, 44, 46], none⟩,
   ⟨some 2, .mov (.c (.bool false)), none⟩])
  (.seq (.region false [⟨some 3, .adr 1 1 2, none⟩,
   ⟨some 4, .ld 3 1 2 false, none⟩,
   ⟨some 5, .call 55 [.t 4, .c (.int .i64 1048576)], none⟩,
   ⟨some 6, .mov (.t 5), none⟩,
   ⟨some 7, .adr 1 1 4, some (6, true)⟩,
   ⟨some 8, .ld 7 1 1 true, some (6, true)⟩,
   ⟨some 9, .call 56 [.t 8, .c (.int .i64 1), .c (.int .i64 262144)], some (6, true)⟩,
   ⟨some 10, .pick (.t 6) (.t 9) (.c (.bool false)), none⟩,
   ⟨some 11, .mov (.t 10), none⟩,
   ⟨some 12, .adr 1 1 6, some (11, true)⟩,
   ⟨some 13, .ld 12 1 1 true, some (11, true)⟩,
   ⟨some 14, .call 56 [.t 13, .c (.int .i64 (-256)), .c (.int .i64 256)], some (11, true)⟩,
   ⟨some 15, .pick (.t 11) (.t 14) (.c (.bool false)), none⟩,
   ⟨some 16, .mov (.t 15), none⟩,
   ⟨some 17, .adr 1 1 7, some (16, true)⟩,
   ⟨some 18, .ld 17 1 1 true, some (16, true)⟩,
   ⟨some 19, .call 56 [.t 18, .c (.int .i64 (-256)), .c (.int .i64 256)], some (16, true)⟩,
   ⟨some 20, .pick (.t 16) (.t 19) (.c (.bool false)), none⟩,
   ⟨some 21, .mov (.t 20), none⟩,
   ⟨some 22, .adr 1 1 6, some (21, true)⟩,
   ⟨some 23, .ld 22 1 1 true, some (21, true)⟩,
   ⟨some 24, .adr 1 1 7, some (21, true)⟩,
   ⟨some 25, .ld 24 1 1 true, some (21, true)⟩,
   ⟨some 26, .bin .lss (.t 23) (.t 25), some (21, true)⟩,
   ⟨some 27, .pick (.t 21) (.t 26) (.c (.bool false)), none⟩,
   ⟨some 28, .mov (.t 27), none⟩,
   ⟨some 29, .adr 1 1 8, some (28, true)⟩,
   ⟨some 30, .ld 29 1 1 true, some (28, true)⟩,
   ⟨some 31, .call 56 [.t 30, .c (.int .i64 1), .c (.int .i64 64)], some (28, true)⟩,
   ⟨some 32, .pick (.t 28) (.t 31) (.c (.bool false)), none⟩,
   ⟨some 33, .mov (.t 32), none⟩,
   ⟨some 34, .adr 1 1 9, some (33, true)⟩,
   ⟨some 35, .ld 34 1 1 true, some (33, true)⟩,
   ⟨some 36, .call 56 [.t 35, .c (.int .i64 1), .c (.int .i64 64)], some (33, true)⟩,
   ⟨some 37, .pick (.t 33) (.t 36) (.c (.bool false)), none⟩,
   ⟨some 38, .mov (.t 37), none⟩,
   ⟨some 39, .adr 1 1 10, some (38, true)⟩,
   ⟨some 40, .ld 39 1 1 true, some (38, true)⟩,
   ⟨some 41, .call 56 [.t 40, .c (.int .i64 1), .c (.int .i64 64)], some (38, true)⟩,
   ⟨some 42, .pick (.t 38) (.t 41) (.c (.bool false)), none⟩,
   ⟨some 43, .mov (.t 42), none⟩,
   ⟨some 44, .adr 1 1 10, some (43, true)⟩,
   ⟨some 45, .ld 44 1 1 true, some (43, true)⟩,
   ⟨some 46, .adr 1 1 4, some (43, true)⟩,
   ⟨some 47, .ld 46 1 1 true, some (43, true)⟩,
   ⟨some 48, .bin .mul (.t 45) (.t 47), some (43, true)⟩,
   ⟨some 49, .bin .leq (.t 48) (.c (.int .i64 2097152)), some (43, true)⟩,
   ⟨some 50, .pick (.t 43) (.t 49) (.c (.bool false)), none⟩,
   ⟨some 2, .mov (.t 50), none⟩])
  (.ret))⟩
def Try.r24 : List (Nat × Nat) := [(3, 1), (7, 1), (12, 1), (17, 1), (22, 1), (24, 1), (29, 1), (34, 1), (39, 1), (44, 1), (46, 1)]
theorem Try.i24_ok : fnOk Try.prog Try.r24 Try.f24 Try.i24 = true := by kernel_rfl

/- pinball/pinballlaw13.angle -/
def Try.i25 : IFunc := ⟨1, 9, [.tmp 2],
  .seq (.region false [⟨some 2, .mov (.c (.bool false)), none⟩])
  (.seq (.region false [⟨some 3, .mov (.t 0), none⟩,
   ⟨some 4, .bin .geq (.t 3) (.c (.int .i64 (-256))), none⟩,
   ⟨some 5, .mov (.t 4), none⟩,
   ⟨some 6, .mov (.t 0), some (5, true)⟩,
   ⟨some 7, .bin .leq (.t 6) (.c (.int .i64 256)), some (5, true)⟩,
   ⟨some 8, .pick (.t 5) (.t 7) (.c (.bool false)), none⟩,
   ⟨some 2, .mov (.t 8), none⟩])
  (.ret))⟩
def Try.r25 : List (Nat × Nat) := []
theorem Try.i25_ok : fnOk Try.prog Try.r25 Try.f25 Try.i25 = true := by kernel_rfl

/- pinball/flipper.Surface -/
def Try.i26 : IFunc := ⟨4, 57, [.cell 8 2 false],
  .seq (.region false [⟨some 4, .box (.t 0) [], none⟩,
   ⟨some 5, .box (.t 1) [34], none⟩,
   ⟨some 8, .new [.int .i64 0, .int .i64 0] [], none⟩])
  (.seq (.seq (.region false [⟨some 16, .ld 5 5 15 false, none⟩,
   ⟨some 17, .mov (.t 2), none⟩,
   ⟨some 18, .mov (.t 3), none⟩,
   ⟨some 19, .bls 2 [.int .i64 0, .int .i64 0] [(0, 1, .t 17), (1, 1, .t 18)], none⟩,
   ⟨some 20, .call 50 [.t 16, .t 19], none⟩,
   ⟨some 21, .un .not (.t 20), none⟩])
  (.cond (.t 21) (.seq (.region false [⟨some 22, .bld [.int .i64 0, .int .i64 0] [], none⟩,
   ⟨none, .st 8 8 2 (.t 22), none⟩])
  (.ret))
  (.skip)))
  (.seq (.region false [⟨some 23, .ld 4 4 2 false, none⟩,
   ⟨some 24, .call 57 [.t 23], none⟩,
   ⟨some 9, .new [.int .i64 0, .int .i64 0] [39, 47], none⟩,
   ⟨none, .st 9 9 2 (.t 24), none⟩])
  (.seq (.region false [⟨some 25, .mov (.t 3), none⟩,
   ⟨some 26, .mov (.t 2), none⟩,
   ⟨some 27, .bin .sub (.t 25) (.t 26), none⟩,
   ⟨some 28, .bin .mul (.c (.int .i64 4608)) (.t 27), none⟩,
   ⟨some 29, .mov (.t 2), none⟩,
   ⟨some 30, .mov (.t 2), none⟩,
   ⟨some 31, .bin .mul (.t 29) (.t 30), none⟩,
   ⟨some 32, .bin .add (.c (.int .i64 65536)) (.t 31), none⟩,
   ⟨some 33, .bin .mul (.c (.int .i64 2048)) (.t 32), none⟩,
   ⟨some 10, .mov (.t 28), none⟩,
   ⟨some 11, .mov (.t 33), none⟩])
  (.seq (.seq (.region false [⟨some 34, .adr 5 5 5, none⟩,
   ⟨some 35, .ld 34 5 1 true, none⟩])
  (.cond (.t 35) (.region false [⟨some 36, .mov (.t 10), none⟩,
   ⟨some 37, .un .neg (.t 36), none⟩,
   ⟨some 10, .mov (.t 37), none⟩])
  (.skip)))
  (.seq (.region false [⟨some 39, .adr 9 9 0, none⟩,
   ⟨some 40, .ld 39 9 1 true, none⟩,
   ⟨some 41, .mov (.t 10), none⟩,
   ⟨some 42, .mov (.t 11), none⟩,
   ⟨some 43, .call 58 [.t 40, .t 41, .t 42], none⟩,
   ⟨some 38, .mov (.t 43), none⟩,
   ⟨some 44, .ext (.t 38) 0, none⟩,
   ⟨some 45, .ext (.t 38) 1, none⟩,
   ⟨some 12, .mov (.t 44), none⟩,
   ⟨some 13, .mov (.t 45), none⟩])
  (.seq (.region false [⟨some 47, .adr 9 9 1, none⟩,
   ⟨some 48, .ld 47 9 1 true, none⟩,
   ⟨some 49, .mov (.t 10), none⟩,
   ⟨some 50, .mov (.t 11), none⟩,
   ⟨some 51, .call 58 [.t 48, .t 49, .t 50], none⟩,
   ⟨some 46, .mov (.t 51), none⟩,
   ⟨some 52, .ext (.t 46) 0, none⟩,
   ⟨some 53, .ext (.t 46) 1, none⟩,
   ⟨some 14, .mov (.t 52), none⟩,
   ⟨some 15, .mov (.t 53), none⟩])
  (.seq (.region false [⟨some 54, .mov (.t 12), none⟩,
   ⟨some 55, .mov (.t 14), none⟩,
   ⟨some 56, .bld [.int .i64 0, .int .i64 0] [(0, 1, .t 54), (1, 1, .t 55)], none⟩,
   ⟨none, .st 8 8 2 (.t 56), none⟩])
  (.ret))))))))⟩
def Try.r26 : List (Nat × Nat) := [(34, 5), (39, 9), (47, 9)]
theorem Try.i26_ok : fnOk Try.prog Try.r26 Try.f26 Try.i26 = true := by kernel_rfl

/- pinball/vector.Cross -/
def Try.i27 : IFunc := ⟨2, 24, [.tmp 4],
  .seq (.region false [⟨some 2, .box (.t 0) [13, 18], none⟩,
   ⟨some 3, .box (.t 1) [15, 20], none⟩,
   ⟨some 4, .mov (.c (.int .i64 0)), none⟩])
  (.seq (.seq (.region false [⟨some 5, .ld 2 2 2 false, none⟩,
   ⟨some 6, .call 59 [.t 5], none⟩,
   ⟨some 7, .un .not (.t 6), none⟩,
   ⟨some 8, .mov (.t 7), none⟩,
   ⟨some 9, .ld 3 3 2 false, some (8, false)⟩,
   ⟨some 10, .call 59 [.t 9], some (8, false)⟩,
   ⟨some 11, .un .not (.t 10), some (8, false)⟩,
   ⟨some 12, .pick (.t 8) (.c (.bool true)) (.t 11), none⟩])
  (.cond (.t 12) (.seq (.region false [⟨some 4, .mov (.c (.int .i64 0)), none⟩])
  (.ret))
  (.skip)))
  (.seq (.region false [⟨some 13, .adr 2 2 0, none⟩,
   ⟨some 14, .ld 13 2 1 true, none⟩,
   ⟨some 15, .adr 3 3 1, none⟩,
   ⟨some 16, .ld 15 3 1 true, none⟩,
   ⟨some 17, .bin .mul (.t 14) (.t 16), none⟩,
   ⟨some 18, .adr 2 2 1, none⟩,
   ⟨some 19, .ld 18 2 1 true, none⟩,
   ⟨some 20, .adr 3 3 0, none⟩,
   ⟨some 21, .ld 20 3 1 true, none⟩,
   ⟨some 22, .bin .mul (.t 19) (.t 21), none⟩,
   ⟨some 23, .bin .sub (.t 17) (.t 22), none⟩,
   ⟨some 4, .mov (.t 23), none⟩])
  (.ret)))⟩
def Try.r27 : List (Nat × Nat) := [(13, 2), (15, 3), (18, 2), (20, 3)]
theorem Try.i27_ok : fnOk Try.prog Try.r27 Try.f27 Try.i27 = true := by kernel_rfl

/- pinball/pinballlaw13.near -/
def Try.i28 : IFunc := ⟨1, 21, [.tmp 2],
  .seq (.region false [⟨some 1, .box (.t 0) [3, 7, 12, 17], none⟩,
   ⟨some 2, .mov (.c (.bool false)), none⟩])
  (.seq (.region false [⟨some 3, .adr 1 1 0, none⟩,
   ⟨some 4, .ld 3 1 1 true, none⟩,
   ⟨some 5, .bin .geq (.t 4) (.c (.int .i64 (-2097152))), none⟩,
   ⟨some 6, .mov (.t 5), none⟩,
   ⟨some 7, .adr 1 1 0, some (6, true)⟩,
   ⟨some 8, .ld 7 1 1 true, some (6, true)⟩,
   ⟨some 9, .bin .leq (.t 8) (.c (.int .i64 2097152)), some (6, true)⟩,
   ⟨some 10, .pick (.t 6) (.t 9) (.c (.bool false)), none⟩,
   ⟨some 11, .mov (.t 10), none⟩,
   ⟨some 12, .adr 1 1 1, some (11, true)⟩,
   ⟨some 13, .ld 12 1 1 true, some (11, true)⟩,
   ⟨some 14, .bin .geq (.t 13) (.c (.int .i64 (-2097152))), some (11, true)⟩,
   ⟨some 15, .pick (.t 11) (.t 14) (.c (.bool false)), none⟩,
   ⟨some 16, .mov (.t 15), none⟩,
   ⟨some 17, .adr 1 1 1, some (16, true)⟩,
   ⟨some 18, .ld 17 1 1 true, some (16, true)⟩,
   ⟨some 19, .bin .leq (.t 18) (.c (.int .i64 2097152)), some (16, true)⟩,
   ⟨some 20, .pick (.t 16) (.t 19) (.c (.bool false)), none⟩,
   ⟨some 2, .mov (.t 20), none⟩])
  (.ret))⟩
def Try.r28 : List (Nat × Nat) := [(3, 1), (7, 1), (12, 1), (17, 1)]
theorem Try.i28_ok : fnOk Try.prog Try.r28 Try.f28 Try.i28 = true := by kernel_rfl

/- pinball/pinballlaw13.mirrored -/
def Try.i29 : IFunc := ⟨1, 12, [.cell 2 15 false],
  .seq (.region false [⟨some 1, .box (.t 0) [3, 6, 9, 10], none⟩,
   ⟨some 2, .new [.str ByteArray.empty, .int .i64 0, .int .i64 0, .int .i64 0, .int .i64 0, .bool false, .int .i64 0, .int .i64 0, .int .i64 0, .int .i64 0, .int .i64 0, .int .i64 0, .int .i64 0, .int .i64 0, .int .i64 0] [], none⟩])
  (.seq (.region true [⟨some 3, .adr 1 1 2, none⟩,
   ⟨some 4, .ld 3 1 2 false, none⟩,
   ⟨some 5, .call 31 [.t 4], none⟩,
   ⟨some 6, .adr 1 1 5, none⟩,
   ⟨some 7, .ld 6 1 1 true, none⟩,
   ⟨some 8, .un .not (.t 7), none⟩,
   ⟨some 9, .adr 1 1 2, none⟩,
   ⟨none, .st 9 1 2 (.t 5), none⟩,
   ⟨some 10, .adr 1 1 5, none⟩,
   ⟨none, .st 10 1 1 (.t 8), none⟩])
  (.seq (.region false [⟨some 11, .ld 1 1 15 false, none⟩,
   ⟨none, .st 2 2 15 (.t 11), none⟩])
  (.ret)))⟩
def Try.r29 : List (Nat × Nat) := [(3, 1), (6, 1), (9, 1), (10, 1)]
theorem Try.i29_ok : fnOk Try.prog Try.r29 Try.f29 Try.i29 = true := by kernel_rfl

/- pinball/flipper.Foot -/
def Try.i30 : IFunc := ⟨5, 112, [.cell 10 2 false],
  .seq (.region false [⟨some 5, .box (.t 0) [31, 33], none⟩,
   ⟨some 6, .box (.t 1) [54, 66, 72, 80], none⟩,
   ⟨some 10, .new [.int .i64 0, .int .i64 0] [], none⟩])
  (.seq (.seq (.region false [⟨some 18, .ld 6 6 15 false, none⟩,
   ⟨some 19, .mov (.t 2), none⟩,
   ⟨some 20, .mov (.t 3), none⟩,
   ⟨some 21, .bls 2 [.int .i64 0, .int .i64 0] [(0, 1, .t 19), (1, 1, .t 20)], none⟩,
   ⟨some 22, .call 50 [.t 18, .t 21], none⟩,
   ⟨some 23, .un .not (.t 22), none⟩,
   ⟨some 24, .mov (.t 23), none⟩,
   ⟨some 25, .mov (.t 4), some (24, false)⟩,
   ⟨some 26, .bls 1 [.int .i64 0] [(0, 1, .t 25)], some (24, false)⟩,
   ⟨some 27, .call 51 [.c (.int .i64 0), .c (.int .i64 16), .t 26], some (24, false)⟩,
   ⟨some 28, .un .not (.t 27), some (24, false)⟩,
   ⟨some 29, .pick (.t 24) (.c (.bool true)) (.t 28), none⟩,
   ⟨some 30, .mov (.t 29), none⟩,
   ⟨some 31, .adr 5 5 0, some (30, false)⟩,
   ⟨some 32, .ld 31 5 1 true, some (30, false)⟩,
   ⟨some 33, .adr 5 5 1, some (30, false)⟩,
   ⟨some 34, .ld 33 5 1 true, some (30, false)⟩,
   ⟨some 35, .bls 2 [.int .i64 0, .int .i64 0] [(0, 1, .t 32), (1, 1, .t 34)], some (30, false)⟩,
   ⟨some 36, .call 51 [.c (.int .i64 (-536870912)), .c (.int .i64 536870912), .t 35], some (30, false)⟩,
   ⟨some 37, .un .not (.t 36), some (30, false)⟩,
   ⟨some 38, .pick (.t 30) (.c (.bool true)) (.t 37), none⟩])
  (.cond (.t 38) (.seq (.region false [⟨some 39, .bld [.int .i64 0, .int .i64 0] [], none⟩,
   ⟨none, .st 10 10 2 (.t 39), none⟩])
  (.ret))
  (.skip)))
  (.seq (.region false [⟨some 41, .ld 6 6 15 false, none⟩,
   ⟨some 42, .mov (.t 2), none⟩,
   ⟨some 43, .bin .mul (.c (.int .i64 16)) (.t 42), none⟩,
   ⟨some 44, .mov (.t 3), none⟩,
   ⟨some 45, .mov (.t 2), none⟩,
   ⟨some 46, .bin .sub (.t 44) (.t 45), none⟩,
   ⟨some 47, .mov (.t 4), none⟩,
   ⟨some 48, .bin .mul (.t 46) (.t 47), none⟩,
   ⟨some 49, .bin .add (.t 43) (.t 48), none⟩,
   ⟨some 50, .call 53 [.t 41, .t 49, .c (.int .i64 4096)], none⟩,
   ⟨some 40, .mov (.t 50), none⟩,
   ⟨some 51, .ext (.t 40) 0, none⟩,
   ⟨some 52, .ext (.t 40) 1, none⟩,
   ⟨some 11, .new [.int .i64 0, .int .i64 0] [75, 83, 91, 101], none⟩,
   ⟨none, .st 11 11 2 (.t 51), none⟩,
   ⟨some 12, .mov (.t 52), none⟩])
  (.seq (.region true [⟨some 53, .ld 5 5 2 false, none⟩,
   ⟨some 54, .adr 6 6 2, none⟩,
   ⟨some 55, .ld 54 6 2 false, none⟩,
   ⟨some 56, .call 45 [.t 55, .c (.int .i64 256)], none⟩,
   ⟨some 57, .call 43 [.t 53, .t 56], none⟩,
   ⟨some 58, .ld 11 11 2 false, none⟩,
   ⟨some 59, .call 33 [.t 57, .t 58], none⟩,
   ⟨some 13, .mov (.t 59), none⟩])
  (.seq (.block 0 (.seq (.region false [⟨some 61, .mov (.t 13), none⟩,
   ⟨some 62, .bin .leq (.t 61) (.c (.int .i64 0)), none⟩,
   ⟨some 60, .mov (.t 62), none⟩])
  (.cond (.t 60) (.seq (.region false [⟨some 63, .bld [.int .i64 0, .int .i64 0] [], none⟩,
   ⟨none, .st 10 10 2 (.t 63), none⟩])
  (.ret))
  (.seq (.region false [⟨some 65, .mov (.t 13), none⟩,
   ⟨some 66, .adr 6 6 4, none⟩,
   ⟨some 67, .ld 66 6 1 true, none⟩,
   ⟨some 68, .bin .mul (.c (.int .i64 256)) (.t 67), none⟩,
   ⟨some 69, .mov (.t 12), none⟩,
   ⟨some 70, .bin .mul (.t 68) (.t 69), none⟩,
   ⟨some 71, .bin .geq (.t 65) (.t 70), none⟩,
   ⟨some 64, .mov (.t 71), none⟩])
  (.cond (.t 64) (.seq (.region true [⟨some 72, .adr 6 6 4, none⟩,
   ⟨some 73, .ld 72 6 1 true, none⟩,
   ⟨some 74, .bin .mul (.c (.int .i64 256)) (.t 73), none⟩,
   ⟨some 75, .adr 11 11 0, none⟩,
   ⟨some 76, .ld 75 11 1 true, none⟩,
   ⟨some 77, .bin .mul (.t 74) (.t 76), none⟩,
   ⟨some 78, .mov (.t 12), none⟩,
   ⟨some 79, .bin .quo (.t 77) (.t 78), none⟩,
   ⟨some 80, .adr 6 6 4, none⟩,
   ⟨some 81, .ld 80 6 1 true, none⟩,
   ⟨some 82, .bin .mul (.c (.int .i64 256)) (.t 81), none⟩,
   ⟨some 83, .adr 11 11 1, none⟩,
   ⟨some 84, .ld 83 11 1 true, none⟩,
   ⟨some 85, .bin .mul (.t 82) (.t 84), none⟩,
   ⟨some 86, .mov (.t 12), none⟩,
   ⟨some 87, .bin .quo (.t 85) (.t 86), none⟩,
   ⟨some 88, .bld [.int .i64 0, .int .i64 0] [(0, 1, .t 79), (1, 1, .t 87)], none⟩,
   ⟨none, .st 10 10 2 (.t 88), none⟩])
  (.ret))
  (.skip))))))
  (.seq (.region false [⟨some 90, .mov (.t 13), none⟩,
   ⟨some 91, .adr 11 11 0, none⟩,
   ⟨some 92, .ld 91 11 1 true, none⟩,
   ⟨some 93, .mov (.t 12), none⟩,
   ⟨some 94, .mov (.t 12), none⟩,
   ⟨some 95, .bin .mul (.t 93) (.t 94), none⟩,
   ⟨some 96, .call 58 [.t 90, .t 92, .t 95], none⟩,
   ⟨some 89, .mov (.t 96), none⟩,
   ⟨some 97, .ext (.t 89) 0, none⟩,
   ⟨some 98, .ext (.t 89) 1, none⟩,
   ⟨some 14, .mov (.t 97), none⟩,
   ⟨some 15, .mov (.t 98), none⟩])
  (.seq (.region false [⟨some 100, .mov (.t 13), none⟩,
   ⟨some 101, .adr 11 11 1, none⟩,
   ⟨some 102, .ld 101 11 1 true, none⟩,
   ⟨some 103, .mov (.t 12), none⟩,
   ⟨some 104, .mov (.t 12), none⟩,
   ⟨some 105, .bin .mul (.t 103) (.t 104), none⟩,
   ⟨some 106, .call 58 [.t 100, .t 102, .t 105], none⟩,
   ⟨some 99, .mov (.t 106), none⟩,
   ⟨some 107, .ext (.t 99) 0, none⟩,
   ⟨some 108, .ext (.t 99) 1, none⟩,
   ⟨some 16, .mov (.t 107), none⟩,
   ⟨some 17, .mov (.t 108), none⟩])
  (.seq (.region false [⟨some 109, .mov (.t 14), none⟩,
   ⟨some 110, .mov (.t 16), none⟩,
   ⟨some 111, .bld [.int .i64 0, .int .i64 0] [(0, 1, .t 109), (1, 1, .t 110)], none⟩,
   ⟨none, .st 10 10 2 (.t 111), none⟩])
  (.ret))))))))⟩
def Try.r30 : List (Nat × Nat) := [(31, 5), (33, 5), (54, 6), (66, 6), (72, 6), (75, 11), (80, 6), (83, 11), (91, 11), (101, 11)]
theorem Try.i30_ok : fnOk Try.prog Try.r30 Try.f30 Try.i30 = true := by kernel_rfl

/- pinball/pinballlaw13.flip -/
def Try.i31 : IFunc := ⟨1, 9, [.cell 2 2 false],
  .seq (.region false [⟨some 1, .box (.t 0) [3, 6], none⟩,
   ⟨some 2, .new [.int .i64 0, .int .i64 0] [], none⟩])
  (.seq (.region false [⟨some 3, .adr 1 1 0, none⟩,
   ⟨some 4, .ld 3 1 1 true, none⟩,
   ⟨some 5, .un .neg (.t 4), none⟩,
   ⟨some 6, .adr 1 1 1, none⟩,
   ⟨some 7, .ld 6 1 1 true, none⟩,
   ⟨some 8, .bld [.int .i64 0, .int .i64 0] [(0, 1, .t 5), (1, 1, .t 7)], none⟩,
   ⟨none, .st 2 2 2 (.t 8), none⟩])
  (.ret))⟩
def Try.r31 : List (Nat × Nat) := [(3, 1), (6, 1)]
theorem Try.i31_ok : fnOk Try.prog Try.r31 Try.f31 Try.i31 = true := by kernel_rfl

/- pinball/flipper.Normal -/
def Try.i32 : IFunc := ⟨5, 46, [.cell 10 2 false],
  .seq (.region false [⟨some 5, .box (.t 0) [24, 26], none⟩,
   ⟨some 6, .box (.t 1) [34], none⟩,
   ⟨some 10, .new [.int .i64 0, .int .i64 0] [], none⟩])
  (.seq (.seq (.region false [⟨some 11, .ld 6 6 15 false, none⟩,
   ⟨some 12, .mov (.t 2), none⟩,
   ⟨some 13, .mov (.t 3), none⟩,
   ⟨some 14, .bls 2 [.int .i64 0, .int .i64 0] [(0, 1, .t 12), (1, 1, .t 13)], none⟩,
   ⟨some 15, .call 50 [.t 11, .t 14], none⟩,
   ⟨some 16, .un .not (.t 15), none⟩,
   ⟨some 17, .mov (.t 16), none⟩,
   ⟨some 18, .mov (.t 4), some (17, false)⟩,
   ⟨some 19, .bls 1 [.int .i64 0] [(0, 1, .t 18)], some (17, false)⟩,
   ⟨some 20, .call 51 [.c (.int .i64 0), .c (.int .i64 16), .t 19], some (17, false)⟩,
   ⟨some 21, .un .not (.t 20), some (17, false)⟩,
   ⟨some 22, .pick (.t 17) (.c (.bool true)) (.t 21), none⟩,
   ⟨some 23, .mov (.t 22), none⟩,
   ⟨some 24, .adr 5 5 0, some (23, false)⟩,
   ⟨some 25, .ld 24 5 1 true, some (23, false)⟩,
   ⟨some 26, .adr 5 5 1, some (23, false)⟩,
   ⟨some 27, .ld 26 5 1 true, some (23, false)⟩,
   ⟨some 28, .bls 2 [.int .i64 0, .int .i64 0] [(0, 1, .t 25), (1, 1, .t 27)], some (23, false)⟩,
   ⟨some 29, .call 51 [.c (.int .i64 (-536870912)), .c (.int .i64 536870912), .t 28], some (23, false)⟩,
   ⟨some 30, .un .not (.t 29), some (23, false)⟩,
   ⟨some 31, .pick (.t 23) (.c (.bool true)) (.t 30), none⟩])
  (.cond (.t 31) (.seq (.region false [⟨some 32, .bld [.int .i64 0, .int .i64 0] [], none⟩,
   ⟨none, .st 10 10 2 (.t 32), none⟩])
  (.ret))
  (.skip)))
  (.seq (.region true [⟨some 33, .ld 5 5 2 false, none⟩,
   ⟨some 34, .adr 6 6 2, none⟩,
   ⟨some 35, .ld 34 6 2 false, none⟩,
   ⟨some 36, .call 45 [.t 35, .c (.int .i64 256)], none⟩,
   ⟨some 37, .call 43 [.t 33, .t 36], none⟩,
   ⟨some 38, .ld 5 5 2 false, none⟩,
   ⟨some 39, .ld 6 6 15 false, none⟩,
   ⟨some 40, .mov (.t 2), none⟩,
   ⟨some 41, .mov (.t 3), none⟩,
   ⟨some 42, .mov (.t 4), none⟩,
   ⟨some 43, .call 30 [.t 38, .t 39, .t 40, .t 41, .t 42], none⟩,
   ⟨some 44, .call 43 [.t 37, .t 43], none⟩,
   ⟨some 45, .call 47 [.t 44], none⟩,
   ⟨none, .st 10 10 2 (.t 45), none⟩])
  (.ret)))⟩
def Try.r32 : List (Nat × Nat) := [(24, 5), (26, 5), (34, 6)]
theorem Try.i32_ok : fnOk Try.prog Try.r32 Try.f32 Try.i32 = true := by kernel_rfl

/- pinball/vector.Dot -/
def Try.i33 : IFunc := ⟨2, 24, [.tmp 4],
  .seq (.region false [⟨some 2, .box (.t 0) [13, 18], none⟩,
   ⟨some 3, .box (.t 1) [15, 20], none⟩,
   ⟨some 4, .mov (.c (.int .i64 0)), none⟩])
  (.seq (.seq (.region false [⟨some 5, .ld 2 2 2 false, none⟩,
   ⟨some 6, .call 59 [.t 5], none⟩,
   ⟨some 7, .un .not (.t 6), none⟩,
   ⟨some 8, .mov (.t 7), none⟩,
   ⟨some 9, .ld 3 3 2 false, some (8, false)⟩,
   ⟨some 10, .call 59 [.t 9], some (8, false)⟩,
   ⟨some 11, .un .not (.t 10), some (8, false)⟩,
   ⟨some 12, .pick (.t 8) (.c (.bool true)) (.t 11), none⟩])
  (.cond (.t 12) (.seq (.region false [⟨some 4, .mov (.c (.int .i64 0)), none⟩])
  (.ret))
  (.skip)))
  (.seq (.region false [⟨some 13, .adr 2 2 0, none⟩,
   ⟨some 14, .ld 13 2 1 true, none⟩,
   ⟨some 15, .adr 3 3 0, none⟩,
   ⟨some 16, .ld 15 3 1 true, none⟩,
   ⟨some 17, .bin .mul (.t 14) (.t 16), none⟩,
   ⟨some 18, .adr 2 2 1, none⟩,
   ⟨some 19, .ld 18 2 1 true, none⟩,
   ⟨some 20, .adr 3 3 1, none⟩,
   ⟨some 21, .ld 20 3 1 true, none⟩,
   ⟨some 22, .bin .mul (.t 19) (.t 21), none⟩,
   ⟨some 23, .bin .add (.t 17) (.t 22), none⟩,
   ⟨some 4, .mov (.t 23), none⟩])
  (.ret)))⟩
def Try.r33 : List (Nat × Nat) := [(13, 2), (15, 3), (18, 2), (20, 3)]
theorem Try.i33_ok : fnOk Try.prog Try.r33 Try.f33 Try.i33 = true := by kernel_rfl

/- pinball/flipper.Inside -/
def Try.i34 : IFunc := ⟨4, 96, [.tmp 8],
  .seq (.region false [⟨some 4, .box (.t 0) [26, 28], none⟩,
   ⟨some 5, .box (.t 1) [41, 62, 71, 73, 82], none⟩,
   ⟨some 8, .mov (.c (.bool false)), none⟩])
  (.seq (.seq (.region false [⟨some 14, .ld 5 5 15 false, none⟩,
   ⟨some 15, .mov (.t 2), none⟩,
   ⟨some 16, .bls 1 [.int .i64 0] [(0, 1, .t 15)], none⟩,
   ⟨some 17, .call 50 [.t 14, .t 16], none⟩,
   ⟨some 18, .un .not (.t 17), none⟩,
   ⟨some 19, .mov (.t 18), none⟩,
   ⟨some 20, .mov (.t 3), some (19, false)⟩,
   ⟨some 21, .bls 1 [.int .i64 0] [(0, 1, .t 20)], some (19, false)⟩,
   ⟨some 22, .call 51 [.c (.int .i64 1), .c (.int .i64 524288), .t 21], some (19, false)⟩,
   ⟨some 23, .un .not (.t 22), some (19, false)⟩,
   ⟨some 24, .pick (.t 19) (.c (.bool true)) (.t 23), none⟩,
   ⟨some 25, .mov (.t 24), none⟩,
   ⟨some 26, .adr 4 4 0, some (25, false)⟩,
   ⟨some 27, .ld 26 4 1 true, some (25, false)⟩,
   ⟨some 28, .adr 4 4 1, some (25, false)⟩,
   ⟨some 29, .ld 28 4 1 true, some (25, false)⟩,
   ⟨some 30, .bls 2 [.int .i64 0, .int .i64 0] [(0, 1, .t 27), (1, 1, .t 29)], some (25, false)⟩,
   ⟨some 31, .call 51 [.c (.int .i64 (-2097152)), .c (.int .i64 2097152), .t 30], some (25, false)⟩,
   ⟨some 32, .un .not (.t 31), some (25, false)⟩,
   ⟨some 33, .pick (.t 25) (.c (.bool true)) (.t 32), none⟩])
  (.cond (.t 33) (.seq (.region false [⟨some 8, .mov (.c (.bool false)), none⟩])
  (.ret))
  (.skip)))
  (.seq (.region false [⟨some 35, .ld 5 5 15 false, none⟩,
   ⟨some 36, .mov (.t 2), none⟩,
   ⟨some 37, .call 53 [.t 35, .t 36, .c (.int .i64 256)], none⟩,
   ⟨some 34, .mov (.t 37), none⟩,
   ⟨some 38, .ext (.t 34) 0, none⟩,
   ⟨some 39, .ext (.t 34) 1, none⟩,
   ⟨some 9, .new [.int .i64 0, .int .i64 0] [], none⟩,
   ⟨none, .st 9 9 2 (.t 38), none⟩,
   ⟨some 10, .mov (.t 39), none⟩])
  (.seq (.region false [⟨some 40, .ld 4 4 2 false, none⟩,
   ⟨some 41, .adr 5 5 2, none⟩,
   ⟨some 42, .ld 41 5 2 false, none⟩,
   ⟨some 43, .call 43 [.t 40, .t 42], none⟩,
   ⟨some 11, .new [.int .i64 0, .int .i64 0] [], none⟩,
   ⟨none, .st 11 11 2 (.t 43), none⟩])
  (.seq (.region true [⟨some 44, .ld 11 11 2 false, none⟩,
   ⟨some 45, .ld 9 9 2 false, none⟩,
   ⟨some 46, .call 33 [.t 44, .t 45], none⟩,
   ⟨some 47, .ld 9 9 2 false, none⟩,
   ⟨some 48, .ld 11 11 2 false, none⟩,
   ⟨some 49, .call 27 [.t 47, .t 48], none⟩,
   ⟨some 12, .mov (.t 46), none⟩,
   ⟨some 13, .mov (.t 49), none⟩])
  (.seq (.block 0 (.seq (.region false [⟨some 51, .mov (.t 12), none⟩,
   ⟨some 52, .bin .leq (.t 51) (.c (.int .i64 0)), none⟩,
   ⟨some 50, .mov (.t 52), none⟩])
  (.cond (.t 50) (.seq (.region false [⟨some 53, .ld 11 11 2 false, none⟩,
   ⟨some 54, .ld 11 11 2 false, none⟩,
   ⟨some 55, .call 33 [.t 53, .t 54], none⟩,
   ⟨some 56, .mov (.t 3), none⟩,
   ⟨some 57, .mov (.t 3), none⟩,
   ⟨some 58, .bin .mul (.t 56) (.t 57), none⟩,
   ⟨some 59, .bin .lss (.t 55) (.t 58), none⟩,
   ⟨some 8, .mov (.t 59), none⟩])
  (.ret))
  (.seq (.region false [⟨some 61, .mov (.t 12), none⟩,
   ⟨some 62, .adr 5 5 4, none⟩,
   ⟨some 63, .ld 62 5 1 true, none⟩,
   ⟨some 64, .mov (.t 10), none⟩,
   ⟨some 65, .bin .mul (.t 63) (.t 64), none⟩,
   ⟨some 66, .bin .geq (.t 61) (.t 65), none⟩,
   ⟨some 60, .mov (.t 66), none⟩])
  (.cond (.t 60) (.seq (.region true [⟨some 67, .mov (.t 10), none⟩,
   ⟨some 68, .ld 11 11 2 false, none⟩,
   ⟨some 69, .ld 11 11 2 false, none⟩,
   ⟨some 70, .call 33 [.t 68, .t 69], none⟩,
   ⟨some 71, .adr 5 5 4, none⟩,
   ⟨some 72, .ld 71 5 1 true, none⟩,
   ⟨some 73, .adr 5 5 4, none⟩,
   ⟨some 74, .ld 73 5 1 true, none⟩,
   ⟨some 75, .bin .mul (.t 72) (.t 74), none⟩,
   ⟨some 76, .bin .add (.t 70) (.t 75), none⟩,
   ⟨some 77, .mov (.t 3), none⟩,
   ⟨some 78, .mov (.t 3), none⟩,
   ⟨some 79, .bin .mul (.t 77) (.t 78), none⟩,
   ⟨some 80, .bin .sub (.t 76) (.t 79), none⟩,
   ⟨some 81, .bin .mul (.t 67) (.t 80), none⟩,
   ⟨some 82, .adr 5 5 4, none⟩,
   ⟨some 83, .ld 82 5 1 true, none⟩,
   ⟨some 84, .bin .mul (.c (.int .i64 2)) (.t 83), none⟩,
   ⟨some 85, .mov (.t 12), none⟩,
   ⟨some 86, .bin .mul (.t 84) (.t 85), none⟩,
   ⟨some 87, .bin .lss (.t 81) (.t 86), none⟩,
   ⟨some 8, .mov (.t 87), none⟩])
  (.ret))
  (.skip))))))
  (.seq (.region false [⟨some 88, .mov (.t 13), none⟩,
   ⟨some 89, .mov (.t 13), none⟩,
   ⟨some 90, .un .neg (.t 89), none⟩,
   ⟨some 91, .mx [.t 88, .t 90], none⟩,
   ⟨some 92, .mov (.t 3), none⟩,
   ⟨some 93, .mov (.t 10), none⟩,
   ⟨some 94, .bin .mul (.t 92) (.t 93), none⟩,
   ⟨some 95, .bin .lss (.t 91) (.t 94), none⟩,
   ⟨some 8, .mov (.t 95), none⟩])
  (.ret)))))))⟩
def Try.r34 : List (Nat × Nat) := [(26, 4), (28, 4), (41, 5), (62, 5), (71, 5), (73, 5), (82, 5)]
theorem Try.i34_ok : fnOk Try.prog Try.r34 Try.f34 Try.i34 = true := by kernel_rfl

/- pinball/pinballlaw12.quarter -/
def Try.i41 : IFunc := ⟨0, 4, [.cell 0 12 false],
  .seq (.region false [⟨some 0, .new [.str ByteArray.empty, .int .i64 0, .int .i64 0, .int .i64 0, .int .i64 0, .int .i64 0, .int .i64 0, .int .i64 0, .int .i64 0, .int .i64 0, .int .i64 0, .int .i64 0] [], none⟩])
  (.seq (.region false [⟨some 1, .bld [.int .i64 0, .int .i64 0] [(0, 1, .c (.int .i64 500))], none⟩,
   ⟨some 2, .bld [.int .i64 0, .int .i64 0] [(1, 1, .c (.int .i64 500))], none⟩,
   ⟨some 3, .bld [.str ByteArray.empty, .int .i64 0, .int .i64 0, .int .i64 0, .int .i64 0, .int .i64 0, .int .i64 0, .int .i64 0, .int .i64 0, .int .i64 0, .int .i64 0, .int .i64 0] [(4, 2, .t 1), (6, 2, .t 2)], none⟩,
   ⟨none, .st 0 0 12 (.t 3), none⟩])
  (.ret))⟩
def Try.r41 : List (Nat × Nat) := []
theorem Try.i41_ok : fnOk Try.prog Try.r41 Try.f41 Try.i41 = true := by kernel_rfl

/- pinball/arc.within -/
def Try.i42 : IFunc := ⟨2, 38, [.tmp 4],
  .seq (.region false [⟨some 4, .mov (.c (.bool false)), none⟩])
  (.seq (.seq (.region false [⟨some 7, .mov (.t 1), none⟩,
   ⟨some 8, .len (.t 7), none⟩,
   ⟨some 9, .mov (.c (.int .i64 0)), none⟩])
  (.block 0 (.loop (.seq (.region false [⟨some 10, .bin .lss (.t 9) (.t 8), none⟩])
  (.seq (.cond (.t 10) (.skip)
  (.exit 0))
  (.seq (.block 1 (.seq (.region false [⟨some 11, .ixa 7 (.t 9) 2, none⟩,
   ⟨some 12, .ld 11 11 2 false, none⟩,
   ⟨some 6, .new [.int .i64 0, .int .i64 0] [13, 19, 25, 32], none⟩,
   ⟨none, .st 6 6 2 (.t 12), none⟩])
  (.seq (.region false [⟨some 13, .adr 6 6 0, none⟩,
   ⟨some 14, .ld 13 6 1 true, none⟩,
   ⟨some 15, .mov (.t 0), none⟩,
   ⟨some 16, .un .neg (.t 15), none⟩,
   ⟨some 17, .bin .lss (.t 14) (.t 16), none⟩,
   ⟨some 18, .mov (.t 17), none⟩,
   ⟨some 19, .adr 6 6 0, some (18, false)⟩,
   ⟨some 20, .ld 19 6 1 true, some (18, false)⟩,
   ⟨some 21, .mov (.t 0), some (18, false)⟩,
   ⟨some 22, .bin .gtr (.t 20) (.t 21), some (18, false)⟩,
   ⟨some 23, .pick (.t 18) (.c (.bool true)) (.t 22), none⟩,
   ⟨some 24, .mov (.t 23), none⟩,
   ⟨some 25, .adr 6 6 1, some (24, false)⟩,
   ⟨some 26, .ld 25 6 1 true, some (24, false)⟩,
   ⟨some 27, .mov (.t 0), some (24, false)⟩,
   ⟨some 28, .un .neg (.t 27), some (24, false)⟩,
   ⟨some 29, .bin .lss (.t 26) (.t 28), some (24, false)⟩,
   ⟨some 30, .pick (.t 24) (.c (.bool true)) (.t 29), none⟩,
   ⟨some 31, .mov (.t 30), none⟩,
   ⟨some 32, .adr 6 6 1, some (31, false)⟩,
   ⟨some 33, .ld 32 6 1 true, some (31, false)⟩,
   ⟨some 34, .mov (.t 0), some (31, false)⟩,
   ⟨some 35, .bin .gtr (.t 33) (.t 34), some (31, false)⟩,
   ⟨some 36, .pick (.t 31) (.c (.bool true)) (.t 35), none⟩])
  (.cond (.t 36) (.seq (.region false [⟨some 4, .mov (.c (.bool false)), none⟩])
  (.ret))
  (.skip)))))
  (.region false [⟨some 37, .bin .add (.t 9) (.c (.int .i64 1)), none⟩,
   ⟨some 9, .mov (.t 37), none⟩])))))))
  (.seq (.region false [⟨some 4, .mov (.c (.bool true)), none⟩])
  (.ret)))⟩
def Try.r42 : List (Nat × Nat) := [(13, 6), (19, 6), (25, 6), (32, 6)]
theorem Try.i42_ok : fnOk Try.prog Try.r42 Try.f42 Try.i42 = true := by kernel_rfl

/- pinball/vector.Sub -/
def Try.i43 : IFunc := ⟨2, 26, [.cell 4 2 false],
  .seq (.region false [⟨some 2, .box (.t 0) [14, 19], none⟩,
   ⟨some 3, .box (.t 1) [16, 21], none⟩,
   ⟨some 4, .new [.int .i64 0, .int .i64 0] [], none⟩])
  (.seq (.seq (.region false [⟨some 5, .ld 2 2 2 false, none⟩,
   ⟨some 6, .call 59 [.t 5], none⟩,
   ⟨some 7, .un .not (.t 6), none⟩,
   ⟨some 8, .mov (.t 7), none⟩,
   ⟨some 9, .ld 3 3 2 false, some (8, false)⟩,
   ⟨some 10, .call 59 [.t 9], some (8, false)⟩,
   ⟨some 11, .un .not (.t 10), some (8, false)⟩,
   ⟨some 12, .pick (.t 8) (.c (.bool true)) (.t 11), none⟩])
  (.cond (.t 12) (.seq (.region false [⟨some 13, .bld [.int .i64 0, .int .i64 0] [], none⟩,
   ⟨none, .st 4 4 2 (.t 13), none⟩])
  (.ret))
  (.skip)))
  (.seq (.region false [⟨some 14, .adr 2 2 0, none⟩,
   ⟨some 15, .ld 14 2 1 true, none⟩,
   ⟨some 16, .adr 3 3 0, none⟩,
   ⟨some 17, .ld 16 3 1 true, none⟩,
   ⟨some 18, .bin .sub (.t 15) (.t 17), none⟩,
   ⟨some 19, .adr 2 2 1, none⟩,
   ⟨some 20, .ld 19 2 1 true, none⟩,
   ⟨some 21, .adr 3 3 1, none⟩,
   ⟨some 22, .ld 21 3 1 true, none⟩,
   ⟨some 23, .bin .sub (.t 20) (.t 22), none⟩,
   ⟨some 24, .bld [.int .i64 0, .int .i64 0] [(0, 1, .t 18), (1, 1, .t 23)], none⟩,
   ⟨some 25, .call 75 [.t 24], none⟩,
   ⟨none, .st 4 4 2 (.t 25), none⟩])
  (.ret)))⟩
def Try.r43 : List (Nat × Nat) := [(14, 2), (16, 3), (19, 2), (21, 3)]
theorem Try.i43_ok : fnOk Try.prog Try.r43 Try.f43 Try.i43 = true := by kernel_rfl

/- pinball/vector.Root -/
def Try.i44 : IFunc := ⟨1, 22, [.tmp 2],
  .seq (.region false [⟨some 2, .mov (.c (.int .i64 0)), none⟩])
  (.seq (.seq (.region false [⟨some 6, .mov (.t 0), none⟩,
   ⟨some 7, .bin .leq (.t 6) (.c (.int .i64 0)), none⟩])
  (.cond (.t 7) (.seq (.region false [⟨some 2, .mov (.c (.int .i64 0)), none⟩])
  (.ret))
  (.skip)))
  (.seq (.region false [⟨some 3, .mov (.c (.int .i64 0)), none⟩])
  (.seq (.seq (.region false [⟨some 4, .mov (.c (.int .i64 2147483648)), none⟩])
  (.block 0 (.loop (.seq (.seq (.region false [⟨some 8, .mov (.t 4), none⟩,
   ⟨some 9, .bin .gtr (.t 8) (.c (.int .i64 0)), none⟩])
  (.cond (.t 9) (.skip)
  (.exit 0)))
  (.seq (.block 1 (.seq (.region false [⟨some 12, .mov (.t 3), none⟩,
   ⟨some 13, .mov (.t 4), none⟩,
   ⟨some 14, .bin .or (.t 12) (.t 13), none⟩,
   ⟨some 5, .mov (.t 14), none⟩])
  (.seq (.region false [⟨some 15, .mov (.t 5), none⟩,
   ⟨some 16, .mov (.t 0), none⟩,
   ⟨some 17, .mov (.t 5), none⟩,
   ⟨some 18, .bin .quo (.t 16) (.t 17), none⟩,
   ⟨some 19, .bin .leq (.t 15) (.t 18), none⟩])
  (.cond (.t 19) (.region false [⟨some 20, .mov (.t 5), none⟩,
   ⟨some 3, .mov (.t 20), none⟩])
  (.skip)))))
  (.region false [⟨some 10, .mov (.t 4), none⟩,
   ⟨some 11, .bin .shr (.t 10) (.c (.int .u64 1)), none⟩,
   ⟨some 4, .mov (.t 11), none⟩]))))))
  (.seq (.region false [⟨some 21, .mov (.t 3), none⟩,
   ⟨some 2, .mov (.t 21), none⟩])
  (.ret)))))⟩
def Try.r44 : List (Nat × Nat) := []
theorem Try.i44_ok : fnOk Try.prog Try.r44 Try.f44 Try.i44 = true := by kernel_rfl

/- pinball/vector.Scale -/
def Try.i45 : IFunc := ⟨2, 32, [.cell 4 2 false],
  .seq (.region false [⟨some 2, .box (.t 0) [22, 26], none⟩,
   ⟨some 4, .new [.int .i64 0, .int .i64 0] [], none⟩])
  (.seq (.seq (.region false [⟨some 5, .ld 2 2 2 false, none⟩,
   ⟨some 6, .call 59 [.t 5], none⟩,
   ⟨some 7, .un .not (.t 6), none⟩,
   ⟨some 8, .mov (.t 7), none⟩,
   ⟨some 9, .ld 2 2 2 false, some (8, false)⟩,
   ⟨some 10, .bld [.int .i64 0, .int .i64 0] [], some (8, false)⟩,
   ⟨some 11, .eqv false 2 (.t 9) (.t 10), some (8, false)⟩,
   ⟨some 12, .pick (.t 8) (.c (.bool true)) (.t 11), none⟩,
   ⟨some 13, .mov (.t 12), none⟩,
   ⟨some 14, .mov (.t 1), some (13, false)⟩,
   ⟨some 15, .bin .lss (.t 14) (.c (.int .i64 (-1073741824))), some (13, false)⟩,
   ⟨some 16, .pick (.t 13) (.c (.bool true)) (.t 15), none⟩,
   ⟨some 17, .mov (.t 16), none⟩,
   ⟨some 18, .mov (.t 1), some (17, false)⟩,
   ⟨some 19, .bin .gtr (.t 18) (.c (.int .i64 1073741824)), some (17, false)⟩,
   ⟨some 20, .pick (.t 17) (.c (.bool true)) (.t 19), none⟩])
  (.cond (.t 20) (.seq (.region false [⟨some 21, .bld [.int .i64 0, .int .i64 0] [], none⟩,
   ⟨none, .st 4 4 2 (.t 21), none⟩])
  (.ret))
  (.skip)))
  (.seq (.region false [⟨some 22, .adr 2 2 0, none⟩,
   ⟨some 23, .ld 22 2 1 true, none⟩,
   ⟨some 24, .mov (.t 1), none⟩,
   ⟨some 25, .bin .mul (.t 23) (.t 24), none⟩,
   ⟨some 26, .adr 2 2 1, none⟩,
   ⟨some 27, .ld 26 2 1 true, none⟩,
   ⟨some 28, .mov (.t 1), none⟩,
   ⟨some 29, .bin .mul (.t 27) (.t 28), none⟩,
   ⟨some 30, .bld [.int .i64 0, .int .i64 0] [(0, 1, .t 25), (1, 1, .t 29)], none⟩,
   ⟨some 31, .call 75 [.t 30], none⟩,
   ⟨none, .st 4 4 2 (.t 31), none⟩])
  (.ret)))⟩
def Try.r45 : List (Nat × Nat) := [(22, 2), (26, 2)]
theorem Try.i45_ok : fnOk Try.prog Try.r45 Try.f45 Try.i45 = true := by kernel_rfl

/- pinball/wall.DiscNormal -/
def Try.i46 : IFunc := ⟨2, 15, [.cell 4 2 false],
  .seq (.region false [⟨some 2, .box (.t 0) [], none⟩,
   ⟨some 3, .box (.t 1) [], none⟩,
   ⟨some 4, .new [.int .i64 0, .int .i64 0] [], none⟩])
  (.seq (.seq (.region false [⟨some 5, .ld 3 3 2 false, none⟩,
   ⟨some 6, .bls 1 [.int .i64 0, .int .i64 0] [(0, 2, .t 5)], none⟩,
   ⟨some 7, .call 76 [.c (.int .i64 1048576), .t 6], none⟩,
   ⟨some 8, .un .not (.t 7), none⟩])
  (.cond (.t 8) (.seq (.region false [⟨some 9, .bld [.int .i64 0, .int .i64 0] [], none⟩,
   ⟨none, .st 4 4 2 (.t 9), none⟩])
  (.ret))
  (.skip)))
  (.seq (.region true [⟨some 10, .ld 2 2 2 false, none⟩,
   ⟨some 11, .ld 3 3 2 false, none⟩,
   ⟨some 12, .call 45 [.t 11, .c (.int .i64 256)], none⟩,
   ⟨some 13, .call 43 [.t 10, .t 12], none⟩,
   ⟨some 14, .call 47 [.t 13], none⟩,
   ⟨none, .st 4 4 2 (.t 14), none⟩])
  (.ret)))⟩
def Try.r46 : List (Nat × Nat) := []
theorem Try.i46_ok : fnOk Try.prog Try.r46 Try.f46 Try.i46 = true := by kernel_rfl

/- pinball/vector.Halve -/
def Try.i47 : IFunc := ⟨1, 27, [.cell 2 2 false],
  .seq (.region false [⟨some 1, .box (.t 0) [7, 9, 12, 14, 19, 22], none⟩,
   ⟨some 2, .new [.int .i64 0, .int .i64 0] [], none⟩])
  (.seq (.seq (.region false [⟨some 3, .ld 1 1 2 false, none⟩,
   ⟨some 4, .call 59 [.t 3], none⟩,
   ⟨some 5, .un .not (.t 4), none⟩])
  (.cond (.t 5) (.seq (.region false [⟨some 6, .bld [.int .i64 0, .int .i64 0] [], none⟩,
   ⟨none, .st 2 2 2 (.t 6), none⟩])
  (.ret))
  (.skip)))
  (.seq (.block 0 (.loop (.seq (.seq (.region false [⟨some 7, .adr 1 1 0, none⟩,
   ⟨some 8, .ld 7 1 1 true, none⟩,
   ⟨some 9, .adr 1 1 0, none⟩,
   ⟨some 10, .ld 9 1 1 true, none⟩,
   ⟨some 11, .un .neg (.t 10), none⟩,
   ⟨some 12, .adr 1 1 1, none⟩,
   ⟨some 13, .ld 12 1 1 true, none⟩,
   ⟨some 14, .adr 1 1 1, none⟩,
   ⟨some 15, .ld 14 1 1 true, none⟩,
   ⟨some 16, .un .neg (.t 15), none⟩,
   ⟨some 17, .mx [.t 8, .t 11, .t 13, .t 16], none⟩,
   ⟨some 18, .bin .gtr (.t 17) (.c (.int .i64 2097152)), none⟩])
  (.cond (.t 18) (.skip)
  (.exit 0)))
  (.block 1 (.region false [⟨some 19, .adr 1 1 0, none⟩,
   ⟨some 20, .ld 19 1 1 true, none⟩,
   ⟨some 21, .bin .quo (.t 20) (.c (.int .i64 2)), none⟩,
   ⟨some 22, .adr 1 1 1, none⟩,
   ⟨some 23, .ld 22 1 1 true, none⟩,
   ⟨some 24, .bin .quo (.t 23) (.c (.int .i64 2)), none⟩,
   ⟨some 25, .bld [.int .i64 0, .int .i64 0] [(0, 1, .t 21), (1, 1, .t 24)], none⟩,
   ⟨none, .st 1 1 2 (.t 25), none⟩])))))
  (.seq (.region false [⟨some 26, .ld 1 1 2 false, none⟩,
   ⟨none, .st 2 2 2 (.t 26), none⟩])
  (.ret))))⟩
def Try.r47 : List (Nat × Nat) := [(7, 1), (9, 1), (12, 1), (14, 1), (19, 1), (22, 1)]
theorem Try.i47_ok : fnOk Try.prog Try.r47 Try.f47 Try.i47 = true := by kernel_rfl

/- pinball/wall.InDisc -/
def Try.i48 : IFunc := ⟨3, 36, [.tmp 6],
  .seq (.region false [⟨some 3, .box (.t 0) [], none⟩,
   ⟨some 4, .box (.t 1) [], none⟩,
   ⟨some 6, .mov (.c (.bool false)), none⟩])
  (.seq (.seq (.region false [⟨some 8, .ld 3 3 2 false, none⟩,
   ⟨some 9, .bls 1 [.int .i64 0, .int .i64 0] [(0, 2, .t 8)], none⟩,
   ⟨some 10, .call 76 [.c (.int .i64 2097152), .t 9], none⟩,
   ⟨some 11, .un .not (.t 10), none⟩,
   ⟨some 12, .mov (.t 11), none⟩,
   ⟨some 13, .ld 4 4 2 false, some (12, false)⟩,
   ⟨some 14, .bls 1 [.int .i64 0, .int .i64 0] [(0, 2, .t 13)], some (12, false)⟩,
   ⟨some 15, .call 76 [.c (.int .i64 1048576), .t 14], some (12, false)⟩,
   ⟨some 16, .un .not (.t 15), some (12, false)⟩,
   ⟨some 17, .pick (.t 12) (.c (.bool true)) (.t 16), none⟩,
   ⟨some 18, .mov (.t 17), none⟩,
   ⟨some 19, .mov (.t 2), some (18, false)⟩,
   ⟨some 20, .bin .lss (.t 19) (.c (.int .i64 1)), some (18, false)⟩,
   ⟨some 21, .pick (.t 18) (.c (.bool true)) (.t 20), none⟩,
   ⟨some 22, .mov (.t 21), none⟩,
   ⟨some 23, .mov (.t 2), some (22, false)⟩,
   ⟨some 24, .bin .gtr (.t 23) (.c (.int .i64 524288)), some (22, false)⟩,
   ⟨some 25, .pick (.t 22) (.c (.bool true)) (.t 24), none⟩])
  (.cond (.t 25) (.seq (.region false [⟨some 6, .mov (.c (.bool false)), none⟩])
  (.ret))
  (.skip)))
  (.seq (.region false [⟨some 26, .ld 3 3 2 false, none⟩,
   ⟨some 27, .ld 4 4 2 false, none⟩,
   ⟨some 28, .call 43 [.t 26, .t 27], none⟩,
   ⟨some 7, .new [.int .i64 0, .int .i64 0] [], none⟩,
   ⟨none, .st 7 7 2 (.t 28), none⟩])
  (.seq (.region false [⟨some 29, .ld 7 7 2 false, none⟩,
   ⟨some 30, .ld 7 7 2 false, none⟩,
   ⟨some 31, .call 33 [.t 29, .t 30], none⟩,
   ⟨some 32, .mov (.t 2), none⟩,
   ⟨some 33, .mov (.t 2), none⟩,
   ⟨some 34, .bin .mul (.t 32) (.t 33), none⟩,
   ⟨some 35, .bin .lss (.t 31) (.t 34), none⟩,
   ⟨some 6, .mov (.t 35), none⟩])
  (.ret))))⟩
def Try.r48 : List (Nat × Nat) := []
theorem Try.i48_ok : fnOk Try.prog Try.r48 Try.f48 Try.i48 = true := by kernel_rfl

/- pinball/pinballlaw13.usual -/
def Try.i49 : IFunc := ⟨0, 2, [.cell 0 15 false],
  .seq (.region false [⟨some 0, .new [.str ByteArray.empty, .int .i64 0, .int .i64 0, .int .i64 0, .int .i64 0, .bool false, .int .i64 0, .int .i64 0, .int .i64 0, .int .i64 0, .int .i64 0, .int .i64 0, .int .i64 0, .int .i64 0, .int .i64 0] [], none⟩])
  (.seq (.region false [⟨some 1, .bld [.str ByteArray.empty, .int .i64 0, .int .i64 0, .int .i64 0, .int .i64 0, .bool false, .int .i64 0, .int .i64 0, .int .i64 0, .int .i64 0, .int .i64 0, .int .i64 0, .int .i64 0, .int .i64 0, .int .i64 0] [(4, 1, .c (.int .i64 1000)), (6, 1, .c (.int .i64 (-100))), (7, 1, .c (.int .i64 256)), (8, 1, .c (.int .i64 4)), (9, 1, .c (.int .i64 2)), (10, 1, .c (.int .i64 16)), (13, 1, .c (.int .i64 0)), (14, 1, .c (.int .i64 (-1)))], none⟩,
   ⟨none, .st 0 0 15 (.t 1), none⟩])
  (.ret))⟩
def Try.r49 : List (Nat × Nat) := []
theorem Try.i49_ok : fnOk Try.prog Try.r49 Try.f49 Try.i49 = true := by kernel_rfl

/- pinball/flipper.permitted -/
def Try.i50 : IFunc := ⟨2, 56, [.tmp 4],
  .seq (.region false [⟨some 2, .box (.t 0) [5, 6, 8, 9, 14, 20, 22, 28, 30, 35, 37, 39, 45, 47], none⟩,
   ⟨some 4, .mov (.c (.bool false)), none⟩])
  (.seq (.region false [⟨some 5, .adr 2 2 2, none⟩,
   ⟨some 6, .adr 5 2 0, none⟩,
   ⟨some 7, .ld 6 2 1 true, none⟩,
   ⟨some 8, .adr 2 2 2, none⟩,
   ⟨some 9, .adr 8 2 1, none⟩,
   ⟨some 10, .ld 9 2 1 true, none⟩,
   ⟨some 11, .bls 2 [.int .i64 0, .int .i64 0] [(0, 1, .t 7), (1, 1, .t 10)], none⟩,
   ⟨some 12, .call 51 [.c (.int .i64 (-1048576)), .c (.int .i64 1048576), .t 11], none⟩,
   ⟨some 13, .mov (.t 12), none⟩,
   ⟨some 14, .adr 2 2 4, some (13, true)⟩,
   ⟨some 15, .ld 14 2 1 true, some (13, true)⟩,
   ⟨some 16, .bls 1 [.int .i64 0] [(0, 1, .t 15)], some (13, true)⟩,
   ⟨some 17, .call 51 [.c (.int .i64 1), .c (.int .i64 262144), .t 16], some (13, true)⟩,
   ⟨some 18, .pick (.t 13) (.t 17) (.c (.bool false)), none⟩,
   ⟨some 19, .mov (.t 18), none⟩,
   ⟨some 20, .adr 2 2 6, some (19, true)⟩,
   ⟨some 21, .ld 20 2 1 true, some (19, true)⟩,
   ⟨some 22, .adr 2 2 7, some (19, true)⟩,
   ⟨some 23, .ld 22 2 1 true, some (19, true)⟩,
   ⟨some 24, .bls 2 [.int .i64 0, .int .i64 0] [(0, 1, .t 21), (1, 1, .t 23)], some (19, true)⟩,
   ⟨some 25, .call 51 [.c (.int .i64 (-256)), .c (.int .i64 256), .t 24], some (19, true)⟩,
   ⟨some 26, .pick (.t 19) (.t 25) (.c (.bool false)), none⟩,
   ⟨some 27, .mov (.t 26), none⟩,
   ⟨some 28, .adr 2 2 6, some (27, true)⟩,
   ⟨some 29, .ld 28 2 1 true, some (27, true)⟩,
   ⟨some 30, .adr 2 2 7, some (27, true)⟩,
   ⟨some 31, .ld 30 2 1 true, some (27, true)⟩,
   ⟨some 32, .bin .lss (.t 29) (.t 31), some (27, true)⟩,
   ⟨some 33, .pick (.t 27) (.t 32) (.c (.bool false)), none⟩,
   ⟨some 34, .mov (.t 33), none⟩,
   ⟨some 35, .adr 2 2 8, some (34, true)⟩,
   ⟨some 36, .ld 35 2 1 true, some (34, true)⟩,
   ⟨some 37, .adr 2 2 9, some (34, true)⟩,
   ⟨some 38, .ld 37 2 1 true, some (34, true)⟩,
   ⟨some 39, .adr 2 2 10, some (34, true)⟩,
   ⟨some 40, .ld 39 2 1 true, some (34, true)⟩,
   ⟨some 41, .bls 3 [.int .i64 0, .int .i64 0, .int .i64 0] [(0, 1, .t 36), (1, 1, .t 38), (2, 1, .t 40)], some (34, true)⟩,
   ⟨some 42, .call 51 [.c (.int .i64 1), .c (.int .i64 64), .t 41], some (34, true)⟩,
   ⟨some 43, .pick (.t 34) (.t 42) (.c (.bool false)), none⟩,
   ⟨some 44, .mov (.t 43), none⟩,
   ⟨some 45, .adr 2 2 10, some (44, true)⟩,
   ⟨some 46, .ld 45 2 1 true, some (44, true)⟩,
   ⟨some 47, .adr 2 2 4, some (44, true)⟩,
   ⟨some 48, .ld 47 2 1 true, some (44, true)⟩,
   ⟨some 49, .bin .mul (.t 46) (.t 48), some (44, true)⟩,
   ⟨some 50, .bin .leq (.t 49) (.c (.int .i64 2097152)), some (44, true)⟩,
   ⟨some 51, .pick (.t 44) (.t 50) (.c (.bool false)), none⟩,
   ⟨some 52, .mov (.t 51), none⟩,
   ⟨some 53, .mov (.t 1), some (52, true)⟩,
   ⟨some 54, .call 51 [.c (.int .i64 (-256)), .c (.int .i64 256), .t 53], some (52, true)⟩,
   ⟨some 55, .pick (.t 52) (.t 54) (.c (.bool false)), none⟩,
   ⟨some 4, .mov (.t 55), none⟩])
  (.ret))⟩
def Try.r50 : List (Nat × Nat) := [(5, 2), (6, 2), (8, 2), (9, 2), (14, 2), (20, 2), (22, 2), (28, 2), (30, 2), (35, 2), (37, 2), (39, 2), (45, 2), (47, 2)]
theorem Try.i50_ok : fnOk Try.prog Try.r50 Try.f50 Try.i50 = true := by kernel_rfl

/- pinball/flipper.in -/
def Try.i51 : IFunc := ⟨3, 24, [.tmp 6],
  .seq (.region false [⟨some 6, .mov (.c (.bool false)), none⟩])
  (.seq (.seq (.region false [⟨some 9, .mov (.t 2), none⟩,
   ⟨some 10, .len (.t 9), none⟩,
   ⟨some 11, .mov (.c (.int .i64 0)), none⟩])
  (.block 0 (.loop (.seq (.region false [⟨some 12, .bin .lss (.t 11) (.t 10), none⟩])
  (.seq (.cond (.t 12) (.skip)
  (.exit 0))
  (.seq (.block 1 (.seq (.region false [⟨some 13, .ixa 9 (.t 11) 1, none⟩,
   ⟨some 14, .ld 13 13 1 true, none⟩,
   ⟨some 8, .mov (.t 14), none⟩])
  (.seq (.region false [⟨some 15, .mov (.t 8), none⟩,
   ⟨some 16, .mov (.t 0), none⟩,
   ⟨some 17, .bin .lss (.t 15) (.t 16), none⟩,
   ⟨some 18, .mov (.t 17), none⟩,
   ⟨some 19, .mov (.t 8), some (18, false)⟩,
   ⟨some 20, .mov (.t 1), some (18, false)⟩,
   ⟨some 21, .bin .gtr (.t 19) (.t 20), some (18, false)⟩,
   ⟨some 22, .pick (.t 18) (.c (.bool true)) (.t 21), none⟩])
  (.cond (.t 22) (.seq (.region false [⟨some 6, .mov (.c (.bool false)), none⟩])
  (.ret))
  (.skip)))))
  (.region false [⟨some 23, .bin .add (.t 11) (.c (.int .i64 1)), none⟩,
   ⟨some 11, .mov (.t 23), none⟩])))))))
  (.seq (.region false [⟨some 6, .mov (.c (.bool true)), none⟩])
  (.ret)))⟩
def Try.r51 : List (Nat × Nat) := []
theorem Try.i51_ok : fnOk Try.prog Try.r51 Try.f51 Try.i51 = true := by kernel_rfl

/- pinball/pinballref13.angle -/
def Try.i52 : IFunc := ⟨1, 9, [.tmp 2],
  .seq (.region false [⟨some 2, .mov (.c (.bool false)), none⟩])
  (.seq (.region false [⟨some 3, .mov (.t 0), none⟩,
   ⟨some 4, .bin .geq (.t 3) (.c (.int .i64 (-256))), none⟩,
   ⟨some 5, .mov (.t 4), none⟩,
   ⟨some 6, .mov (.t 0), some (5, true)⟩,
   ⟨some 7, .bin .leq (.t 6) (.c (.int .i64 256)), some (5, true)⟩,
   ⟨some 8, .pick (.t 5) (.t 7) (.c (.bool false)), none⟩,
   ⟨some 2, .mov (.t 8), none⟩])
  (.ret))⟩
def Try.r52 : List (Nat × Nat) := []
theorem Try.i52_ok : fnOk Try.prog Try.r52 Try.f52 Try.i52 = true := by kernel_rfl

/- pinball/flipper.turned -/
def Try.i53 : IFunc := ⟨3, 35, [.cell 6 2 false, .tmp 7],
  .seq (.region false [⟨some 3, .box (.t 0) [21], none⟩,
   ⟨some 6, .new [.int .i64 0, .int .i64 0] [], none⟩,
   ⟨some 7, .mov (.c (.int .i64 0)), none⟩])
  (.seq (.region false [⟨some 9, .mov (.t 2), none⟩,
   ⟨some 10, .mov (.t 2), none⟩,
   ⟨some 11, .bin .mul (.t 9) (.t 10), none⟩,
   ⟨some 12, .mov (.t 1), none⟩,
   ⟨some 13, .mov (.t 1), none⟩,
   ⟨some 14, .bin .mul (.t 12) (.t 13), none⟩,
   ⟨some 15, .bin .sub (.t 11) (.t 14), none⟩,
   ⟨some 16, .mov (.t 2), none⟩,
   ⟨some 17, .bin .mul (.c (.int .i64 2)) (.t 16), none⟩,
   ⟨some 18, .mov (.t 1), none⟩,
   ⟨some 19, .bin .mul (.t 17) (.t 18), none⟩,
   ⟨some 20, .bld [.int .i64 0, .int .i64 0] [(0, 1, .t 15), (1, 1, .t 19)], none⟩,
   ⟨some 8, .new [.int .i64 0, .int .i64 0] [23, 26], none⟩,
   ⟨none, .st 8 8 2 (.t 20), none⟩])
  (.seq (.seq (.region false [⟨some 21, .adr 3 3 5, none⟩,
   ⟨some 22, .ld 21 3 1 true, none⟩])
  (.cond (.t 22) (.region false [⟨some 23, .adr 8 8 0, none⟩,
   ⟨some 24, .ld 23 8 1 true, none⟩,
   ⟨some 25, .un .neg (.t 24), none⟩,
   ⟨some 26, .adr 8 8 0, none⟩,
   ⟨none, .st 26 8 1 (.t 25), none⟩])
  (.skip)))
  (.seq (.region false [⟨some 27, .ld 8 8 2 false, none⟩,
   ⟨some 28, .mov (.t 2), none⟩,
   ⟨some 29, .mov (.t 2), none⟩,
   ⟨some 30, .bin .mul (.t 28) (.t 29), none⟩,
   ⟨some 31, .mov (.t 1), none⟩,
   ⟨some 32, .mov (.t 1), none⟩,
   ⟨some 33, .bin .mul (.t 31) (.t 32), none⟩,
   ⟨some 34, .bin .add (.t 30) (.t 33), none⟩,
   ⟨none, .st 6 6 2 (.t 27), none⟩,
   ⟨some 7, .mov (.t 34), none⟩])
  (.ret))))⟩
def Try.r53 : List (Nat × Nat) := [(21, 3), (23, 8), (26, 8)]
theorem Try.i53_ok : fnOk Try.prog Try.r53 Try.f53 Try.i53 = true := by kernel_rfl

/- pinball/pinballref13.ray -/
def Try.i54 : IFunc := ⟨3, 35, [.cell 6 2 false, .tmp 7],
  .seq (.region false [⟨some 3, .box (.t 0) [21], none⟩,
   ⟨some 6, .new [.int .i64 0, .int .i64 0] [], none⟩,
   ⟨some 7, .mov (.c (.int .i64 0)), none⟩])
  (.seq (.region false [⟨some 9, .mov (.t 1), none⟩,
   ⟨some 10, .mov (.t 1), none⟩,
   ⟨some 11, .bin .mul (.t 9) (.t 10), none⟩,
   ⟨some 12, .mov (.t 2), none⟩,
   ⟨some 13, .mov (.t 2), none⟩,
   ⟨some 14, .bin .mul (.t 12) (.t 13), none⟩,
   ⟨some 15, .bin .sub (.t 11) (.t 14), none⟩,
   ⟨some 16, .mov (.t 1), none⟩,
   ⟨some 17, .bin .mul (.c (.int .i64 2)) (.t 16), none⟩,
   ⟨some 18, .mov (.t 2), none⟩,
   ⟨some 19, .bin .mul (.t 17) (.t 18), none⟩,
   ⟨some 20, .bld [.int .i64 0, .int .i64 0] [(0, 1, .t 15), (1, 1, .t 19)], none⟩,
   ⟨some 8, .new [.int .i64 0, .int .i64 0] [23, 26], none⟩,
   ⟨none, .st 8 8 2 (.t 20), none⟩])
  (.seq (.seq (.region false [⟨some 21, .adr 3 3 5, none⟩,
   ⟨some 22, .ld 21 3 1 true, none⟩])
  (.cond (.t 22) (.region false [⟨some 23, .adr 8 8 0, none⟩,
   ⟨some 24, .ld 23 8 1 true, none⟩,
   ⟨some 25, .un .neg (.t 24), none⟩,
   ⟨some 26, .adr 8 8 0, none⟩,
   ⟨none, .st 26 8 1 (.t 25), none⟩])
  (.skip)))
  (.seq (.region false [⟨some 27, .ld 8 8 2 false, none⟩,
   ⟨some 28, .mov (.t 1), none⟩,
   ⟨some 29, .mov (.t 1), none⟩,
   ⟨some 30, .bin .mul (.t 28) (.t 29), none⟩,
   ⟨some 31, .mov (.t 2), none⟩,
   ⟨some 32, .mov (.t 2), none⟩,
   ⟨some 33, .bin .mul (.t 31) (.t 32), none⟩,
   ⟨some 34, .bin .add (.t 30) (.t 33), none⟩,
   ⟨none, .st 6 6 2 (.t 27), none⟩,
   ⟨some 7, .mov (.t 34), none⟩])
  (.ret))))⟩
def Try.r54 : List (Nat × Nat) := [(21, 3), (23, 8), (26, 8)]
theorem Try.i54_ok : fnOk Try.prog Try.r54 Try.f54 Try.i54 = true := by kernel_rfl

/- pinball/pinballref09.near -/
def Try.i55 : IFunc := ⟨2, 19, [.tmp 4],
  .seq (.region false [⟨some 2, .box (.t 0) [5, 12], none⟩,
   ⟨some 4, .mov (.c (.bool false)), none⟩])
  (.seq (.region false [⟨some 5, .adr 2 2 0, none⟩,
   ⟨some 6, .ld 5 2 1 true, none⟩,
   ⟨some 7, .mov (.t 1), none⟩,
   ⟨some 8, .un .neg (.t 7), none⟩,
   ⟨some 9, .mov (.t 1), none⟩,
   ⟨some 10, .call 56 [.t 6, .t 8, .t 9], none⟩,
   ⟨some 11, .mov (.t 10), none⟩,
   ⟨some 12, .adr 2 2 1, some (11, true)⟩,
   ⟨some 13, .ld 12 2 1 true, some (11, true)⟩,
   ⟨some 14, .mov (.t 1), some (11, true)⟩,
   ⟨some 15, .un .neg (.t 14), some (11, true)⟩,
   ⟨some 16, .mov (.t 1), some (11, true)⟩,
   ⟨some 17, .call 56 [.t 13, .t 15, .t 16], some (11, true)⟩,
   ⟨some 18, .pick (.t 11) (.t 17) (.c (.bool false)), none⟩,
   ⟨some 4, .mov (.t 18), none⟩])
  (.ret))⟩
def Try.r55 : List (Nat × Nat) := [(5, 2), (12, 2)]
theorem Try.i55_ok : fnOk Try.prog Try.r55 Try.f55 Try.i55 = true := by kernel_rfl

/- pinball/pinballref09.in -/
def Try.i56 : IFunc := ⟨3, 15, [.tmp 6],
  .seq (.region false [⟨some 6, .mov (.c (.bool false)), none⟩])
  (.seq (.region false [⟨some 7, .mov (.t 0), none⟩,
   ⟨some 8, .mov (.t 1), none⟩,
   ⟨some 9, .bin .geq (.t 7) (.t 8), none⟩,
   ⟨some 10, .mov (.t 9), none⟩,
   ⟨some 11, .mov (.t 0), some (10, true)⟩,
   ⟨some 12, .mov (.t 2), some (10, true)⟩,
   ⟨some 13, .bin .leq (.t 11) (.t 12), some (10, true)⟩,
   ⟨some 14, .pick (.t 10) (.t 13) (.c (.bool false)), none⟩,
   ⟨some 6, .mov (.t 14), none⟩])
  (.ret))⟩
def Try.r56 : List (Nat × Nat) := []
theorem Try.i56_ok : fnOk Try.prog Try.r56 Try.f56 Try.i56 = true := by kernel_rfl

/- pinball/vector.Perp -/
def Try.i57 : IFunc := ⟨1, 13, [.cell 2 2 false],
  .seq (.region false [⟨some 1, .box (.t 0) [7, 10], none⟩,
   ⟨some 2, .new [.int .i64 0, .int .i64 0] [], none⟩])
  (.seq (.seq (.region false [⟨some 3, .ld 1 1 2 false, none⟩,
   ⟨some 4, .call 59 [.t 3], none⟩,
   ⟨some 5, .un .not (.t 4), none⟩])
  (.cond (.t 5) (.seq (.region false [⟨some 6, .bld [.int .i64 0, .int .i64 0] [], none⟩,
   ⟨none, .st 2 2 2 (.t 6), none⟩])
  (.ret))
  (.skip)))
  (.seq (.region false [⟨some 7, .adr 1 1 1, none⟩,
   ⟨some 8, .ld 7 1 1 true, none⟩,
   ⟨some 9, .un .neg (.t 8), none⟩,
   ⟨some 10, .adr 1 1 0, none⟩,
   ⟨some 11, .ld 10 1 1 true, none⟩,
   ⟨some 12, .bld [.int .i64 0, .int .i64 0] [(0, 1, .t 9), (1, 1, .t 11)], none⟩,
   ⟨none, .st 2 2 2 (.t 12), none⟩])
  (.ret)))⟩
def Try.r57 : List (Nat × Nat) := [(7, 1), (10, 1)]
theorem Try.i57_ok : fnOk Try.prog Try.r57 Try.f57 Try.i57 = true := by kernel_rfl

/- pinball/vector.MulDiv -/
def Try.i58 : IFunc := ⟨3, 62, [.tmp 6, .tmp 7],
  .seq (.region false [⟨some 6, .mov (.c (.int .i64 0)), none⟩,
   ⟨some 7, .mov (.c (.bool false)), none⟩])
  (.seq (.seq (.region false [⟨some 14, .mov (.t 2), none⟩,
   ⟨some 15, .bin .eql (.t 14) (.c (.int .i64 0)), none⟩])
  (.cond (.t 15) (.seq (.region false [⟨some 6, .mov (.c (.int .i64 0)), none⟩,
   ⟨some 7, .mov (.c (.bool false)), none⟩])
  (.ret))
  (.skip)))
  (.seq (.region false [⟨some 16, .mov (.t 0), none⟩,
   ⟨some 17, .bin .lss (.t 16) (.c (.int .i64 0)), none⟩,
   ⟨some 18, .mov (.t 1), none⟩,
   ⟨some 19, .bin .lss (.t 18) (.c (.int .i64 0)), none⟩,
   ⟨some 20, .eqb true (.t 17) (.t 19), none⟩,
   ⟨some 21, .mov (.t 2), none⟩,
   ⟨some 22, .bin .lss (.t 21) (.c (.int .i64 0)), none⟩,
   ⟨some 23, .eqb true (.t 20) (.t 22), none⟩,
   ⟨some 8, .mov (.t 23), none⟩])
  (.seq (.region false [⟨some 25, .mov (.t 0), none⟩,
   ⟨some 26, .call 78 [.t 25], none⟩,
   ⟨some 27, .mov (.t 1), none⟩,
   ⟨some 28, .call 78 [.t 27], none⟩,
   ⟨some 29, .call 77 [.t 26, .t 28], none⟩,
   ⟨some 24, .mov (.t 29), none⟩,
   ⟨some 30, .ext (.t 24) 0, none⟩,
   ⟨some 31, .ext (.t 24) 1, none⟩,
   ⟨some 9, .mov (.t 30), none⟩,
   ⟨some 10, .mov (.t 31), none⟩])
  (.seq (.region false [⟨some 32, .mov (.t 2), none⟩,
   ⟨some 33, .call 78 [.t 32], none⟩,
   ⟨some 11, .mov (.t 33), none⟩])
  (.seq (.seq (.region false [⟨some 34, .mov (.t 9), none⟩,
   ⟨some 35, .mov (.t 11), none⟩,
   ⟨some 36, .bin .geq (.t 34) (.t 35), none⟩])
  (.cond (.t 36) (.seq (.region false [⟨some 6, .mov (.c (.int .i64 0)), none⟩,
   ⟨some 7, .mov (.c (.bool false)), none⟩])
  (.ret))
  (.skip)))
  (.seq (.region false [⟨some 38, .mov (.t 9), none⟩,
   ⟨some 39, .mov (.t 10), none⟩,
   ⟨some 40, .mov (.t 11), none⟩,
   ⟨some 41, .call 79 [.t 38, .t 39, .t 40], none⟩,
   ⟨some 37, .mov (.t 41), none⟩,
   ⟨some 42, .ext (.t 37) 0, none⟩,
   ⟨some 43, .ext (.t 37) 1, none⟩,
   ⟨some 12, .mov (.t 42), none⟩,
   ⟨some 13, .mov (.t 43), none⟩])
  (.seq (.block 0 (.seq (.region false [⟨some 45, .mov (.t 8), none⟩,
   ⟨some 46, .mov (.t 45), none⟩,
   ⟨some 47, .mov (.t 12), some (46, true)⟩,
   ⟨some 48, .bin .leq (.t 47) (.c (.int .u64 9223372036854775808)), some (46, true)⟩,
   ⟨some 49, .pick (.t 46) (.t 48) (.c (.bool false)), none⟩,
   ⟨some 44, .mov (.t 49), none⟩])
  (.cond (.t 44) (.seq (.region false [⟨some 50, .mov (.t 12), none⟩,
   ⟨some 51, .un .neg (.t 50), none⟩,
   ⟨some 52, .cv .i64 (.t 51), none⟩,
   ⟨some 6, .mov (.t 52), none⟩,
   ⟨some 7, .mov (.c (.bool true)), none⟩])
  (.ret))
  (.seq (.region false [⟨some 54, .mov (.t 8), none⟩,
   ⟨some 55, .un .not (.t 54), none⟩,
   ⟨some 56, .mov (.t 55), none⟩,
   ⟨some 57, .mov (.t 12), some (56, true)⟩,
   ⟨some 58, .bin .lss (.t 57) (.c (.int .u64 9223372036854775808)), some (56, true)⟩,
   ⟨some 59, .pick (.t 56) (.t 58) (.c (.bool false)), none⟩,
   ⟨some 53, .mov (.t 59), none⟩])
  (.cond (.t 53) (.seq (.region false [⟨some 60, .mov (.t 12), none⟩,
   ⟨some 61, .cv .i64 (.t 60), none⟩,
   ⟨some 6, .mov (.t 61), none⟩,
   ⟨some 7, .mov (.c (.bool true)), none⟩])
  (.ret))
  (.skip))))))
  (.seq (.region false [⟨some 6, .mov (.c (.int .i64 0)), none⟩,
   ⟨some 7, .mov (.c (.bool false)), none⟩])
  (.ret)))))))))⟩
def Try.r58 : List (Nat × Nat) := []
theorem Try.i58_ok : fnOk Try.prog Try.r58 Try.f58 Try.i58 = true := by kernel_rfl

/- pinball/vector.Small -/
def Try.i59 : IFunc := ⟨1, 21, [.tmp 2],
  .seq (.region false [⟨some 1, .box (.t 0) [3, 7, 12, 17], none⟩,
   ⟨some 2, .mov (.c (.bool false)), none⟩])
  (.seq (.region false [⟨some 3, .adr 1 1 0, none⟩,
   ⟨some 4, .ld 3 1 1 true, none⟩,
   ⟨some 5, .bin .geq (.t 4) (.c (.int .i64 (-1073741824))), none⟩,
   ⟨some 6, .mov (.t 5), none⟩,
   ⟨some 7, .adr 1 1 0, some (6, true)⟩,
   ⟨some 8, .ld 7 1 1 true, some (6, true)⟩,
   ⟨some 9, .bin .leq (.t 8) (.c (.int .i64 1073741824)), some (6, true)⟩,
   ⟨some 10, .pick (.t 6) (.t 9) (.c (.bool false)), none⟩,
   ⟨some 11, .mov (.t 10), none⟩,
   ⟨some 12, .adr 1 1 1, some (11, true)⟩,
   ⟨some 13, .ld 12 1 1 true, some (11, true)⟩,
   ⟨some 14, .bin .geq (.t 13) (.c (.int .i64 (-1073741824))), some (11, true)⟩,
   ⟨some 15, .pick (.t 11) (.t 14) (.c (.bool false)), none⟩,
   ⟨some 16, .mov (.t 15), none⟩,
   ⟨some 17, .adr 1 1 1, some (16, true)⟩,
   ⟨some 18, .ld 17 1 1 true, some (16, true)⟩,
   ⟨some 19, .bin .leq (.t 18) (.c (.int .i64 1073741824)), some (16, true)⟩,
   ⟨some 20, .pick (.t 16) (.t 19) (.c (.bool false)), none⟩,
   ⟨some 2, .mov (.t 20), none⟩])
  (.ret))⟩
def Try.r59 : List (Nat × Nat) := [(3, 1), (7, 1), (12, 1), (17, 1)]
theorem Try.i59_ok : fnOk Try.prog Try.r59 Try.f59 Try.i59 = true := by kernel_rfl

/- pinball/vector.kept -/
def Try.i75 : IFunc := ⟨1, 8, [.cell 2 2 false],
  .seq (.region false [⟨some 1, .box (.t 0) [], none⟩,
   ⟨some 2, .new [.int .i64 0, .int .i64 0] [], none⟩])
  (.seq (.seq (.region false [⟨some 3, .ld 1 1 2 false, none⟩,
   ⟨some 4, .call 59 [.t 3], none⟩,
   ⟨some 5, .un .not (.t 4), none⟩])
  (.cond (.t 5) (.seq (.region false [⟨some 6, .bld [.int .i64 0, .int .i64 0] [], none⟩,
   ⟨none, .st 2 2 2 (.t 6), none⟩])
  (.ret))
  (.skip)))
  (.seq (.region false [⟨some 7, .ld 1 1 2 false, none⟩,
   ⟨none, .st 2 2 2 (.t 7), none⟩])
  (.ret)))⟩
def Try.r75 : List (Nat × Nat) := []
theorem Try.i75_ok : fnOk Try.prog Try.r75 Try.f75 Try.i75 = true := by kernel_rfl

/- pinball/wall.within -/
def Try.i76 : IFunc := ⟨2, 38, [.tmp 4],
  .seq (.region false [⟨some 4, .mov (.c (.bool false)), none⟩])
  (.seq (.seq (.region false [⟨some 7, .mov (.t 1), none⟩,
   ⟨some 8, .len (.t 7), none⟩,
   ⟨some 9, .mov (.c (.int .i64 0)), none⟩])
  (.block 0 (.loop (.seq (.region false [⟨some 10, .bin .lss (.t 9) (.t 8), none⟩])
  (.seq (.cond (.t 10) (.skip)
  (.exit 0))
  (.seq (.block 1 (.seq (.region false [⟨some 11, .ixa 7 (.t 9) 2, none⟩,
   ⟨some 12, .ld 11 11 2 false, none⟩,
   ⟨some 6, .new [.int .i64 0, .int .i64 0] [13, 19, 25, 32], none⟩,
   ⟨none, .st 6 6 2 (.t 12), none⟩])
  (.seq (.region false [⟨some 13, .adr 6 6 0, none⟩,
   ⟨some 14, .ld 13 6 1 true, none⟩,
   ⟨some 15, .mov (.t 0), none⟩,
   ⟨some 16, .un .neg (.t 15), none⟩,
   ⟨some 17, .bin .lss (.t 14) (.t 16), none⟩,
   ⟨some 18, .mov (.t 17), none⟩,
   ⟨some 19, .adr 6 6 0, some (18, false)⟩,
   ⟨some 20, .ld 19 6 1 true, some (18, false)⟩,
   ⟨some 21, .mov (.t 0), some (18, false)⟩,
   ⟨some 22, .bin .gtr (.t 20) (.t 21), some (18, false)⟩,
   ⟨some 23, .pick (.t 18) (.c (.bool true)) (.t 22), none⟩,
   ⟨some 24, .mov (.t 23), none⟩,
   ⟨some 25, .adr 6 6 1, some (24, false)⟩,
   ⟨some 26, .ld 25 6 1 true, some (24, false)⟩,
   ⟨some 27, .mov (.t 0), some (24, false)⟩,
   ⟨some 28, .un .neg (.t 27), some (24, false)⟩,
   ⟨some 29, .bin .lss (.t 26) (.t 28), some (24, false)⟩,
   ⟨some 30, .pick (.t 24) (.c (.bool true)) (.t 29), none⟩,
   ⟨some 31, .mov (.t 30), none⟩,
   ⟨some 32, .adr 6 6 1, some (31, false)⟩,
   ⟨some 33, .ld 32 6 1 true, some (31, false)⟩,
   ⟨some 34, .mov (.t 0), some (31, false)⟩,
   ⟨some 35, .bin .gtr (.t 33) (.t 34), some (31, false)⟩,
   ⟨some 36, .pick (.t 31) (.c (.bool true)) (.t 35), none⟩])
  (.cond (.t 36) (.seq (.region false [⟨some 4, .mov (.c (.bool false)), none⟩])
  (.ret))
  (.skip)))))
  (.region false [⟨some 37, .bin .add (.t 9) (.c (.int .i64 1)), none⟩,
   ⟨some 9, .mov (.t 37), none⟩])))))))
  (.seq (.region false [⟨some 4, .mov (.c (.bool true)), none⟩])
  (.ret)))⟩
def Try.r76 : List (Nat × Nat) := [(13, 6), (19, 6), (25, 6), (32, 6)]
theorem Try.i76_ok : fnOk Try.prog Try.r76 Try.f76 Try.i76 = true := by kernel_rfl

/- math/bits.Mul64 -/
def Try.i77 : IFunc := ⟨2, 51, [.tmp 4, .tmp 5],
  .seq (.region false [⟨some 4, .mov (.c (.int .u64 0)), none⟩,
   ⟨some 5, .mov (.c (.int .u64 0)), none⟩])
  (.seq (.region false [⟨some 14, .mov (.t 0), none⟩,
   ⟨some 15, .bin .and (.t 14) (.c (.int .u64 4294967295)), none⟩,
   ⟨some 6, .mov (.t 15), none⟩])
  (.seq (.region false [⟨some 16, .mov (.t 0), none⟩,
   ⟨some 17, .bin .shr (.t 16) (.c (.int .u64 32)), none⟩,
   ⟨some 7, .mov (.t 17), none⟩])
  (.seq (.region false [⟨some 18, .mov (.t 1), none⟩,
   ⟨some 19, .bin .and (.t 18) (.c (.int .u64 4294967295)), none⟩,
   ⟨some 8, .mov (.t 19), none⟩])
  (.seq (.region false [⟨some 20, .mov (.t 1), none⟩,
   ⟨some 21, .bin .shr (.t 20) (.c (.int .u64 32)), none⟩,
   ⟨some 9, .mov (.t 21), none⟩])
  (.seq (.region false [⟨some 22, .mov (.t 6), none⟩,
   ⟨some 23, .mov (.t 8), none⟩,
   ⟨some 24, .bin .mul (.t 22) (.t 23), none⟩,
   ⟨some 10, .mov (.t 24), none⟩])
  (.seq (.region false [⟨some 25, .mov (.t 7), none⟩,
   ⟨some 26, .mov (.t 8), none⟩,
   ⟨some 27, .bin .mul (.t 25) (.t 26), none⟩,
   ⟨some 28, .mov (.t 10), none⟩,
   ⟨some 29, .bin .shr (.t 28) (.c (.int .u64 32)), none⟩,
   ⟨some 30, .bin .add (.t 27) (.t 29), none⟩,
   ⟨some 11, .mov (.t 30), none⟩])
  (.seq (.region false [⟨some 31, .mov (.t 11), none⟩,
   ⟨some 32, .bin .and (.t 31) (.c (.int .u64 4294967295)), none⟩,
   ⟨some 12, .mov (.t 32), none⟩])
  (.seq (.region false [⟨some 33, .mov (.t 11), none⟩,
   ⟨some 34, .bin .shr (.t 33) (.c (.int .u64 32)), none⟩,
   ⟨some 13, .mov (.t 34), none⟩])
  (.seq (.region false [⟨some 35, .mov (.t 12), none⟩,
   ⟨some 36, .mov (.t 6), none⟩,
   ⟨some 37, .mov (.t 9), none⟩,
   ⟨some 38, .bin .mul (.t 36) (.t 37), none⟩,
   ⟨some 39, .bin .add (.t 35) (.t 38), none⟩,
   ⟨some 12, .mov (.t 39), none⟩])
  (.seq (.region false [⟨some 40, .mov (.t 7), none⟩,
   ⟨some 41, .mov (.t 9), none⟩,
   ⟨some 42, .bin .mul (.t 40) (.t 41), none⟩,
   ⟨some 43, .mov (.t 13), none⟩,
   ⟨some 44, .bin .add (.t 42) (.t 43), none⟩,
   ⟨some 45, .mov (.t 12), none⟩,
   ⟨some 46, .bin .shr (.t 45) (.c (.int .u64 32)), none⟩,
   ⟨some 47, .bin .add (.t 44) (.t 46), none⟩,
   ⟨some 4, .mov (.t 47), none⟩])
  (.seq (.region false [⟨some 48, .mov (.t 0), none⟩,
   ⟨some 49, .mov (.t 1), none⟩,
   ⟨some 50, .bin .mul (.t 48) (.t 49), none⟩,
   ⟨some 5, .mov (.t 50), none⟩])
  (.ret))))))))))))⟩
def Try.r77 : List (Nat × Nat) := []
theorem Try.i77_ok : fnOk Try.prog Try.r77 Try.f77 Try.i77 = true := by kernel_rfl

/- pinball/vector.abs -/
def Try.i78 : IFunc := ⟨1, 10, [.tmp 2],
  .seq (.region false [⟨some 2, .mov (.c (.int .u64 0)), none⟩])
  (.seq (.seq (.region false [⟨some 3, .mov (.t 0), none⟩,
   ⟨some 4, .bin .lss (.t 3) (.c (.int .i64 0)), none⟩])
  (.cond (.t 4) (.seq (.region false [⟨some 5, .mov (.t 0), none⟩,
   ⟨some 6, .cv .u64 (.t 5), none⟩,
   ⟨some 7, .un .neg (.t 6), none⟩,
   ⟨some 2, .mov (.t 7), none⟩])
  (.ret))
  (.skip)))
  (.seq (.region false [⟨some 8, .mov (.t 0), none⟩,
   ⟨some 9, .cv .u64 (.t 8), none⟩,
   ⟨some 2, .mov (.t 9), none⟩])
  (.ret)))⟩
def Try.r78 : List (Nat × Nat) := []
theorem Try.i78_ok : fnOk Try.prog Try.r78 Try.f78 Try.i78 = true := by kernel_rfl

/- math/bits.Div64 -/
def Try.i79 : IFunc := ⟨3, 135, [.tmp 6, .tmp 7],
  .seq (.region false [⟨some 6, .mov (.c (.int .u64 0)), none⟩,
   ⟨some 7, .mov (.c (.int .u64 0)), none⟩])
  (.seq (.seq (.region false [⟨some 19, .mov (.t 2), none⟩,
   ⟨some 20, .bin .eql (.t 19) (.c (.int .u64 0)), none⟩])
  (.cond (.t 20) (.region false [⟨some 21, .bad, none⟩,
   ⟨none, .bad, none⟩])
  (.skip)))
  (.seq (.seq (.region false [⟨some 22, .mov (.t 2), none⟩,
   ⟨some 23, .mov (.t 0), none⟩,
   ⟨some 24, .bin .leq (.t 22) (.t 23), none⟩])
  (.cond (.t 24) (.region false [⟨some 25, .bad, none⟩,
   ⟨none, .bad, none⟩])
  (.skip)))
  (.seq (.seq (.region false [⟨some 26, .mov (.t 0), none⟩,
   ⟨some 27, .bin .eql (.t 26) (.c (.int .u64 0)), none⟩])
  (.cond (.t 27) (.seq (.region true [⟨some 28, .mov (.t 1), none⟩,
   ⟨some 29, .mov (.t 2), none⟩,
   ⟨some 30, .bin .quo (.t 28) (.t 29), none⟩,
   ⟨some 31, .mov (.t 1), none⟩,
   ⟨some 32, .mov (.t 2), none⟩,
   ⟨some 33, .bin .rem (.t 31) (.t 32), none⟩,
   ⟨some 6, .mov (.t 30), none⟩,
   ⟨some 7, .mov (.t 33), none⟩])
  (.ret))
  (.skip)))
  (.seq (.region false [⟨some 34, .mov (.t 2), none⟩,
   ⟨some 35, .call 94 [.t 34], none⟩,
   ⟨some 36, .cv .u64 (.t 35), none⟩,
   ⟨some 8, .mov (.t 36), none⟩])
  (.seq (.region false [⟨some 37, .mov (.t 2), none⟩,
   ⟨some 38, .mov (.t 8), none⟩,
   ⟨some 39, .bin .shl (.t 37) (.t 38), none⟩,
   ⟨some 2, .mov (.t 39), none⟩])
  (.seq (.region false [⟨some 40, .mov (.t 2), none⟩,
   ⟨some 41, .bin .shr (.t 40) (.c (.int .u64 32)), none⟩,
   ⟨some 9, .mov (.t 41), none⟩])
  (.seq (.region false [⟨some 42, .mov (.t 2), none⟩,
   ⟨some 43, .bin .and (.t 42) (.c (.int .u64 4294967295)), none⟩,
   ⟨some 10, .mov (.t 43), none⟩])
  (.seq (.region false [⟨some 44, .mov (.t 0), none⟩,
   ⟨some 45, .mov (.t 8), none⟩,
   ⟨some 46, .bin .shl (.t 44) (.t 45), none⟩,
   ⟨some 47, .mov (.t 1), none⟩,
   ⟨some 48, .mov (.t 8), none⟩,
   ⟨some 49, .bin .sub (.c (.int .u64 64)) (.t 48), none⟩,
   ⟨some 50, .bin .shr (.t 47) (.t 49), none⟩,
   ⟨some 51, .bin .or (.t 46) (.t 50), none⟩,
   ⟨some 11, .mov (.t 51), none⟩])
  (.seq (.region false [⟨some 52, .mov (.t 1), none⟩,
   ⟨some 53, .mov (.t 8), none⟩,
   ⟨some 54, .bin .shl (.t 52) (.t 53), none⟩,
   ⟨some 12, .mov (.t 54), none⟩])
  (.seq (.region false [⟨some 55, .mov (.t 12), none⟩,
   ⟨some 56, .bin .shr (.t 55) (.c (.int .u64 32)), none⟩,
   ⟨some 13, .mov (.t 56), none⟩])
  (.seq (.region false [⟨some 57, .mov (.t 12), none⟩,
   ⟨some 58, .bin .and (.t 57) (.c (.int .u64 4294967295)), none⟩,
   ⟨some 14, .mov (.t 58), none⟩])
  (.seq (.region false [⟨some 59, .mov (.t 11), none⟩,
   ⟨some 60, .mov (.t 9), none⟩,
   ⟨some 61, .bin .quo (.t 59) (.t 60), none⟩,
   ⟨some 15, .mov (.t 61), none⟩])
  (.seq (.region false [⟨some 62, .mov (.t 11), none⟩,
   ⟨some 63, .mov (.t 15), none⟩,
   ⟨some 64, .mov (.t 9), none⟩,
   ⟨some 65, .bin .mul (.t 63) (.t 64), none⟩,
   ⟨some 66, .bin .sub (.t 62) (.t 65), none⟩,
   ⟨some 16, .mov (.t 66), none⟩])
  (.seq (.block 0 (.loop (.seq (.seq (.region false [⟨some 67, .mov (.t 15), none⟩,
   ⟨some 68, .bin .geq (.t 67) (.c (.int .u64 4294967296)), none⟩,
   ⟨some 69, .mov (.t 68), none⟩,
   ⟨some 70, .mov (.t 15), some (69, false)⟩,
   ⟨some 71, .mov (.t 10), some (69, false)⟩,
   ⟨some 72, .bin .mul (.t 70) (.t 71), some (69, false)⟩,
   ⟨some 73, .mov (.t 16), some (69, false)⟩,
   ⟨some 74, .bin .mul (.c (.int .u64 4294967296)) (.t 73), some (69, false)⟩,
   ⟨some 75, .mov (.t 13), some (69, false)⟩,
   ⟨some 76, .bin .add (.t 74) (.t 75), some (69, false)⟩,
   ⟨some 77, .bin .gtr (.t 72) (.t 76), some (69, false)⟩,
   ⟨some 78, .pick (.t 69) (.c (.bool true)) (.t 77), none⟩])
  (.cond (.t 78) (.skip)
  (.exit 0)))
  (.block 1 (.seq (.region false [⟨some 79, .mov (.t 15), none⟩,
   ⟨some 80, .bin .sub (.t 79) (.c (.int .u64 1)), none⟩,
   ⟨some 15, .mov (.t 80), none⟩])
  (.seq (.region false [⟨some 81, .mov (.t 16), none⟩,
   ⟨some 82, .mov (.t 9), none⟩,
   ⟨some 83, .bin .add (.t 81) (.t 82), none⟩,
   ⟨some 16, .mov (.t 83), none⟩])
  (.seq (.region false [⟨some 84, .mov (.t 16), none⟩,
   ⟨some 85, .bin .geq (.t 84) (.c (.int .u64 4294967296)), none⟩])
  (.cond (.t 85) (.exit 0)
  (.skip)))))))))
  (.seq (.region false [⟨some 86, .mov (.t 11), none⟩,
   ⟨some 87, .bin .mul (.t 86) (.c (.int .u64 4294967296)), none⟩,
   ⟨some 88, .mov (.t 13), none⟩,
   ⟨some 89, .bin .add (.t 87) (.t 88), none⟩,
   ⟨some 90, .mov (.t 15), none⟩,
   ⟨some 91, .mov (.t 2), none⟩,
   ⟨some 92, .bin .mul (.t 90) (.t 91), none⟩,
   ⟨some 93, .bin .sub (.t 89) (.t 92), none⟩,
   ⟨some 17, .mov (.t 93), none⟩])
  (.seq (.region false [⟨some 94, .mov (.t 17), none⟩,
   ⟨some 95, .mov (.t 9), none⟩,
   ⟨some 96, .bin .quo (.t 94) (.t 95), none⟩,
   ⟨some 18, .mov (.t 96), none⟩])
  (.seq (.region false [⟨some 97, .mov (.t 17), none⟩,
   ⟨some 98, .mov (.t 18), none⟩,
   ⟨some 99, .mov (.t 9), none⟩,
   ⟨some 100, .bin .mul (.t 98) (.t 99), none⟩,
   ⟨some 101, .bin .sub (.t 97) (.t 100), none⟩,
   ⟨some 16, .mov (.t 101), none⟩])
  (.seq (.block 2 (.loop (.seq (.seq (.region false [⟨some 102, .mov (.t 18), none⟩,
   ⟨some 103, .bin .geq (.t 102) (.c (.int .u64 4294967296)), none⟩,
   ⟨some 104, .mov (.t 103), none⟩,
   ⟨some 105, .mov (.t 18), some (104, false)⟩,
   ⟨some 106, .mov (.t 10), some (104, false)⟩,
   ⟨some 107, .bin .mul (.t 105) (.t 106), some (104, false)⟩,
   ⟨some 108, .mov (.t 16), some (104, false)⟩,
   ⟨some 109, .bin .mul (.c (.int .u64 4294967296)) (.t 108), some (104, false)⟩,
   ⟨some 110, .mov (.t 14), some (104, false)⟩,
   ⟨some 111, .bin .add (.t 109) (.t 110), some (104, false)⟩,
   ⟨some 112, .bin .gtr (.t 107) (.t 111), some (104, false)⟩,
   ⟨some 113, .pick (.t 104) (.c (.bool true)) (.t 112), none⟩])
  (.cond (.t 113) (.skip)
  (.exit 2)))
  (.block 3 (.seq (.region false [⟨some 114, .mov (.t 18), none⟩,
   ⟨some 115, .bin .sub (.t 114) (.c (.int .u64 1)), none⟩,
   ⟨some 18, .mov (.t 115), none⟩])
  (.seq (.region false [⟨some 116, .mov (.t 16), none⟩,
   ⟨some 117, .mov (.t 9), none⟩,
   ⟨some 118, .bin .add (.t 116) (.t 117), none⟩,
   ⟨some 16, .mov (.t 118), none⟩])
  (.seq (.region false [⟨some 119, .mov (.t 16), none⟩,
   ⟨some 120, .bin .geq (.t 119) (.c (.int .u64 4294967296)), none⟩])
  (.cond (.t 120) (.exit 2)
  (.skip)))))))))
  (.seq (.region false [⟨some 121, .mov (.t 15), none⟩,
   ⟨some 122, .bin .mul (.t 121) (.c (.int .u64 4294967296)), none⟩,
   ⟨some 123, .mov (.t 18), none⟩,
   ⟨some 124, .bin .add (.t 122) (.t 123), none⟩,
   ⟨some 125, .mov (.t 17), none⟩,
   ⟨some 126, .bin .mul (.t 125) (.c (.int .u64 4294967296)), none⟩,
   ⟨some 127, .mov (.t 14), none⟩,
   ⟨some 128, .bin .add (.t 126) (.t 127), none⟩,
   ⟨some 129, .mov (.t 18), none⟩,
   ⟨some 130, .mov (.t 2), none⟩,
   ⟨some 131, .bin .mul (.t 129) (.t 130), none⟩,
   ⟨some 132, .bin .sub (.t 128) (.t 131), none⟩,
   ⟨some 133, .mov (.t 8), none⟩,
   ⟨some 134, .bin .shr (.t 132) (.t 133), none⟩,
   ⟨some 6, .mov (.t 124), none⟩,
   ⟨some 7, .mov (.t 134), none⟩])
  (.ret))))))))))))))))))))⟩
def Try.r79 : List (Nat × Nat) := []
theorem Try.i79_ok : fnOk Try.prog Try.r79 Try.f79 Try.i79 = true := by kernel_rfl

/- pinball/flight.within -/
def Try.i80 : IFunc := ⟨2, 29, [.tmp 4],
  .seq (.region false [⟨some 2, .box (.t 0) [5, 11, 17, 24], none⟩,
   ⟨some 4, .mov (.c (.bool false)), none⟩])
  (.seq (.region false [⟨some 5, .adr 2 2 0, none⟩,
   ⟨some 6, .ld 5 2 1 true, none⟩,
   ⟨some 7, .mov (.t 1), none⟩,
   ⟨some 8, .un .neg (.t 7), none⟩,
   ⟨some 9, .bin .geq (.t 6) (.t 8), none⟩,
   ⟨some 10, .mov (.t 9), none⟩,
   ⟨some 11, .adr 2 2 0, some (10, true)⟩,
   ⟨some 12, .ld 11 2 1 true, some (10, true)⟩,
   ⟨some 13, .mov (.t 1), some (10, true)⟩,
   ⟨some 14, .bin .leq (.t 12) (.t 13), some (10, true)⟩,
   ⟨some 15, .pick (.t 10) (.t 14) (.c (.bool false)), none⟩,
   ⟨some 16, .mov (.t 15), none⟩,
   ⟨some 17, .adr 2 2 1, some (16, true)⟩,
   ⟨some 18, .ld 17 2 1 true, some (16, true)⟩,
   ⟨some 19, .mov (.t 1), some (16, true)⟩,
   ⟨some 20, .un .neg (.t 19), some (16, true)⟩,
   ⟨some 21, .bin .geq (.t 18) (.t 20), some (16, true)⟩,
   ⟨some 22, .pick (.t 16) (.t 21) (.c (.bool false)), none⟩,
   ⟨some 23, .mov (.t 22), none⟩,
   ⟨some 24, .adr 2 2 1, some (23, true)⟩,
   ⟨some 25, .ld 24 2 1 true, some (23, true)⟩,
   ⟨some 26, .mov (.t 1), some (23, true)⟩,
   ⟨some 27, .bin .leq (.t 25) (.t 26), some (23, true)⟩,
   ⟨some 28, .pick (.t 23) (.t 27) (.c (.bool false)), none⟩,
   ⟨some 4, .mov (.t 28), none⟩])
  (.ret))⟩
def Try.r80 : List (Nat × Nat) := [(5, 2), (11, 2), (17, 2), (24, 2)]
theorem Try.i80_ok : fnOk Try.prog Try.r80 Try.f80 Try.i80 = true := by kernel_rfl

/- math/bits.LeadingZeros64 -/
def Try.i94 : IFunc := ⟨1, 6, [.tmp 2],
  .seq (.region false [⟨some 2, .mov (.c (.int .i64 0)), none⟩])
  (.seq (.region false [⟨some 3, .mov (.t 0), none⟩,
   ⟨some 4, .call 106 [.t 3], none⟩,
   ⟨some 5, .bin .sub (.c (.int .i64 64)) (.t 4), none⟩,
   ⟨some 2, .mov (.t 5), none⟩])
  (.ret))⟩
def Try.r94 : List (Nat × Nat) := []
theorem Try.i94_ok : fnOk Try.prog Try.r94 Try.f94 Try.i94 = true := by kernel_rfl

/- math/bits.Len64 -/
def Try.i106 : IFunc := ⟨1, 25, [.tmp 2],
  .seq (.region false [⟨some 2, .mov (.c (.int .i64 0)), none⟩])
  (.seq (.seq (.region false [⟨some 3, .mov (.t 0), none⟩,
   ⟨some 4, .bin .geq (.t 3) (.c (.int .u64 4294967296)), none⟩])
  (.cond (.t 4) (.seq (.region false [⟨some 5, .mov (.t 0), none⟩,
   ⟨some 6, .bin .shr (.t 5) (.c (.int .u64 32)), none⟩,
   ⟨some 0, .mov (.t 6), none⟩])
  (.region false [⟨some 2, .mov (.c (.int .i64 32)), none⟩]))
  (.skip)))
  (.seq (.seq (.region false [⟨some 7, .mov (.t 0), none⟩,
   ⟨some 8, .bin .geq (.t 7) (.c (.int .u64 65536)), none⟩])
  (.cond (.t 8) (.seq (.region false [⟨some 9, .mov (.t 0), none⟩,
   ⟨some 10, .bin .shr (.t 9) (.c (.int .u64 16)), none⟩,
   ⟨some 0, .mov (.t 10), none⟩])
  (.region false [⟨some 11, .mov (.t 2), none⟩,
   ⟨some 12, .bin .add (.t 11) (.c (.int .i64 16)), none⟩,
   ⟨some 2, .mov (.t 12), none⟩]))
  (.skip)))
  (.seq (.seq (.region false [⟨some 13, .mov (.t 0), none⟩,
   ⟨some 14, .bin .geq (.t 13) (.c (.int .u64 256)), none⟩])
  (.cond (.t 14) (.seq (.region false [⟨some 15, .mov (.t 0), none⟩,
   ⟨some 16, .bin .shr (.t 15) (.c (.int .u64 8)), none⟩,
   ⟨some 0, .mov (.t 16), none⟩])
  (.region false [⟨some 17, .mov (.t 2), none⟩,
   ⟨some 18, .bin .add (.t 17) (.c (.int .i64 8)), none⟩,
   ⟨some 2, .mov (.t 18), none⟩]))
  (.skip)))
  (.seq (.region false [⟨some 19, .mov (.t 2), none⟩,
   ⟨some 20, .mov (.t 0), none⟩,
   ⟨some 21, .cv .u8 (.t 20), none⟩,
   ⟨some 22, .six (.c (.str text_14a5d850)) (.t 21), none⟩,
   ⟨some 23, .cv .i64 (.t 22), none⟩,
   ⟨some 24, .bin .add (.t 19) (.t 23), none⟩,
   ⟨some 2, .mov (.t 24), none⟩])
  (.ret)))))⟩
def Try.r106 : List (Nat × Nat) := []
theorem Try.i106_ok : fnOk Try.prog Try.r106 Try.f106 Try.i106 = true := by kernel_rfl

theorem Try.mixed : Try.prog.follows .mixedOrders = true := by kernel_rfl
def Try.irs : List (Nat × IFunc) := [(3, Try.i3), (4, Try.i4), (5, Try.i5), (6, Try.i6), (7, Try.i7), (8, Try.i8), (11, Try.i11), (12, Try.i12), (13, Try.i13), (14, Try.i14), (15, Try.i15), (16, Try.i16), (17, Try.i17), (18, Try.i18), (19, Try.i19), (20, Try.i20), (21, Try.i21), (22, Try.i22), (23, Try.i23), (24, Try.i24), (25, Try.i25), (26, Try.i26), (27, Try.i27), (28, Try.i28), (29, Try.i29), (30, Try.i30), (31, Try.i31), (32, Try.i32), (33, Try.i33), (34, Try.i34), (41, Try.i41), (42, Try.i42), (43, Try.i43), (44, Try.i44), (45, Try.i45), (46, Try.i46), (47, Try.i47), (48, Try.i48), (49, Try.i49), (50, Try.i50), (51, Try.i51), (52, Try.i52), (53, Try.i53), (54, Try.i54), (55, Try.i55), (56, Try.i56), (57, Try.i57), (58, Try.i58), (59, Try.i59), (75, Try.i75), (76, Try.i76), (77, Try.i77), (78, Try.i78), (79, Try.i79), (80, Try.i80), (94, Try.i94), (106, Try.i106)]
def Try.ir (f : Nat) : Option IFunc := Try.irs.lookup f
theorem Try.ir_ok : ∀ f ifn, Try.ir f = some ifn → ∃ fn roots, Try.prog.funcs[f]? = some fn ∧ fnOk Try.prog roots fn ifn = true := by
  intro f ifn h
  simp only [Try.ir, Try.irs, List.lookup] at h
  repeat' split at h
  all_goals first | (cases h; done) | skip
  · rename_i he; cases h; have e : f = 3 := by simpa using he
    subst e; exact ⟨_, Try.r3, Try.func3, Try.i3_ok⟩
  · rename_i he; cases h; have e : f = 4 := by simpa using he
    subst e; exact ⟨_, Try.r4, Try.func4, Try.i4_ok⟩
  · rename_i he; cases h; have e : f = 5 := by simpa using he
    subst e; exact ⟨_, Try.r5, Try.func5, Try.i5_ok⟩
  · rename_i he; cases h; have e : f = 6 := by simpa using he
    subst e; exact ⟨_, Try.r6, Try.func6, Try.i6_ok⟩
  · rename_i he; cases h; have e : f = 7 := by simpa using he
    subst e; exact ⟨_, Try.r7, Try.func7, Try.i7_ok⟩
  · rename_i he; cases h; have e : f = 8 := by simpa using he
    subst e; exact ⟨_, Try.r8, Try.func8, Try.i8_ok⟩
  · rename_i he; cases h; have e : f = 11 := by simpa using he
    subst e; exact ⟨_, Try.r11, Try.func11, Try.i11_ok⟩
  · rename_i he; cases h; have e : f = 12 := by simpa using he
    subst e; exact ⟨_, Try.r12, Try.func12, Try.i12_ok⟩
  · rename_i he; cases h; have e : f = 13 := by simpa using he
    subst e; exact ⟨_, Try.r13, Try.func13, Try.i13_ok⟩
  · rename_i he; cases h; have e : f = 14 := by simpa using he
    subst e; exact ⟨_, Try.r14, Try.func14, Try.i14_ok⟩
  · rename_i he; cases h; have e : f = 15 := by simpa using he
    subst e; exact ⟨_, Try.r15, Try.func15, Try.i15_ok⟩
  · rename_i he; cases h; have e : f = 16 := by simpa using he
    subst e; exact ⟨_, Try.r16, Try.func16, Try.i16_ok⟩
  · rename_i he; cases h; have e : f = 17 := by simpa using he
    subst e; exact ⟨_, Try.r17, Try.func17, Try.i17_ok⟩
  · rename_i he; cases h; have e : f = 18 := by simpa using he
    subst e; exact ⟨_, Try.r18, Try.func18, Try.i18_ok⟩
  · rename_i he; cases h; have e : f = 19 := by simpa using he
    subst e; exact ⟨_, Try.r19, Try.func19, Try.i19_ok⟩
  · rename_i he; cases h; have e : f = 20 := by simpa using he
    subst e; exact ⟨_, Try.r20, Try.func20, Try.i20_ok⟩
  · rename_i he; cases h; have e : f = 21 := by simpa using he
    subst e; exact ⟨_, Try.r21, Try.func21, Try.i21_ok⟩
  · rename_i he; cases h; have e : f = 22 := by simpa using he
    subst e; exact ⟨_, Try.r22, Try.func22, Try.i22_ok⟩
  · rename_i he; cases h; have e : f = 23 := by simpa using he
    subst e; exact ⟨_, Try.r23, Try.func23, Try.i23_ok⟩
  · rename_i he; cases h; have e : f = 24 := by simpa using he
    subst e; exact ⟨_, Try.r24, Try.func24, Try.i24_ok⟩
  · rename_i he; cases h; have e : f = 25 := by simpa using he
    subst e; exact ⟨_, Try.r25, Try.func25, Try.i25_ok⟩
  · rename_i he; cases h; have e : f = 26 := by simpa using he
    subst e; exact ⟨_, Try.r26, Try.func26, Try.i26_ok⟩
  · rename_i he; cases h; have e : f = 27 := by simpa using he
    subst e; exact ⟨_, Try.r27, Try.func27, Try.i27_ok⟩
  · rename_i he; cases h; have e : f = 28 := by simpa using he
    subst e; exact ⟨_, Try.r28, Try.func28, Try.i28_ok⟩
  · rename_i he; cases h; have e : f = 29 := by simpa using he
    subst e; exact ⟨_, Try.r29, Try.func29, Try.i29_ok⟩
  · rename_i he; cases h; have e : f = 30 := by simpa using he
    subst e; exact ⟨_, Try.r30, Try.func30, Try.i30_ok⟩
  · rename_i he; cases h; have e : f = 31 := by simpa using he
    subst e; exact ⟨_, Try.r31, Try.func31, Try.i31_ok⟩
  · rename_i he; cases h; have e : f = 32 := by simpa using he
    subst e; exact ⟨_, Try.r32, Try.func32, Try.i32_ok⟩
  · rename_i he; cases h; have e : f = 33 := by simpa using he
    subst e; exact ⟨_, Try.r33, Try.func33, Try.i33_ok⟩
  · rename_i he; cases h; have e : f = 34 := by simpa using he
    subst e; exact ⟨_, Try.r34, Try.func34, Try.i34_ok⟩
  · rename_i he; cases h; have e : f = 41 := by simpa using he
    subst e; exact ⟨_, Try.r41, Try.func41, Try.i41_ok⟩
  · rename_i he; cases h; have e : f = 42 := by simpa using he
    subst e; exact ⟨_, Try.r42, Try.func42, Try.i42_ok⟩
  · rename_i he; cases h; have e : f = 43 := by simpa using he
    subst e; exact ⟨_, Try.r43, Try.func43, Try.i43_ok⟩
  · rename_i he; cases h; have e : f = 44 := by simpa using he
    subst e; exact ⟨_, Try.r44, Try.func44, Try.i44_ok⟩
  · rename_i he; cases h; have e : f = 45 := by simpa using he
    subst e; exact ⟨_, Try.r45, Try.func45, Try.i45_ok⟩
  · rename_i he; cases h; have e : f = 46 := by simpa using he
    subst e; exact ⟨_, Try.r46, Try.func46, Try.i46_ok⟩
  · rename_i he; cases h; have e : f = 47 := by simpa using he
    subst e; exact ⟨_, Try.r47, Try.func47, Try.i47_ok⟩
  · rename_i he; cases h; have e : f = 48 := by simpa using he
    subst e; exact ⟨_, Try.r48, Try.func48, Try.i48_ok⟩
  · rename_i he; cases h; have e : f = 49 := by simpa using he
    subst e; exact ⟨_, Try.r49, Try.func49, Try.i49_ok⟩
  · rename_i he; cases h; have e : f = 50 := by simpa using he
    subst e; exact ⟨_, Try.r50, Try.func50, Try.i50_ok⟩
  · rename_i he; cases h; have e : f = 51 := by simpa using he
    subst e; exact ⟨_, Try.r51, Try.func51, Try.i51_ok⟩
  · rename_i he; cases h; have e : f = 52 := by simpa using he
    subst e; exact ⟨_, Try.r52, Try.func52, Try.i52_ok⟩
  · rename_i he; cases h; have e : f = 53 := by simpa using he
    subst e; exact ⟨_, Try.r53, Try.func53, Try.i53_ok⟩
  · rename_i he; cases h; have e : f = 54 := by simpa using he
    subst e; exact ⟨_, Try.r54, Try.func54, Try.i54_ok⟩
  · rename_i he; cases h; have e : f = 55 := by simpa using he
    subst e; exact ⟨_, Try.r55, Try.func55, Try.i55_ok⟩
  · rename_i he; cases h; have e : f = 56 := by simpa using he
    subst e; exact ⟨_, Try.r56, Try.func56, Try.i56_ok⟩
  · rename_i he; cases h; have e : f = 57 := by simpa using he
    subst e; exact ⟨_, Try.r57, Try.func57, Try.i57_ok⟩
  · rename_i he; cases h; have e : f = 58 := by simpa using he
    subst e; exact ⟨_, Try.r58, Try.func58, Try.i58_ok⟩
  · rename_i he; cases h; have e : f = 59 := by simpa using he
    subst e; exact ⟨_, Try.r59, Try.func59, Try.i59_ok⟩
  · rename_i he; cases h; have e : f = 75 := by simpa using he
    subst e; exact ⟨_, Try.r75, Try.func75, Try.i75_ok⟩
  · rename_i he; cases h; have e : f = 76 := by simpa using he
    subst e; exact ⟨_, Try.r76, Try.func76, Try.i76_ok⟩
  · rename_i he; cases h; have e : f = 77 := by simpa using he
    subst e; exact ⟨_, Try.r77, Try.func77, Try.i77_ok⟩
  · rename_i he; cases h; have e : f = 78 := by simpa using he
    subst e; exact ⟨_, Try.r78, Try.func78, Try.i78_ok⟩
  · rename_i he; cases h; have e : f = 79 := by simpa using he
    subst e; exact ⟨_, Try.r79, Try.func79, Try.i79_ok⟩
  · rename_i he; cases h; have e : f = 80 := by simpa using he
    subst e; exact ⟨_, Try.r80, Try.func80, Try.i80_ok⟩
  · rename_i he; cases h; have e : f = 94 := by simpa using he
    subst e; exact ⟨_, Try.r94, Try.func94, Try.i94_ok⟩
  · rename_i he; cases h; have e : f = 106 := by simpa using he
    subst e; exact ⟨_, Try.r106, Try.func106, Try.i106_ok⟩
end Go.Proofs.Ythakfjlnhldehaa
