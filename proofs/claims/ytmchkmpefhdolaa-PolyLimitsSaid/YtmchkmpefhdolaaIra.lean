/- Functions of the seat in the intermediate language, printed by a program out of the translation, and that each is the program's own. -/
import Derived.Test.YtmchkmpefhdolaaProg
import Derived.Test.YtmchkmpefhdolaaAbs14
import Derived.KernelRfl
namespace Go.Proofs.Ytmchkmpefhdolaa
open Go.Ai
set_option maxRecDepth 100000

/- pinball/pinballlaw02.PolyRemainders -/
def Try.i3 : IFunc := ⟨2, 91, [.tmp 4],
  .seq (.region false [⟨some 4, .mov (.c (.bool false)), none, []⟩])
  (.seq (.seq (.region false [⟨some 17, .call 9 [], none, []⟩,
   ⟨some 18, .un .not (.t 17), none, []⟩])
  (.cond (.t 18) (.seq (.region false [⟨some 4, .mov (.c (.bool false)), none, []⟩])
  (.ret))
  (.skip)))
  (.seq (.seq (.region false [⟨some 19, .mov (.t 0), none, []⟩,
   ⟨some 20, .len (.t 19), none, []⟩,
   ⟨some 21, .bin .gtr (.t 20) (.c (.int .i64 9)), none, []⟩,
   ⟨some 22, .mov (.t 21), none, []⟩,
   ⟨some 23, .mov (.t 1), some (22, false), []⟩,
   ⟨some 24, .len (.t 23), some (22, false), []⟩,
   ⟨some 25, .bin .gtr (.t 24) (.c (.int .i64 9)), some (22, false), []⟩,
   ⟨some 26, .pick (.t 22) (.c (.bool true)) (.t 25), none, []⟩,
   ⟨some 27, .mov (.t 26), none, []⟩,
   ⟨some 28, .mov (.t 0), some (27, false), []⟩,
   ⟨some 29, .call 10 [.t 28], some (27, false), []⟩,
   ⟨some 30, .un .not (.t 29), some (27, false), []⟩,
   ⟨some 31, .pick (.t 27) (.c (.bool true)) (.t 30), none, []⟩,
   ⟨some 32, .mov (.t 31), none, []⟩,
   ⟨some 33, .mov (.t 1), some (32, false), []⟩,
   ⟨some 34, .call 10 [.t 33], some (32, false), []⟩,
   ⟨some 35, .un .not (.t 34), some (32, false), []⟩,
   ⟨some 36, .pick (.t 32) (.c (.bool true)) (.t 35), none, []⟩])
  (.cond (.t 36) (.seq (.region false [⟨some 37, .call 9 [], none, []⟩,
   ⟨some 4, .mov (.t 37), none, []⟩])
  (.ret))
  (.skip)))
  (.seq (.region false [⟨some 39, .mov (.t 0), none, []⟩,
   ⟨some 40, .mov (.t 1), none, []⟩,
   ⟨some 41, .call 11 [.t 39, .t 40], none, []⟩,
   ⟨some 38, .mov (.t 41), none, []⟩,
   ⟨some 42, .ext (.t 38) 0, none, []⟩,
   ⟨some 43, .ext (.t 38) 1, none, []⟩,
   ⟨some 5, .mov (.t 42), none, []⟩,
   ⟨some 6, .mov (.t 43), none, []⟩])
  (.seq (.region false [⟨some 45, .mov (.t 0), none, []⟩,
   ⟨some 46, .mov (.t 1), none, []⟩,
   ⟨some 47, .call 12 [.t 45, .t 46], none, []⟩,
   ⟨some 44, .mov (.t 47), none, []⟩,
   ⟨some 48, .ext (.t 44) 0, none, []⟩,
   ⟨some 49, .ext (.t 44) 1, none, []⟩,
   ⟨some 7, .mov (.t 48), none, []⟩,
   ⟨some 8, .mov (.t 49), none, []⟩])
  (.seq (.region false [⟨some 51, .mov (.t 0), none, []⟩,
   ⟨some 52, .call 13 [.t 51], none, []⟩,
   ⟨some 50, .mov (.t 52), none, []⟩,
   ⟨some 53, .ext (.t 50) 0, none, []⟩,
   ⟨some 54, .ext (.t 50) 1, none, []⟩,
   ⟨some 9, .mov (.t 53), none, []⟩,
   ⟨some 10, .mov (.t 54), none, []⟩])
  (.seq (.region false [⟨some 56, .mov (.t 0), none, []⟩,
   ⟨some 57, .mov (.t 1), none, []⟩,
   ⟨some 58, .call 14 [.t 56, .t 57], none, []⟩,
   ⟨some 55, .mov (.t 58), none, []⟩,
   ⟨some 59, .ext (.t 55) 0, none, []⟩,
   ⟨some 60, .ext (.t 55) 1, none, []⟩,
   ⟨some 11, .mov (.t 59), none, []⟩,
   ⟨some 12, .mov (.t 60), none, []⟩])
  (.seq (.region false [⟨some 62, .mov (.t 0), none, []⟩,
   ⟨some 63, .mov (.t 1), none, []⟩,
   ⟨some 64, .call 15 [.t 62, .t 63], none, []⟩,
   ⟨some 61, .mov (.t 64), none, []⟩,
   ⟨some 65, .ext (.t 61) 0, none, []⟩,
   ⟨some 66, .ext (.t 61) 1, none, []⟩,
   ⟨some 13, .mov (.t 65), none, []⟩,
   ⟨some 14, .mov (.t 66), none, []⟩])
  (.seq (.region false [⟨some 68, .mov (.t 0), none, []⟩,
   ⟨some 69, .call 16 [.t 68], none, []⟩,
   ⟨some 67, .mov (.t 69), none, []⟩,
   ⟨some 70, .ext (.t 67) 0, none, []⟩,
   ⟨some 71, .ext (.t 67) 1, none, []⟩,
   ⟨some 15, .mov (.t 70), none, []⟩,
   ⟨some 16, .mov (.t 71), none, []⟩])
  (.seq (.region false [⟨some 72, .mov (.t 5), none, []⟩,
   ⟨some 73, .mov (.t 6), none, []⟩,
   ⟨some 74, .mov (.t 11), none, []⟩,
   ⟨some 75, .mov (.t 12), none, []⟩,
   ⟨some 76, .call 17 [.t 72, .t 73, .t 74, .t 75], none, []⟩,
   ⟨some 77, .mov (.t 76), none, []⟩,
   ⟨some 78, .mov (.t 7), some (77, true), []⟩,
   ⟨some 79, .mov (.t 8), some (77, true), []⟩,
   ⟨some 80, .mov (.t 13), some (77, true), []⟩,
   ⟨some 81, .mov (.t 14), some (77, true), []⟩,
   ⟨some 82, .call 17 [.t 78, .t 79, .t 80, .t 81], some (77, true), []⟩,
   ⟨some 83, .pick (.t 77) (.t 82) (.c (.bool false)), none, []⟩,
   ⟨some 84, .mov (.t 83), none, []⟩,
   ⟨some 85, .mov (.t 9), some (84, true), []⟩,
   ⟨some 86, .mov (.t 10), some (84, true), []⟩,
   ⟨some 87, .mov (.t 15), some (84, true), []⟩,
   ⟨some 88, .mov (.t 16), some (84, true), []⟩,
   ⟨some 89, .call 17 [.t 85, .t 86, .t 87, .t 88], some (84, true), []⟩,
   ⟨some 90, .pick (.t 84) (.t 89) (.c (.bool false)), none, []⟩,
   ⟨some 4, .mov (.t 90), none, []⟩])
  (.ret))))))))))⟩
def Try.r3 : List (Nat × Nat) := []
theorem Try.i3_ok : fnOk Try.prog Try.r3 Try.f3 Try.i3 = true := by kernel_rfl

/- pinball/pinballlaw02.PolyCommon -/
def Try.i4 : IFunc := ⟨3, 172, [.tmp 6],
  .seq (.region false [⟨some 6, .mov (.c (.bool false)), none, []⟩])
  (.seq (.seq (.region false [⟨some 22, .call 9 [], none, []⟩,
   ⟨some 23, .un .not (.t 22), none, []⟩])
  (.cond (.t 23) (.seq (.region false [⟨some 6, .mov (.c (.bool false)), none, []⟩])
  (.ret))
  (.skip)))
  (.seq (.seq (.region false [⟨some 24, .mov (.t 0), none, []⟩,
   ⟨some 25, .len (.t 24), none, []⟩,
   ⟨some 26, .bin .gtr (.t 25) (.c (.int .i64 4)), none, []⟩,
   ⟨some 27, .mov (.t 26), none, []⟩,
   ⟨some 28, .mov (.t 1), some (27, false), []⟩,
   ⟨some 29, .len (.t 28), some (27, false), []⟩,
   ⟨some 30, .bin .gtr (.t 29) (.c (.int .i64 4)), some (27, false), []⟩,
   ⟨some 31, .pick (.t 27) (.c (.bool true)) (.t 30), none, []⟩,
   ⟨some 32, .mov (.t 31), none, []⟩,
   ⟨some 33, .mov (.t 2), some (32, false), []⟩,
   ⟨some 34, .len (.t 33), some (32, false), []⟩,
   ⟨some 35, .bin .gtr (.t 34) (.c (.int .i64 4)), some (32, false), []⟩,
   ⟨some 36, .pick (.t 32) (.c (.bool true)) (.t 35), none, []⟩,
   ⟨some 37, .mov (.t 36), none, []⟩,
   ⟨some 38, .mov (.t 0), some (37, false), []⟩,
   ⟨some 39, .call 18 [.t 38], some (37, false), []⟩,
   ⟨some 40, .un .not (.t 39), some (37, false), []⟩,
   ⟨some 41, .pick (.t 37) (.c (.bool true)) (.t 40), none, []⟩,
   ⟨some 42, .mov (.t 41), none, []⟩,
   ⟨some 43, .mov (.t 1), some (42, false), []⟩,
   ⟨some 44, .call 18 [.t 43], some (42, false), []⟩,
   ⟨some 45, .un .not (.t 44), some (42, false), []⟩,
   ⟨some 46, .pick (.t 42) (.c (.bool true)) (.t 45), none, []⟩,
   ⟨some 47, .mov (.t 46), none, []⟩,
   ⟨some 48, .mov (.t 2), some (47, false), []⟩,
   ⟨some 49, .call 18 [.t 48], some (47, false), []⟩,
   ⟨some 50, .un .not (.t 49), some (47, false), []⟩,
   ⟨some 51, .pick (.t 47) (.c (.bool true)) (.t 50), none, []⟩,
   ⟨some 52, .mov (.t 51), none, []⟩,
   ⟨some 53, .mov (.t 0), some (52, false), []⟩,
   ⟨some 54, .call 19 [.t 53], some (52, false), []⟩,
   ⟨some 55, .bin .lss (.t 54) (.c (.int .i64 0)), some (52, false), []⟩,
   ⟨some 56, .pick (.t 52) (.c (.bool true)) (.t 55), none, []⟩,
   ⟨some 57, .mov (.t 56), none, []⟩,
   ⟨some 58, .mov (.t 1), some (57, false), []⟩,
   ⟨some 59, .call 19 [.t 58], some (57, false), []⟩,
   ⟨some 60, .bin .lss (.t 59) (.c (.int .i64 0)), some (57, false), []⟩,
   ⟨some 61, .pick (.t 57) (.c (.bool true)) (.t 60), none, []⟩,
   ⟨some 62, .mov (.t 61), none, []⟩,
   ⟨some 63, .mov (.t 2), some (62, false), []⟩,
   ⟨some 64, .call 19 [.t 63], some (62, false), []⟩,
   ⟨some 65, .bin .lss (.t 64) (.c (.int .i64 0)), some (62, false), []⟩,
   ⟨some 66, .pick (.t 62) (.c (.bool true)) (.t 65), none, []⟩])
  (.cond (.t 66) (.seq (.region false [⟨some 67, .call 9 [], none, []⟩,
   ⟨some 6, .mov (.t 67), none, []⟩])
  (.ret))
  (.skip)))
  (.seq (.region false [⟨some 69, .mov (.t 0), none, []⟩,
   ⟨some 70, .mov (.t 2), none, []⟩,
   ⟨some 71, .call 20 [.t 69, .t 70], none, []⟩,
   ⟨some 68, .mov (.t 71), none, []⟩,
   ⟨some 72, .ext (.t 68) 0, none, []⟩,
   ⟨some 73, .ext (.t 68) 1, none, []⟩,
   ⟨some 7, .mov (.t 72), none, []⟩,
   ⟨some 8, .mov (.t 73), none, []⟩])
  (.seq (.region false [⟨some 75, .mov (.t 1), none, []⟩,
   ⟨some 76, .mov (.t 2), none, []⟩,
   ⟨some 77, .call 20 [.t 75, .t 76], none, []⟩,
   ⟨some 74, .mov (.t 77), none, []⟩,
   ⟨some 78, .ext (.t 74) 0, none, []⟩,
   ⟨some 79, .ext (.t 74) 1, none, []⟩,
   ⟨some 9, .mov (.t 78), none, []⟩,
   ⟨some 10, .mov (.t 79), none, []⟩])
  (.seq (.region false [⟨some 81, .mov (.t 7), none, []⟩,
   ⟨some 82, .mov (.t 9), none, []⟩,
   ⟨some 83, .call 12 [.t 81, .t 82], none, []⟩,
   ⟨some 80, .mov (.t 83), none, []⟩,
   ⟨some 84, .ext (.t 80) 0, none, []⟩,
   ⟨some 85, .ext (.t 80) 1, none, []⟩,
   ⟨some 11, .mov (.t 84), none, []⟩,
   ⟨some 12, .mov (.t 85), none, []⟩])
  (.seq (.region false [⟨some 87, .mov (.t 0), none, []⟩,
   ⟨some 88, .mov (.t 1), none, []⟩,
   ⟨some 89, .call 12 [.t 87, .t 88], none, []⟩,
   ⟨some 86, .mov (.t 89), none, []⟩,
   ⟨some 90, .ext (.t 86) 0, none, []⟩,
   ⟨some 91, .ext (.t 86) 1, none, []⟩,
   ⟨some 13, .mov (.t 90), none, []⟩,
   ⟨some 14, .mov (.t 91), none, []⟩])
  (.seq (.region false [⟨some 93, .mov (.t 7), none, []⟩,
   ⟨some 94, .mov (.t 11), none, []⟩,
   ⟨some 95, .call 11 [.t 93, .t 94], none, []⟩,
   ⟨some 92, .mov (.t 95), none, []⟩,
   ⟨some 96, .ext (.t 92) 0, none, []⟩,
   ⟨some 97, .ext (.t 92) 1, none, []⟩,
   ⟨some 15, .mov (.t 96), none, []⟩,
   ⟨some 16, .mov (.t 97), none, []⟩])
  (.seq (.region false [⟨some 99, .mov (.t 9), none, []⟩,
   ⟨some 100, .mov (.t 11), none, []⟩,
   ⟨some 101, .call 11 [.t 99, .t 100], none, []⟩,
   ⟨some 98, .mov (.t 101), none, []⟩,
   ⟨some 102, .ext (.t 98) 0, none, []⟩,
   ⟨some 103, .ext (.t 98) 1, none, []⟩,
   ⟨some 17, .mov (.t 102), none, []⟩,
   ⟨some 18, .mov (.t 103), none, []⟩])
  (.seq (.region false [⟨some 105, .mov (.t 11), none, []⟩,
   ⟨some 106, .mov (.t 2), none, []⟩,
   ⟨some 107, .call 11 [.t 105, .t 106], none, []⟩,
   ⟨some 104, .mov (.t 107), none, []⟩,
   ⟨some 108, .ext (.t 104) 0, none, []⟩,
   ⟨some 109, .ext (.t 104) 1, none, []⟩,
   ⟨some 19, .mov (.t 108), none, []⟩,
   ⟨some 20, .mov (.t 109), none, []⟩])
  (.seq (.region false [⟨some 110, .mov (.t 8), none, []⟩,
   ⟨some 111, .bin .eql (.t 110) (.c (.int .i64 0)), none, []⟩,
   ⟨some 112, .mov (.t 111), none, []⟩,
   ⟨some 113, .mov (.t 10), some (112, true), []⟩,
   ⟨some 114, .bin .eql (.t 113) (.c (.int .i64 0)), some (112, true), []⟩,
   ⟨some 115, .pick (.t 112) (.t 114) (.c (.bool false)), none, []⟩,
   ⟨some 116, .mov (.t 115), none, []⟩,
   ⟨some 117, .mov (.t 12), some (116, true), []⟩,
   ⟨some 118, .bin .eql (.t 117) (.c (.int .i64 0)), some (116, true), []⟩,
   ⟨some 119, .pick (.t 116) (.t 118) (.c (.bool false)), none, []⟩,
   ⟨some 120, .mov (.t 119), none, []⟩,
   ⟨some 121, .mov (.t 14), some (120, true), []⟩,
   ⟨some 122, .bin .eql (.t 121) (.c (.int .i64 0)), some (120, true), []⟩,
   ⟨some 123, .pick (.t 120) (.t 122) (.c (.bool false)), none, []⟩,
   ⟨some 124, .mov (.t 123), none, []⟩,
   ⟨some 125, .mov (.t 16), some (124, true), []⟩,
   ⟨some 126, .bin .eql (.t 125) (.c (.int .i64 0)), some (124, true), []⟩,
   ⟨some 127, .pick (.t 124) (.t 126) (.c (.bool false)), none, []⟩,
   ⟨some 128, .mov (.t 127), none, []⟩,
   ⟨some 129, .mov (.t 18), some (128, true), []⟩,
   ⟨some 130, .bin .eql (.t 129) (.c (.int .i64 0)), some (128, true), []⟩,
   ⟨some 131, .pick (.t 128) (.t 130) (.c (.bool false)), none, []⟩,
   ⟨some 132, .mov (.t 131), none, []⟩,
   ⟨some 133, .mov (.t 20), some (132, true), []⟩,
   ⟨some 134, .bin .eql (.t 133) (.c (.int .i64 0)), some (132, true), []⟩,
   ⟨some 135, .pick (.t 132) (.t 134) (.c (.bool false)), none, []⟩,
   ⟨some 21, .mov (.t 135), none, []⟩])
  (.seq (.region false [⟨some 136, .mov (.t 21), none, []⟩,
   ⟨some 137, .mov (.t 136), none, []⟩,
   ⟨some 138, .mov (.t 15), some (137, true), []⟩,
   ⟨some 139, .len (.t 138), some (137, true), []⟩,
   ⟨some 140, .bin .eql (.t 139) (.c (.int .i64 0)), some (137, true), []⟩,
   ⟨some 141, .pick (.t 137) (.t 140) (.c (.bool false)), none, []⟩,
   ⟨some 142, .mov (.t 141), none, []⟩,
   ⟨some 143, .mov (.t 17), some (142, true), []⟩,
   ⟨some 144, .len (.t 143), some (142, true), []⟩,
   ⟨some 145, .bin .eql (.t 144) (.c (.int .i64 0)), some (142, true), []⟩,
   ⟨some 146, .pick (.t 142) (.t 145) (.c (.bool false)), none, []⟩,
   ⟨some 147, .mov (.t 146), none, []⟩,
   ⟨some 148, .mov (.t 19), some (147, true), []⟩,
   ⟨some 149, .len (.t 148), some (147, true), []⟩,
   ⟨some 150, .bin .eql (.t 149) (.c (.int .i64 0)), some (147, true), []⟩,
   ⟨some 151, .pick (.t 147) (.t 150) (.c (.bool false)), none, []⟩,
   ⟨some 152, .mov (.t 151), none, []⟩,
   ⟨some 153, .mov (.t 11), some (152, true), []⟩,
   ⟨some 154, .call 19 [.t 153], some (152, true), []⟩,
   ⟨some 155, .mov (.t 13), some (152, true), []⟩,
   ⟨some 156, .call 19 [.t 155], some (152, true), []⟩,
   ⟨some 157, .mov (.t 2), some (152, true), []⟩,
   ⟨some 158, .call 19 [.t 157], some (152, true), []⟩,
   ⟨some 159, .bin .add (.t 156) (.t 158), some (152, true), []⟩,
   ⟨some 160, .bin .eql (.t 154) (.t 159), some (152, true), []⟩,
   ⟨some 161, .pick (.t 152) (.t 160) (.c (.bool false)), none, []⟩,
   ⟨some 162, .mov (.t 161), none, []⟩,
   ⟨some 163, .mov (.t 11), some (162, true), []⟩,
   ⟨some 164, .mov (.t 11), some (162, true), []⟩,
   ⟨some 165, .len (.t 164), some (162, true), []⟩,
   ⟨some 166, .bin .sub (.t 165) (.c (.int .i64 1)), some (162, true), []⟩,
   ⟨some 167, .ixa 163 (.t 166) 2, some (162, true), []⟩,
   ⟨some 168, .ld 167 167 2 false, some (162, true), []⟩,
   ⟨some 169, .call 21 [.t 168], some (162, true), []⟩,
   ⟨some 170, .bin .gtr (.t 169) (.c (.int .i64 0)), some (162, true), []⟩,
   ⟨some 171, .pick (.t 162) (.t 170) (.c (.bool false)), none, []⟩,
   ⟨some 6, .mov (.t 171), none, []⟩])
  (.ret))))))))))))⟩
def Try.r4 : List (Nat × Nat) := []
theorem Try.i4_ok : fnOk Try.prog Try.r4 Try.f4 Try.i4 = true := by kernel_rfl

/- pinball/pinballlaw02.PolyFree -/
def Try.i5 : IFunc := ⟨3, 154, [.tmp 6],
  .seq (.region false [⟨some 6, .mov (.c (.bool false)), none, []⟩])
  (.seq (.seq (.region false [⟨some 22, .call 9 [], none, []⟩,
   ⟨some 23, .un .not (.t 22), none, []⟩])
  (.cond (.t 23) (.seq (.region false [⟨some 6, .mov (.c (.bool false)), none, []⟩])
  (.ret))
  (.skip)))
  (.seq (.seq (.region false [⟨some 24, .mov (.t 0), none, []⟩,
   ⟨some 25, .len (.t 24), none, []⟩,
   ⟨some 26, .bin .lss (.t 25) (.c (.int .i64 2)), none, []⟩,
   ⟨some 27, .mov (.t 26), none, []⟩,
   ⟨some 28, .mov (.t 1), some (27, false), []⟩,
   ⟨some 29, .bin .lss (.t 28) (.c (.int .i64 0)), some (27, false), []⟩,
   ⟨some 30, .pick (.t 27) (.c (.bool true)) (.t 29), none, []⟩,
   ⟨some 31, .mov (.t 30), none, []⟩,
   ⟨some 32, .mov (.t 1), some (31, false), []⟩,
   ⟨some 33, .bin .gtr (.t 32) (.c (.int .i64 4)), some (31, false), []⟩,
   ⟨some 34, .pick (.t 31) (.c (.bool true)) (.t 33), none, []⟩,
   ⟨some 35, .mov (.t 34), none, []⟩,
   ⟨some 36, .mov (.t 2), some (35, false), []⟩,
   ⟨some 37, .len (.t 36), some (35, false), []⟩,
   ⟨some 38, .bin .gtr (.t 37) (.c (.int .i64 6)), some (35, false), []⟩,
   ⟨some 39, .pick (.t 35) (.c (.bool true)) (.t 38), none, []⟩,
   ⟨some 40, .mov (.t 39), none, []⟩,
   ⟨some 41, .mov (.t 2), some (40, false), []⟩,
   ⟨some 42, .call 18 [.t 41], some (40, false), []⟩,
   ⟨some 43, .un .not (.t 42), some (40, false), []⟩,
   ⟨some 44, .pick (.t 40) (.c (.bool true)) (.t 43), none, []⟩,
   ⟨some 45, .mov (.t 44), none, []⟩,
   ⟨some 46, .mov (.t 2), some (45, false), []⟩,
   ⟨some 47, .call 19 [.t 46], some (45, false), []⟩,
   ⟨some 48, .bin .lss (.t 47) (.c (.int .i64 1)), some (45, false), []⟩,
   ⟨some 49, .pick (.t 45) (.c (.bool true)) (.t 48), none, []⟩])
  (.cond (.t 49) (.seq (.region false [⟨some 50, .call 9 [], none, []⟩,
   ⟨some 6, .mov (.t 50), none, []⟩])
  (.ret))
  (.skip)))
  (.seq (.region true [⟨some 51, .mov (.t 0), none, []⟩,
   ⟨some 52, .ixa 51 (.c (.int .i64 0)) 1, none, []⟩,
   ⟨some 53, .ld 52 52 1 true, none, []⟩,
   ⟨some 54, .bin .rem (.t 53) (.c (.int .i64 1000)), none, []⟩,
   ⟨some 55, .mov (.t 0), none, []⟩,
   ⟨some 56, .ixa 55 (.c (.int .i64 1)) 1, none, []⟩,
   ⟨some 57, .ld 56 56 1 true, none, []⟩,
   ⟨some 58, .bin .rem (.t 57) (.c (.int .i64 1000)), none, []⟩,
   ⟨some 7, .mov (.t 54), none, []⟩,
   ⟨some 8, .mov (.t 58), none, []⟩])
  (.seq (.region false [⟨some 59, .bls 1 [.int .i64 0] [(0, 1, .c (.int .i64 1))], none, []⟩,
   ⟨some 60, .call 22 [.t 59], none, []⟩,
   ⟨some 9, .mov (.t 60), none, []⟩])
  (.seq (.region false [⟨some 10, .mov (.c (.int .i64 0)), none, []⟩])
  (.seq (.seq (.region false [⟨some 11, .mov (.c (.int .i64 0)), none, []⟩])
  (.block 0 (.loop (.seq (.seq (.region false [⟨some 61, .mov (.t 11), none, []⟩,
   ⟨some 62, .mov (.t 1), none, []⟩,
   ⟨some 63, .bin .lss (.t 61) (.t 62), none, []⟩])
  (.cond (.t 63) (.skip)
  (.exit 0)))
  (.seq (.block 1 (.seq (.region false [⟨some 67, .mov (.t 9), none, []⟩,
   ⟨some 68, .mov (.t 7), none, []⟩,
   ⟨some 69, .un .neg (.t 68), none, []⟩,
   ⟨some 70, .bls 2 [.int .i64 0, .int .i64 0] [(0, 1, .t 69), (1, 1, .c (.int .i64 1))], none, []⟩,
   ⟨some 71, .call 22 [.t 70], none, []⟩,
   ⟨some 72, .call 20 [.t 67, .t 71], none, []⟩,
   ⟨some 66, .mov (.t 72), none, []⟩,
   ⟨some 73, .ext (.t 66) 0, none, []⟩,
   ⟨some 74, .ext (.t 66) 1, none, []⟩,
   ⟨some 9, .mov (.t 73), none, []⟩])
  (.region false [⟨some 76, .mov (.t 9), none, []⟩,
   ⟨some 77, .mov (.t 8), none, []⟩,
   ⟨some 78, .un .neg (.t 77), none, []⟩,
   ⟨some 79, .bls 2 [.int .i64 0, .int .i64 0] [(0, 1, .t 78), (1, 1, .c (.int .i64 2))], none, []⟩,
   ⟨some 80, .call 22 [.t 79], none, []⟩,
   ⟨some 81, .call 20 [.t 76, .t 80], none, []⟩,
   ⟨some 75, .mov (.t 81), none, []⟩,
   ⟨some 82, .ext (.t 75) 0, none, []⟩,
   ⟨some 83, .ext (.t 75) 1, none, []⟩,
   ⟨some 9, .mov (.t 82), none, []⟩])))
  (.region false [⟨some 64, .mov (.t 11), none, []⟩,
   ⟨some 65, .bin .add (.t 64) (.c (.int .i64 1)), none, []⟩,
   ⟨some 11, .mov (.t 65), none, []⟩]))))))
  (.seq (.seq (.region false [⟨some 84, .mov (.t 1), none, []⟩,
   ⟨some 85, .bin .gtr (.t 84) (.c (.int .i64 0)), none, []⟩])
  (.cond (.t 85) (.region false [⟨some 10, .mov (.c (.int .i64 2)), none, []⟩])
  (.skip)))
  (.seq (.seq (.region false [⟨some 86, .mov (.t 1), none, []⟩,
   ⟨some 87, .bin .gtr (.t 86) (.c (.int .i64 0)), none, []⟩,
   ⟨some 88, .mov (.t 87), none, []⟩,
   ⟨some 89, .mov (.t 7), some (88, true), []⟩,
   ⟨some 90, .bin .mul (.c (.int .i64 2)) (.t 89), some (88, true), []⟩,
   ⟨some 91, .mov (.t 8), some (88, true), []⟩,
   ⟨some 92, .bin .eql (.t 90) (.t 91), some (88, true), []⟩,
   ⟨some 93, .pick (.t 88) (.t 92) (.c (.bool false)), none, []⟩])
  (.cond (.t 93) (.region false [⟨some 10, .mov (.c (.int .i64 1)), none, []⟩])
  (.skip)))
  (.seq (.region false [⟨some 95, .mov (.t 9), none, []⟩,
   ⟨some 96, .call 13 [.t 95], none, []⟩,
   ⟨some 94, .mov (.t 96), none, []⟩,
   ⟨some 97, .ext (.t 94) 0, none, []⟩,
   ⟨some 98, .ext (.t 94) 1, none, []⟩,
   ⟨some 12, .mov (.t 97), none, []⟩,
   ⟨some 13, .mov (.t 98), none, []⟩])
  (.seq (.region false [⟨some 100, .mov (.t 2), none, []⟩,
   ⟨some 101, .call 13 [.t 100], none, []⟩,
   ⟨some 99, .mov (.t 101), none, []⟩,
   ⟨some 102, .ext (.t 99) 0, none, []⟩,
   ⟨some 103, .ext (.t 99) 1, none, []⟩,
   ⟨some 14, .mov (.t 102), none, []⟩,
   ⟨some 15, .mov (.t 103), none, []⟩])
  (.seq (.region false [⟨some 105, .mov (.t 14), none, []⟩,
   ⟨some 106, .call 13 [.t 105], none, []⟩,
   ⟨some 104, .mov (.t 106), none, []⟩,
   ⟨some 107, .ext (.t 104) 0, none, []⟩,
   ⟨some 108, .ext (.t 104) 1, none, []⟩,
   ⟨some 16, .mov (.t 107), none, []⟩,
   ⟨some 17, .mov (.t 108), none, []⟩])
  (.seq (.region false [⟨some 110, .mov (.t 14), none, []⟩,
   ⟨some 111, .call 23 [.t 110], none, []⟩,
   ⟨some 109, .mov (.t 111), none, []⟩,
   ⟨some 112, .ext (.t 109) 0, none, []⟩,
   ⟨some 113, .ext (.t 109) 1, none, []⟩,
   ⟨some 18, .mov (.t 112), none, []⟩,
   ⟨some 19, .mov (.t 113), none, []⟩])
  (.seq (.region false [⟨some 115, .mov (.t 14), none, []⟩,
   ⟨some 116, .mov (.t 18), none, []⟩,
   ⟨some 117, .call 12 [.t 115, .t 116], none, []⟩,
   ⟨some 114, .mov (.t 117), none, []⟩,
   ⟨some 118, .ext (.t 114) 0, none, []⟩,
   ⟨some 119, .ext (.t 114) 1, none, []⟩,
   ⟨some 20, .mov (.t 118), none, []⟩,
   ⟨some 21, .mov (.t 119), none, []⟩])
  (.seq (.region false [⟨some 120, .mov (.t 13), none, []⟩,
   ⟨some 121, .bin .eql (.t 120) (.c (.int .i64 0)), none, []⟩,
   ⟨some 122, .mov (.t 121), none, []⟩,
   ⟨some 123, .mov (.t 15), some (122, true), []⟩,
   ⟨some 124, .bin .eql (.t 123) (.c (.int .i64 0)), some (122, true), []⟩,
   ⟨some 125, .pick (.t 122) (.t 124) (.c (.bool false)), none, []⟩,
   ⟨some 126, .mov (.t 125), none, []⟩,
   ⟨some 127, .mov (.t 17), some (126, true), []⟩,
   ⟨some 128, .bin .eql (.t 127) (.c (.int .i64 0)), some (126, true), []⟩,
   ⟨some 129, .pick (.t 126) (.t 128) (.c (.bool false)), none, []⟩,
   ⟨some 130, .mov (.t 129), none, []⟩,
   ⟨some 131, .mov (.t 19), some (130, true), []⟩,
   ⟨some 132, .bin .eql (.t 131) (.c (.int .i64 0)), some (130, true), []⟩,
   ⟨some 133, .pick (.t 130) (.t 132) (.c (.bool false)), none, []⟩,
   ⟨some 134, .mov (.t 133), none, []⟩,
   ⟨some 135, .mov (.t 21), some (134, true), []⟩,
   ⟨some 136, .bin .eql (.t 135) (.c (.int .i64 0)), some (134, true), []⟩,
   ⟨some 137, .pick (.t 134) (.t 136) (.c (.bool false)), none, []⟩,
   ⟨some 138, .mov (.t 137), none, []⟩,
   ⟨some 139, .mov (.t 12), some (138, true), []⟩,
   ⟨some 140, .call 19 [.t 139], some (138, true), []⟩,
   ⟨some 141, .mov (.t 10), some (138, true), []⟩,
   ⟨some 142, .bin .eql (.t 140) (.t 141), some (138, true), []⟩,
   ⟨some 143, .pick (.t 138) (.t 142) (.c (.bool false)), none, []⟩,
   ⟨some 144, .mov (.t 143), none, []⟩,
   ⟨some 145, .mov (.t 14), some (144, true), []⟩,
   ⟨some 146, .mov (.t 16), some (144, true), []⟩,
   ⟨some 147, .call 24 [.t 145, .t 146], some (144, true), []⟩,
   ⟨some 148, .pick (.t 144) (.t 147) (.c (.bool false)), none, []⟩,
   ⟨some 149, .mov (.t 148), none, []⟩,
   ⟨some 150, .mov (.t 20), some (149, true), []⟩,
   ⟨some 151, .call 19 [.t 150], some (149, true), []⟩,
   ⟨some 152, .bin .eql (.t 151) (.c (.int .i64 0)), some (149, true), []⟩,
   ⟨some 153, .pick (.t 149) (.t 152) (.c (.bool false)), none, []⟩,
   ⟨some 6, .mov (.t 153), none, []⟩])
  (.ret)))))))))))))))⟩
def Try.r5 : List (Nat × Nat) := []
theorem Try.i5_ok : fnOk Try.prog Try.r5 Try.f5 Try.i5 = true := by kernel_rfl

/- pinball/pinballlaw02.PolySigns -/
def Try.i6 : IFunc := ⟨2, 42, [.tmp 4],
  .seq (.region false [⟨some 3, .box (.t 1) [15, 16], none, []⟩,
   ⟨some 4, .mov (.c (.bool false)), none, []⟩])
  (.seq (.seq (.region false [⟨some 9, .call 9 [], none, []⟩,
   ⟨some 10, .un .not (.t 9), none, []⟩])
  (.cond (.t 10) (.seq (.region false [⟨some 4, .mov (.c (.bool false)), none, []⟩])
  (.ret))
  (.skip)))
  (.seq (.seq (.region false [⟨some 11, .mov (.t 0), none, []⟩,
   ⟨some 12, .call 10 [.t 11], none, []⟩,
   ⟨some 13, .un .not (.t 12), none, []⟩,
   ⟨some 14, .mov (.t 13), none, []⟩,
   ⟨some 15, .adr 3 3 0, some (14, false), []⟩,
   ⟨some 16, .adr 15 3 1, some (14, false), []⟩,
   ⟨some 17, .ld 16 3 1 true, some (14, false), []⟩,
   ⟨some 18, .len (.t 17), some (14, false), []⟩,
   ⟨some 19, .bin .gtr (.t 18) (.c (.int .i64 20)), some (14, false), []⟩,
   ⟨some 20, .pick (.t 14) (.c (.bool true)) (.t 19), none, []⟩])
  (.cond (.t 20) (.seq (.region false [⟨some 21, .call 9 [], none, []⟩,
   ⟨some 4, .mov (.t 21), none, []⟩])
  (.ret))
  (.skip)))
  (.seq (.region false [⟨some 23, .mov (.t 0), none, []⟩,
   ⟨some 24, .ld 3 3 3 false, none, []⟩,
   ⟨some 25, .call 25 [.t 23, .t 24], none, []⟩,
   ⟨some 22, .mov (.t 25), none, []⟩,
   ⟨some 26, .ext (.t 22) 0, none, []⟩,
   ⟨some 27, .ext (.t 22) 1, none, []⟩,
   ⟨some 5, .mov (.t 26), none, []⟩,
   ⟨some 6, .mov (.t 27), none, []⟩])
  (.seq (.region false [⟨some 29, .mov (.t 0), none, []⟩,
   ⟨some 30, .ld 3 3 3 false, none, []⟩,
   ⟨some 31, .call 26 [.t 29, .t 30], none, []⟩,
   ⟨some 28, .mov (.t 31), none, []⟩,
   ⟨some 32, .ext (.t 28) 0, none, []⟩,
   ⟨some 33, .ext (.t 28) 1, none, []⟩,
   ⟨some 7, .mov (.t 32), none, []⟩,
   ⟨some 8, .mov (.t 33), none, []⟩])
  (.seq (.region false [⟨some 34, .mov (.t 5), none, []⟩,
   ⟨some 35, .mov (.t 7), none, []⟩,
   ⟨some 36, .bin .eql (.t 34) (.t 35), none, []⟩,
   ⟨some 37, .mov (.t 36), none, []⟩,
   ⟨some 38, .mov (.t 6), some (37, true), []⟩,
   ⟨some 39, .mov (.t 8), some (37, true), []⟩,
   ⟨some 40, .bin .eql (.t 38) (.t 39), some (37, true), []⟩,
   ⟨some 41, .pick (.t 37) (.t 40) (.c (.bool false)), none, []⟩,
   ⟨some 4, .mov (.t 41), none, []⟩])
  (.ret))))))⟩
def Try.r6 : List (Nat × Nat) := [(15, 3), (16, 3)]
theorem Try.i6_ok : fnOk Try.prog Try.r6 Try.f6 Try.i6 = true := by kernel_rfl

/- pinball/pinballlaw02.PolyExact -/
def Try.i7 : IFunc := ⟨2, 165, [.tmp 4],
  .seq (.region false [⟨some 4, .mov (.c (.bool false)), none, []⟩])
  (.seq (.seq (.region false [⟨some 30, .call 9 [], none, []⟩,
   ⟨some 31, .un .not (.t 30), none, []⟩])
  (.cond (.t 31) (.seq (.region false [⟨some 4, .mov (.c (.bool false)), none, []⟩])
  (.ret))
  (.skip)))
  (.seq (.seq (.region false [⟨some 32, .mov (.t 0), none, []⟩,
   ⟨some 33, .call 10 [.t 32], none, []⟩,
   ⟨some 34, .un .not (.t 33), none, []⟩,
   ⟨some 35, .mov (.t 34), none, []⟩,
   ⟨some 36, .mov (.t 1), some (35, false), []⟩,
   ⟨some 37, .call 10 [.t 36], some (35, false), []⟩,
   ⟨some 38, .un .not (.t 37), some (35, false), []⟩,
   ⟨some 39, .pick (.t 35) (.c (.bool true)) (.t 38), none, []⟩])
  (.cond (.t 39) (.seq (.region false [⟨some 40, .call 9 [], none, []⟩,
   ⟨some 4, .mov (.t 40), none, []⟩])
  (.ret))
  (.skip)))
  (.seq (.region false [⟨some 42, .mov (.t 0), none, []⟩,
   ⟨some 43, .mov (.t 1), none, []⟩,
   ⟨some 44, .call 27 [.t 42, .t 43], none, []⟩,
   ⟨some 41, .mov (.t 44), none, []⟩,
   ⟨some 45, .ext (.t 41) 0, none, []⟩,
   ⟨some 46, .ext (.t 41) 1, none, []⟩,
   ⟨some 5, .mov (.t 45), none, []⟩,
   ⟨some 6, .mov (.t 46), none, []⟩])
  (.seq (.region false [⟨some 48, .mov (.t 0), none, []⟩,
   ⟨some 49, .mov (.t 1), none, []⟩,
   ⟨some 50, .call 28 [.t 48, .t 49], none, []⟩,
   ⟨some 47, .mov (.t 50), none, []⟩,
   ⟨some 51, .ext (.t 47) 0, none, []⟩,
   ⟨some 52, .ext (.t 47) 1, none, []⟩,
   ⟨some 7, .mov (.t 51), none, []⟩,
   ⟨some 8, .mov (.t 52), none, []⟩])
  (.seq (.region false [⟨some 54, .mov (.t 0), none, []⟩,
   ⟨some 55, .mov (.t 1), none, []⟩,
   ⟨some 56, .call 20 [.t 54, .t 55], none, []⟩,
   ⟨some 53, .mov (.t 56), none, []⟩,
   ⟨some 57, .ext (.t 53) 0, none, []⟩,
   ⟨some 58, .ext (.t 53) 1, none, []⟩,
   ⟨some 9, .mov (.t 57), none, []⟩,
   ⟨some 10, .mov (.t 58), none, []⟩])
  (.seq (.region false [⟨some 60, .mov (.t 0), none, []⟩,
   ⟨some 61, .call 23 [.t 60], none, []⟩,
   ⟨some 59, .mov (.t 61), none, []⟩,
   ⟨some 62, .ext (.t 59) 0, none, []⟩,
   ⟨some 63, .ext (.t 59) 1, none, []⟩,
   ⟨some 11, .mov (.t 62), none, []⟩,
   ⟨some 12, .mov (.t 63), none, []⟩])
  (.seq (.region false [⟨some 65, .mov (.t 0), none, []⟩,
   ⟨some 66, .call 29 [.t 65], none, []⟩,
   ⟨some 64, .mov (.t 66), none, []⟩,
   ⟨some 67, .ext (.t 64) 0, none, []⟩,
   ⟨some 68, .ext (.t 64) 1, none, []⟩,
   ⟨some 13, .new [.bool false, .sl 0 []] [], none, []⟩,
   ⟨none, .st 13 13 2 (.t 67), none, []⟩,
   ⟨some 14, .mov (.t 68), none, []⟩])
  (.seq (.region false [⟨some 70, .mov (.t 0), none, []⟩,
   ⟨some 71, .call 30 [.t 70], none, []⟩,
   ⟨some 69, .mov (.t 71), none, []⟩,
   ⟨some 72, .ext (.t 69) 0, none, []⟩,
   ⟨some 73, .ext (.t 69) 1, none, []⟩,
   ⟨some 15, .mov (.t 72), none, []⟩,
   ⟨some 16, .mov (.t 73), none, []⟩])
  (.seq (.region false [⟨some 75, .mov (.t 0), none, []⟩,
   ⟨some 76, .mov (.t 1), none, []⟩,
   ⟨some 77, .call 31 [.t 75, .t 76], none, []⟩,
   ⟨some 74, .mov (.t 77), none, []⟩,
   ⟨some 78, .ext (.t 74) 0, none, []⟩,
   ⟨some 79, .ext (.t 74) 1, none, []⟩,
   ⟨some 17, .mov (.t 78), none, []⟩,
   ⟨some 18, .mov (.t 79), none, []⟩])
  (.seq (.region false [⟨some 81, .mov (.t 0), none, []⟩,
   ⟨some 82, .mov (.t 1), none, []⟩,
   ⟨some 83, .call 32 [.t 81, .t 82], none, []⟩,
   ⟨some 80, .mov (.t 83), none, []⟩,
   ⟨some 84, .ext (.t 80) 0, none, []⟩,
   ⟨some 85, .ext (.t 80) 1, none, []⟩,
   ⟨some 19, .mov (.t 84), none, []⟩,
   ⟨some 20, .mov (.t 85), none, []⟩])
  (.seq (.region false [⟨some 87, .mov (.t 0), none, []⟩,
   ⟨some 88, .mov (.t 1), none, []⟩,
   ⟨some 89, .call 33 [.t 87, .t 88], none, []⟩,
   ⟨some 86, .mov (.t 89), none, []⟩,
   ⟨some 90, .ext (.t 86) 0, none, []⟩,
   ⟨some 91, .ext (.t 86) 1, none, []⟩,
   ⟨some 21, .mov (.t 90), none, []⟩,
   ⟨some 22, .mov (.t 91), none, []⟩])
  (.seq (.region false [⟨some 93, .mov (.t 0), none, []⟩,
   ⟨some 94, .call 34 [.t 93], none, []⟩,
   ⟨some 92, .mov (.t 94), none, []⟩,
   ⟨some 95, .ext (.t 92) 0, none, []⟩,
   ⟨some 96, .ext (.t 92) 1, none, []⟩,
   ⟨some 23, .mov (.t 95), none, []⟩,
   ⟨some 24, .mov (.t 96), none, []⟩])
  (.seq (.region false [⟨some 98, .mov (.t 0), none, []⟩,
   ⟨some 99, .call 35 [.t 98], none, []⟩,
   ⟨some 97, .mov (.t 99), none, []⟩,
   ⟨some 100, .ext (.t 97) 0, none, []⟩,
   ⟨some 101, .ext (.t 97) 1, none, []⟩,
   ⟨some 25, .new [.bool false, .sl 0 []] [], none, []⟩,
   ⟨none, .st 25 25 2 (.t 100), none, []⟩,
   ⟨some 26, .mov (.t 101), none, []⟩])
  (.seq (.region false [⟨some 103, .mov (.t 0), none, []⟩,
   ⟨some 104, .call 36 [.t 103], none, []⟩,
   ⟨some 102, .mov (.t 104), none, []⟩,
   ⟨some 105, .ext (.t 102) 0, none, []⟩,
   ⟨some 106, .ext (.t 102) 1, none, []⟩,
   ⟨some 27, .mov (.t 105), none, []⟩,
   ⟨some 28, .mov (.t 106), none, []⟩])
  (.seq (.region false [⟨some 107, .mov (.t 5), none, []⟩,
   ⟨some 108, .mov (.t 6), none, []⟩,
   ⟨some 109, .mov (.t 17), none, []⟩,
   ⟨some 110, .mov (.t 18), none, []⟩,
   ⟨some 111, .call 17 [.t 107, .t 108, .t 109, .t 110], none, []⟩,
   ⟨some 112, .mov (.t 111), none, []⟩,
   ⟨some 113, .mov (.t 7), some (112, true), []⟩,
   ⟨some 114, .mov (.t 8), some (112, true), []⟩,
   ⟨some 115, .mov (.t 19), some (112, true), []⟩,
   ⟨some 116, .mov (.t 20), some (112, true), []⟩,
   ⟨some 117, .call 17 [.t 113, .t 114, .t 115, .t 116], some (112, true), []⟩,
   ⟨some 118, .pick (.t 112) (.t 117) (.c (.bool false)), none, []⟩,
   ⟨some 119, .mov (.t 118), none, []⟩,
   ⟨some 120, .mov (.t 9), some (119, true), []⟩,
   ⟨some 121, .mov (.t 10), some (119, true), []⟩,
   ⟨some 122, .mov (.t 21), some (119, true), []⟩,
   ⟨some 123, .mov (.t 22), some (119, true), []⟩,
   ⟨some 124, .call 17 [.t 120, .t 121, .t 122, .t 123], some (119, true), []⟩,
   ⟨some 125, .pick (.t 119) (.t 124) (.c (.bool false)), none, []⟩,
   ⟨some 126, .mov (.t 125), none, []⟩,
   ⟨some 127, .mov (.t 11), some (126, true), []⟩,
   ⟨some 128, .mov (.t 12), some (126, true), []⟩,
   ⟨some 129, .mov (.t 23), some (126, true), []⟩,
   ⟨some 130, .mov (.t 24), some (126, true), []⟩,
   ⟨some 131, .call 17 [.t 127, .t 128, .t 129, .t 130], some (126, true), []⟩,
   ⟨some 132, .pick (.t 126) (.t 131) (.c (.bool false)), none, []⟩,
   ⟨some 133, .mov (.t 132), none, []⟩,
   ⟨some 134, .mov (.t 15), some (133, true), []⟩,
   ⟨some 135, .mov (.t 16), some (133, true), []⟩,
   ⟨some 136, .mov (.t 27), some (133, true), []⟩,
   ⟨some 137, .mov (.t 28), some (133, true), []⟩,
   ⟨some 138, .call 17 [.t 134, .t 135, .t 136, .t 137], some (133, true), []⟩,
   ⟨some 139, .pick (.t 133) (.t 138) (.c (.bool false)), none, []⟩,
   ⟨some 140, .mov (.t 139), none, []⟩,
   ⟨some 141, .mov (.t 14), some (140, true), []⟩,
   ⟨some 142, .mov (.t 26), some (140, true), []⟩,
   ⟨some 143, .bin .eql (.t 141) (.t 142), some (140, true), []⟩,
   ⟨some 144, .pick (.t 140) (.t 143) (.c (.bool false)), none, []⟩,
   ⟨some 145, .mov (.t 144), none, []⟩,
   ⟨some 146, .ld 13 13 2 false, some (145, true), []⟩,
   ⟨some 147, .ld 25 25 2 false, some (145, true), []⟩,
   ⟨some 148, .call 37 [.t 146, .t 147], some (145, true), []⟩,
   ⟨some 149, .pick (.t 145) (.t 148) (.c (.bool false)), none, []⟩,
   ⟨some 29, .mov (.t 149), none, []⟩])
  (.seq (.region false [⟨some 150, .mov (.t 29), none, []⟩,
   ⟨some 151, .mov (.t 150), none, []⟩,
   ⟨some 152, .mov (.t 0), some (151, true), []⟩,
   ⟨some 153, .call 38 [.t 152], some (151, true), []⟩,
   ⟨some 154, .mov (.t 0), some (151, true), []⟩,
   ⟨some 155, .call 39 [.t 154], some (151, true), []⟩,
   ⟨some 156, .call 24 [.t 153, .t 155], some (151, true), []⟩,
   ⟨some 157, .pick (.t 151) (.t 156) (.c (.bool false)), none, []⟩,
   ⟨some 158, .mov (.t 157), none, []⟩,
   ⟨some 159, .mov (.t 0), some (158, true), []⟩,
   ⟨some 160, .call 19 [.t 159], some (158, true), []⟩,
   ⟨some 161, .mov (.t 0), some (158, true), []⟩,
   ⟨some 162, .call 40 [.t 161], some (158, true), []⟩,
   ⟨some 163, .bin .eql (.t 160) (.t 162), some (158, true), []⟩,
   ⟨some 164, .pick (.t 158) (.t 163) (.c (.bool false)), none, []⟩,
   ⟨some 4, .mov (.t 164), none, []⟩])
  (.ret)))))))))))))))))⟩
def Try.r7 : List (Nat × Nat) := []
theorem Try.i7_ok : fnOk Try.prog Try.r7 Try.f7 Try.i7 = true := by kernel_rfl

/- pinball/pinballlaw02.PolyLimits -/
def Try.i8 : IFunc := ⟨1, 129, [.tmp 2],
  .seq (.region false [⟨some 2, .mov (.c (.bool false)), none, []⟩])
  (.seq (.seq (.region false [⟨some 23, .call 9 [], none, []⟩,
   ⟨some 24, .un .not (.t 23), none, []⟩])
  (.cond (.t 24) (.seq (.region false [⟨some 2, .mov (.c (.bool false)), none, []⟩])
  (.ret))
  (.skip)))
  (.seq (.region false [⟨some 25, .mov (.t 0), none, []⟩,
   ⟨some 26, .call 41 [.t 25, .c (.int .i64 4)], none, []⟩,
   ⟨some 27, .bin .add (.t 26) (.c (.int .i64 16)), none, []⟩,
   ⟨some 28, .bin .sub (.t 27) (.c (.int .i64 1)), none, []⟩,
   ⟨some 3, .mov (.t 28), none, []⟩])
  (.seq (.region false [⟨some 29, .mov (.t 3), none, []⟩,
   ⟨some 30, .bin .add (.t 29) (.c (.int .i64 1)), none, []⟩,
   ⟨some 31, .mks [.bool false, .sl 0 []] (.t 30), none, []⟩,
   ⟨some 4, .tra 31, none, [37, 40]⟩])
  (.seq (.seq (.region false [⟨some 5, .mov (.c (.int .i64 0)), none, []⟩])
  (.block 0 (.loop (.seq (.seq (.region false [⟨some 32, .mov (.t 5), none, []⟩,
   ⟨some 33, .mov (.t 3), none, []⟩,
   ⟨some 34, .bin .leq (.t 32) (.t 33), none, []⟩])
  (.cond (.t 34) (.skip)
  (.exit 0)))
  (.seq (.block 1 (.region false [⟨some 37, .cpy 4, none, []⟩,
   ⟨some 38, .mov (.t 5), none, []⟩,
   ⟨some 39, .call 42 [.c (.int .i64 1)], none, []⟩,
   ⟨some 40, .ixo 37 4 (.t 38) 2, none, []⟩,
   ⟨none, .st 40 4 2 (.t 39), none, []⟩]))
  (.region false [⟨some 35, .mov (.t 5), none, []⟩,
   ⟨some 36, .bin .add (.t 35) (.c (.int .i64 1)), none, []⟩,
   ⟨some 5, .mov (.t 36), none, []⟩]))))))
  (.seq (.region false [⟨some 6, .mov (.c (.int .i64 0)), none, []⟩,
   ⟨some 7, .mov (.c (.int .i64 0)), none, []⟩])
  (.seq (.seq (.region false [⟨some 41, .mov (.t 3), none, []⟩,
   ⟨some 42, .bin .gtr (.t 41) (.c (.int .i64 16)), none, []⟩])
  (.cond (.t 42) (.region false [⟨some 6, .mov (.c (.int .i64 2)), none, []⟩])
  (.skip)))
  (.seq (.seq (.region false [⟨some 43, .mov (.t 3), none, []⟩,
   ⟨some 44, .bin .geq (.t 43) (.c (.int .i64 16)), none, []⟩])
  (.cond (.t 44) (.region false [⟨some 7, .mov (.c (.int .i64 2)), none, []⟩])
  (.skip)))
  (.seq (.region false [⟨some 46, .frz 4, none, []⟩,
   ⟨some 47, .bls 1 [.int .i64 0] [(0, 1, .c (.int .i64 1))], none, []⟩,
   ⟨some 48, .call 22 [.t 47], none, []⟩,
   ⟨some 49, .call 27 [.t 46, .t 48], none, []⟩,
   ⟨some 45, .mov (.t 49), none, []⟩,
   ⟨some 50, .ext (.t 45) 0, none, []⟩,
   ⟨some 51, .ext (.t 45) 1, none, []⟩,
   ⟨some 8, .mov (.t 50), none, []⟩,
   ⟨some 9, .mov (.t 51), none, []⟩])
  (.seq (.region false [⟨some 53, .frz 4, none, []⟩,
   ⟨some 54, .bls 2 [.int .i64 0, .int .i64 0] [(0, 1, .c (.int .i64 0)), (1, 1, .c (.int .i64 1))], none, []⟩,
   ⟨some 55, .call 22 [.t 54], none, []⟩,
   ⟨some 56, .call 20 [.t 53, .t 55], none, []⟩,
   ⟨some 52, .mov (.t 56), none, []⟩,
   ⟨some 57, .ext (.t 52) 0, none, []⟩,
   ⟨some 58, .ext (.t 52) 1, none, []⟩,
   ⟨some 10, .mov (.t 57), none, []⟩,
   ⟨some 11, .mov (.t 58), none, []⟩])
  (.seq (.region false [⟨some 60, .frz 4, none, []⟩,
   ⟨some 61, .call 23 [.t 60], none, []⟩,
   ⟨some 59, .mov (.t 61), none, []⟩,
   ⟨some 62, .ext (.t 59) 0, none, []⟩,
   ⟨some 63, .ext (.t 59) 1, none, []⟩,
   ⟨some 12, .mov (.t 62), none, []⟩,
   ⟨some 13, .mov (.t 63), none, []⟩])
  (.seq (.region false [⟨some 65, .frz 4, none, []⟩,
   ⟨some 66, .bld [.bool false, .sl 0 [], .int .i64 0] [], none, []⟩,
   ⟨some 67, .call 25 [.t 65, .t 66], none, []⟩,
   ⟨some 64, .mov (.t 67), none, []⟩,
   ⟨some 68, .ext (.t 64) 0, none, []⟩,
   ⟨some 69, .ext (.t 64) 1, none, []⟩,
   ⟨some 14, .mov (.t 68), none, []⟩,
   ⟨some 15, .mov (.t 69), none, []⟩])
  (.seq (.region false [⟨some 71, .frz 4, none, []⟩,
   ⟨some 72, .call 11 [.t 71, .c (.sl 0 [])], none, []⟩,
   ⟨some 70, .mov (.t 72), none, []⟩,
   ⟨some 73, .ext (.t 70) 0, none, []⟩,
   ⟨some 74, .ext (.t 70) 1, none, []⟩,
   ⟨some 16, .mov (.t 73), none, []⟩,
   ⟨some 17, .mov (.t 74), none, []⟩])
  (.seq (.region false [⟨some 18, .mov (.c (.int .i64 3)), none, []⟩])
  (.seq (.seq (.region false [⟨some 75, .mov (.t 6), none, []⟩,
   ⟨some 76, .bin .neq (.t 75) (.c (.int .i64 0)), none, []⟩])
  (.cond (.t 76) (.region false [⟨some 77, .mov (.t 6), none, []⟩,
   ⟨some 18, .mov (.t 77), none, []⟩])
  (.skip)))
  (.seq (.region false [⟨some 79, .bls 1 [.int .i64 0] [(0, 1, .c (.int .i64 1))], none, []⟩,
   ⟨some 80, .call 22 [.t 79], none, []⟩,
   ⟨some 81, .bld [.bool false, .sl 0 [], .int .i64 0] [(2, 1, .c (.int .i64 (-1)))], none, []⟩,
   ⟨some 82, .call 25 [.t 80, .t 81], none, []⟩,
   ⟨some 78, .mov (.t 82), none, []⟩,
   ⟨some 83, .ext (.t 78) 0, none, []⟩,
   ⟨some 84, .ext (.t 78) 1, none, []⟩,
   ⟨some 19, .mov (.t 83), none, []⟩,
   ⟨some 20, .mov (.t 84), none, []⟩])
  (.seq (.region false [⟨some 86, .bls 1 [.int .i64 0] [(0, 1, .c (.int .i64 1))], none, []⟩,
   ⟨some 87, .call 22 [.t 86], none, []⟩,
   ⟨some 88, .bld [.bool false, .sl 0 [], .int .i64 0] [(2, 1, .c (.int .i64 4097))], none, []⟩,
   ⟨some 89, .call 25 [.t 87, .t 88], none, []⟩,
   ⟨some 85, .mov (.t 89), none, []⟩,
   ⟨some 90, .ext (.t 85) 0, none, []⟩,
   ⟨some 91, .ext (.t 85) 1, none, []⟩,
   ⟨some 21, .mov (.t 90), none, []⟩,
   ⟨some 22, .mov (.t 91), none, []⟩])
  (.seq (.region false [⟨some 92, .mov (.t 9), none, []⟩,
   ⟨some 93, .mov (.t 6), none, []⟩,
   ⟨some 94, .bin .eql (.t 92) (.t 93), none, []⟩,
   ⟨some 95, .mov (.t 94), none, []⟩,
   ⟨some 96, .mov (.t 11), some (95, true), []⟩,
   ⟨some 97, .mov (.t 7), some (95, true), []⟩,
   ⟨some 98, .bin .eql (.t 96) (.t 97), some (95, true), []⟩,
   ⟨some 99, .pick (.t 95) (.t 98) (.c (.bool false)), none, []⟩,
   ⟨some 100, .mov (.t 99), none, []⟩,
   ⟨some 101, .mov (.t 13), some (100, true), []⟩,
   ⟨some 102, .mov (.t 6), some (100, true), []⟩,
   ⟨some 103, .bin .eql (.t 101) (.t 102), some (100, true), []⟩,
   ⟨some 104, .pick (.t 100) (.t 103) (.c (.bool false)), none, []⟩,
   ⟨some 105, .mov (.t 104), none, []⟩,
   ⟨some 106, .mov (.t 15), some (105, true), []⟩,
   ⟨some 107, .mov (.t 6), some (105, true), []⟩,
   ⟨some 108, .bin .eql (.t 106) (.t 107), some (105, true), []⟩,
   ⟨some 109, .pick (.t 105) (.t 108) (.c (.bool false)), none, []⟩,
   ⟨some 110, .mov (.t 109), none, []⟩,
   ⟨some 111, .mov (.t 17), some (110, true), []⟩,
   ⟨some 112, .mov (.t 18), some (110, true), []⟩,
   ⟨some 113, .bin .eql (.t 111) (.t 112), some (110, true), []⟩,
   ⟨some 114, .pick (.t 110) (.t 113) (.c (.bool false)), none, []⟩,
   ⟨some 115, .mov (.t 114), none, []⟩,
   ⟨some 116, .mov (.t 20), some (115, true), []⟩,
   ⟨some 117, .bin .eql (.t 116) (.c (.int .i64 1)), some (115, true), []⟩,
   ⟨some 118, .pick (.t 115) (.t 117) (.c (.bool false)), none, []⟩,
   ⟨some 119, .mov (.t 118), none, []⟩,
   ⟨some 120, .mov (.t 22), some (119, true), []⟩,
   ⟨some 121, .bin .eql (.t 120) (.c (.int .i64 1)), some (119, true), []⟩,
   ⟨some 122, .pick (.t 119) (.t 121) (.c (.bool false)), none, []⟩,
   ⟨some 123, .mov (.t 122), none, []⟩,
   ⟨some 124, .frz 4, some (123, true), []⟩,
   ⟨some 125, .call 19 [.t 124], some (123, true), []⟩,
   ⟨some 126, .mov (.t 3), some (123, true), []⟩,
   ⟨some 127, .bin .eql (.t 125) (.t 126), some (123, true), []⟩,
   ⟨some 128, .pick (.t 123) (.t 127) (.c (.bool false)), none, []⟩,
   ⟨some 2, .mov (.t 128), none, []⟩])
  (.ret))))))))))))))))))⟩
def Try.r8 : List (Nat × Nat) := [(37, 4), (40, 4)]
theorem Try.i8_ok : fnOk Try.prog Try.r8 Try.f8 Try.i8 = true := by kernel_rfl

/- pinball/pinballlaw02.awake -/
def Try.i9 : IFunc := ⟨0, 101, [.tmp 0],
  .seq (.region false [⟨some 0, .mov (.c (.bool false)), none, []⟩])
  (.seq (.region false [⟨some 13, .bls 3 [.int .i64 0, .int .i64 0, .int .i64 0] [(0, 1, .c (.int .i64 0)), (1, 1, .c (.int .i64 0)), (2, 1, .c (.int .i64 1))], none, []⟩,
   ⟨some 14, .call 22 [.t 13], none, []⟩,
   ⟨some 15, .bls 2 [.int .i64 0, .int .i64 0] [(0, 1, .c (.int .i64 (-1))), (1, 1, .c (.int .i64 1))], none, []⟩,
   ⟨some 16, .call 22 [.t 15], none, []⟩,
   ⟨some 17, .call 11 [.t 14, .t 16], none, []⟩,
   ⟨some 12, .mov (.t 17), none, []⟩,
   ⟨some 18, .ext (.t 12) 0, none, []⟩,
   ⟨some 19, .ext (.t 12) 1, none, []⟩,
   ⟨some 1, .mov (.t 18), none, []⟩,
   ⟨some 2, .mov (.t 19), none, []⟩])
  (.seq (.region false [⟨some 21, .bls 3 [.int .i64 0, .int .i64 0, .int .i64 0] [(0, 1, .c (.int .i64 0)), (1, 1, .c (.int .i64 0)), (2, 1, .c (.int .i64 (-1)))], none, []⟩,
   ⟨some 22, .call 22 [.t 21], none, []⟩,
   ⟨some 23, .bls 2 [.int .i64 0, .int .i64 0] [(0, 1, .c (.int .i64 (-1))), (1, 1, .c (.int .i64 2))], none, []⟩,
   ⟨some 24, .call 22 [.t 23], none, []⟩,
   ⟨some 25, .call 11 [.t 22, .t 24], none, []⟩,
   ⟨some 20, .mov (.t 25), none, []⟩,
   ⟨some 26, .ext (.t 20) 0, none, []⟩,
   ⟨some 27, .ext (.t 20) 1, none, []⟩,
   ⟨some 3, .mov (.t 26), none, []⟩,
   ⟨some 4, .mov (.t 27), none, []⟩])
  (.seq (.region false [⟨some 29, .bls 3 [.int .i64 0, .int .i64 0, .int .i64 0] [(0, 1, .c (.int .i64 (-1))), (1, 1, .c (.int .i64 0)), (2, 1, .c (.int .i64 1))], none, []⟩,
   ⟨some 30, .call 22 [.t 29], none, []⟩,
   ⟨some 31, .bls 2 [.int .i64 0, .int .i64 0] [(0, 1, .c (.int .i64 (-2))), (1, 1, .c (.int .i64 2))], none, []⟩,
   ⟨some 32, .call 22 [.t 31], none, []⟩,
   ⟨some 33, .call 12 [.t 30, .t 32], none, []⟩,
   ⟨some 28, .mov (.t 33), none, []⟩,
   ⟨some 34, .ext (.t 28) 0, none, []⟩,
   ⟨some 35, .ext (.t 28) 1, none, []⟩,
   ⟨some 5, .mov (.t 34), none, []⟩,
   ⟨some 6, .mov (.t 35), none, []⟩])
  (.seq (.region false [⟨some 37, .bls 4 [.int .i64 0, .int .i64 0, .int .i64 0, .int .i64 0] [(0, 1, .c (.int .i64 0)), (1, 1, .c (.int .i64 0)), (2, 1, .c (.int .i64 (-4))), (3, 1, .c (.int .i64 4))], none, []⟩,
   ⟨some 38, .call 22 [.t 37], none, []⟩,
   ⟨some 39, .call 13 [.t 38], none, []⟩,
   ⟨some 36, .mov (.t 39), none, []⟩,
   ⟨some 40, .ext (.t 36) 0, none, []⟩,
   ⟨some 41, .ext (.t 36) 1, none, []⟩,
   ⟨some 7, .mov (.t 40), none, []⟩,
   ⟨some 8, .mov (.t 41), none, []⟩])
  (.seq (.region false [⟨some 43, .bls 2 [.int .i64 0, .int .i64 0] [(0, 1, .c (.int .i64 6)), (1, 1, .c (.int .i64 (-4)))], none, []⟩,
   ⟨some 44, .call 22 [.t 43], none, []⟩,
   ⟨some 45, .call 30 [.t 44], none, []⟩,
   ⟨some 42, .mov (.t 45), none, []⟩,
   ⟨some 46, .ext (.t 42) 0, none, []⟩,
   ⟨some 47, .ext (.t 42) 1, none, []⟩,
   ⟨some 9, .mov (.t 46), none, []⟩,
   ⟨some 10, .mov (.t 47), none, []⟩])
  (.seq (.region false [⟨some 48, .mov (.t 2), none, []⟩,
   ⟨some 49, .bin .eql (.t 48) (.c (.int .i64 0)), none, []⟩,
   ⟨some 50, .mov (.t 49), none, []⟩,
   ⟨some 51, .mov (.t 4), some (50, true), []⟩,
   ⟨some 52, .bin .eql (.t 51) (.c (.int .i64 0)), some (50, true), []⟩,
   ⟨some 53, .pick (.t 50) (.t 52) (.c (.bool false)), none, []⟩,
   ⟨some 54, .mov (.t 53), none, []⟩,
   ⟨some 55, .mov (.t 6), some (54, true), []⟩,
   ⟨some 56, .bin .eql (.t 55) (.c (.int .i64 0)), some (54, true), []⟩,
   ⟨some 57, .pick (.t 54) (.t 56) (.c (.bool false)), none, []⟩,
   ⟨some 58, .mov (.t 57), none, []⟩,
   ⟨some 59, .mov (.t 8), some (58, true), []⟩,
   ⟨some 60, .bin .eql (.t 59) (.c (.int .i64 0)), some (58, true), []⟩,
   ⟨some 61, .pick (.t 58) (.t 60) (.c (.bool false)), none, []⟩,
   ⟨some 62, .mov (.t 61), none, []⟩,
   ⟨some 63, .mov (.t 10), some (62, true), []⟩,
   ⟨some 64, .bin .eql (.t 63) (.c (.int .i64 0)), some (62, true), []⟩,
   ⟨some 65, .pick (.t 62) (.t 64) (.c (.bool false)), none, []⟩,
   ⟨some 11, .mov (.t 65), none, []⟩])
  (.seq (.region false [⟨some 66, .mov (.t 11), none, []⟩,
   ⟨some 67, .mov (.t 66), none, []⟩,
   ⟨some 68, .mov (.t 1), some (67, true), []⟩,
   ⟨some 69, .bls 1 [.int .i64 0] [(0, 1, .c (.int .i64 1))], some (67, true), []⟩,
   ⟨some 70, .call 43 [.t 69], some (67, true), []⟩,
   ⟨some 71, .call 24 [.t 68, .t 70], some (67, true), []⟩,
   ⟨some 72, .pick (.t 67) (.t 71) (.c (.bool false)), none, []⟩,
   ⟨some 73, .mov (.t 72), none, []⟩,
   ⟨some 74, .mov (.t 3), some (73, true), []⟩,
   ⟨some 75, .bls 1 [.int .i64 0] [(0, 1, .c (.int .i64 (-1)))], some (73, true), []⟩,
   ⟨some 76, .call 43 [.t 75], some (73, true), []⟩,
   ⟨some 77, .call 24 [.t 74, .t 76], some (73, true), []⟩,
   ⟨some 78, .pick (.t 73) (.t 77) (.c (.bool false)), none, []⟩,
   ⟨some 79, .mov (.t 78), none, []⟩,
   ⟨some 80, .mov (.t 5), some (79, true), []⟩,
   ⟨some 81, .bls 2 [.int .i64 0, .int .i64 0] [(0, 1, .c (.int .i64 (-1))), (1, 1, .c (.int .i64 1))], some (79, true), []⟩,
   ⟨some 82, .call 43 [.t 81], some (79, true), []⟩,
   ⟨some 83, .call 24 [.t 80, .t 82], some (79, true), []⟩,
   ⟨some 84, .pick (.t 79) (.t 83) (.c (.bool false)), none, []⟩,
   ⟨some 85, .mov (.t 84), none, []⟩,
   ⟨some 86, .mov (.t 7), some (85, true), []⟩,
   ⟨some 87, .bls 3 [.int .i64 0, .int .i64 0, .int .i64 0] [(0, 1, .c (.int .i64 0)), (1, 1, .c (.int .i64 (-1))), (2, 1, .c (.int .i64 1))], some (85, true), []⟩,
   ⟨some 88, .call 43 [.t 87], some (85, true), []⟩,
   ⟨some 89, .call 24 [.t 86, .t 88], some (85, true), []⟩,
   ⟨some 90, .pick (.t 85) (.t 89) (.c (.bool false)), none, []⟩,
   ⟨some 91, .mov (.t 90), none, []⟩,
   ⟨some 92, .mov (.t 9), some (91, true), []⟩,
   ⟨some 93, .bls 2 [.int .i64 0, .int .i64 0] [(0, 1, .c (.int .i64 3)), (1, 1, .c (.int .i64 (-2)))], some (91, true), []⟩,
   ⟨some 94, .call 43 [.t 93], some (91, true), []⟩,
   ⟨some 95, .call 24 [.t 92, .t 94], some (91, true), []⟩,
   ⟨some 96, .pick (.t 91) (.t 95) (.c (.bool false)), none, []⟩,
   ⟨some 97, .mov (.t 96), none, []⟩,
   ⟨some 98, .call 19 [.c (.sl 0 [])], some (97, true), []⟩,
   ⟨some 99, .bin .eql (.t 98) (.c (.int .i64 (-1))), some (97, true), []⟩,
   ⟨some 100, .pick (.t 97) (.t 99) (.c (.bool false)), none, []⟩,
   ⟨some 0, .mov (.t 100), none, []⟩])
  (.ret))))))))⟩
def Try.r9 : List (Nat × Nat) := []
theorem Try.i9_ok : fnOk Try.prog Try.r9 Try.f9 Try.i9 = true := by kernel_rfl

/- pinball/pinballlaw02.few -/
def Try.i10 : IFunc := ⟨1, 20, [.tmp 2],
  .seq (.region false [⟨some 2, .mov (.c (.bool false)), none, []⟩])
  (.seq (.seq (.region false [⟨some 4, .mov (.t 0), none, []⟩,
   ⟨some 5, .len (.t 4), none, []⟩,
   ⟨some 6, .bin .gtr (.t 5) (.c (.int .i64 10)), none, []⟩])
  (.cond (.t 6) (.seq (.region false [⟨some 2, .mov (.c (.bool false)), none, []⟩])
  (.ret))
  (.skip)))
  (.seq (.seq (.region false [⟨some 3, .mov (.c (.int .i64 0)), none, []⟩])
  (.block 0 (.loop (.seq (.seq (.region false [⟨some 7, .mov (.t 3), none, []⟩,
   ⟨some 8, .mov (.t 0), none, []⟩,
   ⟨some 9, .len (.t 8), none, []⟩,
   ⟨some 10, .bin .lss (.t 7) (.t 9), none, []⟩])
  (.cond (.t 10) (.skip)
  (.exit 0)))
  (.seq (.block 1 (.seq (.region false [⟨some 13, .mov (.t 0), none, []⟩,
   ⟨some 14, .mov (.t 3), none, []⟩,
   ⟨some 15, .ixa 13 (.t 14) 2, none, []⟩,
   ⟨some 16, .adr 15 20 1, none, []⟩,
   ⟨some 17, .ld 16 16 1 true, none, []⟩,
   ⟨some 18, .len (.t 17), none, []⟩,
   ⟨some 19, .bin .gtr (.t 18) (.c (.int .i64 6)), none, []⟩])
  (.cond (.t 19) (.seq (.region false [⟨some 2, .mov (.c (.bool false)), none, []⟩])
  (.ret))
  (.skip))))
  (.region false [⟨some 11, .mov (.t 3), none, []⟩,
   ⟨some 12, .bin .add (.t 11) (.c (.int .i64 1)), none, []⟩,
   ⟨some 3, .mov (.t 12), none, []⟩]))))))
  (.seq (.region false [⟨some 2, .mov (.c (.bool true)), none, []⟩])
  (.ret))))⟩
def Try.r10 : List (Nat × Nat) := [(16, 20)]
theorem Try.i10_ok : fnOk Try.prog Try.r10 Try.f10 Try.i10 = true := by kernel_rfl

/- pinball/poly.Rem -/
def Try.i11 : IFunc := ⟨2, 19, [.tmp 4, .tmp 5],
  .seq (.region false [⟨some 4, .nlo 2, none, []⟩,
   ⟨some 5, .mov (.c (.int .i64 0)), none, []⟩])
  (.seq (.seq (.region false [⟨some 6, .mov (.t 0), none, []⟩,
   ⟨some 7, .mov (.t 1), none, []⟩,
   ⟨some 8, .bls 2 [.sl 0 [], .sl 0 []] [(0, 1, .t 6), (1, 1, .t 7)], none, []⟩,
   ⟨some 9, .call 44 [.t 8], none, []⟩])
  (.cond (.t 9) (.seq (.region false [⟨some 4, .nlo 2, none, []⟩,
   ⟨some 5, .mov (.c (.int .i64 2)), none, []⟩])
  (.ret))
  (.skip)))
  (.seq (.seq (.region false [⟨some 10, .mov (.t 1), none, []⟩,
   ⟨some 11, .call 45 [.t 10], none, []⟩,
   ⟨some 12, .bin .lss (.t 11) (.c (.int .i64 0)), none, []⟩])
  (.cond (.t 12) (.seq (.region false [⟨some 4, .nlo 2, none, []⟩,
   ⟨some 5, .mov (.c (.int .i64 3)), none, []⟩])
  (.ret))
  (.skip)))
  (.seq (.region false [⟨some 13, .mov (.t 0), none, []⟩,
   ⟨some 14, .mov (.t 1), none, []⟩,
   ⟨some 15, .call 47 [.t 13, .t 14], none, []⟩,
   ⟨some 16, .call 46 [.t 15], none, []⟩,
   ⟨some 17, .ext (.t 16) 0, none, []⟩,
   ⟨some 18, .ext (.t 16) 1, none, []⟩,
   ⟨some 4, .tra 17, none, []⟩,
   ⟨some 5, .mov (.t 18), none, []⟩])
  (.ret))))⟩
def Try.r11 : List (Nat × Nat) := []
theorem Try.i11_ok : fnOk Try.prog Try.r11 Try.f11 Try.i11 = true := by kernel_rfl

/- pinball/poly.Gcd -/
def Try.i12 : IFunc := ⟨2, 16, [.tmp 4, .tmp 5],
  .seq (.region false [⟨some 4, .nlo 2, none, []⟩,
   ⟨some 5, .mov (.c (.int .i64 0)), none, []⟩])
  (.seq (.seq (.region false [⟨some 6, .mov (.t 0), none, []⟩,
   ⟨some 7, .mov (.t 1), none, []⟩,
   ⟨some 8, .bls 2 [.sl 0 [], .sl 0 []] [(0, 1, .t 6), (1, 1, .t 7)], none, []⟩,
   ⟨some 9, .call 44 [.t 8], none, []⟩])
  (.cond (.t 9) (.seq (.region false [⟨some 4, .nlo 2, none, []⟩,
   ⟨some 5, .mov (.c (.int .i64 2)), none, []⟩])
  (.ret))
  (.skip)))
  (.seq (.region false [⟨some 10, .mov (.t 0), none, []⟩,
   ⟨some 11, .mov (.t 1), none, []⟩,
   ⟨some 12, .call 48 [.t 10, .t 11], none, []⟩,
   ⟨some 13, .call 46 [.t 12], none, []⟩,
   ⟨some 14, .ext (.t 13) 0, none, []⟩,
   ⟨some 15, .ext (.t 13) 1, none, []⟩,
   ⟨some 4, .tra 14, none, []⟩,
   ⟨some 5, .mov (.t 15), none, []⟩])
  (.ret)))⟩
def Try.r12 : List (Nat × Nat) := []
theorem Try.i12_ok : fnOk Try.prog Try.r12 Try.f12 Try.i12 = true := by kernel_rfl

/- pinball/poly.Free -/
def Try.i13 : IFunc := ⟨1, 12, [.tmp 2, .tmp 3],
  .seq (.region false [⟨some 2, .nlo 2, none, []⟩,
   ⟨some 3, .mov (.c (.int .i64 0)), none, []⟩])
  (.seq (.seq (.region false [⟨some 4, .mov (.t 0), none, []⟩,
   ⟨some 5, .bls 1 [.sl 0 []] [(0, 1, .t 4)], none, []⟩,
   ⟨some 6, .call 44 [.t 5], none, []⟩])
  (.cond (.t 6) (.seq (.region false [⟨some 2, .nlo 2, none, []⟩,
   ⟨some 3, .mov (.c (.int .i64 2)), none, []⟩])
  (.ret))
  (.skip)))
  (.seq (.region false [⟨some 7, .mov (.t 0), none, []⟩,
   ⟨some 8, .call 49 [.t 7], none, []⟩,
   ⟨some 9, .call 46 [.t 8], none, []⟩,
   ⟨some 10, .ext (.t 9) 0, none, []⟩,
   ⟨some 11, .ext (.t 9) 1, none, []⟩,
   ⟨some 2, .tra 10, none, []⟩,
   ⟨some 3, .mov (.t 11), none, []⟩])
  (.ret)))⟩
def Try.r13 : List (Nat × Nat) := []
theorem Try.i13_ok : fnOk Try.prog Try.r13 Try.f13 Try.i13 = true := by kernel_rfl

/- pinball/pinballref02.Rem -/
def Try.i14 : IFunc := ⟨2, 23, [.tmp 4, .tmp 5],
  .seq (.region false [⟨some 4, .nlo 2, none, []⟩,
   ⟨some 5, .mov (.c (.int .i64 0)), none, []⟩])
  (.seq (.seq (.region false [⟨some 6, .mov (.t 0), none, []⟩,
   ⟨some 7, .call 50 [.t 6], none, []⟩,
   ⟨some 8, .mov (.t 7), none, []⟩,
   ⟨some 9, .mov (.t 1), some (8, false), []⟩,
   ⟨some 10, .call 50 [.t 9], some (8, false), []⟩,
   ⟨some 11, .pick (.t 8) (.c (.bool true)) (.t 10), none, []⟩])
  (.cond (.t 11) (.seq (.region false [⟨some 4, .nlo 2, none, []⟩,
   ⟨some 5, .mov (.c (.int .i64 2)), none, []⟩])
  (.ret))
  (.skip)))
  (.seq (.seq (.region false [⟨some 12, .mov (.t 1), none, []⟩,
   ⟨some 13, .call 40 [.t 12], none, []⟩,
   ⟨some 14, .bin .lss (.t 13) (.c (.int .i64 0)), none, []⟩])
  (.cond (.t 14) (.seq (.region false [⟨some 4, .nlo 2, none, []⟩,
   ⟨some 5, .mov (.c (.int .i64 3)), none, []⟩])
  (.ret))
  (.skip)))
  (.seq (.region false [⟨some 15, .mov (.t 0), none, []⟩,
   ⟨some 16, .mov (.t 1), none, []⟩,
   ⟨some 17, .mov (.t 0), none, []⟩,
   ⟨some 18, .mov (.t 1), none, []⟩,
   ⟨some 19, .call 52 [.t 17, .t 18], none, []⟩,
   ⟨some 20, .call 51 [.t 15, .t 16, .t 19], none, []⟩,
   ⟨some 21, .ext (.t 20) 0, none, []⟩,
   ⟨some 22, .ext (.t 20) 1, none, []⟩,
   ⟨some 4, .tra 21, none, []⟩,
   ⟨some 5, .mov (.t 22), none, []⟩])
  (.ret))))⟩
def Try.r14 : List (Nat × Nat) := []
theorem Try.i14_ok : fnOk Try.prog Try.r14 Try.f14 Try.i14 = true := by kernel_rfl

/- pinball/pinballref02.Gcd -/
def Try.i15 : IFunc := ⟨2, 20, [.tmp 4, .tmp 5],
  .seq (.region false [⟨some 4, .nlo 2, none, []⟩,
   ⟨some 5, .mov (.c (.int .i64 0)), none, []⟩])
  (.seq (.seq (.region false [⟨some 6, .mov (.t 0), none, []⟩,
   ⟨some 7, .call 50 [.t 6], none, []⟩,
   ⟨some 8, .mov (.t 7), none, []⟩,
   ⟨some 9, .mov (.t 1), some (8, false), []⟩,
   ⟨some 10, .call 50 [.t 9], some (8, false), []⟩,
   ⟨some 11, .pick (.t 8) (.c (.bool true)) (.t 10), none, []⟩])
  (.cond (.t 11) (.seq (.region false [⟨some 4, .nlo 2, none, []⟩,
   ⟨some 5, .mov (.c (.int .i64 2)), none, []⟩])
  (.ret))
  (.skip)))
  (.seq (.region false [⟨some 12, .mov (.t 0), none, []⟩,
   ⟨some 13, .mov (.t 1), none, []⟩,
   ⟨some 14, .mov (.t 0), none, []⟩,
   ⟨some 15, .mov (.t 1), none, []⟩,
   ⟨some 16, .call 53 [.t 14, .t 15], none, []⟩,
   ⟨some 17, .call 51 [.t 12, .t 13, .t 16], none, []⟩,
   ⟨some 18, .ext (.t 17) 0, none, []⟩,
   ⟨some 19, .ext (.t 17) 1, none, []⟩,
   ⟨some 4, .tra 18, none, []⟩,
   ⟨some 5, .mov (.t 19), none, []⟩])
  (.ret)))⟩
def Try.r15 : List (Nat × Nat) := []
theorem Try.i15_ok : fnOk Try.prog Try.r15 Try.f15 Try.i15 = true := by kernel_rfl

/- pinball/pinballref02.Free -/
def Try.i16 : IFunc := ⟨1, 13, [.tmp 2, .tmp 3],
  .seq (.region false [⟨some 2, .nlo 2, none, []⟩,
   ⟨some 3, .mov (.c (.int .i64 0)), none, []⟩])
  (.seq (.seq (.region false [⟨some 4, .mov (.t 0), none, []⟩,
   ⟨some 5, .call 50 [.t 4], none, []⟩])
  (.cond (.t 5) (.seq (.region false [⟨some 2, .nlo 2, none, []⟩,
   ⟨some 3, .mov (.c (.int .i64 2)), none, []⟩])
  (.ret))
  (.skip)))
  (.seq (.region false [⟨some 6, .mov (.t 0), none, []⟩,
   ⟨some 7, .mov (.t 0), none, []⟩,
   ⟨some 8, .mov (.t 0), none, []⟩,
   ⟨some 9, .call 54 [.t 8], none, []⟩,
   ⟨some 10, .call 51 [.t 6, .t 7, .t 9], none, []⟩,
   ⟨some 11, .ext (.t 10) 0, none, []⟩,
   ⟨some 12, .ext (.t 10) 1, none, []⟩,
   ⟨some 2, .tra 11, none, []⟩,
   ⟨some 3, .mov (.t 12), none, []⟩])
  (.ret)))⟩
def Try.r16 : List (Nat × Nat) := []
theorem Try.i16_ok : fnOk Try.prog Try.r16 Try.f16 Try.i16 = true := by kernel_rfl

/- pinball/pinballlaw02.same -/
def Try.i17 : IFunc := ⟨4, 17, [.tmp 8],
  .seq (.region false [⟨some 8, .mov (.c (.bool false)), none, []⟩])
  (.seq (.region false [⟨some 9, .mov (.t 1), none, []⟩,
   ⟨some 10, .mov (.t 3), none, []⟩,
   ⟨some 11, .bin .eql (.t 9) (.t 10), none, []⟩,
   ⟨some 12, .mov (.t 11), none, []⟩,
   ⟨some 13, .mov (.t 0), some (12, true), []⟩,
   ⟨some 14, .mov (.t 2), some (12, true), []⟩,
   ⟨some 15, .call 24 [.t 13, .t 14], some (12, true), []⟩,
   ⟨some 16, .pick (.t 12) (.t 15) (.c (.bool false)), none, []⟩,
   ⟨some 8, .mov (.t 16), none, []⟩])
  (.ret))⟩
def Try.r17 : List (Nat × Nat) := []
theorem Try.i17_ok : fnOk Try.prog Try.r17 Try.f17 Try.i17 = true := by kernel_rfl

/- pinball/pinballlaw02.short -/
def Try.i18 : IFunc := ⟨1, 17, [.tmp 2],
  .seq (.region false [⟨some 2, .mov (.c (.bool false)), none, []⟩])
  (.seq (.seq (.region false [⟨some 3, .mov (.c (.int .i64 0)), none, []⟩])
  (.block 0 (.loop (.seq (.seq (.region false [⟨some 4, .mov (.t 3), none, []⟩,
   ⟨some 5, .mov (.t 0), none, []⟩,
   ⟨some 6, .len (.t 5), none, []⟩,
   ⟨some 7, .bin .lss (.t 4) (.t 6), none, []⟩])
  (.cond (.t 7) (.skip)
  (.exit 0)))
  (.seq (.block 1 (.seq (.region false [⟨some 10, .mov (.t 0), none, []⟩,
   ⟨some 11, .mov (.t 3), none, []⟩,
   ⟨some 12, .ixa 10 (.t 11) 2, none, []⟩,
   ⟨some 13, .adr 12 17 1, none, []⟩,
   ⟨some 14, .ld 13 13 1 true, none, []⟩,
   ⟨some 15, .len (.t 14), none, []⟩,
   ⟨some 16, .bin .gtr (.t 15) (.c (.int .i64 3)), none, []⟩])
  (.cond (.t 16) (.seq (.region false [⟨some 2, .mov (.c (.bool false)), none, []⟩])
  (.ret))
  (.skip))))
  (.region false [⟨some 8, .mov (.t 3), none, []⟩,
   ⟨some 9, .bin .add (.t 8) (.c (.int .i64 1)), none, []⟩,
   ⟨some 3, .mov (.t 9), none, []⟩]))))))
  (.seq (.region false [⟨some 2, .mov (.c (.bool true)), none, []⟩])
  (.ret)))⟩
def Try.r18 : List (Nat × Nat) := [(13, 17)]
theorem Try.i18_ok : fnOk Try.prog Try.r18 Try.f18 Try.i18 = true := by kernel_rfl

/- pinball/poly.Degree -/
def Try.i19 : IFunc := ⟨1, 5, [.tmp 2],
  .seq (.region false [⟨some 2, .mov (.c (.int .i64 0)), none, []⟩])
  (.seq (.region false [⟨some 3, .mov (.t 0), none, []⟩,
   ⟨some 4, .call 45 [.t 3], none, []⟩,
   ⟨some 2, .mov (.t 4), none, []⟩])
  (.ret))⟩
def Try.r19 : List (Nat × Nat) := []
theorem Try.i19_ok : fnOk Try.prog Try.r19 Try.f19 Try.i19 = true := by kernel_rfl

/- pinball/poly.Mul -/
def Try.i20 : IFunc := ⟨2, 16, [.tmp 4, .tmp 5],
  .seq (.region false [⟨some 4, .nlo 2, none, []⟩,
   ⟨some 5, .mov (.c (.int .i64 0)), none, []⟩])
  (.seq (.seq (.region false [⟨some 6, .mov (.t 0), none, []⟩,
   ⟨some 7, .mov (.t 1), none, []⟩,
   ⟨some 8, .bls 2 [.sl 0 [], .sl 0 []] [(0, 1, .t 6), (1, 1, .t 7)], none, []⟩,
   ⟨some 9, .call 44 [.t 8], none, []⟩])
  (.cond (.t 9) (.seq (.region false [⟨some 4, .nlo 2, none, []⟩,
   ⟨some 5, .mov (.c (.int .i64 2)), none, []⟩])
  (.ret))
  (.skip)))
  (.seq (.region false [⟨some 10, .mov (.t 0), none, []⟩,
   ⟨some 11, .mov (.t 1), none, []⟩,
   ⟨some 12, .call 55 [.t 10, .t 11], none, []⟩,
   ⟨some 13, .call 46 [.t 12], none, []⟩,
   ⟨some 14, .ext (.t 13) 0, none, []⟩,
   ⟨some 15, .ext (.t 13) 1, none, []⟩,
   ⟨some 4, .tra 14, none, []⟩,
   ⟨some 5, .mov (.t 15), none, []⟩])
  (.ret)))⟩
def Try.r20 : List (Nat × Nat) := []
theorem Try.i20_ok : fnOk Try.prog Try.r20 Try.f20 Try.i20 = true := by kernel_rfl

/- pinball/integer.Sign -/
def Try.i21 : IFunc := ⟨1, 5, [.tmp 2],
  .seq (.region false [⟨some 1, .box (.t 0) [], none, []⟩,
   ⟨some 2, .mov (.c (.int .i64 0)), none, []⟩])
  (.seq (.region false [⟨some 3, .ld 1 1 2 false, none, []⟩,
   ⟨some 4, .call 56 [.t 3], none, []⟩,
   ⟨some 2, .mov (.t 4), none, []⟩])
  (.ret))⟩
def Try.r21 : List (Nat × Nat) := []
theorem Try.i21_ok : fnOk Try.prog Try.r21 Try.f21 Try.i21 = true := by kernel_rfl

/- pinball/poly.Of -/
def Try.i22 : IFunc := ⟨1, 5, [.tmp 2],
  .seq (.region false [⟨some 2, .nlo 2, none, []⟩])
  (.seq (.region false [⟨some 3, .mov (.t 0), none, []⟩,
   ⟨some 4, .clo 57 [.t 3], none, []⟩,
   ⟨some 2, .tra 4, none, []⟩])
  (.ret))⟩
def Try.r22 : List (Nat × Nat) := []
theorem Try.i22_ok : fnOk Try.prog Try.r22 Try.f22 Try.i22 = true := by kernel_rfl

/- pinball/poly.Derive -/
def Try.i23 : IFunc := ⟨1, 12, [.tmp 2, .tmp 3],
  .seq (.region false [⟨some 2, .nlo 2, none, []⟩,
   ⟨some 3, .mov (.c (.int .i64 0)), none, []⟩])
  (.seq (.seq (.region false [⟨some 4, .mov (.t 0), none, []⟩,
   ⟨some 5, .bls 1 [.sl 0 []] [(0, 1, .t 4)], none, []⟩,
   ⟨some 6, .call 44 [.t 5], none, []⟩])
  (.cond (.t 6) (.seq (.region false [⟨some 2, .nlo 2, none, []⟩,
   ⟨some 3, .mov (.c (.int .i64 2)), none, []⟩])
  (.ret))
  (.skip)))
  (.seq (.region false [⟨some 7, .mov (.t 0), none, []⟩,
   ⟨some 8, .call 58 [.t 7], none, []⟩,
   ⟨some 9, .call 46 [.t 8], none, []⟩,
   ⟨some 10, .ext (.t 9) 0, none, []⟩,
   ⟨some 11, .ext (.t 9) 1, none, []⟩,
   ⟨some 2, .tra 10, none, []⟩,
   ⟨some 3, .mov (.t 11), none, []⟩])
  (.ret)))⟩
def Try.r23 : List (Nat × Nat) := []
theorem Try.i23_ok : fnOk Try.prog Try.r23 Try.f23 Try.i23 = true := by kernel_rfl

/- pinball/pinballref02.Same -/
def Try.i24 : IFunc := ⟨2, 27, [.tmp 4],
  .seq (.region false [⟨some 4, .mov (.c (.bool false)), none, []⟩])
  (.seq (.seq (.region false [⟨some 6, .mov (.t 0), none, []⟩,
   ⟨some 7, .len (.t 6), none, []⟩,
   ⟨some 8, .mov (.t 1), none, []⟩,
   ⟨some 9, .len (.t 8), none, []⟩,
   ⟨some 10, .bin .neq (.t 7) (.t 9), none, []⟩])
  (.cond (.t 10) (.seq (.region false [⟨some 4, .mov (.c (.bool false)), none, []⟩])
  (.ret))
  (.skip)))
  (.seq (.seq (.region false [⟨some 5, .mov (.c (.int .i64 0)), none, []⟩])
  (.block 0 (.loop (.seq (.seq (.region false [⟨some 11, .mov (.t 5), none, []⟩,
   ⟨some 12, .mov (.t 0), none, []⟩,
   ⟨some 13, .len (.t 12), none, []⟩,
   ⟨some 14, .bin .lss (.t 11) (.t 13), none, []⟩])
  (.cond (.t 14) (.skip)
  (.exit 0)))
  (.seq (.block 1 (.seq (.region true [⟨some 17, .mov (.t 0), none, []⟩,
   ⟨some 18, .mov (.t 5), none, []⟩,
   ⟨some 19, .ixa 17 (.t 18) 2, none, []⟩,
   ⟨some 20, .ld 19 19 2 false, none, []⟩,
   ⟨some 21, .mov (.t 1), none, []⟩,
   ⟨some 22, .mov (.t 5), none, []⟩,
   ⟨some 23, .ixa 21 (.t 22) 2, none, []⟩,
   ⟨some 24, .ld 23 23 2 false, none, []⟩,
   ⟨some 25, .call 37 [.t 20, .t 24], none, []⟩,
   ⟨some 26, .un .not (.t 25), none, []⟩])
  (.cond (.t 26) (.seq (.region false [⟨some 4, .mov (.c (.bool false)), none, []⟩])
  (.ret))
  (.skip))))
  (.region false [⟨some 15, .mov (.t 5), none, []⟩,
   ⟨some 16, .bin .add (.t 15) (.c (.int .i64 1)), none, []⟩,
   ⟨some 5, .mov (.t 16), none, []⟩]))))))
  (.seq (.region false [⟨some 4, .mov (.c (.bool true)), none, []⟩])
  (.ret))))⟩
def Try.r24 : List (Nat × Nat) := []
theorem Try.i24_ok : fnOk Try.prog Try.r24 Try.f24 Try.i24 = true := by kernel_rfl

/- pinball/poly.Sign -/
def Try.i25 : IFunc := ⟨2, 48, [.tmp 4, .tmp 5],
  .seq (.region false [⟨some 3, .box (.t 1) [14, 20, 24, 32, 35], none, []⟩,
   ⟨some 4, .mov (.c (.int .i64 0)), none, []⟩,
   ⟨some 5, .mov (.c (.int .i64 0)), none, []⟩])
  (.seq (.region false [⟨some 7, .mov (.t 0), none, []⟩,
   ⟨some 8, .call 45 [.t 7], none, []⟩,
   ⟨some 6, .mov (.t 8), none, []⟩])
  (.seq (.block 0 (.seq (.region false [⟨some 10, .mov (.t 0), none, []⟩,
   ⟨some 11, .bls 1 [.sl 0 []] [(0, 1, .t 10)], none, []⟩,
   ⟨some 12, .call 44 [.t 11], none, []⟩,
   ⟨some 13, .mov (.t 12), none, []⟩,
   ⟨some 14, .adr 3 3 0, some (13, false), []⟩,
   ⟨some 15, .ld 14 3 2 false, some (13, false), []⟩,
   ⟨some 16, .call 59 [.t 15], some (13, false), []⟩,
   ⟨some 17, .bin .gtr (.t 16) (.c (.int .i64 256)), some (13, false), []⟩,
   ⟨some 18, .pick (.t 13) (.c (.bool true)) (.t 17), none, []⟩,
   ⟨some 9, .mov (.t 18), none, []⟩])
  (.cond (.t 9) (.seq (.region false [⟨some 4, .mov (.c (.int .i64 0)), none, []⟩,
   ⟨some 5, .mov (.c (.int .i64 2)), none, []⟩])
  (.ret))
  (.seq (.region false [⟨some 20, .adr 3 3 2, none, []⟩,
   ⟨some 21, .ld 20 3 1 true, none, []⟩,
   ⟨some 22, .bin .lss (.t 21) (.c (.int .i64 0)), none, []⟩,
   ⟨some 23, .mov (.t 22), none, []⟩,
   ⟨some 24, .adr 3 3 2, some (23, false), []⟩,
   ⟨some 25, .ld 24 3 1 true, some (23, false), []⟩,
   ⟨some 26, .bin .gtr (.t 25) (.c (.int .i64 4096)), some (23, false), []⟩,
   ⟨some 27, .pick (.t 23) (.c (.bool true)) (.t 26), none, []⟩,
   ⟨some 19, .mov (.t 27), none, []⟩])
  (.cond (.t 19) (.seq (.region false [⟨some 4, .mov (.c (.int .i64 0)), none, []⟩,
   ⟨some 5, .mov (.c (.int .i64 1)), none, []⟩])
  (.ret))
  (.seq (.region true [⟨some 29, .mov (.t 6), none, []⟩,
   ⟨some 30, .bin .gtr (.t 29) (.c (.int .i64 0)), none, []⟩,
   ⟨some 31, .mov (.t 30), none, []⟩,
   ⟨some 32, .adr 3 3 0, some (31, true), []⟩,
   ⟨some 33, .ld 32 3 2 false, some (31, true), []⟩,
   ⟨some 34, .call 60 [.t 33], some (31, true), []⟩,
   ⟨some 35, .adr 3 3 2, some (31, true), []⟩,
   ⟨some 36, .ld 35 3 1 true, some (31, true), []⟩,
   ⟨some 37, .bin .add (.t 34) (.t 36), some (31, true), []⟩,
   ⟨some 38, .mov (.t 6), some (31, true), []⟩,
   ⟨some 39, .bin .mul (.t 37) (.t 38), some (31, true), []⟩,
   ⟨some 40, .bin .gtr (.t 39) (.c (.int .i64 8192)), some (31, true), []⟩,
   ⟨some 41, .pick (.t 31) (.t 40) (.c (.bool false)), none, []⟩,
   ⟨some 28, .mov (.t 41), none, []⟩])
  (.cond (.t 28) (.seq (.region false [⟨some 4, .mov (.c (.int .i64 0)), none, []⟩,
   ⟨some 5, .mov (.c (.int .i64 2)), none, []⟩])
  (.ret))
  (.skip))))))))
  (.seq (.region true [⟨some 42, .mov (.t 0), none, []⟩,
   ⟨some 43, .mov (.t 6), none, []⟩,
   ⟨some 44, .bin .add (.t 43) (.c (.int .i64 1)), none, []⟩,
   ⟨some 45, .sli (.t 42) none (some (.t 44)) none 2, none, []⟩,
   ⟨some 46, .ld 3 3 3 false, none, []⟩,
   ⟨some 47, .call 61 [.t 45, .t 46], none, []⟩,
   ⟨some 4, .mov (.t 47), none, []⟩,
   ⟨some 5, .mov (.c (.int .i64 0)), none, []⟩])
  (.ret))))⟩
def Try.r25 : List (Nat × Nat) := [(14, 3), (20, 3), (24, 3), (32, 3), (35, 3)]
theorem Try.i25_ok : fnOk Try.prog Try.r25 Try.f25 Try.i25 = true := by kernel_rfl

/- pinball/pinballref02.Sign -/
def Try.i26 : IFunc := ⟨2, 44, [.tmp 4, .tmp 5],
  .seq (.region false [⟨some 3, .box (.t 1) [10, 14, 18, 27, 30, 38, 40], none, []⟩,
   ⟨some 4, .mov (.c (.int .i64 0)), none, []⟩,
   ⟨some 5, .mov (.c (.int .i64 0)), none, []⟩])
  (.seq (.seq (.region false [⟨some 7, .mov (.t 0), none, []⟩,
   ⟨some 8, .call 50 [.t 7], none, []⟩,
   ⟨some 9, .mov (.t 8), none, []⟩,
   ⟨some 10, .adr 3 3 0, some (9, false), []⟩,
   ⟨some 11, .ld 10 3 2 false, some (9, false), []⟩,
   ⟨some 12, .call 62 [.t 11], some (9, false), []⟩,
   ⟨some 13, .pick (.t 9) (.c (.bool true)) (.t 12), none, []⟩])
  (.cond (.t 13) (.seq (.region false [⟨some 4, .mov (.c (.int .i64 0)), none, []⟩,
   ⟨some 5, .mov (.c (.int .i64 2)), none, []⟩])
  (.ret))
  (.skip)))
  (.seq (.seq (.region false [⟨some 14, .adr 3 3 2, none, []⟩,
   ⟨some 15, .ld 14 3 1 true, none, []⟩,
   ⟨some 16, .bin .lss (.t 15) (.c (.int .i64 0)), none, []⟩,
   ⟨some 17, .mov (.t 16), none, []⟩,
   ⟨some 18, .adr 3 3 2, some (17, false), []⟩,
   ⟨some 19, .ld 18 3 1 true, some (17, false), []⟩,
   ⟨some 20, .bin .gtr (.t 19) (.c (.int .i64 4096)), some (17, false), []⟩,
   ⟨some 21, .pick (.t 17) (.c (.bool true)) (.t 20), none, []⟩])
  (.cond (.t 21) (.seq (.region false [⟨some 4, .mov (.c (.int .i64 0)), none, []⟩,
   ⟨some 5, .mov (.c (.int .i64 1)), none, []⟩])
  (.ret))
  (.skip)))
  (.seq (.region false [⟨some 22, .mov (.t 0), none, []⟩,
   ⟨some 23, .call 40 [.t 22], none, []⟩,
   ⟨some 6, .mov (.t 23), none, []⟩])
  (.seq (.seq (.region true [⟨some 24, .mov (.t 6), none, []⟩,
   ⟨some 25, .bin .gtr (.t 24) (.c (.int .i64 0)), none, []⟩,
   ⟨some 26, .mov (.t 25), none, []⟩,
   ⟨some 27, .adr 3 3 0, some (26, true), []⟩,
   ⟨some 28, .ld 27 3 2 false, some (26, true), []⟩,
   ⟨some 29, .call 63 [.t 28], some (26, true), []⟩,
   ⟨some 30, .adr 3 3 2, some (26, true), []⟩,
   ⟨some 31, .ld 30 3 1 true, some (26, true), []⟩,
   ⟨some 32, .bin .add (.t 29) (.t 31), some (26, true), []⟩,
   ⟨some 33, .mov (.t 6), some (26, true), []⟩,
   ⟨some 34, .bin .mul (.t 32) (.t 33), some (26, true), []⟩,
   ⟨some 35, .bin .gtr (.t 34) (.c (.int .i64 8192)), some (26, true), []⟩,
   ⟨some 36, .pick (.t 26) (.t 35) (.c (.bool false)), none, []⟩])
  (.cond (.t 36) (.seq (.region false [⟨some 4, .mov (.c (.int .i64 0)), none, []⟩,
   ⟨some 5, .mov (.c (.int .i64 2)), none, []⟩])
  (.ret))
  (.skip)))
  (.seq (.region false [⟨some 37, .mov (.t 0), none, []⟩,
   ⟨some 38, .adr 3 3 0, none, []⟩,
   ⟨some 39, .ld 38 3 2 false, none, []⟩,
   ⟨some 40, .adr 3 3 2, none, []⟩,
   ⟨some 41, .ld 40 3 1 true, none, []⟩,
   ⟨some 42, .call 65 [.t 37, .t 39, .t 41], none, []⟩,
   ⟨some 43, .call 64 [.t 42], none, []⟩,
   ⟨some 4, .mov (.t 43), none, []⟩,
   ⟨some 5, .mov (.c (.int .i64 0)), none, []⟩])
  (.ret))))))⟩
def Try.r26 : List (Nat × Nat) := [(10, 3), (14, 3), (18, 3), (27, 3), (30, 3), (38, 3), (40, 3)]
theorem Try.i26_ok : fnOk Try.prog Try.r26 Try.f26 Try.i26 = true := by kernel_rfl

/- pinball/poly.Add -/
def Try.i27 : IFunc := ⟨2, 16, [.tmp 4, .tmp 5],
  .seq (.region false [⟨some 4, .nlo 2, none, []⟩,
   ⟨some 5, .mov (.c (.int .i64 0)), none, []⟩])
  (.seq (.seq (.region false [⟨some 6, .mov (.t 0), none, []⟩,
   ⟨some 7, .mov (.t 1), none, []⟩,
   ⟨some 8, .bls 2 [.sl 0 [], .sl 0 []] [(0, 1, .t 6), (1, 1, .t 7)], none, []⟩,
   ⟨some 9, .call 44 [.t 8], none, []⟩])
  (.cond (.t 9) (.seq (.region false [⟨some 4, .nlo 2, none, []⟩,
   ⟨some 5, .mov (.c (.int .i64 2)), none, []⟩])
  (.ret))
  (.skip)))
  (.seq (.region false [⟨some 10, .mov (.t 0), none, []⟩,
   ⟨some 11, .mov (.t 1), none, []⟩,
   ⟨some 12, .call 66 [.t 10, .t 11], none, []⟩,
   ⟨some 13, .call 46 [.t 12], none, []⟩,
   ⟨some 14, .ext (.t 13) 0, none, []⟩,
   ⟨some 15, .ext (.t 13) 1, none, []⟩,
   ⟨some 4, .tra 14, none, []⟩,
   ⟨some 5, .mov (.t 15), none, []⟩])
  (.ret)))⟩
def Try.r27 : List (Nat × Nat) := []
theorem Try.i27_ok : fnOk Try.prog Try.r27 Try.f27 Try.i27 = true := by kernel_rfl

/- pinball/poly.Sub -/
def Try.i28 : IFunc := ⟨2, 16, [.tmp 4, .tmp 5],
  .seq (.region false [⟨some 4, .nlo 2, none, []⟩,
   ⟨some 5, .mov (.c (.int .i64 0)), none, []⟩])
  (.seq (.seq (.region false [⟨some 6, .mov (.t 0), none, []⟩,
   ⟨some 7, .mov (.t 1), none, []⟩,
   ⟨some 8, .bls 2 [.sl 0 [], .sl 0 []] [(0, 1, .t 6), (1, 1, .t 7)], none, []⟩,
   ⟨some 9, .call 44 [.t 8], none, []⟩])
  (.cond (.t 9) (.seq (.region false [⟨some 4, .nlo 2, none, []⟩,
   ⟨some 5, .mov (.c (.int .i64 2)), none, []⟩])
  (.ret))
  (.skip)))
  (.seq (.region false [⟨some 10, .mov (.t 0), none, []⟩,
   ⟨some 11, .mov (.t 1), none, []⟩,
   ⟨some 12, .call 67 [.t 10, .t 11], none, []⟩,
   ⟨some 13, .call 46 [.t 12], none, []⟩,
   ⟨some 14, .ext (.t 13) 0, none, []⟩,
   ⟨some 15, .ext (.t 13) 1, none, []⟩,
   ⟨some 4, .tra 14, none, []⟩,
   ⟨some 5, .mov (.t 15), none, []⟩])
  (.ret)))⟩
def Try.r28 : List (Nat × Nat) := []
theorem Try.i28_ok : fnOk Try.prog Try.r28 Try.f28 Try.i28 = true := by kernel_rfl

/- pinball/poly.Content -/
def Try.i29 : IFunc := ⟨1, 14, [.cell 2 2 false, .tmp 3],
  .seq (.region false [⟨some 2, .new [.bool false, .sl 0 []] [], none, []⟩,
   ⟨some 3, .mov (.c (.int .i64 0)), none, []⟩])
  (.seq (.seq (.region false [⟨some 4, .mov (.t 0), none, []⟩,
   ⟨some 5, .bls 1 [.sl 0 []] [(0, 1, .t 4)], none, []⟩,
   ⟨some 6, .call 44 [.t 5], none, []⟩])
  (.cond (.t 6) (.seq (.region false [⟨some 7, .bld [.bool false, .sl 0 []] [], none, []⟩,
   ⟨none, .st 2 2 2 (.t 7), none, []⟩,
   ⟨some 3, .mov (.c (.int .i64 2)), none, []⟩])
  (.ret))
  (.skip)))
  (.seq (.region false [⟨some 8, .mov (.t 0), none, []⟩,
   ⟨some 9, .mov (.t 0), none, []⟩,
   ⟨some 10, .call 45 [.t 9], none, []⟩,
   ⟨some 11, .bin .add (.t 10) (.c (.int .i64 1)), none, []⟩,
   ⟨some 12, .sli (.t 8) none (some (.t 11)) none 2, none, []⟩,
   ⟨some 13, .call 68 [.t 12], none, []⟩,
   ⟨none, .st 2 2 2 (.t 13), none, []⟩,
   ⟨some 3, .mov (.c (.int .i64 0)), none, []⟩])
  (.ret)))⟩
def Try.r29 : List (Nat × Nat) := []
theorem Try.i29_ok : fnOk Try.prog Try.r29 Try.f29 Try.i29 = true := by kernel_rfl

/- pinball/poly.Primitive -/
def Try.i30 : IFunc := ⟨1, 9, [.tmp 2, .tmp 3],
  .seq (.region false [⟨some 2, .nlo 2, none, []⟩,
   ⟨some 3, .mov (.c (.int .i64 0)), none, []⟩])
  (.seq (.seq (.region false [⟨some 4, .mov (.t 0), none, []⟩,
   ⟨some 5, .bls 1 [.sl 0 []] [(0, 1, .t 4)], none, []⟩,
   ⟨some 6, .call 44 [.t 5], none, []⟩])
  (.cond (.t 6) (.seq (.region false [⟨some 2, .nlo 2, none, []⟩,
   ⟨some 3, .mov (.c (.int .i64 2)), none, []⟩])
  (.ret))
  (.skip)))
  (.seq (.region false [⟨some 7, .mov (.t 0), none, []⟩,
   ⟨some 8, .clo 69 [.t 7], none, []⟩,
   ⟨some 2, .tra 8, none, []⟩,
   ⟨some 3, .mov (.c (.int .i64 0)), none, []⟩])
  (.ret)))⟩
def Try.r30 : List (Nat × Nat) := []
theorem Try.i30_ok : fnOk Try.prog Try.r30 Try.f30 Try.i30 = true := by kernel_rfl

/- pinball/pinballref02.Add -/
def Try.i31 : IFunc := ⟨2, 14, [.tmp 4, .tmp 5],
  .seq (.region false [⟨some 4, .nlo 2, none, []⟩,
   ⟨some 5, .mov (.c (.int .i64 0)), none, []⟩])
  (.seq (.region false [⟨some 6, .mov (.t 0), none, []⟩,
   ⟨some 7, .mov (.t 1), none, []⟩,
   ⟨some 8, .mov (.t 0), none, []⟩,
   ⟨some 9, .mov (.t 1), none, []⟩,
   ⟨some 10, .call 70 [.t 8, .t 9], none, []⟩,
   ⟨some 11, .call 51 [.t 6, .t 7, .t 10], none, []⟩,
   ⟨some 12, .ext (.t 11) 0, none, []⟩,
   ⟨some 13, .ext (.t 11) 1, none, []⟩,
   ⟨some 4, .tra 12, none, []⟩,
   ⟨some 5, .mov (.t 13), none, []⟩])
  (.ret))⟩
def Try.r31 : List (Nat × Nat) := []
theorem Try.i31_ok : fnOk Try.prog Try.r31 Try.f31 Try.i31 = true := by kernel_rfl

/- pinball/pinballref02.Sub -/
def Try.i32 : IFunc := ⟨2, 14, [.tmp 4, .tmp 5],
  .seq (.region false [⟨some 4, .nlo 2, none, []⟩,
   ⟨some 5, .mov (.c (.int .i64 0)), none, []⟩])
  (.seq (.region false [⟨some 6, .mov (.t 0), none, []⟩,
   ⟨some 7, .mov (.t 1), none, []⟩,
   ⟨some 8, .mov (.t 0), none, []⟩,
   ⟨some 9, .mov (.t 1), none, []⟩,
   ⟨some 10, .call 71 [.t 8, .t 9], none, []⟩,
   ⟨some 11, .call 51 [.t 6, .t 7, .t 10], none, []⟩,
   ⟨some 12, .ext (.t 11) 0, none, []⟩,
   ⟨some 13, .ext (.t 11) 1, none, []⟩,
   ⟨some 4, .tra 12, none, []⟩,
   ⟨some 5, .mov (.t 13), none, []⟩])
  (.ret))⟩
def Try.r32 : List (Nat × Nat) := []
theorem Try.i32_ok : fnOk Try.prog Try.r32 Try.f32 Try.i32 = true := by kernel_rfl

/- pinball/pinballref02.Mul -/
def Try.i33 : IFunc := ⟨2, 22, [.tmp 4, .tmp 5],
  .seq (.region false [⟨some 4, .nlo 2, none, []⟩,
   ⟨some 5, .mov (.c (.int .i64 0)), none, []⟩])
  (.seq (.seq (.region false [⟨some 6, .mov (.t 0), none, []⟩,
   ⟨some 7, .call 50 [.t 6], none, []⟩,
   ⟨some 8, .mov (.t 7), none, []⟩,
   ⟨some 9, .mov (.t 1), some (8, false), []⟩,
   ⟨some 10, .call 50 [.t 9], some (8, false), []⟩,
   ⟨some 11, .pick (.t 8) (.c (.bool true)) (.t 10), none, []⟩])
  (.cond (.t 11) (.seq (.region false [⟨some 4, .nlo 2, none, []⟩,
   ⟨some 5, .mov (.c (.int .i64 2)), none, []⟩])
  (.ret))
  (.skip)))
  (.seq (.region false [⟨some 12, .mov (.t 0), none, []⟩,
   ⟨some 13, .mov (.t 1), none, []⟩,
   ⟨some 14, .mov (.t 0), none, []⟩,
   ⟨some 15, .call 39 [.t 14], none, []⟩,
   ⟨some 16, .mov (.t 1), none, []⟩,
   ⟨some 17, .call 39 [.t 16], none, []⟩,
   ⟨some 18, .call 72 [.t 15, .t 17], none, []⟩,
   ⟨some 19, .call 51 [.t 12, .t 13, .t 18], none, []⟩,
   ⟨some 20, .ext (.t 19) 0, none, []⟩,
   ⟨some 21, .ext (.t 19) 1, none, []⟩,
   ⟨some 4, .tra 20, none, []⟩,
   ⟨some 5, .mov (.t 21), none, []⟩])
  (.ret)))⟩
def Try.r33 : List (Nat × Nat) := []
theorem Try.i33_ok : fnOk Try.prog Try.r33 Try.f33 Try.i33 = true := by kernel_rfl

/- pinball/pinballref02.Derive -/
def Try.i34 : IFunc := ⟨1, 11, [.tmp 2, .tmp 3],
  .seq (.region false [⟨some 2, .nlo 2, none, []⟩,
   ⟨some 3, .mov (.c (.int .i64 0)), none, []⟩])
  (.seq (.region false [⟨some 4, .mov (.t 0), none, []⟩,
   ⟨some 5, .mov (.t 0), none, []⟩,
   ⟨some 6, .mov (.t 0), none, []⟩,
   ⟨some 7, .call 73 [.t 6], none, []⟩,
   ⟨some 8, .call 51 [.t 4, .t 5, .t 7], none, []⟩,
   ⟨some 9, .ext (.t 8) 0, none, []⟩,
   ⟨some 10, .ext (.t 8) 1, none, []⟩,
   ⟨some 2, .tra 9, none, []⟩,
   ⟨some 3, .mov (.t 10), none, []⟩])
  (.ret))⟩
def Try.r34 : List (Nat × Nat) := []
theorem Try.i34_ok : fnOk Try.prog Try.r34 Try.f34 Try.i34 = true := by kernel_rfl

/- pinball/pinballref02.Content -/
def Try.i35 : IFunc := ⟨1, 9, [.cell 2 2 false, .tmp 3],
  .seq (.region false [⟨some 2, .new [.bool false, .sl 0 []] [], none, []⟩,
   ⟨some 3, .mov (.c (.int .i64 0)), none, []⟩])
  (.seq (.seq (.region false [⟨some 4, .mov (.t 0), none, []⟩,
   ⟨some 5, .call 50 [.t 4], none, []⟩])
  (.cond (.t 5) (.seq (.region false [⟨some 6, .bld [.bool false, .sl 0 []] [], none, []⟩,
   ⟨none, .st 2 2 2 (.t 6), none, []⟩,
   ⟨some 3, .mov (.c (.int .i64 2)), none, []⟩])
  (.ret))
  (.skip)))
  (.seq (.region false [⟨some 7, .mov (.t 0), none, []⟩,
   ⟨some 8, .call 74 [.t 7], none, []⟩,
   ⟨none, .st 2 2 2 (.t 8), none, []⟩,
   ⟨some 3, .mov (.c (.int .i64 0)), none, []⟩])
  (.ret)))⟩
def Try.r35 : List (Nat × Nat) := []
theorem Try.i35_ok : fnOk Try.prog Try.r35 Try.f35 Try.i35 = true := by kernel_rfl

/- pinball/pinballref02.Primitive -/
def Try.i36 : IFunc := ⟨1, 8, [.tmp 2, .tmp 3],
  .seq (.region false [⟨some 2, .nlo 2, none, []⟩,
   ⟨some 3, .mov (.c (.int .i64 0)), none, []⟩])
  (.seq (.seq (.region false [⟨some 4, .mov (.t 0), none, []⟩,
   ⟨some 5, .call 50 [.t 4], none, []⟩])
  (.cond (.t 5) (.seq (.region false [⟨some 2, .nlo 2, none, []⟩,
   ⟨some 3, .mov (.c (.int .i64 2)), none, []⟩])
  (.ret))
  (.skip)))
  (.seq (.region false [⟨some 6, .mov (.t 0), none, []⟩,
   ⟨some 7, .clo 75 [.t 6], none, []⟩,
   ⟨some 2, .tra 7, none, []⟩,
   ⟨some 3, .mov (.c (.int .i64 0)), none, []⟩])
  (.ret)))⟩
def Try.r36 : List (Nat × Nat) := []
theorem Try.i36_ok : fnOk Try.prog Try.r36 Try.f36 Try.i36 = true := by kernel_rfl

/- pinball/pinballref01.Same -/
def Try.i37 : IFunc := ⟨2, 38, [.tmp 4],
  .seq (.region false [⟨some 2, .box (.t 0) [6, 12, 21, 27], none, []⟩,
   ⟨some 3, .box (.t 1) [8, 15, 32], none, []⟩,
   ⟨some 4, .mov (.c (.bool false)), none, []⟩])
  (.seq (.seq (.region false [⟨some 6, .adr 2 2 0, none, []⟩,
   ⟨some 7, .ld 6 2 1 true, none, []⟩,
   ⟨some 8, .adr 3 3 0, none, []⟩,
   ⟨some 9, .ld 8 3 1 true, none, []⟩,
   ⟨some 10, .eqb true (.t 7) (.t 9), none, []⟩,
   ⟨some 11, .mov (.t 10), none, []⟩,
   ⟨some 12, .adr 2 2 1, some (11, false), []⟩,
   ⟨some 13, .ld 12 2 1 true, some (11, false), []⟩,
   ⟨some 14, .len (.t 13), some (11, false), []⟩,
   ⟨some 15, .adr 3 3 1, some (11, false), []⟩,
   ⟨some 16, .ld 15 3 1 true, some (11, false), []⟩,
   ⟨some 17, .len (.t 16), some (11, false), []⟩,
   ⟨some 18, .bin .neq (.t 14) (.t 17), some (11, false), []⟩,
   ⟨some 19, .pick (.t 11) (.c (.bool true)) (.t 18), none, []⟩])
  (.cond (.t 19) (.seq (.region false [⟨some 4, .mov (.c (.bool false)), none, []⟩])
  (.ret))
  (.skip)))
  (.seq (.seq (.region false [⟨some 5, .mov (.c (.int .i64 0)), none, []⟩])
  (.block 0 (.loop (.seq (.seq (.region false [⟨some 20, .mov (.t 5), none, []⟩,
   ⟨some 21, .adr 2 2 1, none, []⟩,
   ⟨some 22, .ld 21 2 1 true, none, []⟩,
   ⟨some 23, .len (.t 22), none, []⟩,
   ⟨some 24, .bin .lss (.t 20) (.t 23), none, []⟩])
  (.cond (.t 24) (.skip)
  (.exit 0)))
  (.seq (.block 1 (.seq (.region true [⟨some 27, .adr 2 2 1, none, []⟩,
   ⟨some 28, .ld 27 2 1 true, none, []⟩,
   ⟨some 29, .mov (.t 5), none, []⟩,
   ⟨some 30, .ixa 28 (.t 29) 1, none, []⟩,
   ⟨some 31, .ld 30 30 1 true, none, []⟩,
   ⟨some 32, .adr 3 3 1, none, []⟩,
   ⟨some 33, .ld 32 3 1 true, none, []⟩,
   ⟨some 34, .mov (.t 5), none, []⟩,
   ⟨some 35, .ixa 33 (.t 34) 1, none, []⟩,
   ⟨some 36, .ld 35 35 1 true, none, []⟩,
   ⟨some 37, .bin .neq (.t 31) (.t 36), none, []⟩])
  (.cond (.t 37) (.seq (.region false [⟨some 4, .mov (.c (.bool false)), none, []⟩])
  (.ret))
  (.skip))))
  (.region false [⟨some 25, .mov (.t 5), none, []⟩,
   ⟨some 26, .bin .add (.t 25) (.c (.int .i64 1)), none, []⟩,
   ⟨some 5, .mov (.t 26), none, []⟩]))))))
  (.seq (.region false [⟨some 4, .mov (.c (.bool true)), none, []⟩])
  (.ret))))⟩
def Try.r37 : List (Nat × Nat) := [(6, 2), (8, 3), (12, 2), (15, 3), (21, 2), (27, 2), (32, 3)]
theorem Try.i37_ok : fnOk Try.prog Try.r37 Try.f37 Try.i37 = true := by kernel_rfl

/- pinball/poly.Trim -/
def Try.i38 : IFunc := ⟨1, 5, [.tmp 2],
  .seq (.region false [⟨some 2, .nlo 2, none, []⟩])
  (.seq (.region false [⟨some 3, .mov (.t 0), none, []⟩,
   ⟨some 4, .clo 76 [.t 3], none, []⟩,
   ⟨some 2, .tra 4, none, []⟩])
  (.ret))⟩
def Try.r38 : List (Nat × Nat) := []
theorem Try.i38_ok : fnOk Try.prog Try.r38 Try.f38 Try.i38 = true := by kernel_rfl

/- pinball/pinballref02.Trim -/
def Try.i39 : IFunc := ⟨1, 35, [.tmp 2],
  .seq (.region false [⟨some 2, .nlo 2, none, []⟩])
  (.seq (.region false [⟨some 6, .mov (.t 0), none, []⟩,
   ⟨some 7, .len (.t 6), none, []⟩,
   ⟨some 3, .mov (.t 7), none, []⟩])
  (.seq (.block 0 (.loop (.seq (.seq (.region false [⟨some 8, .mov (.t 3), none, []⟩,
   ⟨some 9, .bin .gtr (.t 8) (.c (.int .i64 0)), none, []⟩,
   ⟨some 10, .mov (.t 9), none, []⟩,
   ⟨some 11, .mov (.t 0), some (10, true), []⟩,
   ⟨some 12, .mov (.t 3), some (10, true), []⟩,
   ⟨some 13, .bin .sub (.t 12) (.c (.int .i64 1)), some (10, true), []⟩,
   ⟨some 14, .ixa 11 (.t 13) 2, some (10, true), []⟩,
   ⟨some 15, .ld 14 14 2 false, some (10, true), []⟩,
   ⟨some 16, .call 64 [.t 15], some (10, true), []⟩,
   ⟨some 17, .bin .eql (.t 16) (.c (.int .i64 0)), some (10, true), []⟩,
   ⟨some 18, .pick (.t 10) (.t 17) (.c (.bool false)), none, []⟩])
  (.cond (.t 18) (.skip)
  (.exit 0)))
  (.block 1 (.region false [⟨some 19, .mov (.t 3), none, []⟩,
   ⟨some 20, .bin .sub (.t 19) (.c (.int .i64 1)), none, []⟩,
   ⟨some 3, .mov (.t 20), none, []⟩])))))
  (.seq (.region false [⟨some 4, .nlo 2, none, []⟩])
  (.seq (.seq (.region false [⟨some 5, .mov (.c (.int .i64 0)), none, []⟩])
  (.block 2 (.loop (.seq (.seq (.region false [⟨some 21, .mov (.t 5), none, []⟩,
   ⟨some 22, .mov (.t 3), none, []⟩,
   ⟨some 23, .bin .lss (.t 21) (.t 22), none, []⟩])
  (.cond (.t 23) (.skip)
  (.exit 2)))
  (.seq (.block 3 (.region false [⟨some 26, .tra 4, none, []⟩,
   ⟨some 27, .mov (.t 0), none, []⟩,
   ⟨some 28, .mov (.t 5), none, []⟩,
   ⟨some 29, .ixa 27 (.t 28) 2, none, []⟩,
   ⟨some 30, .ld 29 29 2 false, none, []⟩,
   ⟨some 31, .call 77 [.t 30], none, []⟩,
   ⟨some 32, .bls 1 [.bool false, .sl 0 []] [(0, 2, .t 31)], none, []⟩,
   ⟨some 33, .apd true (.t 26) (.t 32) 2, none, []⟩,
   ⟨some 4, .tra 33, none, []⟩]))
  (.region false [⟨some 24, .mov (.t 5), none, []⟩,
   ⟨some 25, .bin .add (.t 24) (.c (.int .i64 1)), none, []⟩,
   ⟨some 5, .mov (.t 25), none, []⟩]))))))
  (.seq (.region false [⟨some 34, .tra 4, none, []⟩,
   ⟨some 2, .tra 34, none, []⟩])
  (.ret))))))⟩
def Try.r39 : List (Nat × Nat) := []
theorem Try.i39_ok : fnOk Try.prog Try.r39 Try.f39 Try.i39 = true := by kernel_rfl

/- pinball/pinballref02.Degree -/
def Try.i40 : IFunc := ⟨1, 7, [.tmp 2],
  .seq (.region false [⟨some 2, .mov (.c (.int .i64 0)), none, []⟩])
  (.seq (.region false [⟨some 3, .mov (.t 0), none, []⟩,
   ⟨some 4, .call 39 [.t 3], none, []⟩,
   ⟨some 5, .len (.t 4), none, []⟩,
   ⟨some 6, .bin .sub (.t 5) (.c (.int .i64 1)), none, []⟩,
   ⟨some 2, .mov (.t 6), none, []⟩])
  (.ret))⟩
def Try.r40 : List (Nat × Nat) := []
theorem Try.i40_ok : fnOk Try.prog Try.r40 Try.f40 Try.i40 = true := by kernel_rfl

/- pinball/pinballlaw02.place -/
def Try.i41 : IFunc := ⟨2, 14, [.tmp 4],
  .seq (.region false [⟨some 4, .mov (.c (.int .i64 0)), none, []⟩])
  (.seq (.region false [⟨some 5, .mov (.t 0), none, []⟩,
   ⟨some 6, .mov (.t 1), none, []⟩,
   ⟨some 7, .bin .rem (.t 5) (.t 6), none, []⟩,
   ⟨some 0, .mov (.t 7), none, []⟩])
  (.seq (.seq (.region false [⟨some 8, .mov (.t 0), none, []⟩,
   ⟨some 9, .bin .lss (.t 8) (.c (.int .i64 0)), none, []⟩])
  (.cond (.t 9) (.region false [⟨some 10, .mov (.t 0), none, []⟩,
   ⟨some 11, .mov (.t 1), none, []⟩,
   ⟨some 12, .bin .add (.t 10) (.t 11), none, []⟩,
   ⟨some 0, .mov (.t 12), none, []⟩])
  (.skip)))
  (.seq (.region false [⟨some 13, .mov (.t 0), none, []⟩,
   ⟨some 4, .mov (.t 13), none, []⟩])
  (.ret))))⟩
def Try.r41 : List (Nat × Nat) := []
theorem Try.i41_ok : fnOk Try.prog Try.r41 Try.f41 Try.i41 = true := by kernel_rfl

/- pinball/integer.Of -/
def Try.i42 : IFunc := ⟨1, 5, [.cell 2 2 false],
  .seq (.region false [⟨some 2, .new [.bool false, .sl 0 []] [], none, []⟩])
  (.seq (.region false [⟨some 3, .mov (.t 0), none, []⟩,
   ⟨some 4, .call 78 [.t 3], none, []⟩,
   ⟨none, .st 2 2 2 (.t 4), none, []⟩])
  (.ret))⟩
def Try.r42 : List (Nat × Nat) := []
theorem Try.i42_ok : fnOk Try.prog Try.r42 Try.f42 Try.i42 = true := by kernel_rfl

/- pinball/pinballref02.Of -/
def Try.i43 : IFunc := ⟨1, 21, [.tmp 2],
  .seq (.region false [⟨some 2, .nlo 2, none, []⟩])
  (.seq (.region false [⟨some 3, .nlo 2, none, []⟩])
  (.seq (.seq (.region false [⟨some 4, .mov (.c (.int .i64 0)), none, []⟩])
  (.block 0 (.loop (.seq (.seq (.region false [⟨some 5, .mov (.t 4), none, []⟩,
   ⟨some 6, .mov (.t 0), none, []⟩,
   ⟨some 7, .len (.t 6), none, []⟩,
   ⟨some 8, .bin .lss (.t 5) (.t 7), none, []⟩])
  (.cond (.t 8) (.skip)
  (.exit 0)))
  (.seq (.block 1 (.region false [⟨some 11, .tra 3, none, []⟩,
   ⟨some 12, .mov (.t 0), none, []⟩,
   ⟨some 13, .mov (.t 4), none, []⟩,
   ⟨some 14, .ixa 12 (.t 13) 1, none, []⟩,
   ⟨some 15, .ld 14 14 1 true, none, []⟩,
   ⟨some 16, .call 79 [.t 15], none, []⟩,
   ⟨some 17, .bls 1 [.bool false, .sl 0 []] [(0, 2, .t 16)], none, []⟩,
   ⟨some 18, .apd true (.t 11) (.t 17) 2, none, []⟩,
   ⟨some 3, .tra 18, none, []⟩]))
  (.region false [⟨some 9, .mov (.t 4), none, []⟩,
   ⟨some 10, .bin .add (.t 9) (.c (.int .i64 1)), none, []⟩,
   ⟨some 4, .mov (.t 10), none, []⟩]))))))
  (.seq (.region false [⟨some 19, .frz 3, none, []⟩,
   ⟨some 20, .clo 39 [.t 19], none, []⟩,
   ⟨some 2, .tra 20, none, []⟩])
  (.ret))))⟩
def Try.r43 : List (Nat × Nat) := []
theorem Try.i43_ok : fnOk Try.prog Try.r43 Try.f43 Try.i43 = true := by kernel_rfl

/- pinball/poly.large -/
def Try.i44 : IFunc := ⟨1, 29, [.tmp 2],
  .seq (.region false [⟨some 2, .mov (.c (.bool false)), none, []⟩])
  (.seq (.seq (.region false [⟨some 7, .mov (.t 0), none, []⟩,
   ⟨some 8, .len (.t 7), none, []⟩,
   ⟨some 9, .mov (.c (.int .i64 0)), none, []⟩])
  (.block 0 (.loop (.seq (.region false [⟨some 10, .bin .lss (.t 9) (.t 8), none, []⟩])
  (.seq (.cond (.t 10) (.skip)
  (.exit 0))
  (.seq (.block 1 (.seq (.region false [⟨some 11, .ixa 7 (.t 9) 1, none, []⟩,
   ⟨some 12, .ld 11 11 1 true, none, []⟩,
   ⟨some 4, .mov (.t 12), none, []⟩])
  (.seq (.region false [⟨some 13, .mov (.t 4), none, []⟩,
   ⟨some 14, .call 45 [.t 13], none, []⟩,
   ⟨some 5, .mov (.t 14), none, []⟩])
  (.seq (.seq (.region false [⟨some 15, .mov (.t 5), none, []⟩,
   ⟨some 16, .bin .gtr (.t 15) (.c (.int .i64 16)), none, []⟩])
  (.cond (.t 16) (.seq (.region false [⟨some 2, .mov (.c (.bool true)), none, []⟩])
  (.ret))
  (.skip)))
  (.seq (.region false [⟨some 6, .mov (.c (.int .i64 0)), none, []⟩])
  (.block 2 (.loop (.seq (.seq (.region false [⟨some 17, .mov (.t 6), none, []⟩,
   ⟨some 18, .mov (.t 5), none, []⟩,
   ⟨some 19, .bin .leq (.t 17) (.t 18), none, []⟩])
  (.cond (.t 19) (.skip)
  (.exit 2)))
  (.seq (.block 3 (.seq (.region false [⟨some 22, .mov (.t 4), none, []⟩,
   ⟨some 23, .mov (.t 6), none, []⟩,
   ⟨some 24, .ixa 22 (.t 23) 2, none, []⟩,
   ⟨some 25, .ld 24 24 2 false, none, []⟩,
   ⟨some 26, .call 59 [.t 25], none, []⟩,
   ⟨some 27, .bin .gtr (.t 26) (.c (.int .i64 256)), none, []⟩])
  (.cond (.t 27) (.seq (.region false [⟨some 2, .mov (.c (.bool true)), none, []⟩])
  (.ret))
  (.skip))))
  (.region false [⟨some 20, .mov (.t 6), none, []⟩,
   ⟨some 21, .bin .add (.t 20) (.c (.int .i64 1)), none, []⟩,
   ⟨some 6, .mov (.t 21), none, []⟩]))))))))))
  (.region false [⟨some 28, .bin .add (.t 9) (.c (.int .i64 1)), none, []⟩,
   ⟨some 9, .mov (.t 28), none, []⟩])))))))
  (.seq (.region false [⟨some 2, .mov (.c (.bool false)), none, []⟩])
  (.ret)))⟩
def Try.r44 : List (Nat × Nat) := []
theorem Try.i44_ok : fnOk Try.prog Try.r44 Try.f44 Try.i44 = true := by kernel_rfl

/- pinball/algebra.Degree -/
def Try.i45 : IFunc := ⟨1, 20, [.tmp 2],
  .seq (.region false [⟨some 2, .mov (.c (.int .i64 0)), none, []⟩])
  (.seq (.region false [⟨some 4, .mov (.t 0), none, []⟩,
   ⟨some 5, .len (.t 4), none, []⟩,
   ⟨some 6, .bin .sub (.t 5) (.c (.int .i64 1)), none, []⟩,
   ⟨some 3, .mov (.t 6), none, []⟩])
  (.seq (.block 0 (.loop (.seq (.seq (.region false [⟨some 7, .mov (.t 3), none, []⟩,
   ⟨some 8, .bin .geq (.t 7) (.c (.int .i64 0)), none, []⟩,
   ⟨some 9, .mov (.t 8), none, []⟩,
   ⟨some 10, .mov (.t 0), some (9, true), []⟩,
   ⟨some 11, .mov (.t 3), some (9, true), []⟩,
   ⟨some 12, .ixa 10 (.t 11) 2, some (9, true), []⟩,
   ⟨some 13, .ld 12 12 2 false, some (9, true), []⟩,
   ⟨some 14, .call 56 [.t 13], some (9, true), []⟩,
   ⟨some 15, .bin .eql (.t 14) (.c (.int .i64 0)), some (9, true), []⟩,
   ⟨some 16, .pick (.t 9) (.t 15) (.c (.bool false)), none, []⟩])
  (.cond (.t 16) (.skip)
  (.exit 0)))
  (.block 1 (.region false [⟨some 17, .mov (.t 3), none, []⟩,
   ⟨some 18, .bin .sub (.t 17) (.c (.int .i64 1)), none, []⟩,
   ⟨some 3, .mov (.t 18), none, []⟩])))))
  (.seq (.region false [⟨some 19, .mov (.t 3), none, []⟩,
   ⟨some 2, .mov (.t 19), none, []⟩])
  (.ret))))⟩
def Try.r45 : List (Nat × Nat) := []
theorem Try.i45_ok : fnOk Try.prog Try.r45 Try.f45 Try.i45 = true := by kernel_rfl

/- pinball/poly.sized -/
def Try.i46 : IFunc := ⟨1, 8, [.tmp 2, .tmp 3],
  .seq (.region false [⟨some 2, .nlo 2, none, []⟩,
   ⟨some 3, .mov (.c (.int .i64 0)), none, []⟩])
  (.seq (.seq (.region false [⟨some 4, .mov (.t 0), none, []⟩,
   ⟨some 5, .bls 1 [.sl 0 []] [(0, 1, .t 4)], none, []⟩,
   ⟨some 6, .call 44 [.t 5], none, []⟩])
  (.cond (.t 6) (.seq (.region false [⟨some 2, .nlo 2, none, []⟩,
   ⟨some 3, .mov (.c (.int .i64 2)), none, []⟩])
  (.ret))
  (.skip)))
  (.seq (.region false [⟨some 7, .mov (.t 0), none, []⟩,
   ⟨some 2, .tra 7, none, []⟩,
   ⟨some 3, .mov (.c (.int .i64 0)), none, []⟩])
  (.ret)))⟩
def Try.r46 : List (Nat × Nat) := []
theorem Try.i46_ok : fnOk Try.prog Try.r46 Try.f46 Try.i46 = true := by kernel_rfl

/- pinball/algebra.Remainder -/
def Try.i47 : IFunc := ⟨2, 99, [.tmp 4],
  .seq (.region false [⟨some 4, .nlo 2, none, []⟩])
  (.seq (.region false [⟨some 15, .mov (.t 0), none, []⟩,
   ⟨some 16, .clo 69 [.t 15], none, []⟩,
   ⟨some 17, .mov (.t 1), none, []⟩,
   ⟨some 18, .call 69 [.t 17], none, []⟩,
   ⟨some 5, .tra 16, none, [25, 30, 31, 34, 57, 62, 67, 69, 71, 75, 79, 81, 83, 94]⟩,
   ⟨some 1, .mov (.t 18), none, []⟩])
  (.seq (.region false [⟨some 19, .mov (.t 1), none, []⟩,
   ⟨some 20, .mov (.t 1), none, []⟩,
   ⟨some 21, .len (.t 20), none, []⟩,
   ⟨some 22, .bin .sub (.t 21) (.c (.int .i64 1)), none, []⟩,
   ⟨some 23, .ixa 19 (.t 22) 2, none, []⟩,
   ⟨some 24, .ld 23 23 2 false, none, []⟩,
   ⟨some 6, .new [.bool false, .sl 0 []] [], none, []⟩,
   ⟨none, .st 6 6 2 (.t 24), none, []⟩])
  (.seq (.block 0 (.loop (.seq (.seq (.region false [⟨some 25, .cpy 5, none, []⟩,
   ⟨some 26, .lno 25 5, none, []⟩,
   ⟨some 27, .mov (.t 1), none, []⟩,
   ⟨some 28, .len (.t 27), none, []⟩,
   ⟨some 29, .bin .geq (.t 26) (.t 28), none, []⟩])
  (.cond (.t 29) (.skip)
  (.exit 0)))
  (.block 1 (.seq (.region false [⟨some 30, .cpy 5, none, []⟩,
   ⟨some 31, .cpy 5, none, []⟩,
   ⟨some 32, .lno 31 5, none, []⟩,
   ⟨some 33, .bin .sub (.t 32) (.c (.int .i64 1)), none, []⟩,
   ⟨some 34, .ixo 30 5 (.t 33) 2, none, []⟩,
   ⟨some 35, .ld 34 5 2 false, none, []⟩,
   ⟨some 7, .new [.bool false, .sl 0 []] [], none, []⟩,
   ⟨none, .st 7 7 2 (.t 35), none, []⟩])
  (.seq (.region false [⟨some 36, .ld 6 6 2 false, none, []⟩,
   ⟨some 37, .ld 7 7 2 false, none, []⟩,
   ⟨some 38, .call 80 [.t 36, .t 37], none, []⟩,
   ⟨some 8, .new [.bool false, .sl 0 []] [], none, []⟩,
   ⟨none, .st 8 8 2 (.t 38), none, []⟩])
  (.seq (.region true [⟨some 40, .ld 6 6 2 false, none, []⟩,
   ⟨some 41, .call 82 [.t 40], none, []⟩,
   ⟨some 42, .ld 8 8 2 false, none, []⟩,
   ⟨some 43, .call 81 [.t 41, .t 42], none, []⟩,
   ⟨some 39, .mov (.t 43), none, []⟩,
   ⟨some 44, .ext (.t 39) 0, none, []⟩,
   ⟨some 45, .ext (.t 39) 1, none, []⟩,
   ⟨some 9, .new [.bool false, .sl 0 []] [], none, []⟩,
   ⟨some 10, .new [.bool false, .sl 0 []] [], none, []⟩,
   ⟨none, .st 9 9 2 (.t 44), none, []⟩,
   ⟨none, .st 10 10 2 (.t 45), none, []⟩])
  (.seq (.region false [⟨some 47, .ld 7 7 2 false, none, []⟩,
   ⟨some 48, .ld 8 8 2 false, none, []⟩,
   ⟨some 49, .call 81 [.t 47, .t 48], none, []⟩,
   ⟨some 46, .mov (.t 49), none, []⟩,
   ⟨some 50, .ext (.t 46) 0, none, []⟩,
   ⟨some 51, .ext (.t 46) 1, none, []⟩,
   ⟨some 11, .new [.bool false, .sl 0 []] [], none, []⟩,
   ⟨some 12, .new [.bool false, .sl 0 []] [], none, []⟩,
   ⟨none, .st 11 11 2 (.t 50), none, []⟩,
   ⟨none, .st 12 12 2 (.t 51), none, []⟩])
  (.seq (.seq (.region false [⟨some 52, .ld 6 6 2 false, none, []⟩,
   ⟨some 53, .call 56 [.t 52], none, []⟩,
   ⟨some 54, .bin .lss (.t 53) (.c (.int .i64 0)), none, []⟩])
  (.cond (.t 54) (.region false [⟨some 55, .ld 11 11 2 false, none, []⟩,
   ⟨some 56, .call 83 [.t 55], none, []⟩,
   ⟨none, .st 11 11 2 (.t 56), none, []⟩])
  (.skip)))
  (.seq (.region false [⟨some 57, .cpy 5, none, []⟩,
   ⟨some 58, .lno 57 5, none, []⟩,
   ⟨some 59, .mov (.t 1), none, []⟩,
   ⟨some 60, .len (.t 59), none, []⟩,
   ⟨some 61, .bin .sub (.t 58) (.t 60), none, []⟩,
   ⟨some 13, .mov (.t 61), none, []⟩])
  (.seq (.seq (.region false [⟨some 62, .cpy 5, none, []⟩,
   ⟨some 63, .lno 62 5, none, []⟩,
   ⟨some 64, .mov (.c (.int .i64 0)), none, []⟩])
  (.block 2 (.loop (.seq (.region false [⟨some 65, .bin .lss (.t 64) (.t 63), none, []⟩])
  (.seq (.cond (.t 65) (.skip)
  (.exit 2))
  (.seq (.block 3 (.seq (.region false [⟨some 66, .mov (.t 64), none, []⟩,
   ⟨some 14, .mov (.t 66), none, []⟩])
  (.seq (.region true [⟨some 67, .cpy 5, none, []⟩,
   ⟨some 68, .mov (.t 14), none, []⟩,
   ⟨some 69, .cpy 5, none, []⟩,
   ⟨some 70, .mov (.t 14), none, []⟩,
   ⟨some 71, .ixo 69 5 (.t 70) 2, none, []⟩,
   ⟨some 72, .ld 71 5 2 false, none, []⟩,
   ⟨some 73, .ld 9 9 2 false, none, []⟩,
   ⟨some 74, .call 84 [.t 72, .t 73], none, []⟩,
   ⟨some 75, .ixo 67 5 (.t 68) 2, none, []⟩,
   ⟨none, .st 75 5 2 (.t 74), none, []⟩])
  (.seq (.region false [⟨some 76, .mov (.t 14), none, []⟩,
   ⟨some 77, .mov (.t 13), none, []⟩,
   ⟨some 78, .bin .geq (.t 76) (.t 77), none, []⟩])
  (.cond (.t 78) (.region true [⟨some 79, .cpy 5, none, []⟩,
   ⟨some 80, .mov (.t 14), none, []⟩,
   ⟨some 81, .cpy 5, none, []⟩,
   ⟨some 82, .mov (.t 14), none, []⟩,
   ⟨some 83, .ixo 81 5 (.t 82) 2, none, []⟩,
   ⟨some 84, .ld 83 5 2 false, none, []⟩,
   ⟨some 85, .ld 11 11 2 false, none, []⟩,
   ⟨some 86, .mov (.t 1), none, []⟩,
   ⟨some 87, .mov (.t 14), none, []⟩,
   ⟨some 88, .mov (.t 13), none, []⟩,
   ⟨some 89, .bin .sub (.t 87) (.t 88), none, []⟩,
   ⟨some 90, .ixa 86 (.t 89) 2, none, []⟩,
   ⟨some 91, .ld 90 90 2 false, none, []⟩,
   ⟨some 92, .call 84 [.t 85, .t 91], none, []⟩,
   ⟨some 93, .call 85 [.t 84, .t 92], none, []⟩,
   ⟨some 94, .ixo 79 5 (.t 80) 2, none, []⟩,
   ⟨none, .st 94 5 2 (.t 93), none, []⟩])
  (.skip))))))
  (.region false [⟨some 95, .bin .add (.t 64) (.c (.int .i64 1)), none, []⟩,
   ⟨some 64, .mov (.t 95), none, []⟩])))))))
  (.region false [⟨some 96, .frz 5, none, []⟩,
   ⟨some 97, .clo 69 [.t 96], none, []⟩,
   ⟨some 5, .tra 97, none, [25, 30, 31, 34, 57, 62, 67, 69, 71, 75, 79, 81, 83, 94]⟩]))))))))))))
  (.seq (.region false [⟨some 98, .tra 5, none, []⟩,
   ⟨some 4, .tra 98, none, []⟩])
  (.ret)))))⟩
def Try.r47 : List (Nat × Nat) := [(25, 5), (30, 5), (31, 5), (34, 5), (57, 5), (62, 5), (67, 5), (69, 5), (71, 5), (75, 5), (79, 5), (81, 5), (83, 5), (94, 5)]
theorem Try.i47_ok : fnOk Try.prog Try.r47 Try.f47 Try.i47 = true := by kernel_rfl

/- pinball/algebra.Common -/
def Try.i48 : IFunc := ⟨2, 20, [.tmp 4],
  .seq (.region false [⟨some 4, .nlo 2, none, []⟩])
  (.seq (.region false [⟨some 7, .mov (.t 0), none, []⟩,
   ⟨some 8, .call 69 [.t 7], none, []⟩,
   ⟨some 9, .mov (.t 1), none, []⟩,
   ⟨some 10, .call 69 [.t 9], none, []⟩,
   ⟨some 5, .mov (.t 8), none, []⟩,
   ⟨some 6, .mov (.t 10), none, []⟩])
  (.seq (.block 0 (.loop (.seq (.seq (.region false [⟨some 11, .mov (.t 6), none, []⟩,
   ⟨some 12, .len (.t 11), none, []⟩,
   ⟨some 13, .bin .gtr (.t 12) (.c (.int .i64 0)), none, []⟩])
  (.cond (.t 13) (.skip)
  (.exit 0)))
  (.block 1 (.region false [⟨some 14, .mov (.t 6), none, []⟩,
   ⟨some 15, .mov (.t 5), none, []⟩,
   ⟨some 16, .mov (.t 6), none, []⟩,
   ⟨some 17, .call 47 [.t 15, .t 16], none, []⟩,
   ⟨some 5, .mov (.t 14), none, []⟩,
   ⟨some 6, .mov (.t 17), none, []⟩])))))
  (.seq (.region false [⟨some 18, .mov (.t 5), none, []⟩,
   ⟨some 19, .clo 86 [.t 18], none, []⟩,
   ⟨some 4, .tra 19, none, []⟩])
  (.ret))))⟩
def Try.r48 : List (Nat × Nat) := []
theorem Try.i48_ok : fnOk Try.prog Try.r48 Try.f48 Try.i48 = true := by kernel_rfl

/- pinball/algebra.Free -/
def Try.i49 : IFunc := ⟨1, 23, [.tmp 2],
  .seq (.region false [⟨some 2, .nlo 2, none, []⟩])
  (.seq (.region false [⟨some 5, .mov (.t 0), none, []⟩,
   ⟨some 6, .call 69 [.t 5], none, []⟩,
   ⟨some 7, .call 86 [.t 6], none, []⟩,
   ⟨some 3, .mov (.t 7), none, []⟩])
  (.seq (.seq (.region false [⟨some 8, .mov (.t 3), none, []⟩,
   ⟨some 9, .len (.t 8), none, []⟩,
   ⟨some 10, .bin .lss (.t 9) (.c (.int .i64 2)), none, []⟩])
  (.cond (.t 10) (.seq (.region false [⟨some 11, .mov (.t 3), none, []⟩,
   ⟨some 2, .tra 11, none, []⟩])
  (.ret))
  (.skip)))
  (.seq (.region false [⟨some 12, .mov (.t 3), none, []⟩,
   ⟨some 13, .mov (.t 3), none, []⟩,
   ⟨some 14, .call 58 [.t 13], none, []⟩,
   ⟨some 15, .call 48 [.t 12, .t 14], none, []⟩,
   ⟨some 4, .mov (.t 15), none, []⟩])
  (.seq (.seq (.region false [⟨some 16, .mov (.t 4), none, []⟩,
   ⟨some 17, .len (.t 16), none, []⟩,
   ⟨some 18, .bin .lss (.t 17) (.c (.int .i64 2)), none, []⟩])
  (.cond (.t 18) (.seq (.region false [⟨some 19, .mov (.t 3), none, []⟩,
   ⟨some 2, .tra 19, none, []⟩])
  (.ret))
  (.skip)))
  (.seq (.region false [⟨some 20, .mov (.t 3), none, []⟩,
   ⟨some 21, .mov (.t 4), none, []⟩,
   ⟨some 22, .clo 87 [.t 20, .t 21], none, []⟩,
   ⟨some 2, .tra 22, none, []⟩])
  (.ret))))))⟩
def Try.r49 : List (Nat × Nat) := []
theorem Try.i49_ok : fnOk Try.prog Try.r49 Try.f49 Try.i49 = true := by kernel_rfl

/- pinball/pinballref02.Large -/
def Try.i50 : IFunc := ⟨1, 22, [.tmp 2],
  .seq (.region false [⟨some 2, .mov (.c (.bool false)), none, []⟩])
  (.seq (.region false [⟨some 5, .mov (.t 0), none, []⟩,
   ⟨some 6, .call 39 [.t 5], none, []⟩,
   ⟨some 3, .mov (.t 6), none, []⟩])
  (.seq (.seq (.region false [⟨some 7, .mov (.t 3), none, []⟩,
   ⟨some 8, .len (.t 7), none, []⟩,
   ⟨some 9, .bin .sub (.t 8) (.c (.int .i64 1)), none, []⟩,
   ⟨some 10, .bin .gtr (.t 9) (.c (.int .i64 16)), none, []⟩])
  (.cond (.t 10) (.seq (.region false [⟨some 2, .mov (.c (.bool true)), none, []⟩])
  (.ret))
  (.skip)))
  (.seq (.seq (.region false [⟨some 4, .mov (.c (.int .i64 0)), none, []⟩])
  (.block 0 (.loop (.seq (.seq (.region false [⟨some 11, .mov (.t 4), none, []⟩,
   ⟨some 12, .mov (.t 3), none, []⟩,
   ⟨some 13, .len (.t 12), none, []⟩,
   ⟨some 14, .bin .lss (.t 11) (.t 13), none, []⟩])
  (.cond (.t 14) (.skip)
  (.exit 0)))
  (.seq (.block 1 (.seq (.region false [⟨some 17, .mov (.t 3), none, []⟩,
   ⟨some 18, .mov (.t 4), none, []⟩,
   ⟨some 19, .ixa 17 (.t 18) 2, none, []⟩,
   ⟨some 20, .ld 19 19 2 false, none, []⟩,
   ⟨some 21, .call 62 [.t 20], none, []⟩])
  (.cond (.t 21) (.seq (.region false [⟨some 2, .mov (.c (.bool true)), none, []⟩])
  (.ret))
  (.skip))))
  (.region false [⟨some 15, .mov (.t 4), none, []⟩,
   ⟨some 16, .bin .add (.t 15) (.c (.int .i64 1)), none, []⟩,
   ⟨some 4, .mov (.t 16), none, []⟩]))))))
  (.seq (.region false [⟨some 2, .mov (.c (.bool false)), none, []⟩])
  (.ret)))))⟩
def Try.r50 : List (Nat × Nat) := []
theorem Try.i50_ok : fnOk Try.prog Try.r50 Try.f50 Try.i50 = true := by kernel_rfl

/- pinball/pinballref02.sized -/
def Try.i51 : IFunc := ⟨3, 19, [.tmp 6, .tmp 7],
  .seq (.region false [⟨some 6, .nlo 2, none, []⟩,
   ⟨some 7, .mov (.c (.int .i64 0)), none, []⟩])
  (.seq (.seq (.region false [⟨some 8, .mov (.t 0), none, []⟩,
   ⟨some 9, .call 50 [.t 8], none, []⟩,
   ⟨some 10, .mov (.t 9), none, []⟩,
   ⟨some 11, .mov (.t 1), some (10, false), []⟩,
   ⟨some 12, .call 50 [.t 11], some (10, false), []⟩,
   ⟨some 13, .pick (.t 10) (.c (.bool true)) (.t 12), none, []⟩,
   ⟨some 14, .mov (.t 13), none, []⟩,
   ⟨some 15, .mov (.t 2), some (14, false), []⟩,
   ⟨some 16, .call 50 [.t 15], some (14, false), []⟩,
   ⟨some 17, .pick (.t 14) (.c (.bool true)) (.t 16), none, []⟩])
  (.cond (.t 17) (.seq (.region false [⟨some 6, .nlo 2, none, []⟩,
   ⟨some 7, .mov (.c (.int .i64 2)), none, []⟩])
  (.ret))
  (.skip)))
  (.seq (.region false [⟨some 18, .mov (.t 2), none, []⟩,
   ⟨some 6, .tra 18, none, []⟩,
   ⟨some 7, .mov (.c (.int .i64 0)), none, []⟩])
  (.ret)))⟩
def Try.r51 : List (Nat × Nat) := []
theorem Try.i51_ok : fnOk Try.prog Try.r51 Try.f51 Try.i51 = true := by kernel_rfl

/- pinball/pinballref02.Rest -/
def Try.i52 : IFunc := ⟨2, 80, [.tmp 4],
  .seq (.region false [⟨some 4, .nlo 2, none, []⟩])
  (.seq (.region false [⟨some 13, .mov (.t 0), none, []⟩,
   ⟨some 14, .call 75 [.t 13], none, []⟩,
   ⟨some 15, .mov (.t 1), none, []⟩,
   ⟨some 16, .call 39 [.t 15], none, []⟩,
   ⟨some 5, .mov (.t 14), none, []⟩,
   ⟨some 6, .mov (.t 16), none, []⟩])
  (.seq (.region false [⟨some 17, .mov (.t 6), none, []⟩,
   ⟨some 18, .mov (.t 6), none, []⟩,
   ⟨some 19, .len (.t 18), none, []⟩,
   ⟨some 20, .bin .sub (.t 19) (.c (.int .i64 1)), none, []⟩,
   ⟨some 21, .ixa 17 (.t 20) 2, none, []⟩,
   ⟨some 22, .ld 21 21 2 false, none, []⟩,
   ⟨some 7, .new [.bool false, .sl 0 []] [51], none, []⟩,
   ⟨none, .st 7 7 2 (.t 22), none, []⟩])
  (.seq (.block 0 (.loop (.seq (.seq (.region false [⟨some 23, .mov (.t 5), none, []⟩,
   ⟨some 24, .len (.t 23), none, []⟩,
   ⟨some 25, .mov (.t 6), none, []⟩,
   ⟨some 26, .len (.t 25), none, []⟩,
   ⟨some 27, .bin .geq (.t 24) (.t 26), none, []⟩])
  (.cond (.t 27) (.skip)
  (.exit 0)))
  (.block 1 (.seq (.region false [⟨some 28, .mov (.t 5), none, []⟩,
   ⟨some 29, .mov (.t 5), none, []⟩,
   ⟨some 30, .len (.t 29), none, []⟩,
   ⟨some 31, .bin .sub (.t 30) (.c (.int .i64 1)), none, []⟩,
   ⟨some 32, .ixa 28 (.t 31) 2, none, []⟩,
   ⟨some 33, .ld 32 32 2 false, none, []⟩,
   ⟨some 8, .new [.bool false, .sl 0 []] [], none, []⟩,
   ⟨none, .st 8 8 2 (.t 33), none, []⟩])
  (.seq (.seq (.region false [⟨some 34, .ld 7 7 2 false, none, []⟩,
   ⟨some 35, .call 64 [.t 34], none, []⟩,
   ⟨some 36, .bin .lss (.t 35) (.c (.int .i64 0)), none, []⟩])
  (.cond (.t 36) (.region false [⟨some 37, .ld 8 8 2 false, none, []⟩,
   ⟨some 38, .call 88 [.t 37], none, []⟩,
   ⟨none, .st 8 8 2 (.t 38), none, []⟩])
  (.skip)))
  (.seq (.region false [⟨some 39, .mov (.t 5), none, []⟩,
   ⟨some 40, .len (.t 39), none, []⟩,
   ⟨some 41, .mov (.t 6), none, []⟩,
   ⟨some 42, .len (.t 41), none, []⟩,
   ⟨some 43, .bin .sub (.t 40) (.t 42), none, []⟩,
   ⟨some 9, .mov (.t 43), none, []⟩])
  (.seq (.region false [⟨some 10, .nlo 2, none, []⟩])
  (.seq (.seq (.region false [⟨some 11, .mov (.c (.int .i64 0)), none, []⟩])
  (.block 2 (.loop (.seq (.seq (.region false [⟨some 44, .mov (.t 11), none, []⟩,
   ⟨some 45, .mov (.t 5), none, []⟩,
   ⟨some 46, .len (.t 45), none, []⟩,
   ⟨some 47, .bin .sub (.t 46) (.c (.int .i64 1)), none, []⟩,
   ⟨some 48, .bin .lss (.t 44) (.t 47), none, []⟩])
  (.cond (.t 48) (.skip)
  (.exit 2)))
  (.seq (.block 3 (.seq (.region true [⟨some 51, .adr 7 7 1, none, []⟩,
   ⟨some 52, .ld 51 7 1 true, none, []⟩,
   ⟨some 53, .bld [.bool false, .sl 0 []] [(1, 1, .t 52)], none, []⟩,
   ⟨some 54, .mov (.t 5), none, []⟩,
   ⟨some 55, .mov (.t 11), none, []⟩,
   ⟨some 56, .ixa 54 (.t 55) 2, none, []⟩,
   ⟨some 57, .ld 56 56 2 false, none, []⟩,
   ⟨some 58, .call 89 [.t 53, .t 57], none, []⟩,
   ⟨some 12, .new [.bool false, .sl 0 []] [], none, []⟩,
   ⟨none, .st 12 12 2 (.t 58), none, []⟩])
  (.seq (.seq (.region false [⟨some 59, .mov (.t 11), none, []⟩,
   ⟨some 60, .mov (.t 9), none, []⟩,
   ⟨some 61, .bin .geq (.t 59) (.t 60), none, []⟩])
  (.cond (.t 61) (.region true [⟨some 62, .ld 12 12 2 false, none, []⟩,
   ⟨some 63, .ld 8 8 2 false, none, []⟩,
   ⟨some 64, .mov (.t 6), none, []⟩,
   ⟨some 65, .mov (.t 11), none, []⟩,
   ⟨some 66, .mov (.t 9), none, []⟩,
   ⟨some 67, .bin .sub (.t 65) (.t 66), none, []⟩,
   ⟨some 68, .ixa 64 (.t 67) 2, none, []⟩,
   ⟨some 69, .ld 68 68 2 false, none, []⟩,
   ⟨some 70, .call 89 [.t 63, .t 69], none, []⟩,
   ⟨some 71, .call 90 [.t 62, .t 70], none, []⟩,
   ⟨none, .st 12 12 2 (.t 71), none, []⟩])
  (.skip)))
  (.region false [⟨some 72, .tra 10, none, []⟩,
   ⟨some 73, .ld 12 12 2 false, none, []⟩,
   ⟨some 74, .bls 1 [.bool false, .sl 0 []] [(0, 2, .t 73)], none, []⟩,
   ⟨some 75, .apd true (.t 72) (.t 74) 2, none, []⟩,
   ⟨some 10, .tra 75, none, []⟩]))))
  (.region false [⟨some 49, .mov (.t 11), none, []⟩,
   ⟨some 50, .bin .add (.t 49) (.c (.int .i64 1)), none, []⟩,
   ⟨some 11, .mov (.t 50), none, []⟩]))))))
  (.region false [⟨some 76, .frz 10, none, []⟩,
   ⟨some 77, .call 39 [.t 76], none, []⟩,
   ⟨some 78, .call 75 [.t 77], none, []⟩,
   ⟨some 5, .mov (.t 78), none, []⟩]))))))))))
  (.seq (.region false [⟨some 79, .mov (.t 5), none, []⟩,
   ⟨some 4, .tra 79, none, []⟩])
  (.ret)))))⟩
def Try.r52 : List (Nat × Nat) := [(51, 7)]
theorem Try.i52_ok : fnOk Try.prog Try.r52 Try.f52 Try.i52 = true := by kernel_rfl

/- pinball/pinballref02.Common -/
def Try.i53 : IFunc := ⟨2, 22, [.tmp 4],
  .seq (.region false [⟨some 4, .nlo 2, none, []⟩])
  (.seq (.region false [⟨some 8, .mov (.t 0), none, []⟩,
   ⟨some 9, .call 75 [.t 8], none, []⟩,
   ⟨some 10, .mov (.t 1), none, []⟩,
   ⟨some 11, .call 75 [.t 10], none, []⟩,
   ⟨some 5, .mov (.t 9), none, []⟩,
   ⟨some 6, .mov (.t 11), none, []⟩])
  (.seq (.block 0 (.loop (.seq (.seq (.region false [⟨some 12, .mov (.t 6), none, []⟩,
   ⟨some 13, .len (.t 12), none, []⟩,
   ⟨some 14, .bin .gtr (.t 13) (.c (.int .i64 0)), none, []⟩])
  (.cond (.t 14) (.skip)
  (.exit 0)))
  (.block 1 (.seq (.region false [⟨some 15, .mov (.t 5), none, []⟩,
   ⟨some 16, .mov (.t 6), none, []⟩,
   ⟨some 17, .call 52 [.t 15, .t 16], none, []⟩,
   ⟨some 7, .mov (.t 17), none, []⟩])
  (.region false [⟨some 18, .mov (.t 6), none, []⟩,
   ⟨some 19, .mov (.t 7), none, []⟩,
   ⟨some 5, .mov (.t 18), none, []⟩,
   ⟨some 6, .mov (.t 19), none, []⟩]))))))
  (.seq (.region false [⟨some 20, .mov (.t 5), none, []⟩,
   ⟨some 21, .clo 91 [.t 20], none, []⟩,
   ⟨some 4, .tra 21, none, []⟩])
  (.ret))))⟩
def Try.r53 : List (Nat × Nat) := []
theorem Try.i53_ok : fnOk Try.prog Try.r53 Try.f53 Try.i53 = true := by kernel_rfl

/- pinball/pinballref02.Simple -/
def Try.i54 : IFunc := ⟨1, 19, [.tmp 2],
  .seq (.region false [⟨some 2, .nlo 2, none, []⟩])
  (.seq (.region false [⟨some 5, .mov (.t 0), none, []⟩,
   ⟨some 6, .call 75 [.t 5], none, []⟩,
   ⟨some 7, .call 91 [.t 6], none, []⟩,
   ⟨some 3, .mov (.t 7), none, []⟩])
  (.seq (.seq (.region false [⟨some 8, .mov (.t 3), none, []⟩,
   ⟨some 9, .len (.t 8), none, []⟩,
   ⟨some 10, .bin .leq (.t 9) (.c (.int .i64 1)), none, []⟩])
  (.cond (.t 10) (.seq (.region false [⟨some 11, .mov (.t 3), none, []⟩,
   ⟨some 2, .tra 11, none, []⟩])
  (.ret))
  (.skip)))
  (.seq (.region false [⟨some 12, .mov (.t 3), none, []⟩,
   ⟨some 13, .mov (.t 3), none, []⟩,
   ⟨some 14, .call 73 [.t 13], none, []⟩,
   ⟨some 15, .call 53 [.t 12, .t 14], none, []⟩,
   ⟨some 4, .mov (.t 15), none, []⟩])
  (.seq (.region false [⟨some 16, .mov (.t 3), none, []⟩,
   ⟨some 17, .mov (.t 4), none, []⟩,
   ⟨some 18, .clo 92 [.t 16, .t 17], none, []⟩,
   ⟨some 2, .tra 18, none, []⟩])
  (.ret)))))⟩
def Try.r54 : List (Nat × Nat) := []
theorem Try.i54_ok : fnOk Try.prog Try.r54 Try.f54 Try.i54 = true := by kernel_rfl

/- pinball/algebra.Times -/
def Try.i55 : IFunc := ⟨2, 60, [.tmp 4],
  .seq (.region false [⟨some 4, .nlo 2, none, []⟩])
  (.seq (.region false [⟨some 10, .mov (.t 0), none, []⟩,
   ⟨some 11, .call 45 [.t 10], none, []⟩,
   ⟨some 12, .bin .add (.t 11) (.c (.int .i64 1)), none, []⟩,
   ⟨some 13, .mov (.t 1), none, []⟩,
   ⟨some 14, .call 45 [.t 13], none, []⟩,
   ⟨some 15, .bin .add (.t 14) (.c (.int .i64 1)), none, []⟩,
   ⟨some 5, .mov (.t 12), none, []⟩,
   ⟨some 6, .mov (.t 15), none, []⟩])
  (.seq (.seq (.region false [⟨some 16, .mov (.t 5), none, []⟩,
   ⟨some 17, .bin .eql (.t 16) (.c (.int .i64 0)), none, []⟩,
   ⟨some 18, .mov (.t 17), none, []⟩,
   ⟨some 19, .mov (.t 6), some (18, false), []⟩,
   ⟨some 20, .bin .eql (.t 19) (.c (.int .i64 0)), some (18, false), []⟩,
   ⟨some 21, .pick (.t 18) (.c (.bool true)) (.t 20), none, []⟩])
  (.cond (.t 21) (.seq (.region false [⟨some 4, .nlo 2, none, []⟩])
  (.ret))
  (.skip)))
  (.seq (.region false [⟨some 22, .mov (.t 5), none, []⟩,
   ⟨some 23, .mov (.t 6), none, []⟩,
   ⟨some 24, .bin .add (.t 22) (.t 23), none, []⟩,
   ⟨some 25, .bin .sub (.t 24) (.c (.int .i64 1)), none, []⟩,
   ⟨some 26, .mks [.bool false, .sl 0 []] (.t 25), none, []⟩,
   ⟨some 7, .tra 26, none, [37, 41, 45, 57]⟩])
  (.seq (.seq (.region false [⟨some 8, .mov (.c (.int .i64 0)), none, []⟩])
  (.block 0 (.loop (.seq (.seq (.region false [⟨some 27, .mov (.t 8), none, []⟩,
   ⟨some 28, .mov (.t 5), none, []⟩,
   ⟨some 29, .bin .lss (.t 27) (.t 28), none, []⟩])
  (.cond (.t 29) (.skip)
  (.exit 0)))
  (.seq (.block 1 (.seq (.region false [⟨some 9, .mov (.c (.int .i64 0)), none, []⟩])
  (.block 2 (.loop (.seq (.seq (.region false [⟨some 32, .mov (.t 9), none, []⟩,
   ⟨some 33, .mov (.t 6), none, []⟩,
   ⟨some 34, .bin .lss (.t 32) (.t 33), none, []⟩])
  (.cond (.t 34) (.skip)
  (.exit 2)))
  (.seq (.block 3 (.region true [⟨some 37, .cpy 7, none, []⟩,
   ⟨some 38, .mov (.t 8), none, []⟩,
   ⟨some 39, .mov (.t 9), none, []⟩,
   ⟨some 40, .bin .add (.t 38) (.t 39), none, []⟩,
   ⟨some 41, .cpy 7, none, []⟩,
   ⟨some 42, .mov (.t 8), none, []⟩,
   ⟨some 43, .mov (.t 9), none, []⟩,
   ⟨some 44, .bin .add (.t 42) (.t 43), none, []⟩,
   ⟨some 45, .ixo 41 7 (.t 44) 2, none, []⟩,
   ⟨some 46, .ld 45 7 2 false, none, []⟩,
   ⟨some 47, .mov (.t 0), none, []⟩,
   ⟨some 48, .mov (.t 8), none, []⟩,
   ⟨some 49, .ixa 47 (.t 48) 2, none, []⟩,
   ⟨some 50, .ld 49 49 2 false, none, []⟩,
   ⟨some 51, .mov (.t 1), none, []⟩,
   ⟨some 52, .mov (.t 9), none, []⟩,
   ⟨some 53, .ixa 51 (.t 52) 2, none, []⟩,
   ⟨some 54, .ld 53 53 2 false, none, []⟩,
   ⟨some 55, .call 84 [.t 50, .t 54], none, []⟩,
   ⟨some 56, .call 93 [.t 46, .t 55], none, []⟩,
   ⟨some 57, .ixo 37 7 (.t 40) 2, none, []⟩,
   ⟨none, .st 57 7 2 (.t 56), none, []⟩]))
  (.region false [⟨some 35, .mov (.t 9), none, []⟩,
   ⟨some 36, .bin .add (.t 35) (.c (.int .i64 1)), none, []⟩,
   ⟨some 9, .mov (.t 36), none, []⟩])))))))
  (.region false [⟨some 30, .mov (.t 8), none, []⟩,
   ⟨some 31, .bin .add (.t 30) (.c (.int .i64 1)), none, []⟩,
   ⟨some 8, .mov (.t 31), none, []⟩]))))))
  (.seq (.region false [⟨some 58, .frz 7, none, []⟩,
   ⟨some 59, .clo 76 [.t 58], none, []⟩,
   ⟨some 4, .tra 59, none, []⟩])
  (.ret))))))⟩
def Try.r55 : List (Nat × Nat) := [(37, 7), (41, 7), (45, 7), (57, 7)]
theorem Try.i55_ok : fnOk Try.prog Try.r55 Try.f55 Try.i55 = true := by kernel_rfl

/- pinball/wide.Sign -/
def Try.i56 : IFunc := ⟨1, 16, [.tmp 2],
  .seq (.region false [⟨some 1, .box (.t 0) [], none, []⟩,
   ⟨some 2, .mov (.c (.int .i64 0)), none, []⟩])
  (.seq (.region false [⟨some 6, .ld 1 1 2 false, none, []⟩,
   ⟨some 7, .call 94 [.t 6], none, []⟩,
   ⟨some 5, .mov (.t 7), none, []⟩,
   ⟨some 8, .ext (.t 5) 0, none, []⟩,
   ⟨some 9, .ext (.t 5) 1, none, []⟩,
   ⟨some 3, .mov (.t 8), none, []⟩,
   ⟨some 4, .mov (.t 9), none, []⟩])
  (.seq (.block 0 (.seq (.region false [⟨some 11, .mov (.t 4), none, []⟩,
   ⟨some 12, .len (.t 11), none, []⟩,
   ⟨some 13, .bin .eql (.t 12) (.c (.int .i64 0)), none, []⟩,
   ⟨some 10, .mov (.t 13), none, []⟩])
  (.cond (.t 10) (.seq (.region false [⟨some 2, .mov (.c (.int .i64 0)), none, []⟩])
  (.ret))
  (.seq (.region false [⟨some 15, .mov (.t 3), none, []⟩,
   ⟨some 14, .mov (.t 15), none, []⟩])
  (.cond (.t 14) (.seq (.region false [⟨some 2, .mov (.c (.int .i64 (-1))), none, []⟩])
  (.ret))
  (.skip))))))
  (.seq (.region false [⟨some 2, .mov (.c (.int .i64 1)), none, []⟩])
  (.ret))))⟩
def Try.r56 : List (Nat × Nat) := []
theorem Try.i56_ok : fnOk Try.prog Try.r56 Try.f56 Try.i56 = true := by kernel_rfl

/- pinball/algebra.Ints -/
def Try.i57 : IFunc := ⟨1, 24, [.tmp 2],
  .seq (.region false [⟨some 2, .nlo 2, none, []⟩])
  (.seq (.region false [⟨some 6, .mov (.t 0), none, []⟩,
   ⟨some 7, .len (.t 6), none, []⟩,
   ⟨some 8, .mks [.bool false, .sl 0 []] (.t 7), none, []⟩,
   ⟨some 3, .tra 8, none, [16, 20]⟩])
  (.seq (.seq (.region false [⟨some 9, .mov (.t 0), none, []⟩,
   ⟨some 10, .len (.t 9), none, []⟩,
   ⟨some 11, .mov (.c (.int .i64 0)), none, []⟩])
  (.block 0 (.loop (.seq (.region false [⟨some 12, .bin .lss (.t 11) (.t 10), none, []⟩])
  (.seq (.cond (.t 12) (.skip)
  (.exit 0))
  (.seq (.block 1 (.seq (.region false [⟨some 13, .mov (.t 11), none, []⟩,
   ⟨some 14, .ixa 9 (.t 11) 1, none, []⟩,
   ⟨some 15, .ld 14 14 1 true, none, []⟩,
   ⟨some 4, .mov (.t 13), none, []⟩,
   ⟨some 5, .mov (.t 15), none, []⟩])
  (.region false [⟨some 16, .cpy 3, none, []⟩,
   ⟨some 17, .mov (.t 4), none, []⟩,
   ⟨some 18, .mov (.t 5), none, []⟩,
   ⟨some 19, .call 78 [.t 18], none, []⟩,
   ⟨some 20, .ixo 16 3 (.t 17) 2, none, []⟩,
   ⟨none, .st 20 3 2 (.t 19), none, []⟩])))
  (.region false [⟨some 21, .bin .add (.t 11) (.c (.int .i64 1)), none, []⟩,
   ⟨some 11, .mov (.t 21), none, []⟩])))))))
  (.seq (.region false [⟨some 22, .frz 3, none, []⟩,
   ⟨some 23, .clo 76 [.t 22], none, []⟩,
   ⟨some 2, .tra 23, none, []⟩])
  (.ret))))⟩
def Try.r57 : List (Nat × Nat) := [(16, 3), (20, 3)]
theorem Try.i57_ok : fnOk Try.prog Try.r57 Try.f57 Try.i57 = true := by kernel_rfl

/- pinball/algebra.Derived -/
def Try.i58 : IFunc := ⟨1, 23, [.tmp 2],
  .seq (.region false [⟨some 2, .nlo 2, none, []⟩])
  (.seq (.region false [⟨some 3, .nlo 2, none, []⟩])
  (.seq (.seq (.region false [⟨some 4, .mov (.c (.int .i64 1)), none, []⟩])
  (.block 0 (.loop (.seq (.seq (.region false [⟨some 5, .mov (.t 4), none, []⟩,
   ⟨some 6, .mov (.t 0), none, []⟩,
   ⟨some 7, .call 45 [.t 6], none, []⟩,
   ⟨some 8, .bin .leq (.t 5) (.t 7), none, []⟩])
  (.cond (.t 8) (.skip)
  (.exit 0)))
  (.seq (.block 1 (.region true [⟨some 11, .tra 3, none, []⟩,
   ⟨some 12, .mov (.t 0), none, []⟩,
   ⟨some 13, .mov (.t 4), none, []⟩,
   ⟨some 14, .ixa 12 (.t 13) 2, none, []⟩,
   ⟨some 15, .ld 14 14 2 false, none, []⟩,
   ⟨some 16, .mov (.t 4), none, []⟩,
   ⟨some 17, .call 78 [.t 16], none, []⟩,
   ⟨some 18, .call 84 [.t 15, .t 17], none, []⟩,
   ⟨some 19, .bls 1 [.bool false, .sl 0 []] [(0, 2, .t 18)], none, []⟩,
   ⟨some 20, .apd true (.t 11) (.t 19) 2, none, []⟩,
   ⟨some 3, .tra 20, none, []⟩]))
  (.region false [⟨some 9, .mov (.t 4), none, []⟩,
   ⟨some 10, .bin .add (.t 9) (.c (.int .i64 1)), none, []⟩,
   ⟨some 4, .mov (.t 10), none, []⟩]))))))
  (.seq (.region false [⟨some 21, .frz 3, none, []⟩,
   ⟨some 22, .clo 76 [.t 21], none, []⟩,
   ⟨some 2, .tra 22, none, []⟩])
  (.ret))))⟩
def Try.r58 : List (Nat × Nat) := []
theorem Try.i58_ok : fnOk Try.prog Try.r58 Try.f58 Try.i58 = true := by kernel_rfl

/- pinball/wide.Size -/
def Try.i59 : IFunc := ⟨1, 12, [.tmp 2],
  .seq (.region false [⟨some 1, .box (.t 0) [], none, []⟩,
   ⟨some 2, .mov (.c (.int .i64 0)), none, []⟩])
  (.seq (.region false [⟨some 6, .ld 1 1 2 false, none, []⟩,
   ⟨some 7, .call 94 [.t 6], none, []⟩,
   ⟨some 5, .mov (.t 7), none, []⟩,
   ⟨some 8, .ext (.t 5) 0, none, []⟩,
   ⟨some 9, .ext (.t 5) 1, none, []⟩,
   ⟨some 3, .mov (.t 8), none, []⟩,
   ⟨some 4, .mov (.t 9), none, []⟩])
  (.seq (.region false [⟨some 10, .mov (.t 4), none, []⟩,
   ⟨some 11, .len (.t 10), none, []⟩,
   ⟨some 2, .mov (.t 11), none, []⟩])
  (.ret)))⟩
def Try.r59 : List (Nat × Nat) := []
theorem Try.i59_ok : fnOk Try.prog Try.r59 Try.f59 Try.i59 = true := by kernel_rfl

/- pinball/wide.Bits -/
def Try.i60 : IFunc := ⟨1, 25, [.tmp 2],
  .seq (.region false [⟨some 1, .box (.t 0) [], none, []⟩,
   ⟨some 2, .mov (.c (.int .i64 0)), none, []⟩])
  (.seq (.region false [⟨some 6, .ld 1 1 2 false, none, []⟩,
   ⟨some 7, .call 94 [.t 6], none, []⟩,
   ⟨some 5, .mov (.t 7), none, []⟩,
   ⟨some 8, .ext (.t 5) 0, none, []⟩,
   ⟨some 9, .ext (.t 5) 1, none, []⟩,
   ⟨some 3, .mov (.t 8), none, []⟩,
   ⟨some 4, .mov (.t 9), none, []⟩])
  (.seq (.seq (.region false [⟨some 10, .mov (.t 4), none, []⟩,
   ⟨some 11, .len (.t 10), none, []⟩,
   ⟨some 12, .bin .eql (.t 11) (.c (.int .i64 0)), none, []⟩])
  (.cond (.t 12) (.seq (.region false [⟨some 2, .mov (.c (.int .i64 0)), none, []⟩])
  (.ret))
  (.skip)))
  (.seq (.region false [⟨some 13, .mov (.t 4), none, []⟩,
   ⟨some 14, .len (.t 13), none, []⟩,
   ⟨some 15, .bin .sub (.t 14) (.c (.int .i64 1)), none, []⟩,
   ⟨some 16, .bin .mul (.c (.int .i64 32)) (.t 15), none, []⟩,
   ⟨some 17, .mov (.t 4), none, []⟩,
   ⟨some 18, .mov (.t 4), none, []⟩,
   ⟨some 19, .len (.t 18), none, []⟩,
   ⟨some 20, .bin .sub (.t 19) (.c (.int .i64 1)), none, []⟩,
   ⟨some 21, .ixa 17 (.t 20) 1, none, []⟩,
   ⟨some 22, .ld 21 21 1 true, none, []⟩,
   ⟨some 23, .call 95 [.t 22], none, []⟩,
   ⟨some 24, .bin .add (.t 16) (.t 23), none, []⟩,
   ⟨some 2, .mov (.t 24), none, []⟩])
  (.ret))))⟩
def Try.r60 : List (Nat × Nat) := []
theorem Try.i60_ok : fnOk Try.prog Try.r60 Try.f60 Try.i60 = true := by kernel_rfl

/- pinball/algebra.SignAt -/
def Try.i61 : IFunc := ⟨2, 32, [.tmp 4],
  .seq (.region false [⟨some 3, .box (.t 1) [20, 16], none, []⟩,
   ⟨some 4, .mov (.c (.int .i64 0)), none, []⟩])
  (.seq (.region false [⟨some 5, .new [.bool false, .sl 0 []] [], none, []⟩])
  (.seq (.seq (.region false [⟨some 8, .mov (.t 0), none, []⟩,
   ⟨some 9, .len (.t 8), none, []⟩,
   ⟨some 10, .bin .sub (.t 9) (.c (.int .i64 1)), none, []⟩,
   ⟨some 6, .mov (.t 10), none, []⟩,
   ⟨some 7, .mov (.c (.int .i64 0)), none, []⟩])
  (.block 0 (.loop (.seq (.seq (.region false [⟨some 11, .mov (.t 6), none, []⟩,
   ⟨some 12, .bin .geq (.t 11) (.c (.int .i64 0)), none, []⟩])
  (.cond (.t 12) (.skip)
  (.exit 0)))
  (.seq (.block 1 (.region true [⟨some 19, .ld 5 5 2 false, none, []⟩,
   ⟨some 20, .adr 3 3 0, none, []⟩,
   ⟨some 21, .ld 20 3 2 false, none, []⟩,
   ⟨some 22, .call 84 [.t 19, .t 21], none, []⟩,
   ⟨some 23, .mov (.t 0), none, []⟩,
   ⟨some 24, .mov (.t 6), none, []⟩,
   ⟨some 25, .ixa 23 (.t 24) 2, none, []⟩,
   ⟨some 26, .ld 25 25 2 false, none, []⟩,
   ⟨some 27, .mov (.t 7), none, []⟩,
   ⟨some 28, .call 96 [.t 26, .t 27], none, []⟩,
   ⟨some 29, .call 93 [.t 22, .t 28], none, []⟩,
   ⟨none, .st 5 5 2 (.t 29), none, []⟩]))
  (.region true [⟨some 13, .mov (.t 6), none, []⟩,
   ⟨some 14, .bin .sub (.t 13) (.c (.int .i64 1)), none, []⟩,
   ⟨some 15, .mov (.t 7), none, []⟩,
   ⟨some 16, .adr 3 3 2, none, []⟩,
   ⟨some 17, .ld 16 3 1 true, none, []⟩,
   ⟨some 18, .bin .add (.t 15) (.t 17), none, []⟩,
   ⟨some 6, .mov (.t 14), none, []⟩,
   ⟨some 7, .mov (.t 18), none, []⟩]))))))
  (.seq (.region false [⟨some 30, .ld 5 5 2 false, none, []⟩,
   ⟨some 31, .call 56 [.t 30], none, []⟩,
   ⟨some 4, .mov (.t 31), none, []⟩])
  (.ret))))⟩
def Try.r61 : List (Nat × Nat) := [(20, 3), (16, 3)]
theorem Try.i61_ok : fnOk Try.prog Try.r61 Try.f61 Try.i61 = true := by kernel_rfl

/- pinball/pinballref01.Large -/
def Try.i62 : IFunc := ⟨1, 8, [.tmp 2],
  .seq (.region false [⟨some 1, .box (.t 0) [3], none, []⟩,
   ⟨some 2, .mov (.c (.bool false)), none, []⟩])
  (.seq (.region false [⟨some 3, .adr 1 1 1, none, []⟩,
   ⟨some 4, .ld 3 1 1 true, none, []⟩,
   ⟨some 5, .call 97 [.t 4], none, []⟩,
   ⟨some 6, .len (.t 5), none, []⟩,
   ⟨some 7, .bin .gtr (.t 6) (.c (.int .i64 256)), none, []⟩,
   ⟨some 2, .mov (.t 7), none, []⟩])
  (.ret))⟩
def Try.r62 : List (Nat × Nat) := [(3, 1)]
theorem Try.i62_ok : fnOk Try.prog Try.r62 Try.f62 Try.i62 = true := by kernel_rfl

/- pinball/pinballref01.Bits -/
def Try.i63 : IFunc := ⟨1, 29, [.tmp 2],
  .seq (.region false [⟨some 1, .box (.t 0) [6], none, []⟩,
   ⟨some 2, .mov (.c (.int .i64 0)), none, []⟩])
  (.seq (.region false [⟨some 6, .adr 1 1 1, none, []⟩,
   ⟨some 7, .ld 6 1 1 true, none, []⟩,
   ⟨some 8, .call 97 [.t 7], none, []⟩,
   ⟨some 3, .mov (.t 8), none, []⟩])
  (.seq (.seq (.region false [⟨some 9, .mov (.t 3), none, []⟩,
   ⟨some 10, .len (.t 9), none, []⟩,
   ⟨some 11, .bin .eql (.t 10) (.c (.int .i64 0)), none, []⟩])
  (.cond (.t 11) (.seq (.region false [⟨some 2, .mov (.c (.int .i64 0)), none, []⟩])
  (.ret))
  (.skip)))
  (.seq (.region false [⟨some 12, .mov (.t 3), none, []⟩,
   ⟨some 13, .len (.t 12), none, []⟩,
   ⟨some 14, .bin .sub (.t 13) (.c (.int .i64 1)), none, []⟩,
   ⟨some 15, .bin .mul (.c (.int .i64 32)) (.t 14), none, []⟩,
   ⟨some 4, .mov (.t 15), none, []⟩])
  (.seq (.seq (.region false [⟨some 16, .mov (.t 3), none, []⟩,
   ⟨some 17, .mov (.t 3), none, []⟩,
   ⟨some 18, .len (.t 17), none, []⟩,
   ⟨some 19, .bin .sub (.t 18) (.c (.int .i64 1)), none, []⟩,
   ⟨some 20, .ixa 16 (.t 19) 1, none, []⟩,
   ⟨some 21, .ld 20 20 1 true, none, []⟩,
   ⟨some 5, .mov (.t 21), none, []⟩])
  (.block 0 (.loop (.seq (.seq (.region false [⟨some 22, .mov (.t 5), none, []⟩,
   ⟨some 23, .bin .gtr (.t 22) (.c (.int .u32 0)), none, []⟩])
  (.cond (.t 23) (.skip)
  (.exit 0)))
  (.seq (.block 1 (.region false [⟨some 26, .mov (.t 4), none, []⟩,
   ⟨some 27, .bin .add (.t 26) (.c (.int .i64 1)), none, []⟩,
   ⟨some 4, .mov (.t 27), none, []⟩]))
  (.region false [⟨some 24, .mov (.t 5), none, []⟩,
   ⟨some 25, .bin .shr (.t 24) (.c (.int .u64 1)), none, []⟩,
   ⟨some 5, .mov (.t 25), none, []⟩]))))))
  (.seq (.region false [⟨some 28, .mov (.t 4), none, []⟩,
   ⟨some 2, .mov (.t 28), none, []⟩])
  (.ret))))))⟩
def Try.r63 : List (Nat × Nat) := [(6, 1)]
theorem Try.i63_ok : fnOk Try.prog Try.r63 Try.f63 Try.i63 = true := by kernel_rfl

/- pinball/pinballref01.Sign -/
def Try.i64 : IFunc := ⟨1, 12, [.tmp 2],
  .seq (.region false [⟨some 1, .box (.t 0) [4, 10], none, []⟩,
   ⟨some 2, .mov (.c (.int .i64 0)), none, []⟩])
  (.seq (.block 0 (.seq (.region false [⟨some 4, .adr 1 1 1, none, []⟩,
   ⟨some 5, .ld 4 1 1 true, none, []⟩,
   ⟨some 6, .call 97 [.t 5], none, []⟩,
   ⟨some 7, .len (.t 6), none, []⟩,
   ⟨some 8, .bin .eql (.t 7) (.c (.int .i64 0)), none, []⟩,
   ⟨some 3, .mov (.t 8), none, []⟩])
  (.cond (.t 3) (.seq (.region false [⟨some 2, .mov (.c (.int .i64 0)), none, []⟩])
  (.ret))
  (.seq (.region false [⟨some 10, .adr 1 1 0, none, []⟩,
   ⟨some 11, .ld 10 1 1 true, none, []⟩,
   ⟨some 9, .mov (.t 11), none, []⟩])
  (.cond (.t 9) (.seq (.region false [⟨some 2, .mov (.c (.int .i64 (-1))), none, []⟩])
  (.ret))
  (.skip))))))
  (.seq (.region false [⟨some 2, .mov (.c (.int .i64 1)), none, []⟩])
  (.ret)))⟩
def Try.r64 : List (Nat × Nat) := [(4, 1), (10, 1)]
theorem Try.i64_ok : fnOk Try.prog Try.r64 Try.f64 Try.i64 = true := by kernel_rfl

/- pinball/pinballref02.Value -/
def Try.i65 : IFunc := ⟨3, 37, [.cell 6 2 false],
  .seq (.region false [⟨some 4, .box (.t 1) [], none, []⟩,
   ⟨some 6, .new [.bool false, .sl 0 []] [], none, []⟩])
  (.seq (.region false [⟨some 10, .mov (.t 0), none, []⟩,
   ⟨some 11, .call 39 [.t 10], none, []⟩,
   ⟨some 7, .mov (.t 11), none, []⟩])
  (.seq (.region false [⟨some 12, .bld [.bool false, .sl 0 []] [], none, []⟩,
   ⟨some 8, .new [.bool false, .sl 0 []] [], none, []⟩,
   ⟨none, .st 8 8 2 (.t 12), none, []⟩])
  (.seq (.seq (.region false [⟨some 13, .mov (.t 7), none, []⟩,
   ⟨some 14, .len (.t 13), none, []⟩,
   ⟨some 15, .bin .sub (.t 14) (.c (.int .i64 1)), none, []⟩,
   ⟨some 9, .mov (.t 15), none, []⟩])
  (.block 0 (.loop (.seq (.seq (.region false [⟨some 16, .mov (.t 9), none, []⟩,
   ⟨some 17, .bin .geq (.t 16) (.c (.int .i64 0)), none, []⟩])
  (.cond (.t 17) (.skip)
  (.exit 0)))
  (.seq (.block 1 (.region true [⟨some 20, .ld 8 8 2 false, none, []⟩,
   ⟨some 21, .ld 4 4 2 false, none, []⟩,
   ⟨some 22, .call 89 [.t 20, .t 21], none, []⟩,
   ⟨some 23, .mov (.t 7), none, []⟩,
   ⟨some 24, .mov (.t 9), none, []⟩,
   ⟨some 25, .ixa 23 (.t 24) 2, none, []⟩,
   ⟨some 26, .ld 25 25 2 false, none, []⟩,
   ⟨some 27, .mov (.t 2), none, []⟩,
   ⟨some 28, .mov (.t 7), none, []⟩,
   ⟨some 29, .len (.t 28), none, []⟩,
   ⟨some 30, .bin .sub (.t 29) (.c (.int .i64 1)), none, []⟩,
   ⟨some 31, .mov (.t 9), none, []⟩,
   ⟨some 32, .bin .sub (.t 30) (.t 31), none, []⟩,
   ⟨some 33, .bin .mul (.t 27) (.t 32), none, []⟩,
   ⟨some 34, .call 99 [.t 26, .t 33], none, []⟩,
   ⟨some 35, .call 98 [.t 22, .t 34], none, []⟩,
   ⟨none, .st 8 8 2 (.t 35), none, []⟩]))
  (.region false [⟨some 18, .mov (.t 9), none, []⟩,
   ⟨some 19, .bin .sub (.t 18) (.c (.int .i64 1)), none, []⟩,
   ⟨some 9, .mov (.t 19), none, []⟩]))))))
  (.seq (.region false [⟨some 36, .ld 8 8 2 false, none, []⟩,
   ⟨none, .st 6 6 2 (.t 36), none, []⟩])
  (.ret)))))⟩
def Try.r65 : List (Nat × Nat) := []
theorem Try.i65_ok : fnOk Try.prog Try.r65 Try.f65 Try.i65 = true := by kernel_rfl

/- pinball/algebra.Plus -/
def Try.i66 : IFunc := ⟨2, 52, [.tmp 4],
  .seq (.region false [⟨some 4, .nlo 2, none, []⟩])
  (.seq (.region false [⟨some 9, .mov (.t 0), none, []⟩,
   ⟨some 10, .call 45 [.t 9], none, []⟩,
   ⟨some 11, .bin .add (.t 10) (.c (.int .i64 1)), none, []⟩,
   ⟨some 12, .mov (.t 1), none, []⟩,
   ⟨some 13, .call 45 [.t 12], none, []⟩,
   ⟨some 14, .bin .add (.t 13) (.c (.int .i64 1)), none, []⟩,
   ⟨some 5, .mov (.t 11), none, []⟩,
   ⟨some 6, .mov (.t 14), none, []⟩])
  (.seq (.region false [⟨some 15, .mov (.t 5), none, []⟩,
   ⟨some 16, .mov (.t 6), none, []⟩,
   ⟨some 17, .mx [.t 15, .t 16], none, []⟩,
   ⟨some 18, .mks [.bool false, .sl 0 []] (.t 17), none, []⟩,
   ⟨some 7, .tra 18, none, [19, 27, 33, 37, 39, 41, 48]⟩])
  (.seq (.seq (.region false [⟨some 19, .cpy 7, none, []⟩,
   ⟨some 20, .lno 19 7, none, []⟩,
   ⟨some 21, .mov (.c (.int .i64 0)), none, []⟩])
  (.block 0 (.loop (.seq (.region false [⟨some 22, .bin .lss (.t 21) (.t 20), none, []⟩])
  (.seq (.cond (.t 22) (.skip)
  (.exit 0))
  (.seq (.block 1 (.seq (.region false [⟨some 23, .mov (.t 21), none, []⟩,
   ⟨some 8, .mov (.t 23), none, []⟩])
  (.seq (.seq (.region false [⟨some 24, .mov (.t 8), none, []⟩,
   ⟨some 25, .mov (.t 5), none, []⟩,
   ⟨some 26, .bin .lss (.t 24) (.t 25), none, []⟩])
  (.cond (.t 26) (.region false [⟨some 27, .cpy 7, none, []⟩,
   ⟨some 28, .mov (.t 8), none, []⟩,
   ⟨some 29, .mov (.t 0), none, []⟩,
   ⟨some 30, .mov (.t 8), none, []⟩,
   ⟨some 31, .ixa 29 (.t 30) 2, none, []⟩,
   ⟨some 32, .ld 31 31 2 false, none, []⟩,
   ⟨some 33, .ixo 27 7 (.t 28) 2, none, []⟩,
   ⟨none, .st 33 7 2 (.t 32), none, []⟩])
  (.skip)))
  (.seq (.region false [⟨some 34, .mov (.t 8), none, []⟩,
   ⟨some 35, .mov (.t 6), none, []⟩,
   ⟨some 36, .bin .lss (.t 34) (.t 35), none, []⟩])
  (.cond (.t 36) (.region true [⟨some 37, .cpy 7, none, []⟩,
   ⟨some 38, .mov (.t 8), none, []⟩,
   ⟨some 39, .cpy 7, none, []⟩,
   ⟨some 40, .mov (.t 8), none, []⟩,
   ⟨some 41, .ixo 39 7 (.t 40) 2, none, []⟩,
   ⟨some 42, .ld 41 7 2 false, none, []⟩,
   ⟨some 43, .mov (.t 1), none, []⟩,
   ⟨some 44, .mov (.t 8), none, []⟩,
   ⟨some 45, .ixa 43 (.t 44) 2, none, []⟩,
   ⟨some 46, .ld 45 45 2 false, none, []⟩,
   ⟨some 47, .call 93 [.t 42, .t 46], none, []⟩,
   ⟨some 48, .ixo 37 7 (.t 38) 2, none, []⟩,
   ⟨none, .st 48 7 2 (.t 47), none, []⟩])
  (.skip))))))
  (.region false [⟨some 49, .bin .add (.t 21) (.c (.int .i64 1)), none, []⟩,
   ⟨some 21, .mov (.t 49), none, []⟩])))))))
  (.seq (.region false [⟨some 50, .frz 7, none, []⟩,
   ⟨some 51, .clo 76 [.t 50], none, []⟩,
   ⟨some 4, .tra 51, none, []⟩])
  (.ret)))))⟩
def Try.r66 : List (Nat × Nat) := [(19, 7), (27, 7), (33, 7), (37, 7), (39, 7), (41, 7), (48, 7)]
theorem Try.i66_ok : fnOk Try.prog Try.r66 Try.f66 Try.i66 = true := by kernel_rfl

/- pinball/algebra.Minus -/
def Try.i67 : IFunc := ⟨2, 10, [.tmp 4],
  .seq (.region false [⟨some 4, .nlo 2, none, []⟩])
  (.seq (.region false [⟨some 5, .mov (.t 0), none, []⟩,
   ⟨some 6, .mov (.t 1), none, []⟩,
   ⟨some 7, .call 76 [.t 6], none, []⟩,
   ⟨some 8, .call 100 [.t 7], none, []⟩,
   ⟨some 9, .clo 66 [.t 5, .t 8], none, []⟩,
   ⟨some 4, .tra 9, none, []⟩])
  (.ret))⟩
def Try.r67 : List (Nat × Nat) := []
theorem Try.i67_ok : fnOk Try.prog Try.r67 Try.f67 Try.i67 = true := by kernel_rfl

/- pinball/algebra.Content -/
def Try.i68 : IFunc := ⟨1, 24, [.cell 2 2 false],
  .seq (.region false [⟨some 2, .new [.bool false, .sl 0 []] [], none, []⟩])
  (.seq (.region false [⟨some 3, .new [.bool false, .sl 0 []] [], none, []⟩])
  (.seq (.seq (.region false [⟨some 5, .mov (.t 0), none, []⟩,
   ⟨some 6, .len (.t 5), none, []⟩,
   ⟨some 7, .bin .sub (.t 6) (.c (.int .i64 1)), none, []⟩,
   ⟨some 4, .mov (.t 7), none, []⟩])
  (.block 0 (.loop (.seq (.seq (.region false [⟨some 8, .mov (.t 4), none, []⟩,
   ⟨some 9, .bin .geq (.t 8) (.c (.int .i64 0)), none, []⟩,
   ⟨some 10, .mov (.t 9), none, []⟩,
   ⟨some 11, .ld 3 3 2 false, some (10, true), []⟩,
   ⟨some 12, .call 60 [.t 11], some (10, true), []⟩,
   ⟨some 13, .bin .neq (.t 12) (.c (.int .i64 1)), some (10, true), []⟩,
   ⟨some 14, .pick (.t 10) (.t 13) (.c (.bool false)), none, []⟩])
  (.cond (.t 14) (.skip)
  (.exit 0)))
  (.seq (.block 1 (.region true [⟨some 17, .ld 3 3 2 false, none, []⟩,
   ⟨some 18, .mov (.t 0), none, []⟩,
   ⟨some 19, .mov (.t 4), none, []⟩,
   ⟨some 20, .ixa 18 (.t 19) 2, none, []⟩,
   ⟨some 21, .ld 20 20 2 false, none, []⟩,
   ⟨some 22, .call 80 [.t 17, .t 21], none, []⟩,
   ⟨none, .st 3 3 2 (.t 22), none, []⟩]))
  (.region false [⟨some 15, .mov (.t 4), none, []⟩,
   ⟨some 16, .bin .sub (.t 15) (.c (.int .i64 1)), none, []⟩,
   ⟨some 4, .mov (.t 16), none, []⟩]))))))
  (.seq (.region false [⟨some 23, .ld 3 3 2 false, none, []⟩,
   ⟨none, .st 2 2 2 (.t 23), none, []⟩])
  (.ret))))⟩
def Try.r68 : List (Nat × Nat) := []
theorem Try.i68_ok : fnOk Try.prog Try.r68 Try.f68 Try.i68 = true := by kernel_rfl

/- pinball/algebra.Primitive -/
def Try.i69 : IFunc := ⟨1, 32, [.tmp 2],
  .seq (.region false [⟨some 2, .nlo 2, none, []⟩])
  (.seq (.region false [⟨some 6, .mov (.t 0), none, []⟩,
   ⟨some 7, .clo 76 [.t 6], none, []⟩,
   ⟨some 3, .tra 7, none, [8, 13, 19, 21, 23, 29]⟩])
  (.seq (.region false [⟨some 8, .cpy 3, none, []⟩,
   ⟨some 9, .brw 68 8 3, none, []⟩,
   ⟨some 4, .new [.bool false, .sl 0 []] [], none, []⟩,
   ⟨none, .st 4 4 2 (.t 9), none, []⟩])
  (.seq (.seq (.region false [⟨some 10, .ld 4 4 2 false, none, []⟩,
   ⟨some 11, .call 60 [.t 10], none, []⟩,
   ⟨some 12, .bin .gtr (.t 11) (.c (.int .i64 1)), none, []⟩])
  (.cond (.t 12) (.seq (.region false [⟨some 13, .cpy 3, none, []⟩,
   ⟨some 14, .lno 13 3, none, []⟩,
   ⟨some 15, .mov (.c (.int .i64 0)), none, []⟩])
  (.block 0 (.loop (.seq (.region false [⟨some 16, .bin .lss (.t 15) (.t 14), none, []⟩])
  (.seq (.cond (.t 16) (.skip)
  (.exit 0))
  (.seq (.block 1 (.seq (.region false [⟨some 17, .mov (.t 15), none, []⟩,
   ⟨some 5, .mov (.t 17), none, []⟩])
  (.region true [⟨some 19, .cpy 3, none, []⟩,
   ⟨some 20, .mov (.t 5), none, []⟩,
   ⟨some 21, .cpy 3, none, []⟩,
   ⟨some 22, .mov (.t 5), none, []⟩,
   ⟨some 23, .ixo 21 3 (.t 22) 2, none, []⟩,
   ⟨some 24, .ld 23 3 2 false, none, []⟩,
   ⟨some 25, .ld 4 4 2 false, none, []⟩,
   ⟨some 26, .call 81 [.t 24, .t 25], none, []⟩,
   ⟨some 18, .mov (.t 26), none, []⟩,
   ⟨some 27, .ext (.t 18) 0, none, []⟩,
   ⟨some 28, .ext (.t 18) 1, none, []⟩,
   ⟨some 29, .ixo 19 3 (.t 20) 2, none, []⟩,
   ⟨none, .st 29 3 2 (.t 27), none, []⟩])))
  (.region false [⟨some 30, .bin .add (.t 15) (.c (.int .i64 1)), none, []⟩,
   ⟨some 15, .mov (.t 30), none, []⟩])))))))
  (.skip)))
  (.seq (.region false [⟨some 31, .tra 3, none, []⟩,
   ⟨some 2, .tra 31, none, []⟩])
  (.ret)))))⟩
def Try.r69 : List (Nat × Nat) := [(8, 3), (13, 3), (19, 3), (21, 3), (23, 3), (29, 3)]
theorem Try.i69_ok : fnOk Try.prog Try.r69 Try.f69 Try.i69 = true := by kernel_rfl

/- pinball/pinballref02.Plus -/
def Try.i70 : IFunc := ⟨2, 31, [.tmp 4],
  .seq (.region false [⟨some 4, .nlo 2, none, []⟩])
  (.seq (.region false [⟨some 5, .nlo 2, none, []⟩])
  (.seq (.seq (.region false [⟨some 6, .mov (.c (.int .i64 0)), none, []⟩])
  (.block 0 (.loop (.seq (.seq (.region false [⟨some 7, .mov (.t 6), none, []⟩,
   ⟨some 8, .mov (.t 0), none, []⟩,
   ⟨some 9, .len (.t 8), none, []⟩,
   ⟨some 10, .bin .lss (.t 7) (.t 9), none, []⟩,
   ⟨some 11, .mov (.t 10), none, []⟩,
   ⟨some 12, .mov (.t 6), some (11, false), []⟩,
   ⟨some 13, .mov (.t 1), some (11, false), []⟩,
   ⟨some 14, .len (.t 13), some (11, false), []⟩,
   ⟨some 15, .bin .lss (.t 12) (.t 14), some (11, false), []⟩,
   ⟨some 16, .pick (.t 11) (.c (.bool true)) (.t 15), none, []⟩])
  (.cond (.t 16) (.skip)
  (.exit 0)))
  (.seq (.block 1 (.region false [⟨some 19, .tra 5, none, []⟩,
   ⟨some 20, .mov (.t 0), none, []⟩,
   ⟨some 21, .mov (.t 6), none, []⟩,
   ⟨some 22, .call 101 [.t 20, .t 21], none, []⟩,
   ⟨some 23, .mov (.t 1), none, []⟩,
   ⟨some 24, .mov (.t 6), none, []⟩,
   ⟨some 25, .call 101 [.t 23, .t 24], none, []⟩,
   ⟨some 26, .call 98 [.t 22, .t 25], none, []⟩,
   ⟨some 27, .bls 1 [.bool false, .sl 0 []] [(0, 2, .t 26)], none, []⟩,
   ⟨some 28, .apd true (.t 19) (.t 27) 2, none, []⟩,
   ⟨some 5, .tra 28, none, []⟩]))
  (.region false [⟨some 17, .mov (.t 6), none, []⟩,
   ⟨some 18, .bin .add (.t 17) (.c (.int .i64 1)), none, []⟩,
   ⟨some 6, .mov (.t 18), none, []⟩]))))))
  (.seq (.region false [⟨some 29, .frz 5, none, []⟩,
   ⟨some 30, .clo 39 [.t 29], none, []⟩,
   ⟨some 4, .tra 30, none, []⟩])
  (.ret))))⟩
def Try.r70 : List (Nat × Nat) := []
theorem Try.i70_ok : fnOk Try.prog Try.r70 Try.f70 Try.i70 = true := by kernel_rfl

/- pinball/pinballref02.Minus -/
def Try.i71 : IFunc := ⟨2, 9, [.tmp 4],
  .seq (.region false [⟨some 4, .nlo 2, none, []⟩])
  (.seq (.region false [⟨some 5, .mov (.t 0), none, []⟩,
   ⟨some 6, .mov (.t 1), none, []⟩,
   ⟨some 7, .call 102 [.t 6], none, []⟩,
   ⟨some 8, .clo 70 [.t 5, .t 7], none, []⟩,
   ⟨some 4, .tra 8, none, []⟩])
  (.ret))⟩
def Try.r71 : List (Nat × Nat) := []
theorem Try.i71_ok : fnOk Try.prog Try.r71 Try.f71 Try.i71 = true := by kernel_rfl

/- pinball/pinballref02.Times -/
def Try.i72 : IFunc := ⟨2, 58, [.tmp 4],
  .seq (.region false [⟨some 4, .nlo 2, none, []⟩])
  (.seq (.seq (.region false [⟨some 8, .mov (.t 0), none, []⟩,
   ⟨some 9, .len (.t 8), none, []⟩,
   ⟨some 10, .bin .eql (.t 9) (.c (.int .i64 0)), none, []⟩,
   ⟨some 11, .mov (.t 10), none, []⟩,
   ⟨some 12, .mov (.t 1), some (11, false), []⟩,
   ⟨some 13, .len (.t 12), some (11, false), []⟩,
   ⟨some 14, .bin .eql (.t 13) (.c (.int .i64 0)), some (11, false), []⟩,
   ⟨some 15, .pick (.t 11) (.c (.bool true)) (.t 14), none, []⟩])
  (.cond (.t 15) (.seq (.region false [⟨some 4, .nlo 2, none, []⟩])
  (.ret))
  (.skip)))
  (.seq (.region false [⟨some 16, .mov (.t 0), none, []⟩,
   ⟨some 17, .len (.t 16), none, []⟩,
   ⟨some 18, .mov (.t 1), none, []⟩,
   ⟨some 19, .len (.t 18), none, []⟩,
   ⟨some 20, .bin .add (.t 17) (.t 19), none, []⟩,
   ⟨some 21, .bin .sub (.t 20) (.c (.int .i64 1)), none, []⟩,
   ⟨some 22, .mks [.bool false, .sl 0 []] (.t 21), none, []⟩,
   ⟨some 5, .tra 22, none, [35, 39, 43, 55]⟩])
  (.seq (.seq (.region false [⟨some 6, .mov (.c (.int .i64 0)), none, []⟩])
  (.block 0 (.loop (.seq (.seq (.region false [⟨some 23, .mov (.t 6), none, []⟩,
   ⟨some 24, .mov (.t 0), none, []⟩,
   ⟨some 25, .len (.t 24), none, []⟩,
   ⟨some 26, .bin .lss (.t 23) (.t 25), none, []⟩])
  (.cond (.t 26) (.skip)
  (.exit 0)))
  (.seq (.block 1 (.seq (.region false [⟨some 7, .mov (.c (.int .i64 0)), none, []⟩])
  (.block 2 (.loop (.seq (.seq (.region false [⟨some 29, .mov (.t 7), none, []⟩,
   ⟨some 30, .mov (.t 1), none, []⟩,
   ⟨some 31, .len (.t 30), none, []⟩,
   ⟨some 32, .bin .lss (.t 29) (.t 31), none, []⟩])
  (.cond (.t 32) (.skip)
  (.exit 2)))
  (.seq (.block 3 (.region true [⟨some 35, .cpy 5, none, []⟩,
   ⟨some 36, .mov (.t 6), none, []⟩,
   ⟨some 37, .mov (.t 7), none, []⟩,
   ⟨some 38, .bin .add (.t 36) (.t 37), none, []⟩,
   ⟨some 39, .cpy 5, none, []⟩,
   ⟨some 40, .mov (.t 6), none, []⟩,
   ⟨some 41, .mov (.t 7), none, []⟩,
   ⟨some 42, .bin .add (.t 40) (.t 41), none, []⟩,
   ⟨some 43, .ixo 39 5 (.t 42) 2, none, []⟩,
   ⟨some 44, .ld 43 5 2 false, none, []⟩,
   ⟨some 45, .mov (.t 0), none, []⟩,
   ⟨some 46, .mov (.t 6), none, []⟩,
   ⟨some 47, .ixa 45 (.t 46) 2, none, []⟩,
   ⟨some 48, .ld 47 47 2 false, none, []⟩,
   ⟨some 49, .mov (.t 1), none, []⟩,
   ⟨some 50, .mov (.t 7), none, []⟩,
   ⟨some 51, .ixa 49 (.t 50) 2, none, []⟩,
   ⟨some 52, .ld 51 51 2 false, none, []⟩,
   ⟨some 53, .call 89 [.t 48, .t 52], none, []⟩,
   ⟨some 54, .call 98 [.t 44, .t 53], none, []⟩,
   ⟨some 55, .ixo 35 5 (.t 38) 2, none, []⟩,
   ⟨none, .st 55 5 2 (.t 54), none, []⟩]))
  (.region false [⟨some 33, .mov (.t 7), none, []⟩,
   ⟨some 34, .bin .add (.t 33) (.c (.int .i64 1)), none, []⟩,
   ⟨some 7, .mov (.t 34), none, []⟩])))))))
  (.region false [⟨some 27, .mov (.t 6), none, []⟩,
   ⟨some 28, .bin .add (.t 27) (.c (.int .i64 1)), none, []⟩,
   ⟨some 6, .mov (.t 28), none, []⟩]))))))
  (.seq (.region false [⟨some 56, .frz 5, none, []⟩,
   ⟨some 57, .clo 39 [.t 56], none, []⟩,
   ⟨some 4, .tra 57, none, []⟩])
  (.ret)))))⟩
def Try.r72 : List (Nat × Nat) := [(35, 5), (39, 5), (43, 5), (55, 5)]
theorem Try.i72_ok : fnOk Try.prog Try.r72 Try.f72 Try.i72 = true := by kernel_rfl

/- pinball/pinballref02.Derivative -/
def Try.i73 : IFunc := ⟨1, 23, [.tmp 2],
  .seq (.region false [⟨some 2, .nlo 2, none, []⟩])
  (.seq (.region false [⟨some 3, .nlo 2, none, []⟩])
  (.seq (.seq (.region false [⟨some 4, .mov (.c (.int .i64 1)), none, []⟩])
  (.block 0 (.loop (.seq (.seq (.region false [⟨some 5, .mov (.t 4), none, []⟩,
   ⟨some 6, .mov (.t 0), none, []⟩,
   ⟨some 7, .len (.t 6), none, []⟩,
   ⟨some 8, .bin .lss (.t 5) (.t 7), none, []⟩])
  (.cond (.t 8) (.skip)
  (.exit 0)))
  (.seq (.block 1 (.region true [⟨some 11, .tra 3, none, []⟩,
   ⟨some 12, .mov (.t 4), none, []⟩,
   ⟨some 13, .call 79 [.t 12], none, []⟩,
   ⟨some 14, .mov (.t 0), none, []⟩,
   ⟨some 15, .mov (.t 4), none, []⟩,
   ⟨some 16, .ixa 14 (.t 15) 2, none, []⟩,
   ⟨some 17, .ld 16 16 2 false, none, []⟩,
   ⟨some 18, .call 89 [.t 13, .t 17], none, []⟩,
   ⟨some 19, .bls 1 [.bool false, .sl 0 []] [(0, 2, .t 18)], none, []⟩,
   ⟨some 20, .apd true (.t 11) (.t 19) 2, none, []⟩,
   ⟨some 3, .tra 20, none, []⟩]))
  (.region false [⟨some 9, .mov (.t 4), none, []⟩,
   ⟨some 10, .bin .add (.t 9) (.c (.int .i64 1)), none, []⟩,
   ⟨some 4, .mov (.t 10), none, []⟩]))))))
  (.seq (.region false [⟨some 21, .frz 3, none, []⟩,
   ⟨some 22, .clo 39 [.t 21], none, []⟩,
   ⟨some 2, .tra 22, none, []⟩])
  (.ret))))⟩
def Try.r73 : List (Nat × Nat) := []
theorem Try.i73_ok : fnOk Try.prog Try.r73 Try.f73 Try.i73 = true := by kernel_rfl

/- pinball/pinballref02.Inner -/
def Try.i74 : IFunc := ⟨1, 19, [.cell 2 2 false],
  .seq (.region false [⟨some 2, .new [.bool false, .sl 0 []] [], none, []⟩])
  (.seq (.region false [⟨some 5, .bld [.bool false, .sl 0 []] [], none, []⟩,
   ⟨some 3, .new [.bool false, .sl 0 []] [], none, []⟩,
   ⟨none, .st 3 3 2 (.t 5), none, []⟩])
  (.seq (.seq (.region false [⟨some 4, .mov (.c (.int .i64 0)), none, []⟩])
  (.block 0 (.loop (.seq (.seq (.region false [⟨some 6, .mov (.t 4), none, []⟩,
   ⟨some 7, .mov (.t 0), none, []⟩,
   ⟨some 8, .len (.t 7), none, []⟩,
   ⟨some 9, .bin .lss (.t 6) (.t 8), none, []⟩])
  (.cond (.t 9) (.skip)
  (.exit 0)))
  (.seq (.block 1 (.region true [⟨some 12, .ld 3 3 2 false, none, []⟩,
   ⟨some 13, .mov (.t 0), none, []⟩,
   ⟨some 14, .mov (.t 4), none, []⟩,
   ⟨some 15, .ixa 13 (.t 14) 2, none, []⟩,
   ⟨some 16, .ld 15 15 2 false, none, []⟩,
   ⟨some 17, .call 103 [.t 12, .t 16], none, []⟩,
   ⟨none, .st 3 3 2 (.t 17), none, []⟩]))
  (.region false [⟨some 10, .mov (.t 4), none, []⟩,
   ⟨some 11, .bin .add (.t 10) (.c (.int .i64 1)), none, []⟩,
   ⟨some 4, .mov (.t 11), none, []⟩]))))))
  (.seq (.region false [⟨some 18, .ld 3 3 2 false, none, []⟩,
   ⟨none, .st 2 2 2 (.t 18), none, []⟩])
  (.ret))))⟩
def Try.r74 : List (Nat × Nat) := []
theorem Try.i74_ok : fnOk Try.prog Try.r74 Try.f74 Try.i74 = true := by kernel_rfl

/- pinball/pinballref02.Prim -/
def Try.i75 : IFunc := ⟨1, 34, [.tmp 2],
  .seq (.region false [⟨some 2, .nlo 2, none, []⟩])
  (.seq (.region false [⟨some 8, .mov (.t 0), none, []⟩,
   ⟨some 9, .call 74 [.t 8], none, []⟩,
   ⟨some 3, .new [.bool false, .sl 0 []] [], none, []⟩,
   ⟨none, .st 3 3 2 (.t 9), none, []⟩])
  (.seq (.seq (.region false [⟨some 10, .ld 3 3 2 false, none, []⟩,
   ⟨some 11, .call 64 [.t 10], none, []⟩,
   ⟨some 12, .bin .eql (.t 11) (.c (.int .i64 0)), none, []⟩])
  (.cond (.t 12) (.seq (.region false [⟨some 2, .nlo 2, none, []⟩])
  (.ret))
  (.skip)))
  (.seq (.region false [⟨some 4, .nlo 2, none, []⟩])
  (.seq (.seq (.region false [⟨some 5, .mov (.c (.int .i64 0)), none, []⟩])
  (.block 0 (.loop (.seq (.seq (.region false [⟨some 13, .mov (.t 5), none, []⟩,
   ⟨some 14, .mov (.t 0), none, []⟩,
   ⟨some 15, .len (.t 14), none, []⟩,
   ⟨some 16, .bin .lss (.t 13) (.t 15), none, []⟩])
  (.cond (.t 16) (.skip)
  (.exit 0)))
  (.seq (.block 1 (.seq (.region true [⟨some 20, .mov (.t 0), none, []⟩,
   ⟨some 21, .mov (.t 5), none, []⟩,
   ⟨some 22, .ixa 20 (.t 21) 2, none, []⟩,
   ⟨some 23, .ld 22 22 2 false, none, []⟩,
   ⟨some 24, .ld 3 3 2 false, none, []⟩,
   ⟨some 25, .call 104 [.t 23, .t 24], none, []⟩,
   ⟨some 19, .mov (.t 25), none, []⟩,
   ⟨some 26, .ext (.t 19) 0, none, []⟩,
   ⟨some 27, .ext (.t 19) 1, none, []⟩,
   ⟨some 6, .new [.bool false, .sl 0 []] [], none, []⟩,
   ⟨some 7, .new [.bool false, .sl 0 []] [], none, []⟩,
   ⟨none, .st 6 6 2 (.t 26), none, []⟩,
   ⟨none, .st 7 7 2 (.t 27), none, []⟩])
  (.region false [⟨some 28, .tra 4, none, []⟩,
   ⟨some 29, .ld 6 6 2 false, none, []⟩,
   ⟨some 30, .bls 1 [.bool false, .sl 0 []] [(0, 2, .t 29)], none, []⟩,
   ⟨some 31, .apd true (.t 28) (.t 30) 2, none, []⟩,
   ⟨some 4, .tra 31, none, []⟩])))
  (.region false [⟨some 17, .mov (.t 5), none, []⟩,
   ⟨some 18, .bin .add (.t 17) (.c (.int .i64 1)), none, []⟩,
   ⟨some 5, .mov (.t 18), none, []⟩]))))))
  (.seq (.region false [⟨some 32, .frz 4, none, []⟩,
   ⟨some 33, .clo 39 [.t 32], none, []⟩,
   ⟨some 2, .tra 33, none, []⟩])
  (.ret))))))⟩
def Try.r75 : List (Nat × Nat) := []
theorem Try.i75_ok : fnOk Try.prog Try.r75 Try.f75 Try.i75 = true := by kernel_rfl

/- pinball/algebra.Trim -/
def Try.i76 : IFunc := ⟨1, 28, [.tmp 2],
  .seq (.region false [⟨some 2, .nlo 2, none, []⟩])
  (.seq (.region false [⟨some 6, .mov (.t 0), none, []⟩,
   ⟨some 7, .call 45 [.t 6], none, []⟩,
   ⟨some 8, .bin .add (.t 7) (.c (.int .i64 1)), none, []⟩,
   ⟨some 3, .mov (.t 8), none, []⟩])
  (.seq (.seq (.region false [⟨some 9, .mov (.t 3), none, []⟩,
   ⟨some 10, .bin .eql (.t 9) (.c (.int .i64 0)), none, []⟩])
  (.cond (.t 10) (.seq (.region false [⟨some 2, .nlo 2, none, []⟩])
  (.ret))
  (.skip)))
  (.seq (.region false [⟨some 11, .mov (.t 3), none, []⟩,
   ⟨some 12, .mks [.bool false, .sl 0 []] (.t 11), none, []⟩,
   ⟨some 4, .tra 12, none, [13, 18, 25]⟩])
  (.seq (.seq (.region false [⟨some 13, .cpy 4, none, []⟩,
   ⟨some 14, .lno 13 4, none, []⟩,
   ⟨some 15, .mov (.c (.int .i64 0)), none, []⟩])
  (.block 0 (.loop (.seq (.region false [⟨some 16, .bin .lss (.t 15) (.t 14), none, []⟩])
  (.seq (.cond (.t 16) (.skip)
  (.exit 0))
  (.seq (.block 1 (.seq (.region false [⟨some 17, .mov (.t 15), none, []⟩,
   ⟨some 5, .mov (.t 17), none, []⟩])
  (.region false [⟨some 18, .cpy 4, none, []⟩,
   ⟨some 19, .mov (.t 5), none, []⟩,
   ⟨some 20, .mov (.t 0), none, []⟩,
   ⟨some 21, .mov (.t 5), none, []⟩,
   ⟨some 22, .ixa 20 (.t 21) 2, none, []⟩,
   ⟨some 23, .ld 22 22 2 false, none, []⟩,
   ⟨some 24, .call 105 [.t 23], none, []⟩,
   ⟨some 25, .ixo 18 4 (.t 19) 2, none, []⟩,
   ⟨none, .st 25 4 2 (.t 24), none, []⟩])))
  (.region false [⟨some 26, .bin .add (.t 15) (.c (.int .i64 1)), none, []⟩,
   ⟨some 15, .mov (.t 26), none, []⟩])))))))
  (.seq (.region false [⟨some 27, .tra 4, none, []⟩,
   ⟨some 2, .tra 27, none, []⟩])
  (.ret))))))⟩
def Try.r76 : List (Nat × Nat) := [(13, 4), (18, 4), (25, 4)]
theorem Try.i76_ok : fnOk Try.prog Try.r76 Try.f76 Try.i76 = true := by kernel_rfl

/- pinball/pinballref01.Trim -/
def Try.i77 : IFunc := ⟨1, 8, [.cell 2 2 false],
  .seq (.region false [⟨some 1, .box (.t 0) [3, 5], none, []⟩,
   ⟨some 2, .new [.bool false, .sl 0 []] [], none, []⟩])
  (.seq (.region false [⟨some 3, .adr 1 1 0, none, []⟩,
   ⟨some 4, .ld 3 1 1 true, none, []⟩,
   ⟨some 5, .adr 1 1 1, none, []⟩,
   ⟨some 6, .ld 5 1 1 true, none, []⟩,
   ⟨some 7, .call 106 [.t 4, .t 6], none, []⟩,
   ⟨none, .st 2 2 2 (.t 7), none, []⟩])
  (.ret))⟩
def Try.r77 : List (Nat × Nat) := [(3, 1), (5, 1)]
theorem Try.i77_ok : fnOk Try.prog Try.r77 Try.f77 Try.i77 = true := by kernel_rfl

/- pinball/wide.Of -/
def Try.i78 : IFunc := ⟨1, 19, [.cell 2 2 false],
  .seq (.region false [⟨some 2, .new [.bool false, .sl 0 []] [], none, []⟩])
  (.seq (.region false [⟨some 4, .mov (.t 0), none, []⟩,
   ⟨some 5, .cv .u64 (.t 4), none, []⟩,
   ⟨some 3, .mov (.t 5), none, []⟩])
  (.seq (.seq (.region false [⟨some 6, .mov (.t 0), none, []⟩,
   ⟨some 7, .bin .lss (.t 6) (.c (.int .i64 0)), none, []⟩])
  (.cond (.t 7) (.region false [⟨some 8, .mov (.t 3), none, []⟩,
   ⟨some 9, .un .neg (.t 8), none, []⟩,
   ⟨some 3, .mov (.t 9), none, []⟩])
  (.skip)))
  (.seq (.region false [⟨some 10, .mov (.t 0), none, []⟩,
   ⟨some 11, .bin .lss (.t 10) (.c (.int .i64 0)), none, []⟩,
   ⟨some 12, .mov (.t 3), none, []⟩,
   ⟨some 13, .cv .u32 (.t 12), none, []⟩,
   ⟨some 14, .mov (.t 3), none, []⟩,
   ⟨some 15, .bin .shr (.t 14) (.c (.int .u64 32)), none, []⟩,
   ⟨some 16, .cv .u32 (.t 15), none, []⟩,
   ⟨some 17, .bls 2 [.int .u32 0, .int .u32 0] [(0, 1, .t 13), (1, 1, .t 16)], none, []⟩,
   ⟨some 18, .call 107 [.t 11, .t 17], none, []⟩,
   ⟨none, .st 2 2 2 (.t 18), none, []⟩])
  (.ret))))⟩
def Try.r78 : List (Nat × Nat) := []
theorem Try.i78_ok : fnOk Try.prog Try.r78 Try.f78 Try.i78 = true := by kernel_rfl

/- pinball/pinballref01.Of -/
def Try.i79 : IFunc := ⟨1, 19, [.cell 2 2 false],
  .seq (.region false [⟨some 2, .new [.bool false, .sl 0 []] [], none, []⟩])
  (.seq (.region false [⟨some 4, .mov (.t 0), none, []⟩,
   ⟨some 5, .cv .u64 (.t 4), none, []⟩,
   ⟨some 3, .mov (.t 5), none, []⟩])
  (.seq (.seq (.region false [⟨some 6, .mov (.t 0), none, []⟩,
   ⟨some 7, .bin .lss (.t 6) (.c (.int .i64 0)), none, []⟩])
  (.cond (.t 7) (.region false [⟨some 8, .mov (.t 3), none, []⟩,
   ⟨some 9, .un .neg (.t 8), none, []⟩,
   ⟨some 3, .mov (.t 9), none, []⟩])
  (.skip)))
  (.seq (.region false [⟨some 10, .mov (.t 0), none, []⟩,
   ⟨some 11, .bin .lss (.t 10) (.c (.int .i64 0)), none, []⟩,
   ⟨some 12, .mov (.t 3), none, []⟩,
   ⟨some 13, .cv .u32 (.t 12), none, []⟩,
   ⟨some 14, .mov (.t 3), none, []⟩,
   ⟨some 15, .bin .shr (.t 14) (.c (.int .u64 32)), none, []⟩,
   ⟨some 16, .cv .u32 (.t 15), none, []⟩,
   ⟨some 17, .bls 2 [.int .u32 0, .int .u32 0] [(0, 1, .t 13), (1, 1, .t 16)], none, []⟩,
   ⟨some 18, .call 106 [.t 11, .t 17], none, []⟩,
   ⟨none, .st 2 2 2 (.t 18), none, []⟩])
  (.ret))))⟩
def Try.r79 : List (Nat × Nat) := []
theorem Try.i79_ok : fnOk Try.prog Try.r79 Try.f79 Try.i79 = true := by kernel_rfl

/- pinball/wide.Gcd -/
def Try.i80 : IFunc := ⟨2, 42, [.cell 4 2 false],
  .seq (.region false [⟨some 2, .box (.t 0) [], none, []⟩,
   ⟨some 3, .box (.t 1) [], none, []⟩,
   ⟨some 4, .new [.bool false, .sl 0 []] [], none, []⟩])
  (.seq (.region true [⟨some 9, .ld 2 2 2 false, none, []⟩,
   ⟨some 10, .call 82 [.t 9], none, []⟩,
   ⟨some 11, .ld 3 3 2 false, none, []⟩,
   ⟨some 12, .call 82 [.t 11], none, []⟩,
   ⟨some 5, .new [.bool false, .sl 0 []] [17], none, []⟩,
   ⟨some 6, .new [.bool false, .sl 0 []] [13, 22], none, []⟩,
   ⟨none, .st 5 5 2 (.t 10), none, []⟩,
   ⟨none, .st 6 6 2 (.t 12), none, []⟩])
  (.seq (.block 0 (.loop (.seq (.seq (.region false [⟨some 13, .adr 6 6 1, none, []⟩,
   ⟨some 14, .ld 13 6 1 true, none, []⟩,
   ⟨some 15, .len (.t 14), none, []⟩,
   ⟨some 16, .bin .gtr (.t 15) (.c (.int .i64 0)), none, []⟩])
  (.cond (.t 16) (.skip)
  (.exit 0)))
  (.block 1 (.seq (.seq (.region false [⟨some 17, .adr 5 5 1, none, []⟩,
   ⟨some 18, .ld 17 5 1 true, none, []⟩,
   ⟨some 19, .len (.t 18), none, []⟩,
   ⟨some 20, .bin .leq (.t 19) (.c (.int .i64 2)), none, []⟩,
   ⟨some 21, .mov (.t 20), none, []⟩,
   ⟨some 22, .adr 6 6 1, some (21, true), []⟩,
   ⟨some 23, .ld 22 6 1 true, some (21, true), []⟩,
   ⟨some 24, .len (.t 23), some (21, true), []⟩,
   ⟨some 25, .bin .leq (.t 24) (.c (.int .i64 2)), some (21, true), []⟩,
   ⟨some 26, .pick (.t 21) (.t 25) (.c (.bool false)), none, []⟩])
  (.cond (.t 26) (.seq (.region true [⟨some 27, .ld 5 5 2 false, none, []⟩,
   ⟨some 28, .call 110 [.t 27], none, []⟩,
   ⟨some 29, .ld 6 6 2 false, none, []⟩,
   ⟨some 30, .call 110 [.t 29], none, []⟩,
   ⟨some 31, .call 109 [.t 28, .t 30], none, []⟩,
   ⟨some 32, .call 108 [.t 31], none, []⟩,
   ⟨none, .st 4 4 2 (.t 32), none, []⟩])
  (.ret))
  (.skip)))
  (.seq (.region false [⟨some 34, .ld 5 5 2 false, none, []⟩,
   ⟨some 35, .ld 6 6 2 false, none, []⟩,
   ⟨some 36, .call 81 [.t 34, .t 35], none, []⟩,
   ⟨some 33, .mov (.t 36), none, []⟩,
   ⟨some 37, .ext (.t 33) 0, none, []⟩,
   ⟨some 38, .ext (.t 33) 1, none, []⟩,
   ⟨some 7, .new [.bool false, .sl 0 []] [], none, []⟩,
   ⟨some 8, .new [.bool false, .sl 0 []] [], none, []⟩,
   ⟨none, .st 7 7 2 (.t 37), none, []⟩,
   ⟨none, .st 8 8 2 (.t 38), none, []⟩])
  (.region true [⟨some 39, .ld 6 6 2 false, none, []⟩,
   ⟨some 40, .ld 8 8 2 false, none, []⟩,
   ⟨none, .st 5 5 2 (.t 39), none, []⟩,
   ⟨none, .st 6 6 2 (.t 40), none, []⟩])))))))
  (.seq (.region false [⟨some 41, .ld 5 5 2 false, none, []⟩,
   ⟨none, .st 4 4 2 (.t 41), none, []⟩])
  (.ret))))⟩
def Try.r80 : List (Nat × Nat) := [(13, 6), (17, 5), (22, 6)]
theorem Try.i80_ok : fnOk Try.prog Try.r80 Try.f80 Try.i80 = true := by kernel_rfl

/- pinball/wide.Quo -/
def Try.i81 : IFunc := ⟨2, 36, [.cell 4 2 false, .cell 5 2 false],
  .seq (.region false [⟨some 2, .box (.t 0) [], none, []⟩,
   ⟨some 3, .box (.t 1) [], none, []⟩,
   ⟨some 4, .new [.bool false, .sl 0 []] [], none, []⟩,
   ⟨some 5, .new [.bool false, .sl 0 []] [], none, []⟩])
  (.seq (.region false [⟨some 13, .ld 2 2 2 false, none, []⟩,
   ⟨some 14, .call 94 [.t 13], none, []⟩,
   ⟨some 12, .mov (.t 14), none, []⟩,
   ⟨some 15, .ext (.t 12) 0, none, []⟩,
   ⟨some 16, .ext (.t 12) 1, none, []⟩,
   ⟨some 6, .mov (.t 15), none, []⟩,
   ⟨some 7, .mov (.t 16), none, []⟩])
  (.seq (.region false [⟨some 18, .ld 3 3 2 false, none, []⟩,
   ⟨some 19, .call 94 [.t 18], none, []⟩,
   ⟨some 17, .mov (.t 19), none, []⟩,
   ⟨some 20, .ext (.t 17) 0, none, []⟩,
   ⟨some 21, .ext (.t 17) 1, none, []⟩,
   ⟨some 8, .mov (.t 20), none, []⟩,
   ⟨some 9, .mov (.t 21), none, []⟩])
  (.seq (.region false [⟨some 23, .mov (.t 7), none, []⟩,
   ⟨some 24, .mov (.t 9), none, []⟩,
   ⟨some 25, .call 111 [.t 23, .t 24], none, []⟩,
   ⟨some 22, .mov (.t 25), none, []⟩,
   ⟨some 26, .ext (.t 22) 0, none, []⟩,
   ⟨some 27, .ext (.t 22) 1, none, []⟩,
   ⟨some 10, .mov (.t 26), none, []⟩,
   ⟨some 11, .mov (.t 27), none, []⟩])
  (.seq (.region false [⟨some 28, .mov (.t 6), none, []⟩,
   ⟨some 29, .mov (.t 8), none, []⟩,
   ⟨some 30, .eqb true (.t 28) (.t 29), none, []⟩,
   ⟨some 31, .mov (.t 10), none, []⟩,
   ⟨some 32, .call 107 [.t 30, .t 31], none, []⟩,
   ⟨some 33, .mov (.t 6), none, []⟩,
   ⟨some 34, .mov (.t 11), none, []⟩,
   ⟨some 35, .call 107 [.t 33, .t 34], none, []⟩,
   ⟨none, .st 4 4 2 (.t 32), none, []⟩,
   ⟨none, .st 5 5 2 (.t 35), none, []⟩])
  (.ret)))))⟩
def Try.r81 : List (Nat × Nat) := []
theorem Try.i81_ok : fnOk Try.prog Try.r81 Try.f81 Try.i81 = true := by kernel_rfl

/- pinball/wide.Abs -/
def Try.i82 : IFunc := ⟨1, 13, [.cell 2 2 false],
  .seq (.region false [⟨some 1, .box (.t 0) [], none, []⟩,
   ⟨some 2, .new [.bool false, .sl 0 []] [], none, []⟩])
  (.seq (.region false [⟨some 6, .ld 1 1 2 false, none, []⟩,
   ⟨some 7, .call 94 [.t 6], none, []⟩,
   ⟨some 5, .mov (.t 7), none, []⟩,
   ⟨some 8, .ext (.t 5) 0, none, []⟩,
   ⟨some 9, .ext (.t 5) 1, none, []⟩,
   ⟨some 3, .mov (.t 8), none, []⟩,
   ⟨some 4, .mov (.t 9), none, []⟩])
  (.seq (.region false [⟨some 10, .mov (.t 4), none, []⟩,
   ⟨some 11, .apd false (.c (.nil)) (.t 10) 1, none, []⟩,
   ⟨some 12, .call 107 [.c (.bool false), .t 11], none, []⟩,
   ⟨none, .st 2 2 2 (.t 12), none, []⟩])
  (.ret)))⟩
def Try.r82 : List (Nat × Nat) := []
theorem Try.i82_ok : fnOk Try.prog Try.r82 Try.f82 Try.i82 = true := by kernel_rfl

/- pinball/wide.Neg -/
def Try.i83 : IFunc := ⟨1, 15, [.cell 2 2 false],
  .seq (.region false [⟨some 1, .box (.t 0) [], none, []⟩,
   ⟨some 2, .new [.bool false, .sl 0 []] [], none, []⟩])
  (.seq (.region false [⟨some 6, .ld 1 1 2 false, none, []⟩,
   ⟨some 7, .call 94 [.t 6], none, []⟩,
   ⟨some 5, .mov (.t 7), none, []⟩,
   ⟨some 8, .ext (.t 5) 0, none, []⟩,
   ⟨some 9, .ext (.t 5) 1, none, []⟩,
   ⟨some 3, .mov (.t 8), none, []⟩,
   ⟨some 4, .mov (.t 9), none, []⟩])
  (.seq (.region false [⟨some 10, .mov (.t 3), none, []⟩,
   ⟨some 11, .un .not (.t 10), none, []⟩,
   ⟨some 12, .mov (.t 4), none, []⟩,
   ⟨some 13, .apd false (.c (.nil)) (.t 12) 1, none, []⟩,
   ⟨some 14, .call 107 [.t 11, .t 13], none, []⟩,
   ⟨none, .st 2 2 2 (.t 14), none, []⟩])
  (.ret)))⟩
def Try.r83 : List (Nat × Nat) := []
theorem Try.i83_ok : fnOk Try.prog Try.r83 Try.f83 Try.i83 = true := by kernel_rfl

/- pinball/wide.Mul -/
def Try.i84 : IFunc := ⟨2, 94, [.cell 4 2 false],
  .seq (.region false [⟨some 2, .box (.t 0) [], none, []⟩,
   ⟨some 3, .box (.t 1) [], none, []⟩,
   ⟨some 4, .new [.bool false, .sl 0 []] [], none, []⟩])
  (.seq (.region false [⟨some 17, .ld 2 2 2 false, none, []⟩,
   ⟨some 18, .call 94 [.t 17], none, []⟩,
   ⟨some 16, .mov (.t 18), none, []⟩,
   ⟨some 19, .ext (.t 16) 0, none, []⟩,
   ⟨some 20, .ext (.t 16) 1, none, []⟩,
   ⟨some 5, .mov (.t 19), none, []⟩,
   ⟨some 6, .mov (.t 20), none, []⟩])
  (.seq (.region false [⟨some 22, .ld 3 3 2 false, none, []⟩,
   ⟨some 23, .call 94 [.t 22], none, []⟩,
   ⟨some 21, .mov (.t 23), none, []⟩,
   ⟨some 24, .ext (.t 21) 0, none, []⟩,
   ⟨some 25, .ext (.t 21) 1, none, []⟩,
   ⟨some 7, .mov (.t 24), none, []⟩,
   ⟨some 8, .mov (.t 25), none, []⟩])
  (.seq (.seq (.region false [⟨some 26, .mov (.t 6), none, []⟩,
   ⟨some 27, .len (.t 26), none, []⟩,
   ⟨some 28, .bin .eql (.t 27) (.c (.int .i64 0)), none, []⟩,
   ⟨some 29, .mov (.t 28), none, []⟩,
   ⟨some 30, .mov (.t 8), some (29, false), []⟩,
   ⟨some 31, .len (.t 30), some (29, false), []⟩,
   ⟨some 32, .bin .eql (.t 31) (.c (.int .i64 0)), some (29, false), []⟩,
   ⟨some 33, .pick (.t 29) (.c (.bool true)) (.t 32), none, []⟩])
  (.cond (.t 33) (.seq (.region false [⟨some 34, .bld [.bool false, .sl 0 []] [], none, []⟩,
   ⟨none, .st 4 4 2 (.t 34), none, []⟩])
  (.ret))
  (.skip)))
  (.seq (.region false [⟨some 35, .mov (.t 6), none, []⟩,
   ⟨some 36, .len (.t 35), none, []⟩,
   ⟨some 37, .mov (.t 8), none, []⟩,
   ⟨some 38, .len (.t 37), none, []⟩,
   ⟨some 39, .bin .add (.t 36) (.t 38), none, []⟩,
   ⟨some 40, .mks [.int .u32 0] (.t 39), none, []⟩,
   ⟨some 9, .tra 40, none, [60, 64, 70, 78, 80, 87]⟩])
  (.seq (.seq (.region false [⟨some 41, .mov (.t 6), none, []⟩,
   ⟨some 42, .len (.t 41), none, []⟩,
   ⟨some 43, .mov (.c (.int .i64 0)), none, []⟩])
  (.block 0 (.loop (.seq (.region false [⟨some 44, .bin .lss (.t 43) (.t 42), none, []⟩])
  (.seq (.cond (.t 44) (.skip)
  (.exit 0))
  (.seq (.block 1 (.seq (.region false [⟨some 45, .mov (.t 43), none, []⟩,
   ⟨some 46, .ixa 41 (.t 43) 1, none, []⟩,
   ⟨some 47, .ld 46 46 1 true, none, []⟩,
   ⟨some 10, .mov (.t 45), none, []⟩,
   ⟨some 11, .mov (.t 47), none, []⟩])
  (.seq (.region false [⟨some 12, .mov (.c (.int .u64 0)), none, []⟩])
  (.seq (.seq (.region false [⟨some 48, .mov (.t 8), none, []⟩,
   ⟨some 49, .len (.t 48), none, []⟩,
   ⟨some 50, .mov (.c (.int .i64 0)), none, []⟩])
  (.block 2 (.loop (.seq (.region false [⟨some 51, .bin .lss (.t 50) (.t 49), none, []⟩])
  (.seq (.cond (.t 51) (.skip)
  (.exit 2))
  (.seq (.block 3 (.seq (.region false [⟨some 52, .mov (.t 50), none, []⟩,
   ⟨some 53, .ixa 48 (.t 50) 1, none, []⟩,
   ⟨some 54, .ld 53 53 1 true, none, []⟩,
   ⟨some 13, .mov (.t 52), none, []⟩,
   ⟨some 14, .mov (.t 54), none, []⟩])
  (.seq (.region false [⟨some 55, .mov (.t 11), none, []⟩,
   ⟨some 56, .cv .u64 (.t 55), none, []⟩,
   ⟨some 57, .mov (.t 14), none, []⟩,
   ⟨some 58, .cv .u64 (.t 57), none, []⟩,
   ⟨some 59, .bin .mul (.t 56) (.t 58), none, []⟩,
   ⟨some 60, .cpy 9, none, []⟩,
   ⟨some 61, .mov (.t 10), none, []⟩,
   ⟨some 62, .mov (.t 13), none, []⟩,
   ⟨some 63, .bin .add (.t 61) (.t 62), none, []⟩,
   ⟨some 64, .ixo 60 9 (.t 63) 1, none, []⟩,
   ⟨some 65, .ld 64 9 1 true, none, []⟩,
   ⟨some 66, .cv .u64 (.t 65), none, []⟩,
   ⟨some 67, .bin .add (.t 59) (.t 66), none, []⟩,
   ⟨some 68, .mov (.t 12), none, []⟩,
   ⟨some 69, .bin .add (.t 67) (.t 68), none, []⟩,
   ⟨some 15, .mov (.t 69), none, []⟩])
  (.region false [⟨some 70, .cpy 9, none, []⟩,
   ⟨some 71, .mov (.t 10), none, []⟩,
   ⟨some 72, .mov (.t 13), none, []⟩,
   ⟨some 73, .bin .add (.t 71) (.t 72), none, []⟩,
   ⟨some 74, .mov (.t 15), none, []⟩,
   ⟨some 75, .cv .u32 (.t 74), none, []⟩,
   ⟨some 76, .mov (.t 15), none, []⟩,
   ⟨some 77, .bin .shr (.t 76) (.c (.int .u64 32)), none, []⟩,
   ⟨some 78, .ixo 70 9 (.t 73) 1, none, []⟩,
   ⟨none, .st 78 9 1 (.t 75), none, []⟩,
   ⟨some 12, .mov (.t 77), none, []⟩]))))
  (.region false [⟨some 79, .bin .add (.t 50) (.c (.int .i64 1)), none, []⟩,
   ⟨some 50, .mov (.t 79), none, []⟩])))))))
  (.region false [⟨some 80, .cpy 9, none, []⟩,
   ⟨some 81, .mov (.t 10), none, []⟩,
   ⟨some 82, .mov (.t 8), none, []⟩,
   ⟨some 83, .len (.t 82), none, []⟩,
   ⟨some 84, .bin .add (.t 81) (.t 83), none, []⟩,
   ⟨some 85, .mov (.t 12), none, []⟩,
   ⟨some 86, .cv .u32 (.t 85), none, []⟩,
   ⟨some 87, .ixo 80 9 (.t 84) 1, none, []⟩,
   ⟨none, .st 87 9 1 (.t 86), none, []⟩])))))
  (.region false [⟨some 88, .bin .add (.t 43) (.c (.int .i64 1)), none, []⟩,
   ⟨some 43, .mov (.t 88), none, []⟩])))))))
  (.seq (.region false [⟨some 89, .mov (.t 5), none, []⟩,
   ⟨some 90, .mov (.t 7), none, []⟩,
   ⟨some 91, .eqb true (.t 89) (.t 90), none, []⟩,
   ⟨some 92, .frz 9, none, []⟩,
   ⟨some 93, .call 107 [.t 91, .t 92], none, []⟩,
   ⟨none, .st 4 4 2 (.t 93), none, []⟩])
  (.ret)))))))⟩
def Try.r84 : List (Nat × Nat) := [(60, 9), (64, 9), (70, 9), (78, 9), (80, 9), (87, 9)]
theorem Try.i84_ok : fnOk Try.prog Try.r84 Try.f84 Try.i84 = true := by kernel_rfl

/- pinball/wide.Sub -/
def Try.i85 : IFunc := ⟨2, 25, [.cell 4 2 false],
  .seq (.region false [⟨some 2, .box (.t 0) [], none, []⟩,
   ⟨some 3, .box (.t 1) [], none, []⟩,
   ⟨some 4, .new [.bool false, .sl 0 []] [], none, []⟩])
  (.seq (.region false [⟨some 10, .ld 2 2 2 false, none, []⟩,
   ⟨some 11, .call 94 [.t 10], none, []⟩,
   ⟨some 9, .mov (.t 11), none, []⟩,
   ⟨some 12, .ext (.t 9) 0, none, []⟩,
   ⟨some 13, .ext (.t 9) 1, none, []⟩,
   ⟨some 5, .mov (.t 12), none, []⟩,
   ⟨some 6, .mov (.t 13), none, []⟩])
  (.seq (.region false [⟨some 15, .ld 3 3 2 false, none, []⟩,
   ⟨some 16, .call 94 [.t 15], none, []⟩,
   ⟨some 14, .mov (.t 16), none, []⟩,
   ⟨some 17, .ext (.t 14) 0, none, []⟩,
   ⟨some 18, .ext (.t 14) 1, none, []⟩,
   ⟨some 7, .mov (.t 17), none, []⟩,
   ⟨some 8, .mov (.t 18), none, []⟩])
  (.seq (.region false [⟨some 19, .mov (.t 5), none, []⟩,
   ⟨some 20, .mov (.t 6), none, []⟩,
   ⟨some 21, .mov (.t 7), none, []⟩,
   ⟨some 22, .un .not (.t 21), none, []⟩,
   ⟨some 23, .mov (.t 8), none, []⟩,
   ⟨some 24, .call 112 [.t 19, .t 20, .t 22, .t 23], none, []⟩,
   ⟨none, .st 4 4 2 (.t 24), none, []⟩])
  (.ret))))⟩
def Try.r85 : List (Nat × Nat) := []
theorem Try.i85_ok : fnOk Try.prog Try.r85 Try.f85 Try.i85 = true := by kernel_rfl

/- pinball/algebra.Positive -/
def Try.i86 : IFunc := ⟨1, 20, [.tmp 2],
  .seq (.region false [⟨some 2, .nlo 2, none, []⟩])
  (.seq (.seq (.region false [⟨some 4, .mov (.t 0), none, []⟩,
   ⟨some 5, .len (.t 4), none, []⟩,
   ⟨some 3, .mov (.t 5), none, []⟩])
  (.seq (.region false [⟨some 6, .mov (.t 3), none, []⟩,
   ⟨some 7, .bin .gtr (.t 6) (.c (.int .i64 0)), none, []⟩,
   ⟨some 8, .mov (.t 7), none, []⟩,
   ⟨some 9, .mov (.t 0), some (8, true), []⟩,
   ⟨some 10, .mov (.t 3), some (8, true), []⟩,
   ⟨some 11, .bin .sub (.t 10) (.c (.int .i64 1)), some (8, true), []⟩,
   ⟨some 12, .ixa 9 (.t 11) 2, some (8, true), []⟩,
   ⟨some 13, .ld 12 12 2 false, some (8, true), []⟩,
   ⟨some 14, .call 56 [.t 13], some (8, true), []⟩,
   ⟨some 15, .bin .lss (.t 14) (.c (.int .i64 0)), some (8, true), []⟩,
   ⟨some 16, .pick (.t 8) (.t 15) (.c (.bool false)), none, []⟩])
  (.cond (.t 16) (.seq (.region false [⟨some 17, .mov (.t 0), none, []⟩,
   ⟨some 18, .clo 100 [.t 17], none, []⟩,
   ⟨some 2, .tra 18, none, []⟩])
  (.ret))
  (.skip))))
  (.seq (.region false [⟨some 19, .mov (.t 0), none, []⟩,
   ⟨some 2, .tra 19, none, []⟩])
  (.ret)))⟩
def Try.r86 : List (Nat × Nat) := []
theorem Try.i86_ok : fnOk Try.prog Try.r86 Try.f86 Try.i86 = true := by kernel_rfl

/- pinball/algebra.divided -/
def Try.i87 : IFunc := ⟨2, 103, [.tmp 4],
  .seq (.region false [⟨some 4, .nlo 2, none, []⟩])
  (.seq (.region false [⟨some 13, .mov (.t 0), none, []⟩,
   ⟨some 14, .clo 76 [.t 13], none, []⟩,
   ⟨some 5, .tra 14, none, [21, 35, 41, 43, 48, 50, 52, 56, 82, 86, 90, 99]⟩])
  (.seq (.region false [⟨some 15, .mov (.t 1), none, []⟩,
   ⟨some 16, .mov (.t 1), none, []⟩,
   ⟨some 17, .len (.t 16), none, []⟩,
   ⟨some 18, .bin .sub (.t 17) (.c (.int .i64 1)), none, []⟩,
   ⟨some 19, .ixa 15 (.t 18) 2, none, []⟩,
   ⟨some 20, .ld 19 19 2 false, none, []⟩,
   ⟨some 6, .new [.bool false, .sl 0 []] [], none, []⟩,
   ⟨none, .st 6 6 2 (.t 20), none, []⟩])
  (.seq (.region false [⟨some 21, .cpy 5, none, []⟩,
   ⟨some 22, .lno 21 5, none, []⟩,
   ⟨some 23, .mov (.t 1), none, []⟩,
   ⟨some 24, .len (.t 23), none, []⟩,
   ⟨some 25, .bin .sub (.t 22) (.t 24), none, []⟩,
   ⟨some 26, .bin .add (.t 25) (.c (.int .i64 1)), none, []⟩,
   ⟨some 27, .mks [.bool false, .sl 0 []] (.t 26), none, []⟩,
   ⟨some 7, .tra 27, none, [28, 58, 63, 65, 67, 71, 73, 76]⟩])
  (.seq (.seq (.region false [⟨some 28, .cpy 7, none, []⟩,
   ⟨some 29, .lno 28 7, none, []⟩,
   ⟨some 30, .bin .sub (.t 29) (.c (.int .i64 1)), none, []⟩,
   ⟨some 8, .mov (.t 30), none, []⟩])
  (.block 0 (.loop (.seq (.seq (.region false [⟨some 31, .mov (.t 8), none, []⟩,
   ⟨some 32, .bin .geq (.t 31) (.c (.int .i64 0)), none, []⟩])
  (.cond (.t 32) (.skip)
  (.exit 0)))
  (.seq (.block 1 (.seq (.region false [⟨some 35, .cpy 5, none, []⟩,
   ⟨some 36, .mov (.t 8), none, []⟩,
   ⟨some 37, .mov (.t 1), none, []⟩,
   ⟨some 38, .len (.t 37), none, []⟩,
   ⟨some 39, .bin .add (.t 36) (.t 38), none, []⟩,
   ⟨some 40, .bin .sub (.t 39) (.c (.int .i64 1)), none, []⟩,
   ⟨some 41, .ixo 35 5 (.t 40) 2, none, []⟩,
   ⟨some 42, .ld 41 5 2 false, none, []⟩,
   ⟨some 9, .new [.bool false, .sl 0 []] [], none, []⟩,
   ⟨none, .st 9 9 2 (.t 42), none, []⟩])
  (.seq (.seq (.region false [⟨some 43, .cpy 5, none, []⟩,
   ⟨some 44, .lno 43 5, none, []⟩,
   ⟨some 45, .mov (.c (.int .i64 0)), none, []⟩])
  (.block 2 (.loop (.seq (.region false [⟨some 46, .bin .lss (.t 45) (.t 44), none, []⟩])
  (.seq (.cond (.t 46) (.skip)
  (.exit 2))
  (.seq (.block 3 (.seq (.region false [⟨some 47, .mov (.t 45), none, []⟩,
   ⟨some 10, .mov (.t 47), none, []⟩])
  (.region true [⟨some 48, .cpy 5, none, []⟩,
   ⟨some 49, .mov (.t 10), none, []⟩,
   ⟨some 50, .cpy 5, none, []⟩,
   ⟨some 51, .mov (.t 10), none, []⟩,
   ⟨some 52, .ixo 50 5 (.t 51) 2, none, []⟩,
   ⟨some 53, .ld 52 5 2 false, none, []⟩,
   ⟨some 54, .ld 6 6 2 false, none, []⟩,
   ⟨some 55, .call 84 [.t 53, .t 54], none, []⟩,
   ⟨some 56, .ixo 48 5 (.t 49) 2, none, []⟩,
   ⟨none, .st 56 5 2 (.t 55), none, []⟩])))
  (.region false [⟨some 57, .bin .add (.t 45) (.c (.int .i64 1)), none, []⟩,
   ⟨some 45, .mov (.t 57), none, []⟩])))))))
  (.seq (.seq (.region false [⟨some 58, .cpy 7, none, []⟩,
   ⟨some 59, .lno 58 7, none, []⟩,
   ⟨some 60, .mov (.c (.int .i64 0)), none, []⟩])
  (.block 4 (.loop (.seq (.region false [⟨some 61, .bin .lss (.t 60) (.t 59), none, []⟩])
  (.seq (.cond (.t 61) (.skip)
  (.exit 4))
  (.seq (.block 5 (.seq (.region false [⟨some 62, .mov (.t 60), none, []⟩,
   ⟨some 11, .mov (.t 62), none, []⟩])
  (.region true [⟨some 63, .cpy 7, none, []⟩,
   ⟨some 64, .mov (.t 11), none, []⟩,
   ⟨some 65, .cpy 7, none, []⟩,
   ⟨some 66, .mov (.t 11), none, []⟩,
   ⟨some 67, .ixo 65 7 (.t 66) 2, none, []⟩,
   ⟨some 68, .ld 67 7 2 false, none, []⟩,
   ⟨some 69, .ld 6 6 2 false, none, []⟩,
   ⟨some 70, .call 84 [.t 68, .t 69], none, []⟩,
   ⟨some 71, .ixo 63 7 (.t 64) 2, none, []⟩,
   ⟨none, .st 71 7 2 (.t 70), none, []⟩])))
  (.region false [⟨some 72, .bin .add (.t 60) (.c (.int .i64 1)), none, []⟩,
   ⟨some 60, .mov (.t 72), none, []⟩])))))))
  (.seq (.region false [⟨some 73, .cpy 7, none, []⟩,
   ⟨some 74, .mov (.t 8), none, []⟩,
   ⟨some 75, .ld 9 9 2 false, none, []⟩,
   ⟨some 76, .ixo 73 7 (.t 74) 2, none, []⟩,
   ⟨none, .st 76 7 2 (.t 75), none, []⟩])
  (.seq (.region false [⟨some 77, .mov (.t 1), none, []⟩,
   ⟨some 78, .len (.t 77), none, []⟩,
   ⟨some 79, .mov (.c (.int .i64 0)), none, []⟩])
  (.block 6 (.loop (.seq (.region false [⟨some 80, .bin .lss (.t 79) (.t 78), none, []⟩])
  (.seq (.cond (.t 80) (.skip)
  (.exit 6))
  (.seq (.block 7 (.seq (.region false [⟨some 81, .mov (.t 79), none, []⟩,
   ⟨some 12, .mov (.t 81), none, []⟩])
  (.region true [⟨some 82, .cpy 5, none, []⟩,
   ⟨some 83, .mov (.t 8), none, []⟩,
   ⟨some 84, .mov (.t 12), none, []⟩,
   ⟨some 85, .bin .add (.t 83) (.t 84), none, []⟩,
   ⟨some 86, .cpy 5, none, []⟩,
   ⟨some 87, .mov (.t 8), none, []⟩,
   ⟨some 88, .mov (.t 12), none, []⟩,
   ⟨some 89, .bin .add (.t 87) (.t 88), none, []⟩,
   ⟨some 90, .ixo 86 5 (.t 89) 2, none, []⟩,
   ⟨some 91, .ld 90 5 2 false, none, []⟩,
   ⟨some 92, .ld 9 9 2 false, none, []⟩,
   ⟨some 93, .mov (.t 1), none, []⟩,
   ⟨some 94, .mov (.t 12), none, []⟩,
   ⟨some 95, .ixa 93 (.t 94) 2, none, []⟩,
   ⟨some 96, .ld 95 95 2 false, none, []⟩,
   ⟨some 97, .call 84 [.t 92, .t 96], none, []⟩,
   ⟨some 98, .call 85 [.t 91, .t 97], none, []⟩,
   ⟨some 99, .ixo 82 5 (.t 85) 2, none, []⟩,
   ⟨none, .st 99 5 2 (.t 98), none, []⟩])))
  (.region false [⟨some 100, .bin .add (.t 79) (.c (.int .i64 1)), none, []⟩,
   ⟨some 79, .mov (.t 100), none, []⟩]))))))))))))
  (.region false [⟨some 33, .mov (.t 8), none, []⟩,
   ⟨some 34, .bin .sub (.t 33) (.c (.int .i64 1)), none, []⟩,
   ⟨some 8, .mov (.t 34), none, []⟩]))))))
  (.seq (.region false [⟨some 101, .frz 7, none, []⟩,
   ⟨some 102, .clo 69 [.t 101], none, []⟩,
   ⟨some 4, .tra 102, none, []⟩])
  (.ret))))))⟩
def Try.r87 : List (Nat × Nat) := [(21, 5), (28, 7), (35, 5), (41, 5), (43, 5), (48, 5), (50, 5), (52, 5), (56, 5), (58, 7), (63, 7), (65, 7), (67, 7), (71, 7), (73, 7), (76, 7), (82, 5), (86, 5), (90, 5), (99, 5)]
theorem Try.i87_ok : fnOk Try.prog Try.r87 Try.f87 Try.i87 = true := by kernel_rfl

/- pinball/pinballref01.Neg -/
def Try.i88 : IFunc := ⟨1, 9, [.cell 2 2 false],
  .seq (.region false [⟨some 1, .box (.t 0) [3, 6], none, []⟩,
   ⟨some 2, .new [.bool false, .sl 0 []] [], none, []⟩])
  (.seq (.region false [⟨some 3, .adr 1 1 0, none, []⟩,
   ⟨some 4, .ld 3 1 1 true, none, []⟩,
   ⟨some 5, .un .not (.t 4), none, []⟩,
   ⟨some 6, .adr 1 1 1, none, []⟩,
   ⟨some 7, .ld 6 1 1 true, none, []⟩,
   ⟨some 8, .call 106 [.t 5, .t 7], none, []⟩,
   ⟨none, .st 2 2 2 (.t 8), none, []⟩])
  (.ret))⟩
def Try.r88 : List (Nat × Nat) := [(3, 1), (6, 1)]
theorem Try.i88_ok : fnOk Try.prog Try.r88 Try.f88 Try.i88 = true := by kernel_rfl

/- pinball/pinballref01.Times -/
def Try.i89 : IFunc := ⟨2, 18, [.cell 4 2 false],
  .seq (.region false [⟨some 2, .box (.t 0) [5, 10], none, []⟩,
   ⟨some 3, .box (.t 1) [7, 13], none, []⟩,
   ⟨some 4, .new [.bool false, .sl 0 []] [], none, []⟩])
  (.seq (.region true [⟨some 5, .adr 2 2 0, none, []⟩,
   ⟨some 6, .ld 5 2 1 true, none, []⟩,
   ⟨some 7, .adr 3 3 0, none, []⟩,
   ⟨some 8, .ld 7 3 1 true, none, []⟩,
   ⟨some 9, .eqb true (.t 6) (.t 8), none, []⟩,
   ⟨some 10, .adr 2 2 1, none, []⟩,
   ⟨some 11, .ld 10 2 1 true, none, []⟩,
   ⟨some 12, .call 97 [.t 11], none, []⟩,
   ⟨some 13, .adr 3 3 1, none, []⟩,
   ⟨some 14, .ld 13 3 1 true, none, []⟩,
   ⟨some 15, .call 97 [.t 14], none, []⟩,
   ⟨some 16, .call 113 [.t 12, .t 15], none, []⟩,
   ⟨some 17, .call 106 [.t 9, .t 16], none, []⟩,
   ⟨none, .st 4 4 2 (.t 17), none, []⟩])
  (.ret))⟩
def Try.r89 : List (Nat × Nat) := [(5, 2), (7, 3), (10, 2), (13, 3)]
theorem Try.i89_ok : fnOk Try.prog Try.r89 Try.f89 Try.i89 = true := by kernel_rfl

/- pinball/pinballref01.Minus -/
def Try.i90 : IFunc := ⟨2, 9, [.cell 4 2 false],
  .seq (.region false [⟨some 2, .box (.t 0) [], none, []⟩,
   ⟨some 3, .box (.t 1) [], none, []⟩,
   ⟨some 4, .new [.bool false, .sl 0 []] [], none, []⟩])
  (.seq (.region true [⟨some 5, .ld 2 2 2 false, none, []⟩,
   ⟨some 6, .ld 3 3 2 false, none, []⟩,
   ⟨some 7, .call 88 [.t 6], none, []⟩,
   ⟨some 8, .call 98 [.t 5, .t 7], none, []⟩,
   ⟨none, .st 4 4 2 (.t 8), none, []⟩])
  (.ret))⟩
def Try.r90 : List (Nat × Nat) := []
theorem Try.i90_ok : fnOk Try.prog Try.r90 Try.f90 Try.i90 = true := by kernel_rfl

/- pinball/pinballref02.positive -/
def Try.i91 : IFunc := ⟨1, 19, [.tmp 2],
  .seq (.region false [⟨some 2, .nlo 2, none, []⟩])
  (.seq (.seq (.region false [⟨some 3, .mov (.t 0), none, []⟩,
   ⟨some 4, .len (.t 3), none, []⟩,
   ⟨some 5, .bin .gtr (.t 4) (.c (.int .i64 0)), none, []⟩,
   ⟨some 6, .mov (.t 5), none, []⟩,
   ⟨some 7, .mov (.t 0), some (6, true), []⟩,
   ⟨some 8, .mov (.t 0), some (6, true), []⟩,
   ⟨some 9, .len (.t 8), some (6, true), []⟩,
   ⟨some 10, .bin .sub (.t 9) (.c (.int .i64 1)), some (6, true), []⟩,
   ⟨some 11, .ixa 7 (.t 10) 2, some (6, true), []⟩,
   ⟨some 12, .ld 11 11 2 false, some (6, true), []⟩,
   ⟨some 13, .call 64 [.t 12], some (6, true), []⟩,
   ⟨some 14, .bin .lss (.t 13) (.c (.int .i64 0)), some (6, true), []⟩,
   ⟨some 15, .pick (.t 6) (.t 14) (.c (.bool false)), none, []⟩])
  (.cond (.t 15) (.seq (.region false [⟨some 16, .mov (.t 0), none, []⟩,
   ⟨some 17, .clo 102 [.t 16], none, []⟩,
   ⟨some 2, .tra 17, none, []⟩])
  (.ret))
  (.skip)))
  (.seq (.region false [⟨some 18, .mov (.t 0), none, []⟩,
   ⟨some 2, .tra 18, none, []⟩])
  (.ret)))⟩
def Try.r91 : List (Nat × Nat) := []
theorem Try.i91_ok : fnOk Try.prog Try.r91 Try.f91 Try.i91 = true := by kernel_rfl

/- pinball/pinballref02.Over -/
def Try.i92 : IFunc := ⟨2, 103, [.tmp 4],
  .seq (.region false [⟨some 4, .nlo 2, none, []⟩])
  (.seq (.region false [⟨some 15, .mov (.t 0), none, []⟩,
   ⟨some 16, .call 39 [.t 15], none, []⟩,
   ⟨some 17, .mov (.t 1), none, []⟩,
   ⟨some 18, .call 39 [.t 17], none, []⟩,
   ⟨some 5, .mov (.t 16), none, []⟩,
   ⟨some 6, .mov (.t 18), none, []⟩])
  (.seq (.region false [⟨some 19, .mov (.t 6), none, []⟩,
   ⟨some 20, .mov (.t 6), none, []⟩,
   ⟨some 21, .len (.t 20), none, []⟩,
   ⟨some 22, .bin .sub (.t 21) (.c (.int .i64 1)), none, []⟩,
   ⟨some 23, .ixa 19 (.t 22) 2, none, []⟩,
   ⟨some 24, .ld 23 23 2 false, none, []⟩,
   ⟨some 7, .new [.bool false, .sl 0 []] [], none, []⟩,
   ⟨none, .st 7 7 2 (.t 24), none, []⟩])
  (.seq (.region false [⟨some 25, .mov (.t 5), none, []⟩,
   ⟨some 26, .len (.t 25), none, []⟩,
   ⟨some 27, .mov (.t 6), none, []⟩,
   ⟨some 28, .len (.t 27), none, []⟩,
   ⟨some 29, .bin .sub (.t 26) (.t 28), none, []⟩,
   ⟨some 30, .bin .add (.t 29) (.c (.int .i64 1)), none, []⟩,
   ⟨some 31, .mks [.bool false, .sl 0 []] (.t 30), none, []⟩,
   ⟨some 8, .tra 31, none, [49, 54, 56, 58, 62, 63, 66]⟩])
  (.seq (.block 0 (.loop (.seq (.seq (.region false [⟨some 32, .mov (.t 5), none, []⟩,
   ⟨some 33, .len (.t 32), none, []⟩,
   ⟨some 34, .mov (.t 6), none, []⟩,
   ⟨some 35, .len (.t 34), none, []⟩,
   ⟨some 36, .bin .geq (.t 33) (.t 35), none, []⟩])
  (.cond (.t 36) (.skip)
  (.exit 0)))
  (.block 1 (.seq (.region false [⟨some 37, .mov (.t 5), none, []⟩,
   ⟨some 38, .mov (.t 5), none, []⟩,
   ⟨some 39, .len (.t 38), none, []⟩,
   ⟨some 40, .bin .sub (.t 39) (.c (.int .i64 1)), none, []⟩,
   ⟨some 41, .ixa 37 (.t 40) 2, none, []⟩,
   ⟨some 42, .ld 41 41 2 false, none, []⟩,
   ⟨some 9, .new [.bool false, .sl 0 []] [], none, []⟩,
   ⟨none, .st 9 9 2 (.t 42), none, []⟩])
  (.seq (.region false [⟨some 43, .mov (.t 5), none, []⟩,
   ⟨some 44, .len (.t 43), none, []⟩,
   ⟨some 45, .mov (.t 6), none, []⟩,
   ⟨some 46, .len (.t 45), none, []⟩,
   ⟨some 47, .bin .sub (.t 44) (.t 46), none, []⟩,
   ⟨some 10, .mov (.t 47), none, []⟩])
  (.seq (.seq (.region false [⟨some 11, .mov (.c (.int .i64 0)), none, []⟩])
  (.block 2 (.loop (.seq (.seq (.region false [⟨some 48, .mov (.t 11), none, []⟩,
   ⟨some 49, .cpy 8, none, []⟩,
   ⟨some 50, .lno 49 8, none, []⟩,
   ⟨some 51, .bin .lss (.t 48) (.t 50), none, []⟩])
  (.cond (.t 51) (.skip)
  (.exit 2)))
  (.seq (.block 3 (.region true [⟨some 54, .cpy 8, none, []⟩,
   ⟨some 55, .mov (.t 11), none, []⟩,
   ⟨some 56, .cpy 8, none, []⟩,
   ⟨some 57, .mov (.t 11), none, []⟩,
   ⟨some 58, .ixo 56 8 (.t 57) 2, none, []⟩,
   ⟨some 59, .ld 58 8 2 false, none, []⟩,
   ⟨some 60, .ld 7 7 2 false, none, []⟩,
   ⟨some 61, .call 89 [.t 59, .t 60], none, []⟩,
   ⟨some 62, .ixo 54 8 (.t 55) 2, none, []⟩,
   ⟨none, .st 62 8 2 (.t 61), none, []⟩]))
  (.region false [⟨some 52, .mov (.t 11), none, []⟩,
   ⟨some 53, .bin .add (.t 52) (.c (.int .i64 1)), none, []⟩,
   ⟨some 11, .mov (.t 53), none, []⟩]))))))
  (.seq (.region false [⟨some 63, .cpy 8, none, []⟩,
   ⟨some 64, .mov (.t 10), none, []⟩,
   ⟨some 65, .ld 9 9 2 false, none, []⟩,
   ⟨some 66, .ixo 63 8 (.t 64) 2, none, []⟩,
   ⟨none, .st 66 8 2 (.t 65), none, []⟩])
  (.seq (.region false [⟨some 12, .nlo 2, none, []⟩])
  (.seq (.seq (.region false [⟨some 13, .mov (.c (.int .i64 0)), none, []⟩])
  (.block 4 (.loop (.seq (.seq (.region false [⟨some 67, .mov (.t 13), none, []⟩,
   ⟨some 68, .mov (.t 5), none, []⟩,
   ⟨some 69, .len (.t 68), none, []⟩,
   ⟨some 70, .bin .sub (.t 69) (.c (.int .i64 1)), none, []⟩,
   ⟨some 71, .bin .lss (.t 67) (.t 70), none, []⟩])
  (.cond (.t 71) (.skip)
  (.exit 4)))
  (.seq (.block 5 (.seq (.region true [⟨some 74, .ld 7 7 2 false, none, []⟩,
   ⟨some 75, .mov (.t 5), none, []⟩,
   ⟨some 76, .mov (.t 13), none, []⟩,
   ⟨some 77, .ixa 75 (.t 76) 2, none, []⟩,
   ⟨some 78, .ld 77 77 2 false, none, []⟩,
   ⟨some 79, .call 89 [.t 74, .t 78], none, []⟩,
   ⟨some 14, .new [.bool false, .sl 0 []] [], none, []⟩,
   ⟨none, .st 14 14 2 (.t 79), none, []⟩])
  (.seq (.seq (.region false [⟨some 80, .mov (.t 13), none, []⟩,
   ⟨some 81, .mov (.t 10), none, []⟩,
   ⟨some 82, .bin .geq (.t 80) (.t 81), none, []⟩])
  (.cond (.t 82) (.region true [⟨some 83, .ld 14 14 2 false, none, []⟩,
   ⟨some 84, .ld 9 9 2 false, none, []⟩,
   ⟨some 85, .mov (.t 6), none, []⟩,
   ⟨some 86, .mov (.t 13), none, []⟩,
   ⟨some 87, .mov (.t 10), none, []⟩,
   ⟨some 88, .bin .sub (.t 86) (.t 87), none, []⟩,
   ⟨some 89, .ixa 85 (.t 88) 2, none, []⟩,
   ⟨some 90, .ld 89 89 2 false, none, []⟩,
   ⟨some 91, .call 89 [.t 84, .t 90], none, []⟩,
   ⟨some 92, .call 90 [.t 83, .t 91], none, []⟩,
   ⟨none, .st 14 14 2 (.t 92), none, []⟩])
  (.skip)))
  (.region false [⟨some 93, .tra 12, none, []⟩,
   ⟨some 94, .ld 14 14 2 false, none, []⟩,
   ⟨some 95, .bls 1 [.bool false, .sl 0 []] [(0, 2, .t 94)], none, []⟩,
   ⟨some 96, .apd true (.t 93) (.t 95) 2, none, []⟩,
   ⟨some 12, .tra 96, none, []⟩]))))
  (.region false [⟨some 72, .mov (.t 13), none, []⟩,
   ⟨some 73, .bin .add (.t 72) (.c (.int .i64 1)), none, []⟩,
   ⟨some 13, .mov (.t 73), none, []⟩]))))))
  (.region false [⟨some 97, .frz 12, none, []⟩,
   ⟨some 98, .call 39 [.t 97], none, []⟩,
   ⟨some 5, .mov (.t 98), none, []⟩])))))))))))
  (.seq (.region false [⟨some 99, .frz 8, none, []⟩,
   ⟨some 100, .call 39 [.t 99], none, []⟩,
   ⟨some 101, .call 75 [.t 100], none, []⟩,
   ⟨some 102, .clo 91 [.t 101], none, []⟩,
   ⟨some 4, .tra 102, none, []⟩])
  (.ret))))))⟩
def Try.r92 : List (Nat × Nat) := [(49, 8), (54, 8), (56, 8), (58, 8), (62, 8), (63, 8), (66, 8)]
theorem Try.i92_ok : fnOk Try.prog Try.r92 Try.f92 Try.i92 = true := by kernel_rfl

/- pinball/wide.Add -/
def Try.i93 : IFunc := ⟨2, 24, [.cell 4 2 false],
  .seq (.region false [⟨some 2, .box (.t 0) [], none, []⟩,
   ⟨some 3, .box (.t 1) [], none, []⟩,
   ⟨some 4, .new [.bool false, .sl 0 []] [], none, []⟩])
  (.seq (.region false [⟨some 10, .ld 2 2 2 false, none, []⟩,
   ⟨some 11, .call 94 [.t 10], none, []⟩,
   ⟨some 9, .mov (.t 11), none, []⟩,
   ⟨some 12, .ext (.t 9) 0, none, []⟩,
   ⟨some 13, .ext (.t 9) 1, none, []⟩,
   ⟨some 5, .mov (.t 12), none, []⟩,
   ⟨some 6, .mov (.t 13), none, []⟩])
  (.seq (.region false [⟨some 15, .ld 3 3 2 false, none, []⟩,
   ⟨some 16, .call 94 [.t 15], none, []⟩,
   ⟨some 14, .mov (.t 16), none, []⟩,
   ⟨some 17, .ext (.t 14) 0, none, []⟩,
   ⟨some 18, .ext (.t 14) 1, none, []⟩,
   ⟨some 7, .mov (.t 17), none, []⟩,
   ⟨some 8, .mov (.t 18), none, []⟩])
  (.seq (.region false [⟨some 19, .mov (.t 5), none, []⟩,
   ⟨some 20, .mov (.t 6), none, []⟩,
   ⟨some 21, .mov (.t 7), none, []⟩,
   ⟨some 22, .mov (.t 8), none, []⟩,
   ⟨some 23, .call 112 [.t 19, .t 20, .t 21, .t 22], none, []⟩,
   ⟨none, .st 4 4 2 (.t 23), none, []⟩])
  (.ret))))⟩
def Try.r93 : List (Nat × Nat) := []
theorem Try.i93_ok : fnOk Try.prog Try.r93 Try.f93 Try.i93 = true := by kernel_rfl

/- pinball/wide.limbs -/
def Try.i94 : IFunc := ⟨1, 31, [.tmp 2, .tmp 3],
  .seq (.region false [⟨some 1, .box (.t 0) [5, 11, 21, 27], none, []⟩,
   ⟨some 2, .mov (.c (.bool false)), none, []⟩,
   ⟨some 3, .nlo 1, none, []⟩])
  (.seq (.region false [⟨some 5, .adr 1 1 1, none, []⟩,
   ⟨some 6, .ld 5 1 1 true, none, []⟩,
   ⟨some 7, .len (.t 6), none, []⟩,
   ⟨some 4, .mov (.t 7), none, []⟩])
  (.seq (.block 0 (.loop (.seq (.seq (.region false [⟨some 8, .mov (.t 4), none, []⟩,
   ⟨some 9, .bin .gtr (.t 8) (.c (.int .i64 0)), none, []⟩,
   ⟨some 10, .mov (.t 9), none, []⟩,
   ⟨some 11, .adr 1 1 1, some (10, true), []⟩,
   ⟨some 12, .ld 11 1 1 true, some (10, true), []⟩,
   ⟨some 13, .mov (.t 4), some (10, true), []⟩,
   ⟨some 14, .bin .sub (.t 13) (.c (.int .i64 1)), some (10, true), []⟩,
   ⟨some 15, .ixa 12 (.t 14) 1, some (10, true), []⟩,
   ⟨some 16, .ld 15 15 1 true, some (10, true), []⟩,
   ⟨some 17, .bin .eql (.t 16) (.c (.int .u32 0)), some (10, true), []⟩,
   ⟨some 18, .pick (.t 10) (.t 17) (.c (.bool false)), none, []⟩])
  (.cond (.t 18) (.skip)
  (.exit 0)))
  (.block 1 (.region false [⟨some 19, .mov (.t 4), none, []⟩,
   ⟨some 20, .bin .sub (.t 19) (.c (.int .i64 1)), none, []⟩,
   ⟨some 4, .mov (.t 20), none, []⟩])))))
  (.seq (.region true [⟨some 21, .adr 1 1 0, none, []⟩,
   ⟨some 22, .ld 21 1 1 true, none, []⟩,
   ⟨some 23, .mov (.t 22), none, []⟩,
   ⟨some 24, .mov (.t 4), some (23, true), []⟩,
   ⟨some 25, .bin .gtr (.t 24) (.c (.int .i64 0)), some (23, true), []⟩,
   ⟨some 26, .pick (.t 23) (.t 25) (.c (.bool false)), none, []⟩,
   ⟨some 27, .adr 1 1 1, none, []⟩,
   ⟨some 28, .ld 27 1 1 true, none, []⟩,
   ⟨some 29, .mov (.t 4), none, []⟩,
   ⟨some 30, .sli (.t 28) none (some (.t 29)) none 1, none, []⟩,
   ⟨some 2, .mov (.t 26), none, []⟩,
   ⟨some 3, .tra 30, none, []⟩])
  (.ret))))⟩
def Try.r94 : List (Nat × Nat) := [(5, 1), (11, 1), (21, 1), (27, 1)]
theorem Try.i94_ok : fnOk Try.prog Try.r94 Try.f94 Try.i94 = true := by kernel_rfl

def text_14a5d850_0 : List UInt8 := 0 :: 1 :: 2 :: 2 :: 3 :: 3 :: 3 :: 3 :: 4 :: 4 :: 4 :: 4 :: 4 :: 4 :: 4 :: 4 :: 5 :: 5 :: 5 :: 5 :: 5 :: 5 :: 5 :: 5 :: 5 :: 5 :: 5 :: 5 :: 5 :: 5 :: 5 :: 5 :: 6 :: 6 :: 6 :: 6 :: 6 :: 6 :: 6 :: 6 :: []
def text_14a5d850_1 : List UInt8 := 6 :: 6 :: 6 :: 6 :: 6 :: 6 :: 6 :: 6 :: 6 :: 6 :: 6 :: 6 :: 6 :: 6 :: 6 :: 6 :: 6 :: 6 :: 6 :: 6 :: 6 :: 6 :: 6 :: 6 :: 7 :: 7 :: 7 :: 7 :: 7 :: 7 :: 7 :: 7 :: 7 :: 7 :: 7 :: 7 :: 7 :: 7 :: 7 :: 7 :: []
def text_14a5d850_2 : List UInt8 := 7 :: 7 :: 7 :: 7 :: 7 :: 7 :: 7 :: 7 :: 7 :: 7 :: 7 :: 7 :: 7 :: 7 :: 7 :: 7 :: 7 :: 7 :: 7 :: 7 :: 7 :: 7 :: 7 :: 7 :: 7 :: 7 :: 7 :: 7 :: 7 :: 7 :: 7 :: 7 :: 7 :: 7 :: 7 :: 7 :: 7 :: 7 :: 7 :: 7 :: []
def text_14a5d850_3 : List UInt8 := 7 :: 7 :: 7 :: 7 :: 7 :: 7 :: 7 :: 7 :: 8 :: 8 :: 8 :: 8 :: 8 :: 8 :: 8 :: 8 :: 8 :: 8 :: 8 :: 8 :: 8 :: 8 :: 8 :: 8 :: 8 :: 8 :: 8 :: 8 :: 8 :: 8 :: 8 :: 8 :: 8 :: 8 :: 8 :: 8 :: 8 :: 8 :: 8 :: 8 :: []
def text_14a5d850_4 : List UInt8 := 8 :: 8 :: 8 :: 8 :: 8 :: 8 :: 8 :: 8 :: 8 :: 8 :: 8 :: 8 :: 8 :: 8 :: 8 :: 8 :: 8 :: 8 :: 8 :: 8 :: 8 :: 8 :: 8 :: 8 :: 8 :: 8 :: 8 :: 8 :: 8 :: 8 :: 8 :: 8 :: 8 :: 8 :: 8 :: 8 :: 8 :: 8 :: 8 :: 8 :: []
def text_14a5d850_5 : List UInt8 := 8 :: 8 :: 8 :: 8 :: 8 :: 8 :: 8 :: 8 :: 8 :: 8 :: 8 :: 8 :: 8 :: 8 :: 8 :: 8 :: 8 :: 8 :: 8 :: 8 :: 8 :: 8 :: 8 :: 8 :: 8 :: 8 :: 8 :: 8 :: 8 :: 8 :: 8 :: 8 :: 8 :: 8 :: 8 :: 8 :: 8 :: 8 :: 8 :: 8 :: []
def text_14a5d850_6 : List UInt8 := 8 :: 8 :: 8 :: 8 :: 8 :: 8 :: 8 :: 8 :: 8 :: 8 :: 8 :: 8 :: 8 :: 8 :: 8 :: 8 :: []
def text_14a5d850 : ByteArray := ⟨(text_14a5d850_0 ++ text_14a5d850_1 ++ text_14a5d850_2 ++ text_14a5d850_3 ++ text_14a5d850_4 ++ text_14a5d850_5 ++ text_14a5d850_6).toArray⟩
/- math/bits.Len32 -/
def Try.i95 : IFunc := ⟨1, 19, [.tmp 2],
  .seq (.region false [⟨some 2, .mov (.c (.int .i64 0)), none, []⟩])
  (.seq (.seq (.region false [⟨some 3, .mov (.t 0), none, []⟩,
   ⟨some 4, .bin .geq (.t 3) (.c (.int .u32 65536)), none, []⟩])
  (.cond (.t 4) (.seq (.region false [⟨some 5, .mov (.t 0), none, []⟩,
   ⟨some 6, .bin .shr (.t 5) (.c (.int .u64 16)), none, []⟩,
   ⟨some 0, .mov (.t 6), none, []⟩])
  (.region false [⟨some 2, .mov (.c (.int .i64 16)), none, []⟩]))
  (.skip)))
  (.seq (.seq (.region false [⟨some 7, .mov (.t 0), none, []⟩,
   ⟨some 8, .bin .geq (.t 7) (.c (.int .u32 256)), none, []⟩])
  (.cond (.t 8) (.seq (.region false [⟨some 9, .mov (.t 0), none, []⟩,
   ⟨some 10, .bin .shr (.t 9) (.c (.int .u64 8)), none, []⟩,
   ⟨some 0, .mov (.t 10), none, []⟩])
  (.region false [⟨some 11, .mov (.t 2), none, []⟩,
   ⟨some 12, .bin .add (.t 11) (.c (.int .i64 8)), none, []⟩,
   ⟨some 2, .mov (.t 12), none, []⟩]))
  (.skip)))
  (.seq (.region false [⟨some 13, .mov (.t 2), none, []⟩,
   ⟨some 14, .mov (.t 0), none, []⟩,
   ⟨some 15, .cv .u8 (.t 14), none, []⟩,
   ⟨some 16, .six (.c (.str text_14a5d850)) (.t 15), none, []⟩,
   ⟨some 17, .cv .i64 (.t 16), none, []⟩,
   ⟨some 18, .bin .add (.t 13) (.t 17), none, []⟩,
   ⟨some 2, .mov (.t 18), none, []⟩])
  (.ret))))⟩
def Try.r95 : List (Nat × Nat) := []
theorem Try.i95_ok : fnOk Try.prog Try.r95 Try.f95 Try.i95 = true := by kernel_rfl

/- pinball/wide.Shl -/
def Try.i96 : IFunc := ⟨2, 67, [.cell 4 2 false],
  .seq (.region false [⟨some 2, .box (.t 0) [], none, []⟩,
   ⟨some 4, .new [.bool false, .sl 0 []] [], none, []⟩])
  (.seq (.region false [⟨some 14, .ld 2 2 2 false, none, []⟩,
   ⟨some 15, .call 94 [.t 14], none, []⟩,
   ⟨some 13, .mov (.t 15), none, []⟩,
   ⟨some 16, .ext (.t 13) 0, none, []⟩,
   ⟨some 17, .ext (.t 13) 1, none, []⟩,
   ⟨some 5, .mov (.t 16), none, []⟩,
   ⟨some 6, .mov (.t 17), none, []⟩])
  (.seq (.seq (.region false [⟨some 18, .mov (.t 6), none, []⟩,
   ⟨some 19, .len (.t 18), none, []⟩,
   ⟨some 20, .bin .eql (.t 19) (.c (.int .i64 0)), none, []⟩])
  (.cond (.t 20) (.seq (.region false [⟨some 21, .bld [.bool false, .sl 0 []] [], none, []⟩,
   ⟨none, .st 4 4 2 (.t 21), none, []⟩])
  (.ret))
  (.skip)))
  (.seq (.region false [⟨some 22, .mov (.t 1), none, []⟩,
   ⟨some 23, .bin .quo (.t 22) (.c (.int .i64 32)), none, []⟩,
   ⟨some 24, .mov (.t 1), none, []⟩,
   ⟨some 25, .bin .rem (.t 24) (.c (.int .i64 32)), none, []⟩,
   ⟨some 26, .cv .u64 (.t 25), none, []⟩,
   ⟨some 7, .mov (.t 23), none, []⟩,
   ⟨some 8, .mov (.t 26), none, []⟩])
  (.seq (.region false [⟨some 27, .mov (.t 6), none, []⟩,
   ⟨some 28, .len (.t 27), none, []⟩,
   ⟨some 29, .mov (.t 7), none, []⟩,
   ⟨some 30, .bin .add (.t 28) (.t 29), none, []⟩,
   ⟨some 31, .bin .add (.t 30) (.c (.int .i64 1)), none, []⟩,
   ⟨some 32, .mks [.int .u32 0] (.t 31), none, []⟩,
   ⟨some 9, .tra 32, none, [44, 48, 53, 54, 62]⟩])
  (.seq (.seq (.region false [⟨some 33, .mov (.t 6), none, []⟩,
   ⟨some 34, .len (.t 33), none, []⟩,
   ⟨some 35, .mov (.c (.int .i64 0)), none, []⟩])
  (.block 0 (.loop (.seq (.region false [⟨some 36, .bin .lss (.t 35) (.t 34), none, []⟩])
  (.seq (.cond (.t 36) (.skip)
  (.exit 0))
  (.seq (.block 1 (.seq (.region false [⟨some 37, .mov (.t 35), none, []⟩,
   ⟨some 38, .ixa 33 (.t 35) 1, none, []⟩,
   ⟨some 39, .ld 38 38 1 true, none, []⟩,
   ⟨some 10, .mov (.t 37), none, []⟩,
   ⟨some 11, .mov (.t 39), none, []⟩])
  (.seq (.region false [⟨some 40, .mov (.t 11), none, []⟩,
   ⟨some 41, .cv .u64 (.t 40), none, []⟩,
   ⟨some 42, .mov (.t 8), none, []⟩,
   ⟨some 43, .bin .shl (.t 41) (.t 42), none, []⟩,
   ⟨some 12, .mov (.t 43), none, []⟩])
  (.seq (.region false [⟨some 44, .cpy 9, none, []⟩,
   ⟨some 45, .mov (.t 10), none, []⟩,
   ⟨some 46, .mov (.t 7), none, []⟩,
   ⟨some 47, .bin .add (.t 45) (.t 46), none, []⟩,
   ⟨some 48, .ixo 44 9 (.t 47) 1, none, []⟩,
   ⟨some 49, .ld 48 9 1 true, none, []⟩,
   ⟨some 50, .mov (.t 12), none, []⟩,
   ⟨some 51, .cv .u32 (.t 50), none, []⟩,
   ⟨some 52, .bin .or (.t 49) (.t 51), none, []⟩,
   ⟨some 53, .ixo 44 9 (.t 47) 1, none, []⟩,
   ⟨none, .st 53 9 1 (.t 52), none, []⟩])
  (.region false [⟨some 54, .cpy 9, none, []⟩,
   ⟨some 55, .mov (.t 10), none, []⟩,
   ⟨some 56, .mov (.t 7), none, []⟩,
   ⟨some 57, .bin .add (.t 55) (.t 56), none, []⟩,
   ⟨some 58, .bin .add (.t 57) (.c (.int .i64 1)), none, []⟩,
   ⟨some 59, .mov (.t 12), none, []⟩,
   ⟨some 60, .bin .shr (.t 59) (.c (.int .u64 32)), none, []⟩,
   ⟨some 61, .cv .u32 (.t 60), none, []⟩,
   ⟨some 62, .ixo 54 9 (.t 58) 1, none, []⟩,
   ⟨none, .st 62 9 1 (.t 61), none, []⟩])))))
  (.region false [⟨some 63, .bin .add (.t 35) (.c (.int .i64 1)), none, []⟩,
   ⟨some 35, .mov (.t 63), none, []⟩])))))))
  (.seq (.region false [⟨some 64, .mov (.t 5), none, []⟩,
   ⟨some 65, .frz 9, none, []⟩,
   ⟨some 66, .call 107 [.t 64, .t 65], none, []⟩,
   ⟨none, .st 4 4 2 (.t 66), none, []⟩])
  (.ret)))))))⟩
def Try.r96 : List (Nat × Nat) := [(44, 9), (48, 9), (53, 9), (54, 9), (62, 9)]
theorem Try.i96_ok : fnOk Try.prog Try.r96 Try.f96 Try.i96 = true := by kernel_rfl

/- pinball/pinballref01.Mag -/
def Try.i97 : IFunc := ⟨1, 22, [.tmp 2],
  .seq (.region false [⟨some 2, .nlo 1, none, []⟩])
  (.seq (.region false [⟨some 4, .mov (.t 0), none, []⟩,
   ⟨some 5, .len (.t 4), none, []⟩,
   ⟨some 3, .mov (.t 5), none, []⟩])
  (.seq (.block 0 (.loop (.seq (.seq (.region false [⟨some 6, .mov (.t 3), none, []⟩,
   ⟨some 7, .bin .gtr (.t 6) (.c (.int .i64 0)), none, []⟩,
   ⟨some 8, .mov (.t 7), none, []⟩,
   ⟨some 9, .mov (.t 0), some (8, true), []⟩,
   ⟨some 10, .mov (.t 3), some (8, true), []⟩,
   ⟨some 11, .bin .sub (.t 10) (.c (.int .i64 1)), some (8, true), []⟩,
   ⟨some 12, .ixa 9 (.t 11) 1, some (8, true), []⟩,
   ⟨some 13, .ld 12 12 1 true, some (8, true), []⟩,
   ⟨some 14, .bin .eql (.t 13) (.c (.int .u32 0)), some (8, true), []⟩,
   ⟨some 15, .pick (.t 8) (.t 14) (.c (.bool false)), none, []⟩])
  (.cond (.t 15) (.skip)
  (.exit 0)))
  (.block 1 (.region false [⟨some 16, .mov (.t 3), none, []⟩,
   ⟨some 17, .bin .sub (.t 16) (.c (.int .i64 1)), none, []⟩,
   ⟨some 3, .mov (.t 17), none, []⟩])))))
  (.seq (.region false [⟨some 18, .mov (.t 0), none, []⟩,
   ⟨some 19, .mov (.t 3), none, []⟩,
   ⟨some 20, .sli (.t 18) none (some (.t 19)) none 1, none, []⟩,
   ⟨some 21, .apd true (.c (.nil)) (.t 20) 1, none, []⟩,
   ⟨some 2, .tra 21, none, []⟩])
  (.ret))))⟩
def Try.r97 : List (Nat × Nat) := []
theorem Try.i97_ok : fnOk Try.prog Try.r97 Try.f97 Try.i97 = true := by kernel_rfl

/- pinball/pinballref01.Plus -/
def Try.i98 : IFunc := ⟨2, 42, [.cell 4 2 false],
  .seq (.region false [⟨some 2, .box (.t 0) [7, 14, 19, 30], none, []⟩,
   ⟨some 3, .box (.t 1) [10, 16, 36], none, []⟩,
   ⟨some 4, .new [.bool false, .sl 0 []] [], none, []⟩])
  (.seq (.region true [⟨some 7, .adr 2 2 1, none, []⟩,
   ⟨some 8, .ld 7 2 1 true, none, []⟩,
   ⟨some 9, .call 97 [.t 8], none, []⟩,
   ⟨some 10, .adr 3 3 1, none, []⟩,
   ⟨some 11, .ld 10 3 1 true, none, []⟩,
   ⟨some 12, .call 97 [.t 11], none, []⟩,
   ⟨some 5, .mov (.t 9), none, []⟩,
   ⟨some 6, .mov (.t 12), none, []⟩])
  (.seq (.block 0 (.seq (.region false [⟨some 14, .adr 2 2 0, none, []⟩,
   ⟨some 15, .ld 14 2 1 true, none, []⟩,
   ⟨some 16, .adr 3 3 0, none, []⟩,
   ⟨some 17, .ld 16 3 1 true, none, []⟩,
   ⟨some 18, .eqb false (.t 15) (.t 17), none, []⟩,
   ⟨some 13, .mov (.t 18), none, []⟩])
  (.cond (.t 13) (.seq (.region true [⟨some 19, .adr 2 2 0, none, []⟩,
   ⟨some 20, .ld 19 2 1 true, none, []⟩,
   ⟨some 21, .mov (.t 5), none, []⟩,
   ⟨some 22, .mov (.t 6), none, []⟩,
   ⟨some 23, .call 114 [.t 21, .t 22], none, []⟩,
   ⟨some 24, .call 106 [.t 20, .t 23], none, []⟩,
   ⟨none, .st 4 4 2 (.t 24), none, []⟩])
  (.ret))
  (.seq (.region false [⟨some 26, .mov (.t 5), none, []⟩,
   ⟨some 27, .mov (.t 6), none, []⟩,
   ⟨some 28, .call 115 [.t 26, .t 27], none, []⟩,
   ⟨some 29, .bin .geq (.t 28) (.c (.int .i64 0)), none, []⟩,
   ⟨some 25, .mov (.t 29), none, []⟩])
  (.cond (.t 25) (.seq (.region true [⟨some 30, .adr 2 2 0, none, []⟩,
   ⟨some 31, .ld 30 2 1 true, none, []⟩,
   ⟨some 32, .mov (.t 5), none, []⟩,
   ⟨some 33, .mov (.t 6), none, []⟩,
   ⟨some 34, .call 116 [.t 32, .t 33], none, []⟩,
   ⟨some 35, .call 106 [.t 31, .t 34], none, []⟩,
   ⟨none, .st 4 4 2 (.t 35), none, []⟩])
  (.ret))
  (.skip))))))
  (.seq (.region true [⟨some 36, .adr 3 3 0, none, []⟩,
   ⟨some 37, .ld 36 3 1 true, none, []⟩,
   ⟨some 38, .mov (.t 6), none, []⟩,
   ⟨some 39, .mov (.t 5), none, []⟩,
   ⟨some 40, .call 116 [.t 38, .t 39], none, []⟩,
   ⟨some 41, .call 106 [.t 37, .t 40], none, []⟩,
   ⟨none, .st 4 4 2 (.t 41), none, []⟩])
  (.ret))))⟩
def Try.r98 : List (Nat × Nat) := [(7, 2), (10, 3), (14, 2), (16, 3), (19, 2), (30, 2), (36, 3)]
theorem Try.i98_ok : fnOk Try.prog Try.r98 Try.f98 Try.i98 = true := by kernel_rfl

/- pinball/pinballref01.Up -/
def Try.i99 : IFunc := ⟨2, 51, [.cell 4 2 false],
  .seq (.region false [⟨some 2, .box (.t 0) [17, 44], none, []⟩,
   ⟨some 4, .new [.bool false, .sl 0 []] [], none, []⟩])
  (.seq (.region false [⟨some 11, .mov (.t 1), none, []⟩,
   ⟨some 12, .bin .quo (.t 11) (.c (.int .i64 32)), none, []⟩,
   ⟨some 13, .mks [.int .u32 0] (.t 12), none, []⟩,
   ⟨some 5, .tra 13, none, []⟩])
  (.seq (.region false [⟨some 6, .mov (.c (.int .u32 0)), none, []⟩])
  (.seq (.region false [⟨some 14, .mov (.t 1), none, []⟩,
   ⟨some 15, .bin .rem (.t 14) (.c (.int .i64 32)), none, []⟩,
   ⟨some 16, .cv .u64 (.t 15), none, []⟩,
   ⟨some 7, .mov (.t 16), none, []⟩])
  (.seq (.region false [⟨some 17, .adr 2 2 1, none, []⟩,
   ⟨some 18, .ld 17 2 1 true, none, []⟩,
   ⟨some 19, .call 97 [.t 18], none, []⟩,
   ⟨some 8, .mov (.t 19), none, []⟩])
  (.seq (.seq (.region false [⟨some 9, .mov (.c (.int .i64 0)), none, []⟩])
  (.block 0 (.loop (.seq (.seq (.region false [⟨some 20, .mov (.t 9), none, []⟩,
   ⟨some 21, .mov (.t 8), none, []⟩,
   ⟨some 22, .len (.t 21), none, []⟩,
   ⟨some 23, .bin .lss (.t 20) (.t 22), none, []⟩])
  (.cond (.t 23) (.skip)
  (.exit 0)))
  (.seq (.block 1 (.seq (.region false [⟨some 26, .mov (.t 8), none, []⟩,
   ⟨some 27, .mov (.t 9), none, []⟩,
   ⟨some 28, .ixa 26 (.t 27) 1, none, []⟩,
   ⟨some 29, .ld 28 28 1 true, none, []⟩,
   ⟨some 30, .cv .u64 (.t 29), none, []⟩,
   ⟨some 31, .mov (.t 7), none, []⟩,
   ⟨some 32, .bin .shl (.t 30) (.t 31), none, []⟩,
   ⟨some 33, .mov (.t 6), none, []⟩,
   ⟨some 34, .cv .u64 (.t 33), none, []⟩,
   ⟨some 35, .bin .or (.t 32) (.t 34), none, []⟩,
   ⟨some 10, .mov (.t 35), none, []⟩])
  (.seq (.region false [⟨some 36, .tra 5, none, []⟩,
   ⟨some 37, .mov (.t 10), none, []⟩,
   ⟨some 38, .cv .u32 (.t 37), none, []⟩,
   ⟨some 39, .bls 1 [.int .u32 0] [(0, 1, .t 38)], none, []⟩,
   ⟨some 40, .apd true (.t 36) (.t 39) 1, none, []⟩,
   ⟨some 5, .tra 40, none, []⟩])
  (.region false [⟨some 41, .mov (.t 10), none, []⟩,
   ⟨some 42, .bin .shr (.t 41) (.c (.int .u64 32)), none, []⟩,
   ⟨some 43, .cv .u32 (.t 42), none, []⟩,
   ⟨some 6, .mov (.t 43), none, []⟩]))))
  (.region false [⟨some 24, .mov (.t 9), none, []⟩,
   ⟨some 25, .bin .add (.t 24) (.c (.int .i64 1)), none, []⟩,
   ⟨some 9, .mov (.t 25), none, []⟩]))))))
  (.seq (.region true [⟨some 44, .adr 2 2 0, none, []⟩,
   ⟨some 45, .ld 44 2 1 true, none, []⟩,
   ⟨some 46, .tra 5, none, []⟩,
   ⟨some 47, .mov (.t 6), none, []⟩,
   ⟨some 48, .bls 1 [.int .u32 0] [(0, 1, .t 47)], none, []⟩,
   ⟨some 49, .apd false (.t 46) (.t 48) 1, none, []⟩,
   ⟨some 50, .call 106 [.t 45, .t 49], none, []⟩,
   ⟨none, .st 4 4 2 (.t 50), none, []⟩])
  (.ret)))))))⟩
def Try.r99 : List (Nat × Nat) := [(17, 2), (44, 2)]
theorem Try.i99_ok : fnOk Try.prog Try.r99 Try.f99 Try.i99 = true := by kernel_rfl

/- pinball/algebra.Negative -/
def Try.i100 : IFunc := ⟨1, 23, [.tmp 2],
  .seq (.region false [⟨some 2, .nlo 2, none, []⟩])
  (.seq (.region false [⟨some 5, .mov (.t 0), none, []⟩,
   ⟨some 6, .len (.t 5), none, []⟩,
   ⟨some 7, .mks [.bool false, .sl 0 []] (.t 6), none, []⟩,
   ⟨some 3, .tra 7, none, [13, 20]⟩])
  (.seq (.seq (.region false [⟨some 8, .mov (.t 0), none, []⟩,
   ⟨some 9, .len (.t 8), none, []⟩,
   ⟨some 10, .mov (.c (.int .i64 0)), none, []⟩])
  (.block 0 (.loop (.seq (.region false [⟨some 11, .bin .lss (.t 10) (.t 9), none, []⟩])
  (.seq (.cond (.t 11) (.skip)
  (.exit 0))
  (.seq (.block 1 (.seq (.region false [⟨some 12, .mov (.t 10), none, []⟩,
   ⟨some 4, .mov (.t 12), none, []⟩])
  (.region false [⟨some 13, .cpy 3, none, []⟩,
   ⟨some 14, .mov (.t 4), none, []⟩,
   ⟨some 15, .mov (.t 0), none, []⟩,
   ⟨some 16, .mov (.t 4), none, []⟩,
   ⟨some 17, .ixa 15 (.t 16) 2, none, []⟩,
   ⟨some 18, .ld 17 17 2 false, none, []⟩,
   ⟨some 19, .call 83 [.t 18], none, []⟩,
   ⟨some 20, .ixo 13 3 (.t 14) 2, none, []⟩,
   ⟨none, .st 20 3 2 (.t 19), none, []⟩])))
  (.region false [⟨some 21, .bin .add (.t 10) (.c (.int .i64 1)), none, []⟩,
   ⟨some 10, .mov (.t 21), none, []⟩])))))))
  (.seq (.region false [⟨some 22, .tra 3, none, []⟩,
   ⟨some 2, .tra 22, none, []⟩])
  (.ret))))⟩
def Try.r100 : List (Nat × Nat) := [(13, 3), (20, 3)]
theorem Try.i100_ok : fnOk Try.prog Try.r100 Try.f100 Try.i100 = true := by kernel_rfl

/- pinball/pinballref02.at -/
def Try.i101 : IFunc := ⟨2, 14, [.cell 4 2 false],
  .seq (.region false [⟨some 4, .new [.bool false, .sl 0 []] [], none, []⟩])
  (.seq (.seq (.region false [⟨some 5, .mov (.t 1), none, []⟩,
   ⟨some 6, .mov (.t 0), none, []⟩,
   ⟨some 7, .len (.t 6), none, []⟩,
   ⟨some 8, .bin .lss (.t 5) (.t 7), none, []⟩])
  (.cond (.t 8) (.seq (.region false [⟨some 9, .mov (.t 0), none, []⟩,
   ⟨some 10, .mov (.t 1), none, []⟩,
   ⟨some 11, .ixa 9 (.t 10) 2, none, []⟩,
   ⟨some 12, .ld 11 11 2 false, none, []⟩,
   ⟨none, .st 4 4 2 (.t 12), none, []⟩])
  (.ret))
  (.skip)))
  (.seq (.region false [⟨some 13, .bld [.bool false, .sl 0 []] [], none, []⟩,
   ⟨none, .st 4 4 2 (.t 13), none, []⟩])
  (.ret)))⟩
def Try.r101 : List (Nat × Nat) := []
theorem Try.i101_ok : fnOk Try.prog Try.r101 Try.f101 Try.i101 = true := by kernel_rfl

/- pinball/pinballref02.Neg -/
def Try.i102 : IFunc := ⟨1, 21, [.tmp 2],
  .seq (.region false [⟨some 2, .nlo 2, none, []⟩])
  (.seq (.region false [⟨some 3, .nlo 2, none, []⟩])
  (.seq (.seq (.region false [⟨some 4, .mov (.c (.int .i64 0)), none, []⟩])
  (.block 0 (.loop (.seq (.seq (.region false [⟨some 5, .mov (.t 4), none, []⟩,
   ⟨some 6, .mov (.t 0), none, []⟩,
   ⟨some 7, .len (.t 6), none, []⟩,
   ⟨some 8, .bin .lss (.t 5) (.t 7), none, []⟩])
  (.cond (.t 8) (.skip)
  (.exit 0)))
  (.seq (.block 1 (.region false [⟨some 11, .tra 3, none, []⟩,
   ⟨some 12, .mov (.t 0), none, []⟩,
   ⟨some 13, .mov (.t 4), none, []⟩,
   ⟨some 14, .ixa 12 (.t 13) 2, none, []⟩,
   ⟨some 15, .ld 14 14 2 false, none, []⟩,
   ⟨some 16, .call 88 [.t 15], none, []⟩,
   ⟨some 17, .bls 1 [.bool false, .sl 0 []] [(0, 2, .t 16)], none, []⟩,
   ⟨some 18, .apd true (.t 11) (.t 17) 2, none, []⟩,
   ⟨some 3, .tra 18, none, []⟩]))
  (.region false [⟨some 9, .mov (.t 4), none, []⟩,
   ⟨some 10, .bin .add (.t 9) (.c (.int .i64 1)), none, []⟩,
   ⟨some 4, .mov (.t 10), none, []⟩]))))))
  (.seq (.region false [⟨some 19, .frz 3, none, []⟩,
   ⟨some 20, .clo 39 [.t 19], none, []⟩,
   ⟨some 2, .tra 20, none, []⟩])
  (.ret))))⟩
def Try.r102 : List (Nat × Nat) := []
theorem Try.i102_ok : fnOk Try.prog Try.r102 Try.f102 Try.i102 = true := by kernel_rfl

/- pinball/pinballref01.Common -/
def Try.i103 : IFunc := ⟨2, 27, [.cell 4 2 false],
  .seq (.region false [⟨some 2, .box (.t 0) [9], none, []⟩,
   ⟨some 3, .box (.t 1) [12], none, []⟩,
   ⟨some 4, .new [.bool false, .sl 0 []] [], none, []⟩])
  (.seq (.region true [⟨some 9, .adr 2 2 1, none, []⟩,
   ⟨some 10, .ld 9 2 1 true, none, []⟩,
   ⟨some 11, .call 106 [.c (.bool false), .t 10], none, []⟩,
   ⟨some 12, .adr 3 3 1, none, []⟩,
   ⟨some 13, .ld 12 3 1 true, none, []⟩,
   ⟨some 14, .call 106 [.c (.bool false), .t 13], none, []⟩,
   ⟨some 5, .new [.bool false, .sl 0 []] [], none, []⟩,
   ⟨some 6, .new [.bool false, .sl 0 []] [], none, []⟩,
   ⟨none, .st 5 5 2 (.t 11), none, []⟩,
   ⟨none, .st 6 6 2 (.t 14), none, []⟩])
  (.seq (.block 0 (.loop (.seq (.seq (.region false [⟨some 15, .ld 6 6 2 false, none, []⟩,
   ⟨some 16, .call 64 [.t 15], none, []⟩,
   ⟨some 17, .bin .neq (.t 16) (.c (.int .i64 0)), none, []⟩])
  (.cond (.t 17) (.skip)
  (.exit 0)))
  (.block 1 (.seq (.region false [⟨some 19, .ld 5 5 2 false, none, []⟩,
   ⟨some 20, .ld 6 6 2 false, none, []⟩,
   ⟨some 21, .call 104 [.t 19, .t 20], none, []⟩,
   ⟨some 18, .mov (.t 21), none, []⟩,
   ⟨some 22, .ext (.t 18) 0, none, []⟩,
   ⟨some 23, .ext (.t 18) 1, none, []⟩,
   ⟨some 7, .new [.bool false, .sl 0 []] [], none, []⟩,
   ⟨some 8, .new [.bool false, .sl 0 []] [], none, []⟩,
   ⟨none, .st 7 7 2 (.t 22), none, []⟩,
   ⟨none, .st 8 8 2 (.t 23), none, []⟩])
  (.region true [⟨some 24, .ld 6 6 2 false, none, []⟩,
   ⟨some 25, .ld 8 8 2 false, none, []⟩,
   ⟨none, .st 5 5 2 (.t 24), none, []⟩,
   ⟨none, .st 6 6 2 (.t 25), none, []⟩]))))))
  (.seq (.region false [⟨some 26, .ld 5 5 2 false, none, []⟩,
   ⟨none, .st 4 4 2 (.t 26), none, []⟩])
  (.ret))))⟩
def Try.r103 : List (Nat × Nat) := [(9, 2), (12, 3)]
theorem Try.i103_ok : fnOk Try.prog Try.r103 Try.f103 Try.i103 = true := by kernel_rfl

/- pinball/pinballref01.Div -/
def Try.i104 : IFunc := ⟨2, 29, [.cell 4 2 false, .cell 5 2 false],
  .seq (.region false [⟨some 2, .box (.t 0) [9, 18, 25], none, []⟩,
   ⟨some 3, .box (.t 1) [12, 20], none, []⟩,
   ⟨some 4, .new [.bool false, .sl 0 []] [], none, []⟩,
   ⟨some 5, .new [.bool false, .sl 0 []] [], none, []⟩])
  (.seq (.region true [⟨some 9, .adr 2 2 1, none, []⟩,
   ⟨some 10, .ld 9 2 1 true, none, []⟩,
   ⟨some 11, .call 97 [.t 10], none, []⟩,
   ⟨some 12, .adr 3 3 1, none, []⟩,
   ⟨some 13, .ld 12 3 1 true, none, []⟩,
   ⟨some 14, .call 97 [.t 13], none, []⟩,
   ⟨some 15, .call 117 [.t 11, .t 14], none, []⟩,
   ⟨some 8, .mov (.t 15), none, []⟩,
   ⟨some 16, .ext (.t 8) 0, none, []⟩,
   ⟨some 17, .ext (.t 8) 1, none, []⟩,
   ⟨some 6, .mov (.t 16), none, []⟩,
   ⟨some 7, .mov (.t 17), none, []⟩])
  (.seq (.region true [⟨some 18, .adr 2 2 0, none, []⟩,
   ⟨some 19, .ld 18 2 1 true, none, []⟩,
   ⟨some 20, .adr 3 3 0, none, []⟩,
   ⟨some 21, .ld 20 3 1 true, none, []⟩,
   ⟨some 22, .eqb true (.t 19) (.t 21), none, []⟩,
   ⟨some 23, .mov (.t 6), none, []⟩,
   ⟨some 24, .call 106 [.t 22, .t 23], none, []⟩,
   ⟨some 25, .adr 2 2 0, none, []⟩,
   ⟨some 26, .ld 25 2 1 true, none, []⟩,
   ⟨some 27, .mov (.t 7), none, []⟩,
   ⟨some 28, .call 106 [.t 26, .t 27], none, []⟩,
   ⟨none, .st 4 4 2 (.t 24), none, []⟩,
   ⟨none, .st 5 5 2 (.t 28), none, []⟩])
  (.ret)))⟩
def Try.r104 : List (Nat × Nat) := [(9, 2), (12, 3), (18, 2), (20, 3), (25, 2)]
theorem Try.i104_ok : fnOk Try.prog Try.r104 Try.f104 Try.i104 = true := by kernel_rfl

/- pinball/wide.Trim -/
def Try.i105 : IFunc := ⟨1, 14, [.cell 2 2 false],
  .seq (.region false [⟨some 1, .box (.t 0) [], none, []⟩,
   ⟨some 2, .new [.bool false, .sl 0 []] [], none, []⟩])
  (.seq (.region false [⟨some 6, .ld 1 1 2 false, none, []⟩,
   ⟨some 7, .call 94 [.t 6], none, []⟩,
   ⟨some 5, .mov (.t 7), none, []⟩,
   ⟨some 8, .ext (.t 5) 0, none, []⟩,
   ⟨some 9, .ext (.t 5) 1, none, []⟩,
   ⟨some 3, .mov (.t 8), none, []⟩,
   ⟨some 4, .mov (.t 9), none, []⟩])
  (.seq (.region false [⟨some 10, .mov (.t 3), none, []⟩,
   ⟨some 11, .mov (.t 4), none, []⟩,
   ⟨some 12, .apd false (.c (.nil)) (.t 11) 1, none, []⟩,
   ⟨some 13, .call 107 [.t 10, .t 12], none, []⟩,
   ⟨none, .st 2 2 2 (.t 13), none, []⟩])
  (.ret)))⟩
def Try.r105 : List (Nat × Nat) := []
theorem Try.i105_ok : fnOk Try.prog Try.r105 Try.f105 Try.i105 = true := by kernel_rfl

/- pinball/pinballref01.make1 -/
def Try.i106 : IFunc := ⟨2, 16, [.cell 4 2 false],
  .seq (.region false [⟨some 4, .new [.bool false, .sl 0 []] [], none, []⟩])
  (.seq (.region false [⟨some 6, .mov (.t 1), none, []⟩,
   ⟨some 7, .call 97 [.t 6], none, []⟩,
   ⟨some 5, .mov (.t 7), none, []⟩])
  (.seq (.region false [⟨some 8, .mov (.t 0), none, []⟩,
   ⟨some 9, .mov (.t 8), none, []⟩,
   ⟨some 10, .mov (.t 5), some (9, true), []⟩,
   ⟨some 11, .len (.t 10), some (9, true), []⟩,
   ⟨some 12, .bin .gtr (.t 11) (.c (.int .i64 0)), some (9, true), []⟩,
   ⟨some 13, .pick (.t 9) (.t 12) (.c (.bool false)), none, []⟩,
   ⟨some 14, .mov (.t 5), none, []⟩,
   ⟨some 15, .bld [.bool false, .sl 0 []] [(0, 1, .t 13), (1, 1, .t 14)], none, []⟩,
   ⟨none, .st 4 4 2 (.t 15), none, []⟩])
  (.ret)))⟩
def Try.r106 : List (Nat × Nat) := []
theorem Try.i106_ok : fnOk Try.prog Try.r106 Try.f106 Try.i106 = true := by kernel_rfl

/- pinball/wide.made -/
def Try.i107 : IFunc := ⟨2, 29, [.cell 4 2 false],
  .seq (.region false [⟨some 4, .new [.bool false, .sl 0 []] [], none, []⟩])
  (.seq (.region false [⟨some 6, .mov (.t 1), none, []⟩,
   ⟨some 7, .len (.t 6), none, []⟩,
   ⟨some 5, .mov (.t 7), none, []⟩])
  (.seq (.block 0 (.loop (.seq (.seq (.region false [⟨some 8, .mov (.t 5), none, []⟩,
   ⟨some 9, .bin .gtr (.t 8) (.c (.int .i64 0)), none, []⟩,
   ⟨some 10, .mov (.t 9), none, []⟩,
   ⟨some 11, .mov (.t 1), some (10, true), []⟩,
   ⟨some 12, .mov (.t 5), some (10, true), []⟩,
   ⟨some 13, .bin .sub (.t 12) (.c (.int .i64 1)), some (10, true), []⟩,
   ⟨some 14, .ixa 11 (.t 13) 1, some (10, true), []⟩,
   ⟨some 15, .ld 14 14 1 true, some (10, true), []⟩,
   ⟨some 16, .bin .eql (.t 15) (.c (.int .u32 0)), some (10, true), []⟩,
   ⟨some 17, .pick (.t 10) (.t 16) (.c (.bool false)), none, []⟩])
  (.cond (.t 17) (.skip)
  (.exit 0)))
  (.block 1 (.region false [⟨some 18, .mov (.t 5), none, []⟩,
   ⟨some 19, .bin .sub (.t 18) (.c (.int .i64 1)), none, []⟩,
   ⟨some 5, .mov (.t 19), none, []⟩])))))
  (.seq (.seq (.region false [⟨some 20, .mov (.t 5), none, []⟩,
   ⟨some 21, .bin .eql (.t 20) (.c (.int .i64 0)), none, []⟩])
  (.cond (.t 21) (.seq (.region false [⟨some 22, .bld [.bool false, .sl 0 []] [], none, []⟩,
   ⟨none, .st 4 4 2 (.t 22), none, []⟩])
  (.ret))
  (.skip)))
  (.seq (.region false [⟨some 23, .mov (.t 0), none, []⟩,
   ⟨some 24, .mov (.t 1), none, []⟩,
   ⟨some 25, .mov (.t 5), none, []⟩,
   ⟨some 26, .mov (.t 5), none, []⟩,
   ⟨some 27, .sli (.t 24) none (some (.t 25)) (some (.t 26)) 1, none, []⟩,
   ⟨some 28, .bld [.bool false, .sl 0 []] [(0, 1, .t 23), (1, 1, .t 27)], none, []⟩,
   ⟨none, .st 4 4 2 (.t 28), none, []⟩])
  (.ret)))))⟩
def Try.r107 : List (Nat × Nat) := []
theorem Try.i107_ok : fnOk Try.prog Try.r107 Try.f107 Try.i107 = true := by kernel_rfl

/- pinball/wide.ofUint -/
def Try.i108 : IFunc := ⟨1, 10, [.cell 2 2 false],
  .seq (.region false [⟨some 2, .new [.bool false, .sl 0 []] [], none, []⟩])
  (.seq (.region false [⟨some 3, .mov (.t 0), none, []⟩,
   ⟨some 4, .cv .u32 (.t 3), none, []⟩,
   ⟨some 5, .mov (.t 0), none, []⟩,
   ⟨some 6, .bin .shr (.t 5) (.c (.int .u64 32)), none, []⟩,
   ⟨some 7, .cv .u32 (.t 6), none, []⟩,
   ⟨some 8, .bls 2 [.int .u32 0, .int .u32 0] [(0, 1, .t 4), (1, 1, .t 7)], none, []⟩,
   ⟨some 9, .call 107 [.c (.bool false), .t 8], none, []⟩,
   ⟨none, .st 2 2 2 (.t 9), none, []⟩])
  (.ret))⟩
def Try.r108 : List (Nat × Nat) := []
theorem Try.i108_ok : fnOk Try.prog Try.r108 Try.f108 Try.i108 = true := by kernel_rfl

/- pinball/wide.gcdUint -/
def Try.i109 : IFunc := ⟨2, 12, [.tmp 4],
  .seq (.region false [⟨some 4, .mov (.c (.int .u64 0)), none, []⟩])
  (.seq (.block 0 (.loop (.seq (.seq (.region false [⟨some 5, .mov (.t 1), none, []⟩,
   ⟨some 6, .bin .gtr (.t 5) (.c (.int .u64 0)), none, []⟩])
  (.cond (.t 6) (.skip)
  (.exit 0)))
  (.block 1 (.region true [⟨some 7, .mov (.t 1), none, []⟩,
   ⟨some 8, .mov (.t 0), none, []⟩,
   ⟨some 9, .mov (.t 1), none, []⟩,
   ⟨some 10, .bin .rem (.t 8) (.t 9), none, []⟩,
   ⟨some 0, .mov (.t 7), none, []⟩,
   ⟨some 1, .mov (.t 10), none, []⟩])))))
  (.seq (.region false [⟨some 11, .mov (.t 0), none, []⟩,
   ⟨some 4, .mov (.t 11), none, []⟩])
  (.ret)))⟩
def Try.r109 : List (Nat × Nat) := []
theorem Try.i109_ok : fnOk Try.prog Try.r109 Try.f109 Try.i109 = true := by kernel_rfl

/- pinball/wide.asUint -/
def Try.i110 : IFunc := ⟨1, 24, [.tmp 2],
  .seq (.region false [⟨some 1, .box (.t 0) [6], none, []⟩,
   ⟨some 2, .mov (.c (.int .u64 0)), none, []⟩])
  (.seq (.region false [⟨some 3, .mov (.c (.int .u64 0)), none, []⟩])
  (.seq (.seq (.region false [⟨some 6, .adr 1 1 1, none, []⟩,
   ⟨some 7, .ld 6 1 1 true, none, []⟩,
   ⟨some 8, .len (.t 7), none, []⟩,
   ⟨some 9, .mov (.c (.int .i64 0)), none, []⟩])
  (.block 0 (.loop (.seq (.region false [⟨some 10, .bin .lss (.t 9) (.t 8), none, []⟩])
  (.seq (.cond (.t 10) (.skip)
  (.exit 0))
  (.seq (.block 1 (.seq (.region false [⟨some 11, .mov (.t 9), none, []⟩,
   ⟨some 12, .ixa 7 (.t 9) 1, none, []⟩,
   ⟨some 13, .ld 12 12 1 true, none, []⟩,
   ⟨some 4, .mov (.t 11), none, []⟩,
   ⟨some 5, .mov (.t 13), none, []⟩])
  (.region false [⟨some 14, .mov (.t 3), none, []⟩,
   ⟨some 15, .mov (.t 5), none, []⟩,
   ⟨some 16, .cv .u64 (.t 15), none, []⟩,
   ⟨some 17, .mov (.t 4), none, []⟩,
   ⟨some 18, .bin .mul (.c (.int .i64 32)) (.t 17), none, []⟩,
   ⟨some 19, .cv .u64 (.t 18), none, []⟩,
   ⟨some 20, .bin .shl (.t 16) (.t 19), none, []⟩,
   ⟨some 21, .bin .or (.t 14) (.t 20), none, []⟩,
   ⟨some 3, .mov (.t 21), none, []⟩])))
  (.region false [⟨some 22, .bin .add (.t 9) (.c (.int .i64 1)), none, []⟩,
   ⟨some 9, .mov (.t 22), none, []⟩])))))))
  (.seq (.region false [⟨some 23, .mov (.t 3), none, []⟩,
   ⟨some 2, .mov (.t 23), none, []⟩])
  (.ret))))⟩
def Try.r110 : List (Nat × Nat) := [(6, 1)]
theorem Try.i110_ok : fnOk Try.prog Try.r110 Try.f110 Try.i110 = true := by kernel_rfl

end Go.Proofs.Ytmchkmpefhdolaa
